/- Literals of structs that a law walks through, beside a reader. -/
import Derived.Test.YtmgfdfbhfhmekaaGreatMis
import Derived.Test.YtmgfdfbhfhmekaaGreatRgApp
import Derived.Test.YtmgfdfbhfhmekaaGreatBentT
namespace Go.Proofs.YtmgfdfbhfhmekaaGreat
set_option linter.all false
open Go.RowKit Rg

/-- A row of six ints, of two. -/
theorem rowP {u : World} {b : Nat} {L : List Ph} {T : TypeId} {fr : Nat × Nat} (h : u.heap[b]? = some (.cells (flatP L).toArray T fr)) (i : Nat) (hi : i < L.length) :
    u.cell? ⟨b, i * 6, none⟩ = some (.int .i64 L[i].x) ∧ u.cell? ⟨b, i * 6 + 1, none⟩ = some (.int .i64 L[i].y) ∧ u.cell? ⟨b, i * 6 + 2, none⟩ = some (.int .i64 L[i].z) ∧ u.cell? ⟨b, i * 6 + 3, none⟩ = some (.int .i64 L[i].e) ∧ u.cell? ⟨b, i * 6 + 4, none⟩ = some (.int .i64 L[i].l) ∧ u.cell? ⟨b, i * 6 + 5, none⟩ = some (.int .i64 L[i].n) := by
  have hc : ∀ j y, (flatP L)[j]? = some y → u.cell? ⟨b, 0 + j, none⟩ = some y := fun j y hj => by simpa [World.cell?, h] using hj
  have := SlC.ph hc i hi
  simpa only [Nat.zero_add] using this
theorem rowZ {u : World} {b : Nat} {L : List Zn} {T : TypeId} {fr : Nat × Nat} (h : u.heap[b]? = some (.cells (flatZ L).toArray T fr)) (i : Nat) (hi : i < L.length) :
    u.cell? ⟨b, i * 2, none⟩ = some (.int .i64 L[i].f) ∧ u.cell? ⟨b, i * 2 + 1, none⟩ = some (.int .i64 L[i].t) := by
  have hc : ∀ j y, (flatZ L)[j]? = some y → u.cell? ⟨b, 0 + j, none⟩ = some y := fun j y hj => by simpa [World.cell?, h] using hj
  have := SlC.zn hc i hi
  simpa only [Nat.zero_add] using this
/-- A row that is a table. -/
structure Tb where
  st : Int
  vl : Value
  vh : Value
def Tb.cells (t : Tb) : List Value := [.int .i64 t.st, t.vl, t.vh]
def flatT (L : List Tb) : List Value := L.flatMap Tb.cells
theorem flatT_at : ∀ (l : List Tb) (i : Nat) (hi : i < l.length) (j : Nat) (hj : j < 3), (flatT l)[i * 3 + j]? = l[i].cells[j]?
  | a :: l, 0, _, j, hj => by
    show (a.cells ++ flatT l)[0 * 3 + j]? = _
    rw [List.getElem?_append_left (by simp [Tb.cells]; omega)]; simp
  | a :: l, i + 1, hi, j, hj => by
    show (a.cells ++ flatT l)[(i + 1) * 3 + j]? = _
    rw [List.getElem?_append_right (by simp [Tb.cells]; omega), show (i + 1) * 3 + j - a.cells.length = i * 3 + j by simp [Tb.cells]; omega]
    exact flatT_at l i (by simpa using hi) j hj
theorem rowT {u : World} {b : Nat} {L : List Tb} {T : TypeId} {fr : Nat × Nat} (h : u.heap[b]? = some (.cells (flatT L).toArray T fr)) (i : Nat) (hi : i < L.length) :
    u.cell? ⟨b, i * 3, none⟩ = some (.int .i64 L[i].st) ∧ u.cell? ⟨b, i * 3 + 1, none⟩ = some L[i].vl ∧ u.cell? ⟨b, i * 3 + 2, none⟩ = some L[i].vh := by
  have hc : ∀ j y, (flatT L)[j]? = some y → u.cell? ⟨b, j, none⟩ = some y := fun j y hj => by simpa [World.cell?, h] using hj
  exact ⟨hc _ _ (flatT_at L i hi 0 (by omega)), hc _ _ (flatT_at L i hi 1 (by omega)), hc _ _ (flatT_at L i hi 2 (by omega))⟩
/-- A slice of ints apart from block p. -/
def Apart (p : Nat) (v : Value) : Prop := ∀ b off len cap, v = .slice (some ⟨b, off, none⟩) len cap → 0 < len → b ≠ p
/-- A table that reads well, apart from block p. -/
def TbOf (p : Nat) (u : World) (t : Tb) (ls hs : List Int) : Prop := Sl u t.vl ls ∧ Sl u t.vh hs ∧ Apart p t.vl ∧ Apart p t.vh
def TbIn (p : Nat) (u : World) (t : Tb) : Prop := ∃ ls hs : List Int, TbOf p u t ls hs
theorem TbOf.draw {p : Nat} {u u' : World} {t : Tb} {ls hs : List Int} (h : TbOf p u t ls hs) (hg : u.grownBy u' (some p)) : TbOf p u' t ls hs := by
  obtain ⟨h1, h2, a1, a2⟩ := h
  exact ⟨h1.later hg (fun b off len cap e hl => by have := a1 b off len cap e hl; simp; omega), h2.later hg (fun b off len cap e hl => by have := a2 b off len cap e hl; simp; omega), a1, a2⟩
theorem TbOf.in {p : Nat} {u : World} {t : Tb} {ls hs : List Int} (h : TbOf p u t ls hs) : TbIn p u t := ⟨ls, hs, h⟩
theorem TbIn.draw {p : Nat} {u u' : World} {t : Tb} (h : TbIn p u t) (hg : u.grownBy u' (some p)) : TbIn p u' t := by
  obtain ⟨ls, hs, h⟩ := h
  exact ⟨ls, hs, h.draw hg⟩

section
variable {ops : Array Oper} {md : Region.Mode} {w0 : World} {B p : Nat} {sp : Nat → Option (List Value → Value → World → Prop)} {al : Nat → Bool} {N : Nat} {Q : List Oper → Act → Facts → Prop} {n k : Nat} {o : Oper} {l : List Oper} {a : Act} {f : Facts}
/-- A call that draws a value of which, and of whose memory, F is said. -/
theorem rg_drawM (F : Value → World → Prop) (fid : FuncId) (args : Array Value) (hs : sp k = some (fun _ v u => F v u)) (hw : Region.wanted o (yielded ops a.tmps) = true) (hst : ∀ v u u', F v u → u.grownBy u' (some p) → F v u')
    (hrun : ∀ w, (execOp a.eval o).run Tryz.prog w = .ok (.enter fid args) w)
    (hc : ∀ w, Pulled w0 B p w → Calls Tryz.prog fid args w fun e w' => ∃ v, e = .returned v ∧ F v w' ∧ Src B w' p ∧ w.grownBy w' (some p))
    (h : ∀ v u, F v u → rLexL Tryz.prog md ops ⟨In (Pulled w0 B p), Pull p, sp, fun _ => false, N⟩ Q n l (k + 1) (a.put o.dst v) (upd f k (F v))) :
    rLexL Tryz.prog md ops ⟨In (Pulled w0 B p), Pull p, sp, fun _ => false, N⟩ Q (n + 1) (o :: l) k a f := by
  refine rLexL_spec (fun _ v u => F v u) hs hw (fun v j w w' _ _ _ hR h => hst v w w' h hR) (fun w hC hd => stepTo_call (hrun w) ?_) (fun v w _ h' => h v w h')
  refine (hc w hC.out).mono ?_
  rintro e w' ⟨v, rfl, hF, hS, hg⟩
  exact ⟨_, rfl, In.mk ⟨gb_trans hC.out.1 hg, hS⟩, hg, hF, fun e => by cases e⟩
end
/-- What BentTable draws, as a value and its memory. -/
def BentV (p q : Nat) (v : Value) (u : World) : Prop := ∃ t : Tb, v = .agg #[.int .i64 t.st, t.vl, t.vh] ∧ TbIn p u t
theorem BentT.draw {B p : Nat} {w : World} {e : Ending} {w' : World} (hp : p < w.heap.size) (h : BentT B p w e w') : ∃ v, e = .returned v ∧ BentV p 0 v w' ∧ Src B w' p ∧ w.grownBy w' (some p) := by
  obtain ⟨st, vl, vh, ls, hs, rfl, h1, h2, h3, h4, h5⟩ := h
  exact ⟨_, rfl, ⟨⟨st, vl, vh⟩, rfl, ls, hs, h1, h2, fun b off len cap e _ => by have := h3 _ (.inl rfl) b off len cap e; omega, fun b off len cap e _ => by have := h3 _ (.inr rfl) b off len cap e; omega⟩, h4, h5⟩
theorem BentV.out {p q : Nat} {st : Int} {vl vh : Value} {u : World} (h : BentV p q (.agg #[.int .i64 st, vl, vh]) u) : TbIn p u ⟨st, vl, vh⟩ := by
  obtain ⟨⟨st', vl', vh'⟩, e, h⟩ := h
  simp only [Value.agg.injEq, Array.mk.injEq, List.cons.injEq, Value.int.injEq, true_and, and_true] at e
  obtain ⟨rfl, rfl, rfl⟩ := e
  exact h
theorem TbIn.mk {p : Nat} {u : World} {st : Int} {vl vh : Value} {ls hs : List Int} (h1 : Sl u vl ls) (h2 : Sl u vh hs) (a1 : Apart p vl) (a2 : Apart p vh) : TbIn p u ⟨st, vl, vh⟩ := ⟨ls, hs, h1, h2, a1, a2⟩
/-- Two zones are compared. -/
def sameZ (a b c d : Int) : Bool := a == c && b == d
theorem sameZ_refl (a b : Int) : sameZ a b a b = true := by simp [sameZ]
theorem Sl.apart_lt {u : World} {v : Value} {xs : List Int} {p : Nat} (h : Sl u v xs) (hp : u.heap.size ≤ p) : Apart p v := by
  rcases h with ⟨rfl, a, c, rfl⟩ | ⟨b, off, cap, rfl, hb, -⟩
  · intro b' off' len cap' e hl
    simp at e; omega
  · intro b' off' len cap' e hl
    simp at e; omega
end Go.Proofs.YtmgfdfbhfhmekaaGreat
