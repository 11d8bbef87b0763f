/- Literals of problems that a law walks through; what the calls of chapter 27 answer, in one form. -/
import Derived.Test.YtdkckhihleffeaaGreatBentP
import Derived.Test.YtdkckhihleffeaaGreatRes
namespace Go.Proofs.YtdkckhihleffeaaGreat
set_option linter.all false
open Go.RowKit Rg

/-- A problem as a value. -/
structure Pv where
  P : Prob
  vl : Value
  vh : Value
  vp : Value
def Pv.cells (v : Pv) : List Value := [.int .i64 v.P.x0, .int .i64 v.P.y0, .int .i64 v.P.z0, .int .i64 v.P.x1, .int .i64 v.P.y1, .int .i64 v.P.z1, .int .i64 v.P.step, v.vl, v.vh, v.vp, .int .i64 v.P.cap]
def flatPr (L : List Pv) : List Value := L.flatMap Pv.cells
theorem flatPr_at : ∀ (l : List Pv) (i : Nat) (hi : i < l.length) (j : Nat), j < 11 → (flatPr l)[i * 11 + j]? = l[i].cells[j]?
  | a :: l, 0, _, j, hj => by
    show (a.cells ++ flatPr l)[0 * 11 + j]? = _
    rw [List.getElem?_append_left (by simp [Pv.cells]; omega)]; simp
  | a :: l, i + 1, hi, j, hj => by
    show (a.cells ++ flatPr l)[(i + 1) * 11 + j]? = _
    rw [List.getElem?_append_right (by simp [Pv.cells]; omega), show (i + 1) * 11 + j - a.cells.length = i * 11 + j by simp [Pv.cells]; omega]
    exact flatPr_at l i (by simpa using hi) j hj
theorem rowPr {u : World} {b : Nat} {L : List Pv} {T : TypeId} {fr : Nat × Nat} (h : u.heap[b]? = some (.cells (flatPr L).toArray T fr)) (i : Nat) (hi : i < L.length) :
    u.cell? ⟨b, i * 11, none⟩ = some (.int .i64 L[i].P.x0) ∧ u.cell? ⟨b, i * 11 + 1, none⟩ = some (.int .i64 L[i].P.y0) ∧ u.cell? ⟨b, i * 11 + 2, none⟩ = some (.int .i64 L[i].P.z0) ∧ u.cell? ⟨b, i * 11 + 3, none⟩ = some (.int .i64 L[i].P.x1) ∧ u.cell? ⟨b, i * 11 + 4, none⟩ = some (.int .i64 L[i].P.y1) ∧ u.cell? ⟨b, i * 11 + 5, none⟩ = some (.int .i64 L[i].P.z1) ∧
    u.cell? ⟨b, i * 11 + 6, none⟩ = some (.int .i64 L[i].P.step) ∧ u.cell? ⟨b, i * 11 + 7, none⟩ = some L[i].vl ∧ u.cell? ⟨b, i * 11 + 8, none⟩ = some L[i].vh ∧ u.cell? ⟨b, i * 11 + 9, none⟩ = some L[i].vp ∧ u.cell? ⟨b, i * 11 + 10, none⟩ = some (.int .i64 L[i].P.cap) := by
  have hc : ∀ j y, (flatPr L)[j]? = some y → u.cell? ⟨b, j, none⟩ = some y := fun j y hj => by simpa [World.cell?, h] using hj
  exact ⟨hc _ _ (flatPr_at L i hi 0 (by omega)), hc _ _ (flatPr_at L i hi 1 (by omega)), hc _ _ (flatPr_at L i hi 2 (by omega)), hc _ _ (flatPr_at L i hi 3 (by omega)), hc _ _ (flatPr_at L i hi 4 (by omega)), hc _ _ (flatPr_at L i hi 5 (by omega)), hc _ _ (flatPr_at L i hi 6 (by omega)), hc _ _ (flatPr_at L i hi 7 (by omega)), hc _ _ (flatPr_at L i hi 8 (by omega)), hc _ _ (flatPr_at L i hi 9 (by omega)), hc _ _ (flatPr_at L i hi 10 (by omega))⟩
/-- A problem in memory, apart from block q. -/
def PrIn (q : Nat) (u : World) (v : Pv) : Prop := ProbIn v.P v.vl v.vh v.vp u ∧ Apart q v.vl ∧ Apart q v.vh ∧ Apart q v.vp ∧ v.P.phs.length ≤ 100
theorem PrIn.draw {q : Nat} {u u' : World} {v : Pv} (h : PrIn q u v) (hg : u.grownBy u' (some q)) : PrIn q u' v := by
  obtain ⟨hi, a, b, c, d⟩ := h
  exact ⟨⟨hi.l.later hg (fun _ _ _ _ e hl => by have := a _ _ _ _ e hl; simp; omega), hi.h.later hg (fun _ _ _ _ e hl => by have := b _ _ _ _ e hl; simp; omega), hi.p.draw hg (fun _ _ _ _ e hl => c _ _ _ _ e hl)⟩, a, b, c, d⟩
theorem PrIn.sl {q : Nat} {u : World} {P : Prob} {vl vh vp : Value} (h : PrIn q u ⟨P, vl, vh, vp⟩) : (∃ a c, vp = .slice a P.phs.length c) ∧ (∃ a n c, vl = .slice a n c) ∧ (∃ a n c, vh = .slice a n c) ∧ P.phs.length ≤ 100 := ⟨h.1.p.slice, sl_slice h.1.l, sl_slice h.1.h, h.2.2.2.2⟩
theorem SlC.apart_lt {k n : Nat} {u : World} {v : Value} {ys : List Value} {p : Nat} (h : SlC k u v n ys) (hp : u.heap.size ≤ p) : Apart p v := by
  rcases h.2 with ⟨rfl, a, c, rfl⟩ | ⟨b, off, cap, rfl, hb, -⟩
  · intro b' off' len cap' e hl
    simp at e; omega
  · intro b' off' len cap' e hl
    simp at e; omega

/-- Zones, and the reference's, answer alike. -/
def zsOf (E : Int) (zs : List Zn) : List Zn := if E = 0 then zs else []
def ZnA (E : Int) (zs : List Zn) (w : World) (e : Ending) (w' : World) : Prop := ∃ v, e = .returned (.tuple #[v, .int .i64 E]) ∧ SlC 2 w' v zs.length (flatZ zs) ∧ w.grownBy w' none
theorem Zoned.any {w : World} {E : Int} {zs : List Zn} {e : Ending} {w' : World} (h : Zoned w E zs e w') : ZnA E (zsOf E zs) w e w' := by
  rcases h with ⟨rfl, v, rfl, h1, -, h2⟩ | ⟨h0, rfl, h2⟩
  · exact ⟨v, rfl, by simpa [zsOf] using h1, h2⟩
  · refine ⟨_, rfl, ?_, h2⟩
    rw [show zsOf E zs = [] by simp [zsOf, h0]]
    exact ⟨rfl, .inl ⟨rfl, none, 0, rfl⟩⟩
theorem zsOf_length {E : Int} {P : Prob} {b0 b1 b2 b3 b4 b5 : Int} (h : P.phs.length ≤ 100) : (zsOf E (zonesL P b0 b1 b2 b3 b4 b5)).length ≤ 1000000 := by
  unfold zsOf; split
  · simp [zonesL]; omega
  · simp
/-- Residuals, and the reference's, answer alike. -/
def resE (E t : Int) : Int := if E ≠ 0 then E else if t < -18014398509481984 ∨ 18014398509481984 < t then 2 else 0
def resX (E t : Int) (zs : List Zn) : List Int := if resE E t = 0 then resL zs t else []
def RsA (E : Int) (xs : List Int) (w : World) (e : Ending) (w' : World) : Prop := ∃ v, e = .returned (.tuple #[v, .int .i64 E]) ∧ Sl w' v xs ∧ w.grownBy w' none
theorem Residd.any {w : World} {E t : Int} {zs : List Zn} {e : Ending} {w' : World} (h : Residd w E zs t e w') : RsA (resE E t) (resX E t zs) w e w' := by
  obtain ⟨hg, ⟨h0, rfl⟩ | ⟨rfl, h1, rfl⟩ | ⟨rfl, h1, v, rfl, h2⟩⟩ := h
  · have e : resE E t = E := by simp [resE, h0]
    refine ⟨_, by rw [e], ?_, hg⟩
    rw [show resX E t zs = [] by simp [resX, e, h0]]
    exact .inl ⟨rfl, _, _, rfl⟩
  · have e : resE 0 t = 2 := by simp [resE, h1]
    refine ⟨_, by rw [e], ?_, hg⟩
    rw [show resX 0 t zs = [] by simp [resX, e]]
    exact .inl ⟨rfl, _, _, rfl⟩
  · have e : resE 0 t = 0 := by
      unfold resE; simp; omega
    refine ⟨v, by rw [e], ?_, hg⟩
    rw [show resX 0 t zs = resL zs t by simp [resX, e]]
    exact h2
theorem resX_length {E t : Int} {P : Prob} {b0 b1 b2 b3 b4 b5 : Int} (h : P.phs.length ≤ 100) : (resX E t (zonesL P b0 b1 b2 b3 b4 b5)).length ≤ 1000000 := by
  unfold resX; split
  · simp [resL, zonesL]; omega
  · simp
theorem atV_is (P : Prob) (x y z : Int) : ∃ a b c, atV P x y z = .tuple #[.int .i64 a, .int .i64 b, .int .i64 c] := by
  unfold atV; split <;> exact ⟨_, _, _, rfl⟩
theorem bdV_is (P : Prob) (b0 b1 b2 b3 b4 b5 : Int) : ∃ a b, bdV P b0 b1 b2 b3 b4 b5 = .tuple #[.int .i64 a, .int .i64 b] := by
  unfold bdV; split <;> exact ⟨_, _, rfl⟩
/-- What BentProblem draws, as a value and its memory. -/
def BentPV (q : Nat) (v : Value) (u : World) : Prop := ∃ t : Pv, v = .agg t.cells.toArray ∧ PrIn q u t
theorem BentPV.draw {q : Nat} {v : Value} {u u' : World} (h : BentPV q v u) (hg : u.grownBy u' (some q)) : BentPV q v u' := by
  obtain ⟨t, e, h⟩ := h
  exact ⟨t, e, h.draw hg⟩
theorem BentP.draw {B p : Nat} {w : World} {e : Ending} {w' : World} (h : BentP B p w e w') : ∃ v, e = .returned v ∧ BentPV p v w' ∧ Src B w' p ∧ w.grownBy w' (some p) := by
  obtain ⟨P, vl, vh, vp, rfl, h1, h2, h3, h4, h5, h6, h7⟩ := h
  exact ⟨_, rfl, ⟨⟨P, vl, vh, vp⟩, rfl, h1, h2, h3, h4, by simp only []; omega⟩, h6, h7⟩
theorem BentPV.out {q : Nat} {x0 y0 z0 x1 y1 z1 st cap : Int} {vl vh vp : Value} {u : World} (h : BentPV q (.agg #[.int .i64 x0, .int .i64 y0, .int .i64 z0, .int .i64 x1, .int .i64 y1, .int .i64 z1, .int .i64 st, vl, vh, vp, .int .i64 cap]) u) :
    ∃ ls hs phs, PrIn q u ⟨⟨x0, y0, z0, x1, y1, z1, st, ls, hs, phs, cap⟩, vl, vh, vp⟩ := by
  obtain ⟨⟨⟨a0, a1, a2, a3, a4, a5, a6, ls, hs, phs, a7⟩, b0, b1, b2⟩, e, h⟩ := h
  simp only [Pv.cells, Value.agg.injEq, Array.mk.injEq, List.cons.injEq, Value.int.injEq, true_and, and_true] at e
  obtain ⟨rfl, rfl, rfl, rfl, rfl, rfl, rfl, rfl, rfl, rfl, rfl⟩ := e
  exact ⟨_, _, _, h⟩
/-- Eleven cells of a block. -/
theorem cells11 {w : World} {b : Nat} {v0 v1 v2 v3 v4 v5 v6 v7 v8 v9 v10 : Value} {t : TypeId} {fr : Nat × Nat} (h : w.heap[b]? = some (.cells #[v0, v1, v2, v3, v4, v5, v6, v7, v8, v9, v10] t fr)) :
    w.cell? ⟨b, 0, none⟩ = some v0 ∧ w.cell? ⟨b, 1, none⟩ = some v1 ∧ w.cell? ⟨b, 2, none⟩ = some v2 ∧ w.cell? ⟨b, 3, none⟩ = some v3 ∧ w.cell? ⟨b, 4, none⟩ = some v4 ∧ w.cell? ⟨b, 5, none⟩ = some v5 ∧ w.cell? ⟨b, 6, none⟩ = some v6 ∧ w.cell? ⟨b, 7, none⟩ = some v7 ∧ w.cell? ⟨b, 8, none⟩ = some v8 ∧ w.cell? ⟨b, 9, none⟩ = some v9 ∧ w.cell? ⟨b, 10, none⟩ = some v10 := by simp [World.cell?, h]
section
variable {ops : Array Oper} {md : Region.Mode} {w0 : World} {B p : Nat} {sp : Nat → Option (List Value → Value → World → Prop)} {N : Nat} {Q : List Oper → Act → Facts → Prop} {n k : Nat} {o : Oper} {l : List Oper} {a : Act} {f : Facts}
/-- A new variable beside a reader. -/
theorem rg_newP (zs : Array Value) (T : TypeId) (hs : sp k = some (isNew w0 zs T)) (hw : Region.wanted o (yielded ops a.tmps) = true)
    (hrun : ∀ w, (execOp a.eval o).run Tryz.prog w = .ok (.value (.pointer (some ⟨w.heap.size, 0, none⟩))) (w.alloc (.cells zs T))) (hp : p < w0.heap.size)
    (h : ∀ b, w0.heap.size ≤ b → rLexL Tryz.prog md ops ⟨In (Pulled w0 B p), Pull p, sp, fun _ => false, N⟩ Q n l (k + 1) (a.put o.dst (.pointer (some ⟨b, 0, none⟩))) (upd f k (isNew w0 zs T [] (.pointer (some ⟨b, 0, none⟩))))) :
    rLexL Tryz.prog md ops ⟨In (Pulled w0 B p), Pull p, sp, fun _ => false, N⟩ Q (n + 1) (o :: l) k a f := by
  refine rLexL_spec (isNew w0 zs T) hs hw ?_ (fun w hC hd => stepTo_run (hrun w) ?_) ?_
  · rintro v j w w' _ _ _ hR ⟨b, e, hb, hh⟩
    exact ⟨b, e, hb, (World.grownBy.block hR b (Array.getElem?_eq_some_iff.1 hh).1 (by simp; omega)).trans hh⟩
  · have hsz := hC.out.1.size
    exact ⟨In.mk ⟨gb_alloc hC.out.1 _, hC.out.2.later (gb_alloc (gb_refl w none) _) (by simp)⟩, gb_alloc (gb_refl w _) _, ⟨_, rfl, hsz, heap_alloc_new w _⟩, fun e => by cases e⟩
  · rintro v w hC ⟨b, rfl, hb, -⟩
    exact h b hb
end
end Go.Proofs.YtdkckhihleffeaaGreat
