/- Plain lists of the points of a box. Of no program. -/
import Derived.Test.YtmgfdfbhfhmekaaGreatBase
import Derived.Test.YtmgfdfbhfhmekaaGreatRgMade
import Derived.Test.YtmgfdfbhfhmekaaGreatGeo
namespace Go.Proofs.YtmgfdfbhfhmekaaGreat
set_option linter.all false
section LPts
open Go.RowKit

def preZ (x y z0 : Int) (k : Nat) : List (Int × Int × Int) := (List.range k).map fun (c : Nat) => (x, y, z0 + (c : Int))
def preY (x y0 z0 : Int) (nz j : Nat) : List (Int × Int × Int) := (List.range j).flatMap fun (b : Nat) => preZ x (y0 + (b : Int)) z0 nz
def preX (x0 y0 z0 : Int) (ny nz i : Nat) : List (Int × Int × Int) := (List.range i).flatMap fun (a : Nat) => preY (x0 + (a : Int)) y0 z0 nz ny
def flat3 (l : List (Int × Int × Int)) : List Value := l.flatMap fun q => [.int .i64 q.1, .int .i64 q.2.1, .int .i64 q.2.2]

theorem preZ_zero (x y z0 : Int) : preZ x y z0 0 = [] := rfl
theorem preY_zero (x y0 z0 : Int) (nz : Nat) : preY x y0 z0 nz 0 = [] := rfl
theorem preX_zero (x0 y0 z0 : Int) (ny nz : Nat) : preX x0 y0 z0 ny nz 0 = [] := rfl
theorem preZ_succ (x y z0 : Int) (k : Nat) : preZ x y z0 (k + 1) = preZ x y z0 k ++ [(x, y, z0 + (k : Int))] := by simp [preZ, List.range_succ]
theorem preY_succ (x y0 z0 : Int) (nz j : Nat) : preY x y0 z0 nz (j + 1) = preY x y0 z0 nz j ++ preZ x (y0 + (j : Int)) z0 nz := by simp [preY, List.range_succ]
theorem preX_succ (x0 y0 z0 : Int) (ny nz i : Nat) : preX x0 y0 z0 ny nz (i + 1) = preX x0 y0 z0 ny nz i ++ preY (x0 + (i : Int)) y0 z0 nz ny := by simp [preX, List.range_succ]
theorem preZ_length (x y z0 : Int) (k : Nat) : (preZ x y z0 k).length = k := by simp [preZ]
theorem preY_length (x y0 z0 : Int) (nz j : Nat) : (preY x y0 z0 nz j).length = j * nz := by
  induction j with
  | zero => simp [preY_zero]
  | succ j ih => rw [preY_succ, List.length_append, ih, preZ_length, Nat.succ_mul]
theorem preX_length (x0 y0 z0 : Int) (ny nz i : Nat) : (preX x0 y0 z0 ny nz i).length = i * (ny * nz) := by
  induction i with
  | zero => simp [preX_zero]
  | succ i ih => rw [preX_succ, List.length_append, ih, preY_length, Nat.succ_mul]
theorem mem_preX {x0 y0 z0 : Int} {ny nz i : Nat} {q : Int × Int × Int} : q ∈ preX x0 y0 z0 ny nz i ↔ x0 ≤ q.1 ∧ q.1 < x0 + i ∧ y0 ≤ q.2.1 ∧ q.2.1 < y0 + ny ∧ z0 ≤ q.2.2 ∧ q.2.2 < z0 + nz := by
  obtain ⟨a, b, c⟩ := q
  simp only [preX, preY, preZ, List.mem_flatMap, List.mem_range, List.mem_map, Prod.mk.injEq]
  constructor
  · rintro ⟨i', hi, j', hj, k', hk, h1, h2, h3⟩
    omega
  · rintro ⟨h1, h2, h3, h4, h5, h6⟩
    exact ⟨(a - x0).toNat, by omega, (b - y0).toNat, by omega, (c - z0).toNat, by omega, by omega, by omega, by omega⟩
theorem flat3_append (l m : List (Int × Int × Int)) : flat3 (l ++ m) = flat3 l ++ flat3 m := by simp [flat3]
theorem flat3_length (l : List (Int × Int × Int)) : (flat3 l).length = l.length * 3 := by
  induction l with
  | nil => rfl
  | cons q l ih => rw [show q :: l = [q] ++ l from rfl, flat3_append, List.length_append, ih]; simp [flat3]; omega
theorem flat3_at : ∀ (l : List (Int × Int × Int)) (i : Nat) (h : i < l.length), (flat3 l)[i * 3]? = some (.int .i64 l[i].1) ∧ (flat3 l)[i * 3 + 1]? = some (.int .i64 l[i].2.1) ∧ (flat3 l)[i * 3 + 2]? = some (.int .i64 l[i].2.2)
  | q :: l, 0, _ => by simp [flat3]
  | q :: l, i + 1, h => by
    have ih := flat3_at l i (by simpa using h)
    have e : flat3 (q :: l) = [.int .i64 q.1, .int .i64 q.2.1, .int .i64 q.2.2] ++ flat3 l := by simp [flat3]
    rw [e]
    refine ⟨?_, ?_, ?_⟩
    · rw [List.getElem?_append_right (by simp; omega), show (i + 1) * 3 - [Value.int .i64 q.1, .int .i64 q.2.1, .int .i64 q.2.2].length = i * 3 by simp; omega]; exact ih.1
    · rw [List.getElem?_append_right (by simp; omega), show (i + 1) * 3 + 1 - [Value.int .i64 q.1, .int .i64 q.2.1, .int .i64 q.2.2].length = i * 3 + 1 by simp; omega]; exact ih.2.1
    · rw [List.getElem?_append_right (by simp; omega), show (i + 1) * 3 + 2 - [Value.int .i64 q.1, .int .i64 q.2.1, .int .i64 q.2.2].length = i * 3 + 2 by simp; omega]; exact ih.2.2
end LPts
section LRgPos
open Go.RowKit Rg

/-- Three numbers are returned; the reader goes on. -/
def At3 (B p : Nat) (Pd : Int → Int → Int → Prop) (w : World) (e : Ending) (w' : World) : Prop :=
  ∃ x y z : Int, e = .returned (.agg #[.int .i64 x, .int .i64 y, .int .i64 z]) ∧ Pd x y z ∧ Src B w' p ∧ w.grownBy w' (some p)
def At6 (B p : Nat) (Pd : Int → Int → Int → Int → Int → Int → Prop) (w : World) (e : Ending) (w' : World) : Prop :=
  ∃ x0 y0 z0 x1 y1 z1 : Int, e = .returned (.agg #[.int .i64 x0, .int .i64 y0, .int .i64 z0, .int .i64 x1, .int .i64 y1, .int .i64 z1]) ∧ Pd x0 y0 z0 x1 y1 z1 ∧ Src B w' p ∧ w.grownBy w' (some p)
def placeIn (most x y z : Int) : Prop := -most ≤ x ∧ x ≤ most ∧ -most ≤ y ∧ y ≤ most ∧ 0 ≤ z ∧ z ≤ most
def boxIn (most side x0 y0 z0 x1 y1 z1 : Int) : Prop := placeIn most x0 y0 z0 ∧ x0 ≤ x1 ∧ x1 ≤ x0 + side ∧ y0 ≤ y1 ∧ y1 ≤ y0 + side ∧ z0 ≤ z1 ∧ z1 ≤ z0 + side

theorem block_keptp {w w' : World} {p : Nat} (h : w.grownBy w' (some p)) {b : Nat} {x : Obj} (hb : w.heap[b]? = some x) (hp : b ≠ p) : w'.heap[b]? = some x :=
  (h.block b (Array.getElem?_eq_some_iff.1 hb).1 (by simpa using hp)).trans hb
theorem block_lt' {w : World} {b : Nat} {x : Obj} (h : w.heap[b]? = some x) : b < w.heap.size := (Array.getElem?_eq_some_iff.1 h).1
theorem six {w : World} {b : Nat} {x y z p q r : Value} {t : TypeId} {fr : Nat × Nat} (h : w.heap[b]? = some (.cells #[x, y, z, p, q, r] t fr)) :
    w.cell? ⟨b, 0, none⟩ = some x ∧ w.cell? ⟨b, 1, none⟩ = some y ∧ w.cell? ⟨b, 2, none⟩ = some z ∧ w.cell? ⟨b, 3, none⟩ = some p ∧ w.cell? ⟨b, 4, none⟩ = some q ∧ w.cell? ⟨b, 5, none⟩ = some r := by simp [World.cell?, h]

/-- One of three numbers of a literal. -/
theorem pick3_any (B : Nat) (w : World) (p : Nat) (a b c : Int) (e : TypeId) (h : Src B w p) (g : Nat) (hz : w.heap.size = g) :
    Calls Tryz.prog 12 #[.pointer (some ⟨p, 0, none⟩), .slice (some ⟨g, 0, none⟩) 3 3] (w.alloc (.cells #[.int .i64 a, .int .i64 b, .int .i64 c] e))
      (fun r w' => ∃ x : Int, r = .returned (.int .i64 x) ∧ (x = a ∨ x = b ∨ x = c) ∧ Src B w' p ∧ (w.alloc (.cells #[.int .i64 a, .int .i64 b, .int .i64 c] e)).grownBy w' (some p)) := by
  subst hz
  have hs : Sl (w.alloc (.cells #[.int .i64 a, .int .i64 b, .int .i64 c] e)) (.slice (some ⟨w.heap.size, 0, none⟩) 3 3) [a, b, c] := by
    refine .inr ⟨w.heap.size, 0, 3, rfl, by simp, by simp, by omega, fun k hk => ?_⟩
    rw [cell_new]
    match k, hk with
    | 0, _ => rfl
    | 1, _ => rfl
    | 2, _ => rfl
  refine (pick_any B _ p _ [a, b, c] (h.later (gb_alloc (gb_refl w none) _) (by simp)) hs (by simp) (by simp) ?_).mono ?_
  · rintro b' off len cap he
    have := h.lt
    simp at he
    omega
  · rintro r w' ⟨x, rfl, hx, hs, hg⟩
    exact ⟨x, rfl, by simpa using hx, hs, hg⟩

end LRgPos
section LRgLit
open Go.RowKit Rg

/-- What is said of a value alone. -/
abbrev isSome' (F : Value → Prop) : List Value → Value → World → Prop := fun _ v _ => F v
/-- A literal slice: a block of its own, with the operands' cells. -/
abbrev isBlk (w : World) (n : Nat) (T : TypeId) : List Value → Value → World → Prop := fun vs v u => ∃ b, v = .slice (some ⟨b, 0, none⟩) n n ∧ w.heap.size ≤ b ∧ u.heap[b]? = some (.cells (vs.flatMap (fun v => v.cells.toList)).toArray T (0, 0))

section
variable {ops : Array Oper} {md : Region.Mode} {w0 : World} {B p : Nat} {sp : Nat → Option (List Value → Value → World → Prop)} {N : Nat} {Q : List Oper → Act → Facts → Prop} {n k : Nat} {o : Oper} {l : List Oper} {a : Act} {f : Facts}

/-- A call that draws a value of which F is said. -/
theorem rg_drawF (F : Value → Prop) (fid : FuncId) (args : Array Value) (hs : sp k = some (isSome' F)) (hw : Region.wanted o (yielded ops a.tmps) = true)
    (hrun : ∀ w, (execOp a.eval o).run Tryz.prog w = .ok (.enter fid args) w)
    (hc : ∀ w, Pulled w0 B p w → (∀ e ∈ o.after, Region.binds md e = true → f e.on w) → Calls Tryz.prog fid args w fun e w' => ∃ v, e = .returned v ∧ F v ∧ Src B w' p ∧ w.grownBy w' (some p))
    (h : ∀ v, F v → rLexL Tryz.prog md ops ⟨In (Pulled w0 B p), Pull p, sp, fun _ => false, N⟩ Q n l (k + 1) (a.put o.dst v) (upd f k fun _ => F v)) :
    rLexL Tryz.prog md ops ⟨In (Pulled w0 B p), Pull p, sp, fun _ => false, N⟩ Q (n + 1) (o :: l) k a f := by
  refine rLexL_spec (isSome' F) hs hw (fun v j w w' _ _ _ _ h => h) (fun w hC hd => stepTo_call (hrun w) ?_) ?_
  · refine (hc w hC.out hd).mono ?_
    rintro e w' ⟨v, rfl, hx, hs, hg⟩
    exact ⟨_, rfl, In.mk ⟨gb_trans hC.out.1 hg, hs⟩, hg, hx, fun e => by cases e⟩
  · intro v w hC hv
    exact h v hv

/-- A literal slice of structs. -/
theorem rg_litB (m : Nat) (cs : Array Value) (T : TypeId) (hs : sp k = some (isBlk w0 m T)) (hw : Region.wanted o (yielded ops a.tmps) = true) (hcs : ((vals a o).flatMap (fun v => v.cells.toList)).toArray = cs)
    (hrun : ∀ w, (execOp a.eval o).run Tryz.prog w = .ok (.value (.slice (some ⟨w.heap.size, 0, none⟩) m m)) (w.alloc (.cells cs T))) (hp : p < w0.heap.size)
    (h : ∀ b, w0.heap.size ≤ b → rLexL Tryz.prog md ops ⟨In (Pulled w0 B p), Pull p, sp, fun _ => false, N⟩ Q n l (k + 1) (a.put o.dst (.slice (some ⟨b, 0, none⟩) m m)) (upd f k fun u => u.heap[b]? = some (.cells cs T (0, 0)))) :
    rLexL Tryz.prog md ops ⟨In (Pulled w0 B p), Pull p, sp, fun _ => false, N⟩ Q (n + 1) (o :: l) k a f := by
  refine rLexL_spec (isBlk w0 m T) hs hw ?_ (fun w hC hd => stepTo_run (hrun w) ?_) ?_
  · rintro v j w w' _ _ _ hR ⟨b, e, hb, hh⟩
    exact ⟨b, e, hb, (World.grownBy.block hR b (Array.getElem?_eq_some_iff.1 hh).1 (by simp; omega)).trans hh⟩
  · have hsz := hC.out.1.size
    exact ⟨In.mk ⟨gb_alloc hC.out.1 _, hC.out.2.later (gb_alloc (gb_refl w none) _) (by simp)⟩, gb_alloc (gb_refl w _) _, ⟨_, rfl, hsz, by rw [hcs]; exact heap_alloc_new w _⟩, fun e => by cases e⟩
  · rintro v w hC ⟨b, rfl, hb, -⟩
    have e : (isBlk w0 m T (vals a o) (.slice (some ⟨b, 0, none⟩) m m)) = fun u => u.heap[b]? = some (.cells cs T (0, 0)) := by
      funext u
      refine propext ⟨?_, fun h => ⟨b, rfl, hb, by rw [hcs]; exact h⟩⟩
      rintro ⟨b', e, -, h⟩
      simp at e; subst e; rw [hcs] at h; exact h
    rw [e]
    exact h b hb
end
theorem At3.draw {B p : Nat} {Pd : Int → Int → Int → Prop} {w : World} {e : Ending} {w' : World} (h : At3 B p Pd w e w') : ∃ v, e = .returned v ∧ (∃ x y z, v = .agg #[.int .i64 x, .int .i64 y, .int .i64 z] ∧ Pd x y z) ∧ Src B w' p ∧ w.grownBy w' (some p) := by
  obtain ⟨x, y, z, rfl, h1, h2, h3⟩ := h
  exact ⟨_, rfl, ⟨x, y, z, rfl, h1⟩, h2, h3⟩
theorem At6.draw {B p : Nat} {Pd : Int → Int → Int → Int → Int → Int → Prop} {w : World} {e : Ending} {w' : World} (h : At6 B p Pd w e w') : ∃ v, e = .returned v ∧ (∃ x y z a b c, v = .agg #[.int .i64 x, .int .i64 y, .int .i64 z, .int .i64 a, .int .i64 b, .int .i64 c] ∧ Pd x y z a b c) ∧ Src B w' p ∧ w.grownBy w' (some p) := by
  obtain ⟨x, y, z, a, b, c, rfl, h1, h2, h3⟩ := h
  exact ⟨_, rfl, ⟨x, y, z, a, b, c, rfl, h1⟩, h2, h3⟩

/-- The world of a call gets a name. -/
theorem calls_name {P : Program} {f : FuncId} {args : Array Value} {W : World} {Q : Ending → World → Prop} (h : ∀ w1, w1 = W → Calls P f args w1 Q) : Calls P f args W Q := h W rfl
/-- The cells of a row of positions. -/
theorem row3 {u : World} {b : Nat} {L : List (Int × Int × Int)} {T : TypeId} {fr : Nat × Nat} (h : u.heap[b]? = some (.cells (flat3 L).toArray T fr)) (i : Nat) (hi : i < L.length) :
    u.cell? ⟨b, i * 3, none⟩ = some (.int .i64 L[i].1) ∧ u.cell? ⟨b, i * 3 + 1, none⟩ = some (.int .i64 L[i].2.1) ∧ u.cell? ⟨b, i * 3 + 2, none⟩ = some (.int .i64 L[i].2.2) := by
  obtain ⟨f1, f2, f3⟩ := flat3_at L i hi
  simp [World.cell?, h, f1, f2, f3]
/-- The cells of a row of ints. -/
theorem row1 {u : World} {b : Nat} {L : List Int} {T : TypeId} {fr : Nat × Nat} (h : u.heap[b]? = some (.cells (L.map (Value.int .i64)).toArray T fr)) (i : Nat) (hi : i < L.length) : u.cell? ⟨b, i, none⟩ = some (.int .i64 (L[i]?.getD 0)) := by
  simp [World.cell?, h, hi]
end LRgLit
end Go.Proofs.YtmgfdfbhfhmekaaGreat
