/- keep.Src.BentProblem. Written by gen_bentp.py. -/
import Derived.Test.YtcealhikmbchoaaLit
import Derived.Test.YtcealhikmbchoaaPart
import Derived.Test.YtcealhikmbchoaaMisP
namespace Go.Proofs.Ytcealhikmbchoaa
set_option linter.all false
open Go.RowKit Rg

/-- What BentProblem returns. -/
def BentP (B p : Nat) (w : World) (e : Ending) (w' : World) : Prop :=
  ∃ (P : Prob) (vl vh vp : Value), e = .returned (.agg (P.val vl vh vp)) ∧ ProbIn P vl vh vp w' ∧ Apart p vl ∧ Apart p vh ∧ Apart p vp ∧ P.phs.length ≤ 65 ∧ Src B w' p ∧ w.grownBy w' (some p)
theorem bp_end {w u : World} {B p : Nat} {P' : Prob} {vl vh vp : Value} {cs rs : Array Value} {T : TypeId} (hq0 : B ≤ p) (hp : p < w.heap.size) (hR : u.heap[w.heap.size + 1]? = some (.cells cs T (0, 0))) (hrs : rs = P'.val vl vh vp) (hi : ProbIn P' vl vh vp u) (al : Apart p vl) (ah : Apart p vh) (av : Apart p vp)
    (rl : Apart (w.heap.size + 1) vl) (rh : Apart (w.heap.size + 1) vh) (rv : Apart (w.heap.size + 1) vp) (h65 : P'.phs.length ≤ 65) (hS : Src B u p) (hG : w.grownBy u (some p)) :
    BentP B p w (.returned (.agg rs)) (u.setRow (w.heap.size + 1) rs) := by
  have hg : u.grownBy (u.setRow (w.heap.size + 1) rs) (some (w.heap.size + 1)) := gb_setRow (gb_refl _ _) (.inr rfl)
  refine ⟨P', vl, vh, vp, by rw [hrs], ⟨hi.l.later hg (fun b off len cap e hl => by simpa using rl b off len cap e hl), hi.h.later hg (fun b off len cap e hl => by simpa using rh b off len cap e hl), hi.p.draw hg (fun b off len cap e hl => rv b off len cap e hl)⟩, al, ah, av, h65, hS.later hg (fun q hq => by simp at hq; omega), gb_setRow hG (.inl (by omega))⟩

/-- The blocks of the walk. -/
structure BPC (w : World) (B p tb : Nat) (vl vh vp : Value) : Prop where
  q : B ≤ p ∧ p < w.heap.size ∧ w.heap.size + 1 < tb
  ap : Apart p vl ∧ Apart p vh ∧ Apart p vp
  ar : Apart (w.heap.size + 1) vl ∧ Apart (w.heap.size + 1) vh ∧ Apart (w.heap.size + 1) vp
  at' : Apart tb vl ∧ Apart tb vh ∧ Apart tb vp
structure BPA (w : World) (B p tb : Nat) (vl vh : Value) (ls hs : List Int) (vp : Value) (phs : List Ph) (row : Array Value) (u : World) : Prop where
  T : u.heap[tb]? = some (.cells row 36 (0, 0))
  R : u.heap[w.heap.size + 1]? = some (.cells #[.int .i64 0, .int .i64 0, .int .i64 0, .int .i64 0, .int .i64 0, .int .i64 0, .int .i64 0, .slice none 0 0, .slice none 0 0, .slice none 0 0, .int .i64 0] 36 (0, 0))
  S : Src B u p
  G : w.grownBy u (some p)
  l : Sl u vl ls
  h : Sl u vh hs
  v : SlC 6 u vp phs.length (flatP phs)
section
variable {w u u' : World} {B p tb : Nat} {vl vh vp : Value} {ls hs : List Int} {phs : List Ph} {row row' : Array Value}
theorem BPA.draw (c : BPC w B p tb vl vh vp) (h : BPA w B p tb vl vh ls hs vp phs row u) (hg : u.grownBy u' (some p)) (hS : Src B u' p) : BPA w B p tb vl vh ls hs vp phs row u' := by
  obtain ⟨c0, c1, c2⟩ := c.q
  exact ⟨block_keptp hg h.T (by omega), block_keptp hg h.R (by omega), hS, gb_trans h.G hg, h.l.later hg (fun b off len cap e hl => by have := c.ap.1 b off len cap e hl; simp; omega), h.h.later hg (fun b off len cap e hl => by have := c.ap.2.1 b off len cap e hl; simp; omega), h.v.draw hg (fun b off len cap e hl => c.ap.2.2 b off len cap e hl)⟩
theorem BPA.alloc (h : BPA w B p tb vl vh ls hs vp phs row u) (hg : u.grownBy u' none) : BPA w B p tb vl vh ls hs vp phs row u' :=
  ⟨block_kept hg h.T rfl, block_kept hg h.R rfl, h.S.later (row := none) hg (by simp), gb_trans h.G (gb_none hg), h.l.after hg, h.h.after hg, h.v.after hg⟩
theorem BPA.part (c : BPC w B p tb vl vh vp) (h : BPA w B p tb vl vh ls hs vp phs row u) (ht : u'.heap[tb]? = some (.cells row' 36 (0, 0))) (hg : u.grownBy u' (some tb)) : BPA w B p tb vl vh ls hs vp phs row' u' := by
  obtain ⟨c0, c1, c2⟩ := c.q
  exact ⟨ht, (hg.block _ (block_lt' h.R) (by simp; omega)).trans h.R, h.S.later hg (fun q hq => by simp at hq; omega), gb_new' h.G hg (by omega), h.l.later hg (fun b off len cap e hl => by have := c.at'.1 b off len cap e hl; simp; omega), h.h.later hg (fun b off len cap e hl => by have := c.at'.2.1 b off len cap e hl; simp; omega), h.v.draw hg (fun b off len cap e hl => c.at'.2.2 b off len cap e hl)⟩
theorem BPA.cell (c : BPC w B p tb vl vh vp) (h : BPA w B p tb vl vh ls hs vp phs row u) (k : Nat) (x : Value) : BPA w B p tb vl vh ls hs vp phs (row.set! k x) (u.setCell ⟨tb, k, none⟩ x) :=
  h.part c (set_block h.T k x) (gb_setCell (gb_refl _ _) (.inr rfl) _)
theorem BPA.fin (c : BPC w B p tb vl vh vp) (h : BPA w B p tb vl vh ls hs vp phs row u) {x0 y0 z0 x1 y1 z1 step cap : Int} (hrow : row = Prob.val ⟨x0, y0, z0, x1, y1, z1, step, ls, hs, phs, cap⟩ vl vh vp) (h65 : phs.length ≤ 65) : BentP B p w (.returned (.agg row)) (u.setRow (w.heap.size + 1) row) :=
  bp_end (P' := ⟨x0, y0, z0, x1, y1, z1, step, ls, hs, phs, cap⟩) c.q.1 c.q.2.1 h.R hrow ⟨h.l, h.h, h.v⟩ c.ap.1 c.ap.2.1 c.ap.2.2 c.ar.1 c.ar.2.1 c.ar.2.2 h65 h.S h.G
theorem BPA.inRow {g : Nat} {vp' : Value} {phs' : List Ph} (c : BPC w B p tb vl vh vp) (h : BPA w B p tb vl vh ls hs vp phs row u) (h1 : g ≠ p) (h2 : g ≠ tb) (h3 : g ≠ w.heap.size + 1) (h4 : w.heap.size ≤ g) (hg : u.grownBy u' (some g)) (hv : SlC 6 u' vp' phs'.length (flatP phs')) (al : Apart g vl) (ah : Apart g vh) :
    BPA w B p tb vl vh ls hs vp' phs' row u' :=
  ⟨(hg.block _ (block_lt' h.T) (by simp; omega)).trans h.T, (hg.block _ (block_lt' h.R) (by simp; omega)).trans h.R, h.S.later hg (fun q hq => by simp at hq; have := c.q; omega), gb_new' h.G hg h4, h.l.later hg (fun b off len cap e hl => by have := al b off len cap e hl; simp; omega), h.h.later hg (fun b off len cap e hl => by have := ah b off len cap e hl; simp; omega), hv⟩
end
theorem owns_ph {u : World} {base n g cap : Nat} {e : TypeId} {l : List Ph} (hn : l.length = n) (h : u.ownsRow base e 6 (.slice (some ⟨g, 0, none⟩) n cap) n (flatP l)) {i : Nat} (hi : i < n) :
    ∃ x y z a b c : Int, l[i]? = some ⟨x, y, z, a, b, c⟩ ∧ u.cell? ⟨g, i * 6, none⟩ = some (.int .i64 x) ∧ u.cell? ⟨g, i * 6 + 1, none⟩ = some (.int .i64 y) ∧ u.cell? ⟨g, i * 6 + 2, none⟩ = some (.int .i64 z) ∧ u.cell? ⟨g, i * 6 + 3, none⟩ = some (.int .i64 a) ∧ u.cell? ⟨g, i * 6 + 4, none⟩ = some (.int .i64 b) ∧ u.cell? ⟨g, i * 6 + 5, none⟩ = some (.int .i64 c) := by
  subst hn
  have hc : ∀ j y, (flatP l)[j]? = some y → u.cell? ⟨g, 0 + j, none⟩ = some y := fun j y hj => by
    have : j < l.length * 6 := by rw [← flatP_length]; exact (List.getElem?_eq_some_iff.1 hj).1
    rw [Nat.zero_add, h.cellAt j this]; exact hj
  have := SlC.ph hc i hi
  simp only [Nat.zero_add] at this
  exact ⟨_, _, _, _, _, _, List.getElem?_eq_getElem hi, this⟩
/-- Nothing of a phase but its places. -/
theorem setLL_ph (r : List Value) (a b : Ph) : setLL (b.cells ++ r) 0 a.cells = a.cells ++ r := rfl
theorem flatP_set : ∀ (l : List Ph) (i : Nat) (_ : i < l.length) (a : Ph), setLL (flatP l) (i * 6) a.cells = flatP (l.set i a)
  | b :: l, 0, _, a => by
    show setLL (b.cells ++ flatP l) (0 * 6) a.cells = a.cells ++ flatP l
    rw [Nat.zero_mul]; exact setLL_ph _ _ _
  | b :: l, i + 1, hi, a => by
    show setLL (b.cells ++ flatP l) ((i + 1) * 6) a.cells = b.cells ++ flatP (l.set i a)
    rw [show (i + 1) * 6 = b.cells.length + i * 6 by simp [Ph.cells]; omega, setLL_append, flatP_set l i (by simpa using hi) a]
theorem made_phs (n : Nat) : (madeCells (Value.agg #[.int .i64 0, .int .i64 0, .int .i64 0, .int .i64 0, .int .i64 0, .int .i64 0]).cells (n * 6)).toList = flatP (List.replicate n ⟨0, 0, 0, 0, 0, 0⟩) := by
  refine List.ext_getElem (by rw [flatP_length]; simp [size_madeCells]) fun j h1 h2 => ?_
  have hj : j < n * 6 := by simpa [size_madeCells] using h1
  have hq : j = (j / 6) * 6 + j % 6 := by omega
  have e := flatP_at (List.replicate n ⟨0, 0, 0, 0, 0, 0⟩) (j / 6) (by simp; omega) (j % 6) (by omega)
  rw [← hq] at e
  have e2 : (flatP (List.replicate n ⟨0, 0, 0, 0, 0, 0⟩))[j] = .int .i64 0 := by
    apply Option.some.inj
    rw [← List.getElem?_eq_getElem, e]
    simp only [List.getElem_replicate]
    have : j % 6 < 6 := by omega
    rcases (by omega : j % 6 = 0 ∨ j % 6 = 1 ∨ j % 6 = 2 ∨ j % 6 = 3 ∨ j % 6 = 4 ∨ j % 6 = 5) with h | h | h | h | h | h <;> rw [h] <;> rfl
  rw [e2]
  simp [madeCells, Value.cells]
  have : j % 6 < 6 := by omega
  rcases (by omega : j % 6 = 0 ∨ j % 6 = 1 ∨ j % 6 = 2 ∨ j % 6 = 3 ∨ j % 6 = 4 ∨ j % 6 = 5) with h | h | h | h | h | h <;> simp [h]

end Go.Proofs.Ytcealhikmbchoaa
