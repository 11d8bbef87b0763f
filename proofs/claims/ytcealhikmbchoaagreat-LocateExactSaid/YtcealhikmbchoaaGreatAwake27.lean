/- Law 27's flat: a problem with zones of its own. -/
import Derived.Test.YtcealhikmbchoaaGreatProb
import Derived.Test.YtcealhikmbchoaaGreatAwake26
namespace Go.Proofs.YtcealhikmbchoaaGreat
set_option linter.all false
section LFlat
open Go.RowKit Rg

theorem SlC.row {k n : Nat} {w w' : World} {v : Value} {ys : List Value} {row : Option Nat} (h : SlC k w v n ys) (hg : w.grownBy w' row) (hp : ∀ b off len cap, v = .slice (some ⟨b, off, none⟩) len cap → 0 < len → some b ≠ row) : SlC k w' v n ys := by
  refine ⟨h.1, ?_⟩
  rcases h.2 with h0 | ⟨b, off, cap, e, hb, h1, h2, h3⟩
  · exact .inl h0
  · by_cases hn : 0 < n
    · exact .inr ⟨b, off, cap, e, Nat.lt_of_lt_of_le hb hg.size, h1, h2, fun j u hj => (gb_cell hg hb (hp _ _ _ _ e hn)).trans (h3 j u hj)⟩
    · exact .inl ⟨by omega, _, _, by rw [e, show n = 0 by omega]⟩
theorem SlC.old {k n : Nat} {w : World} {v : Value} {ys : List Value} (h : SlC k w v n ys) : ∀ b off len cap, v = .slice (some ⟨b, off, none⟩) len cap → 0 < len → b < w.heap.size := by
  intro b off len cap e hl
  rcases h.2 with ⟨rfl, a, c, e'⟩ | ⟨b', off', cap', e', hb, _⟩
  · rw [e] at e'; simp at e'; omega
  · rw [e] at e'; simp at e'; omega
def flatPh (z : Zn) : Ph := ⟨0, 0, 0, z.f, z.t, 1⟩
def flatProb (cap : Int) (zs : List Zn) : Prob := ⟨0, 0, 0, 0, 0, 0, 1, [0, 0], [0, 0], zs.map flatPh, cap⟩
structure FlAt (w : World) (Q : Nat) (vl vh : Value) (cap : Int) (l : List Ph) (vp : Value) (u : World) : Prop where
  res : u.heap[w.heap.size]? = some (.cells #[.int .i64 0, .int .i64 0, .int .i64 0, .int .i64 0, .int .i64 0, .int .i64 0, .int .i64 0, .slice none 0 0, .slice none 0 0, .slice none 0 0, .int .i64 0] 36 (0, 0))
  prob : u.heap[Q]? = some (.cells #[.int .i64 0, .int .i64 0, .int .i64 0, .int .i64 0, .int .i64 0, .int .i64 0, .int .i64 1, vl, vh, vp, .int .i64 cap] 36 (0, 0))
  own : u.ownsRow (Q + 1) 70 6 vp l.length (flatP l)
  low : Sl u vl [0, 0]
  high : Sl u vh [0, 0]
  lowAt : ∀ b off len cap, vl = .slice (some ⟨b, off, none⟩) len cap → w.heap.size < b ∧ b < Q
  highAt : ∀ b off len cap, vh = .slice (some ⟨b, off, none⟩) len cap → w.heap.size < b ∧ b < Q
  order : w.heap.size < Q
  grown : w.grownBy u none
section
variable {w : World} {Q : Nat} {vl vh : Value} {cap : Int} {l : List Ph} {vp : Value} {u u' : World}
theorem FlAt.later (h : FlAt w Q vl vh cap l vp u) (hg : u.grownBy u' none) : FlAt w Q vl vh cap l vp u' :=
  ⟨block_kept hg h.res rfl, block_kept hg h.prob rfl, owns_keep h.own hg, h.low.after hg, h.high.after hg, h.lowAt, h.highAt, h.order, gb_trans h.grown hg⟩
theorem FlAt.prob9 (h : FlAt w Q vl vh cap l vp u) (hg : u.grownBy u' vp.ownBlock) : u'.heap[Q]? = some (.cells #[.int .i64 0, .int .i64 0, .int .i64 0, .int .i64 0, .int .i64 0, .int .i64 0, .int .i64 1, vl, vh, vp, .int .i64 cap] 36 (0, 0)) := by
  rw [hg.block Q (Array.getElem?_eq_some_iff.1 h.prob).1 (fun e => by have := (h.own.lt Q e.symm).1; omega)]; exact h.prob
theorem FlAt.fro (h : FlAt w Q vl vh cap l vp u) (hg : u.grownBy u' vp.ownBlock) (o : Nat) : u'.frozen? ⟨Q, o, none⟩ = false := by simp [World.frozen?, h.prob9 hg]
theorem FlAt.nine (h : FlAt w Q vl vh cap l vp u) (hg : u.grownBy u' vp.ownBlock) : u'.cell? ⟨Q, 9, none⟩ = some vp := by simp [World.cell?, h.prob9 hg]
theorem FlAt.push {a : Ph} {vp' : Value} (h : FlAt w Q vl vh cap l vp u) (hg : u.grownBy u' vp.ownBlock) (ho : u'.ownsRow (Q + 1) 70 6 vp' (l.length + 1) (flatP l ++ a.cells)) : FlAt w Q vl vh cap (l ++ [a]) vp' (u'.setCell ⟨Q, 9, none⟩ vp') := by
  have o3 := h.order
  have hne : ∀ b, vp.ownBlock = some b → Q + 1 ≤ b := fun b hb => (h.own.lt b hb).1
  have far : ∀ {b : Nat} {o : Obj}, u.heap[b]? = some o → b ≤ Q → u'.heap[b]? = some o := fun {b} {o} hb hX => by
    rw [hg.block b (Array.getElem?_eq_some_iff.1 hb).1 (fun e => by have := hne b e.symm; omega)]; exact hb
  have sgr : u'.grownBy (u'.setCell ⟨Q, 9, none⟩ vp') (some Q) := gb_setCell (gb_refl _ _) (.inr rfl) _
  refine ⟨(setCell_far (by show w.heap.size ≠ Q; omega)).trans (far h.res (by omega)), set_block (far h.prob (by omega)) 9 vp', ?_, ?_, ?_, h.lowAt, h.highAt, h.order, ?_⟩
  · rw [List.length_append, show flatP (l ++ [a]) = flatP l ++ a.cells by simp [flatP]]
    exact ho.kept sgr (.inr (fun e => by have := (ho.lt Q e).1; omega))
  · exact (h.low.later hg (fun b off len cap e _ he => by have := hne b he.symm; have := (h.lowAt b off len cap e).2; omega)).later sgr (fun b off len cap e _ => by have := (h.lowAt b off len cap e).2; simp; omega)
  · exact (h.high.later hg (fun b off len cap e _ he => by have := hne b he.symm; have := (h.highAt b off len cap e).2; omega)).later sgr (fun b off len cap e _ => by have := (h.highAt b off len cap e).2; simp; omega)
  · refine gb_setCell (gb_new h.grown hg (fun q hq => by have := hne q hq; omega)) (.inl (by show w.heap.size ≤ Q; omega)) _
end

end LFlat
section LAwake27
open Go.RowKit Rg

theorem SlC.of_block {k n b : Nat} {w : World} {ys : List Value} {T : TypeId} {fr : Nat × Nat} (h : w.heap[b]? = some (.cells ys.toArray T fr)) (hn : ys.length = n * k) (hm : n ≤ 1000000) : SlC k w (.slice (some ⟨b, 0, none⟩) n n) n ys :=
  ⟨hn, .inr ⟨b, 0, n, rfl, block_lt' h, Nat.le_refl _, by omega, fun j u hj => by rw [Nat.zero_add]; simp [World.cell?, h]; exact hj⟩⟩
def exA : List Zn := [⟨10, 20⟩, ⟨15, 30⟩]
def exB : List Zn := [⟨0, 0⟩, ⟨0, 0⟩, ⟨100, 100⟩]
theorem fairA : Fair (flatProb 10 exA).cap (flatProb 10 exA).phs exA := by
  refine ⟨by decide, by decide, fun i hi => ?_, fun i hi => ?_⟩
  · have : i = 0 ∨ i = 1 := by simp [flatProb, exA] at hi; omega
    rcases this with rfl | rfl <;> decide
  · have : i = 0 ∨ i = 1 := by simp [exA] at hi; omega
    unfold Tame
    rcases this with rfl | rfl <;> decide
theorem fairB : Fair (flatProb 10 exB).cap (flatProb 10 exB).phs exB := by
  refine ⟨by decide, by decide, fun i hi => ?_, fun i hi => ?_⟩
  · have : i = 0 ∨ i = 1 ∨ i = 2 := by simp [flatProb, exB] at hi; omega
    rcases this with rfl | rfl | rfl <;> decide
  · have : i = 0 ∨ i = 1 ∨ i = 2 := by simp [exB] at hi; omega
    unfold Tame
    rcases this with rfl | rfl | rfl <;> decide
theorem bestA : best (flatProb 10 exA).cap (flatProb 10 exA).phs exA = (15, 0) := by decide +kernel
theorem bestB : best (flatProb 10 exB).cap (flatProb 10 exB).phs exB = (0, 10) := by decide +kernel
theorem atA : atV (flatProb 10 exA) 0 0 0 = .tuple #[.int .i64 15, .int .i64 0, .int .i64 0] := by kernel_rfl

end LAwake27
end Go.Proofs.YtcealhikmbchoaaGreat
