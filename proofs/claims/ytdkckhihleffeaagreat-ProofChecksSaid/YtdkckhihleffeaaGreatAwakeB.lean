/- Layer 26's awake: the examples of the chapter; a phase that is drawn. -/
import Derived.Test.YtdkckhihleffeaaGreatBnd
import Derived.Test.YtdkckhihleffeaaGreatRgPos
import Derived.Test.YtdkckhihleffeaaGreatProb
namespace Go.Proofs.YtdkckhihleffeaaGreat
set_option linter.all false
section LAwake26
open Go.RowKit Rg

theorem Sl.of_cells {w : World} {b n cap : Nat} {xs : List Int} (hb : b < w.heap.size) (hn : xs.length = n) (hc : n ≤ cap) (hc2 : cap ≤ 9223372036854775807) (h : ∀ k, k < n → w.cell? ⟨b, k, none⟩ = some (.int .i64 (xs[k]?.getD 0))) : Sl w (.slice (some ⟨b, 0, none⟩) n cap) xs := by
  subst hn
  exact .inr ⟨b, 0, cap, rfl, hb, hc, hc2, fun k hk => by rw [Nat.zero_add]; exact h k hk⟩
theorem Sl.of_block {w : World} {b n : Nat} {xs : List Int} {T : TypeId} {fr : Nat × Nat} (h : w.heap[b]? = some (.cells (xs.map (Value.int .i64)).toArray T fr)) (hn : xs.length = n) (hc2 : n ≤ 9223372036854775807) : Sl w (.slice (some ⟨b, 0, none⟩) n n) xs :=
  Sl.of_cells (block_lt' h) hn (Nat.le_refl _) hc2 fun k hk => row1 h k (by omega)

theorem bnd_26 : bndV 1000 [0, 150, 320] [0, 200, 400] 0 0 0 1000 0 0 0 0 0 = .tuple #[.int .i64 0, .int .i64 200, .int .i64 0] := by
  have t : tOk 1000 [0, 150, 320] [0, 200, 400] := by decide +kernel
  have b : (bP 0 0 0 1000 0 0 && vP 0 0 0) = true := by decide +kernel
  have n : nearP 0 0 0 1000 0 0 0 0 0 = 0 := by decide +kernel
  have f : farP 0 0 0 1000 0 0 0 0 0 = 1000000 := by decide +kernel
  have f0 : floorI 0 = 0 := by decide +kernel
  have c1 : ceilI 1000000 = 1000 := by
    have := floorI_unique (n := 1000000) (r := 1000) (by decide) (by decide) (by decide)
    unfold ceilI; rw [← this]; rfl
  have e : bndE 1000 [0, 150, 320] [0, 200, 400] 0 0 0 1000 0 0 0 0 0 = 0 := by
    unfold bndE; rw [if_pos t, if_pos b, n, f]; unfold btwE; rw [if_neg (by simpa using t), c1]; decide
  unfold bndV bndA bndB; rw [e, if_pos rfl, if_pos rfl, n, f, f0, c1]; rfl
theorem zn_26 : znV 1000 [0, 150, 320] [0, 200, 400] 0 0 0 1000 0 0 0 0 0 1000 1010 1 = .tuple #[.agg #[.int .i64 800, .int .i64 1010], .int .i64 0] := by
  have t : tOk 1000 [0, 150, 320] [0, 200, 400] := by decide +kernel
  have h := bnd_26
  unfold bndV at h
  have hl := congrArg (fun v => match v with | Value.tuple cs => cs.toList | _ => []) h
  simp only [List.cons.injEq, Value.int.injEq, true_and, and_true] at hl
  obtain ⟨ha, hb, he⟩ := hl
  have e : znE 1000 [0, 150, 320] [0, 200, 400] 0 0 0 1000 0 0 0 0 0 1000 1010 1 = 0 := by
    unfold znE; rw [if_pos t, if_pos (by decide +kernel), if_pos (by decide +kernel)]; exact he
  rw [← zn_ok e, ha, hb]; rfl

/-- Two zones are equal. -/
def same2 (a b c d : Int) : Bool := a == c && b == d
theorem run_eql2 (a b c d : Int) (w : World) :
    (binOp .eql 108 (.agg #[.int .i64 a, .int .i64 b]) (.agg #[.int .i64 c, .int .i64 d])).run Tryz.prog w = .ok (.bool (same2 a b c d)) w := by
  unfold same2
  by_cases h0 : a = c <;> by_cases h1 : b = d <;> simp [go_sem, h0, h1]
theorem run_neq2 (a b c d : Int) (w : World) :
    (binOp .neq 108 (.agg #[.int .i64 a, .int .i64 b]) (.agg #[.int .i64 c, .int .i64 d])).run Tryz.prog w = .ok (.bool (!same2 a b c d)) w := by
  unfold same2
  by_cases h0 : a = c <;> by_cases h1 : b = d <;> simp [go_sem, h0, h1]
attribute [go_sem high] run_eql2 run_neq2

end LAwake26
section LAwake27
section LFlat
open Go.RowKit Rg

theorem SlC.row {k n : Nat} {w w' : World} {v : Value} {ys : List Value} {row : Option Nat} (h : SlC k w v n ys) (hg : w.grownBy w' row) (hp : ∀ b off len cap, v = .slice (some ⟨b, off, none⟩) len cap → 0 < len → some b ≠ row) : SlC k w' v n ys := by
  refine ⟨h.1, ?_⟩
  rcases h.2 with h0 | ⟨b, off, cap, e, hb, h1, h2, h3⟩
  · exact .inl h0
  · by_cases hn : 0 < n
    · exact .inr ⟨b, off, cap, e, Nat.lt_of_lt_of_le hb hg.size, h1, h2, fun j u hj => (gb_cell hg hb (hp _ _ _ _ e hn)).trans (h3 j u hj)⟩
    · exact .inl ⟨by omega, _, _, by rw [e, show n = 0 by omega]⟩
theorem SlC.old {k n : Nat} {w : World} {v : Value} {ys : List Value} (h : SlC k w v n ys) : ∀ b off len cap, v = .slice (some ⟨b, off, none⟩) len cap → 0 < len → b < w.heap.size := by
  intro b off len cap e hl
  rcases h.2 with ⟨rfl, a, c, e'⟩ | ⟨b', off', cap', e', hb, _⟩
  · rw [e] at e'; simp at e'; omega
  · rw [e] at e'; simp at e'; omega
def flatPh (z : Zn) : Ph := ⟨0, 0, 0, z.f, z.t, 1⟩
def flatProb (cap : Int) (zs : List Zn) : Prob := ⟨0, 0, 0, 0, 0, 0, 1, [0, 0], [0, 0], zs.map flatPh, cap⟩
structure FlAt (w : World) (Q : Nat) (vl vh : Value) (cap : Int) (l : List Ph) (vp : Value) (u : World) : Prop where
  res : u.heap[w.heap.size]? = some (.cells #[.int .i64 0, .int .i64 0, .int .i64 0, .int .i64 0, .int .i64 0, .int .i64 0, .int .i64 0, .slice none 0 0, .slice none 0 0, .slice none 0 0, .int .i64 0] 36 (0, 0))
  prob : u.heap[Q]? = some (.cells #[.int .i64 0, .int .i64 0, .int .i64 0, .int .i64 0, .int .i64 0, .int .i64 0, .int .i64 1, vl, vh, vp, .int .i64 cap] 36 (0, 0))
  own : u.ownsRow (Q + 1) 61 6 vp l.length (flatP l)
  low : Sl u vl [0, 0]
  high : Sl u vh [0, 0]
  lowAt : ∀ b off len cap, vl = .slice (some ⟨b, off, none⟩) len cap → w.heap.size < b ∧ b < Q
  highAt : ∀ b off len cap, vh = .slice (some ⟨b, off, none⟩) len cap → w.heap.size < b ∧ b < Q
  order : w.heap.size < Q
  grown : w.grownBy u none
section
variable {w : World} {Q : Nat} {vl vh : Value} {cap : Int} {l : List Ph} {vp : Value} {u u' : World}
theorem FlAt.later (h : FlAt w Q vl vh cap l vp u) (hg : u.grownBy u' none) : FlAt w Q vl vh cap l vp u' :=
  ⟨block_kept hg h.res rfl, block_kept hg h.prob rfl, owns_keep h.own hg, h.low.after hg, h.high.after hg, h.lowAt, h.highAt, h.order, gb_trans h.grown hg⟩
theorem FlAt.prob9 (h : FlAt w Q vl vh cap l vp u) (hg : u.grownBy u' vp.ownBlock) : u'.heap[Q]? = some (.cells #[.int .i64 0, .int .i64 0, .int .i64 0, .int .i64 0, .int .i64 0, .int .i64 0, .int .i64 1, vl, vh, vp, .int .i64 cap] 36 (0, 0)) := by
  rw [hg.block Q (Array.getElem?_eq_some_iff.1 h.prob).1 (fun e => by have := (h.own.lt Q e.symm).1; omega)]; exact h.prob
theorem FlAt.fro (h : FlAt w Q vl vh cap l vp u) (hg : u.grownBy u' vp.ownBlock) (o : Nat) : u'.frozen? ⟨Q, o, none⟩ = false := by simp [World.frozen?, h.prob9 hg]
theorem FlAt.nine (h : FlAt w Q vl vh cap l vp u) (hg : u.grownBy u' vp.ownBlock) : u'.cell? ⟨Q, 9, none⟩ = some vp := by simp [World.cell?, h.prob9 hg]
theorem FlAt.push {a : Ph} {vp' : Value} (h : FlAt w Q vl vh cap l vp u) (hg : u.grownBy u' vp.ownBlock) (ho : u'.ownsRow (Q + 1) 61 6 vp' (l.length + 1) (flatP l ++ a.cells)) : FlAt w Q vl vh cap (l ++ [a]) vp' (u'.setCell ⟨Q, 9, none⟩ vp') := by
  have o3 := h.order
  have hne : ∀ b, vp.ownBlock = some b → Q + 1 ≤ b := fun b hb => (h.own.lt b hb).1
  have far : ∀ {b : Nat} {o : Obj}, u.heap[b]? = some o → b ≤ Q → u'.heap[b]? = some o := fun {b} {o} hb hX => by
    rw [hg.block b (Array.getElem?_eq_some_iff.1 hb).1 (fun e => by have := hne b e.symm; omega)]; exact hb
  have sgr : u'.grownBy (u'.setCell ⟨Q, 9, none⟩ vp') (some Q) := gb_setCell (gb_refl _ _) (.inr rfl) _
  refine ⟨(setCell_far (by show w.heap.size ≠ Q; omega)).trans (far h.res (by omega)), set_block (far h.prob (by omega)) 9 vp', ?_, ?_, ?_, h.lowAt, h.highAt, h.order, ?_⟩
  · rw [List.length_append, show flatP (l ++ [a]) = flatP l ++ a.cells by simp [flatP]]
    exact ho.kept sgr (.inr (fun e => by have := (ho.lt Q e).1; omega))
  · exact (h.low.later hg (fun b off len cap e _ he => by have := hne b he.symm; have := (h.lowAt b off len cap e).2; omega)).later sgr (fun b off len cap e _ => by have := (h.lowAt b off len cap e).2; simp; omega)
  · exact (h.high.later hg (fun b off len cap e _ he => by have := hne b he.symm; have := (h.highAt b off len cap e).2; omega)).later sgr (fun b off len cap e _ => by have := (h.highAt b off len cap e).2; simp; omega)
  · refine gb_setCell (gb_new h.grown hg (fun q hq => by have := hne q hq; omega)) (.inl (by show w.heap.size ≤ Q; omega)) _
end

end LFlat
section LAwake27
open Go.RowKit Rg

theorem SlC.of_block {k n b : Nat} {w : World} {ys : List Value} {T : TypeId} {fr : Nat × Nat} (h : w.heap[b]? = some (.cells ys.toArray T fr)) (hn : ys.length = n * k) (hm : n ≤ 1000000) : SlC k w (.slice (some ⟨b, 0, none⟩) n n) n ys :=
  ⟨hn, .inr ⟨b, 0, n, rfl, block_lt' h, Nat.le_refl _, by omega, fun j u hj => by rw [Nat.zero_add]; simp [World.cell?, h]; exact hj⟩⟩
def exA : List Zn := [⟨10, 20⟩, ⟨15, 30⟩]
def exB : List Zn := [⟨0, 0⟩, ⟨0, 0⟩, ⟨100, 100⟩]
theorem fairA : Fair (flatProb 10 exA).cap (flatProb 10 exA).phs exA := by
  refine ⟨by decide, by decide, fun i hi => ?_, fun i hi => ?_⟩
  · have : i = 0 ∨ i = 1 := by simp [flatProb, exA] at hi; omega
    rcases this with rfl | rfl <;> decide
  · have : i = 0 ∨ i = 1 := by simp [exA] at hi; omega
    unfold Tame
    rcases this with rfl | rfl <;> decide
theorem fairB : Fair (flatProb 10 exB).cap (flatProb 10 exB).phs exB := by
  refine ⟨by decide, by decide, fun i hi => ?_, fun i hi => ?_⟩
  · have : i = 0 ∨ i = 1 ∨ i = 2 := by simp [flatProb, exB] at hi; omega
    rcases this with rfl | rfl | rfl <;> decide
  · have : i = 0 ∨ i = 1 ∨ i = 2 := by simp [exB] at hi; omega
    unfold Tame
    rcases this with rfl | rfl | rfl <;> decide
theorem bestA : best (flatProb 10 exA).cap (flatProb 10 exA).phs exA = (15, 0) := by decide +kernel
theorem bestB : best (flatProb 10 exB).cap (flatProb 10 exB).phs exB = (0, 10) := by decide +kernel
theorem atA : atV (flatProb 10 exA) 0 0 0 = .tuple #[.int .i64 15, .int .i64 0, .int .i64 0] := by kernel_rfl

end LAwake27
end LAwake27
end Go.Proofs.YtdkckhihleffeaaGreat
