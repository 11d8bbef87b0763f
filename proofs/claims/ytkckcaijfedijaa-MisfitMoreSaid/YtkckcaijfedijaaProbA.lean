/- keep.Problem: what its loop keeps. -/
import Derived.Test.YtkckcaijfedijaaMisD
import Derived.Test.YtkckcaijfedijaaPhase
import Derived.Test.YtkckcaijfedijaaRgLit
namespace Go.Proofs.Ytkckcaijfedijaa
set_option linter.all false
open Go.RowKit Rg

/-- A phase of a problem that was drawn. -/
def goodPh (a : Ph) : Prop := placeIn 60 a.x a.y a.z ∧ 0 ≤ a.e ∧ a.e ≤ a.l ∧ a.l ≤ 2000000000000 ∧ 1 ≤ a.n ∧ a.n ≤ 4

/-- Where Problem's own blocks lie, and what they hold. -/
structure PrAt (w : World) (B p Q X : Nat) (x0 y0 z0 x1 y1 z1 step : Int) (ls hs : List Int) (vl vh : Value) (cap px py pz : Int) (l : List Ph) (vp : Value) (u : World) : Prop where
  res : u.heap[w.heap.size]? = some (.cells #[.int .i64 0, .int .i64 0, .int .i64 0, .int .i64 0, .int .i64 0, .int .i64 0, .int .i64 0, .slice none 0 0, .slice none 0 0, .slice none 0 0, .int .i64 0] 68 (0, 0))
  prob : u.heap[Q]? = some (.cells #[.int .i64 x0, .int .i64 y0, .int .i64 z0, .int .i64 x1, .int .i64 y1, .int .i64 z1, .int .i64 step, vl, vh, vp, .int .i64 cap] 68 (0, 0))
  pos : u.heap[X]? = some (.cells #[.int .i64 px, .int .i64 py, .int .i64 pz] 26 (0, 0))
  own : u.ownsRow (X + 1) 30 6 vp l.length (flatP l)
  low : Sl u vl ls
  high : Sl u vh hs
  lowAt : ∀ b off len cap, vl = .slice (some ⟨b, off, none⟩) len cap → w.heap.size < b ∧ b < Q
  highAt : ∀ b off len cap, vh = .slice (some ⟨b, off, none⟩) len cap → w.heap.size < b ∧ b < Q
  order : p < w.heap.size ∧ w.heap.size < Q ∧ Q < X
  src : Src B u p
  grown : w.grownBy u (some p)
section
variable {w : World} {B p Q X : Nat} {x0 y0 z0 x1 y1 z1 step : Int} {ls hs : List Int} {vl vh : Value} {cap px py pz : Int} {l : List Ph} {vp : Value} {u u' : World}
/-- One block a that is none of its own is written. -/
theorem PrAt.other {a : Nat} (h : PrAt w B p Q X x0 y0 z0 x1 y1 z1 step ls hs vl vh cap px py pz l vp u) (hg : u.grownBy u' (some a)) (ha : X < a) (hv : vp.ownBlock ≠ some a) : PrAt w B p Q X x0 y0 z0 x1 y1 z1 step ls hs vl vh cap px py pz l vp u' := by
  obtain ⟨o1, o2, o3⟩ := h.order
  refine ⟨block_keptp hg h.res (by omega), block_keptp hg h.prob (by omega), block_keptp hg h.pos (by omega), h.own.kept hg (.inr hv), h.low.later hg (fun b off len cap e _ => by have := (h.lowAt b off len cap e).2; simp; omega), h.high.later hg (fun b off len cap e _ => by have := (h.highAt b off len cap e).2; simp; omega), h.lowAt, h.highAt, h.order, h.src.later hg (fun q hq => by simp at hq; have := h.src.lt; omega), ?_⟩
  exact ⟨hg.os.trans h.grown.os, hg.tape.trans h.grown.tape, hg.output.trans h.grown.output, Nat.le_trans h.grown.size hg.size, fun i hi hr => (hg.block i (Nat.lt_of_lt_of_le hi h.grown.size) (by simp; omega)).trans (h.grown.block i hi hr)⟩
theorem PrAt.later (h : PrAt w B p Q X x0 y0 z0 x1 y1 z1 step ls hs vl vh cap px py pz l vp u) (hg : u.grownBy u' none) : PrAt w B p Q X x0 y0 z0 x1 y1 z1 step ls hs vl vh cap px py pz l vp u' :=
  ⟨block_kept hg h.res rfl, block_kept hg h.prob rfl, block_kept hg h.pos rfl, owns_keep h.own hg, h.low.after hg, h.high.after hg, h.lowAt, h.highAt, h.order, h.src.later hg (by simp), gb_trans h.grown (gb_none hg)⟩
theorem PrAt.draw (h : PrAt w B p Q X x0 y0 z0 x1 y1 z1 step ls hs vl vh cap px py pz l vp u) (hg : u.grownBy u' (some p)) (hs' : Src B u' p) : PrAt w B p Q X x0 y0 z0 x1 y1 z1 step ls hs vl vh cap px py pz l vp u' := by
  obtain ⟨o1, o2, o3⟩ := h.order
  exact ⟨block_keptp hg h.res (by omega), block_keptp hg h.prob (by omega), block_keptp hg h.pos (by omega), owns_keepp h.own hg (by omega), h.low.later hg (fun b off len cap e _ => by have := (h.lowAt b off len cap e).1; simp; omega), h.high.later hg (fun b off len cap e _ => by have := (h.highAt b off len cap e).1; simp; omega), h.lowAt, h.highAt, h.order, hs', gb_trans h.grown hg⟩
/-- The row of phases has grown, and its new value is stored. -/
theorem PrAt.push {a : Ph} {vp' : Value} (h : PrAt w B p Q X x0 y0 z0 x1 y1 z1 step ls hs vl vh cap px py pz l vp u) (hg : u.grownBy u' vp.ownBlock) (ho : u'.ownsRow (X + 1) 30 6 vp' (l.length + 1) (flatP l ++ a.cells)) :
    PrAt w B p Q X x0 y0 z0 x1 y1 z1 step ls hs vl vh cap px py pz (l ++ [a]) vp' (u'.setCell ⟨Q, 9, none⟩ vp') := by
  obtain ⟨o1, o2, o3⟩ := h.order
  have hne : ∀ b, vp.ownBlock = some b → X + 1 ≤ b := fun b hb => (h.own.lt b hb).1
  have far : ∀ {b : Nat} {o : Obj}, u.heap[b]? = some o → b ≤ X → u'.heap[b]? = some o := fun {b} {o} hb hX => by
    rw [hg.block b (Array.getElem?_eq_some_iff.1 hb).1 (fun e => by have := hne b e.symm; omega)]; exact hb
  have sgr : u'.grownBy (u'.setCell ⟨Q, 9, none⟩ vp') (some Q) := gb_setCell (gb_refl _ _) (.inr rfl) _
  refine ⟨(setCell_far (by show w.heap.size ≠ Q; omega)).trans (far h.res (by omega)), set_block (far h.prob (by omega)) 9 vp', (setCell_far (by show X ≠ Q; omega)).trans (far h.pos (by omega)), ?_, ?_, ?_, h.lowAt, h.highAt, h.order, ?_, ?_⟩
  · rw [List.length_append, show flatP (l ++ [a]) = flatP l ++ a.cells by simp [flatP]]
    exact ho.kept sgr (.inr (fun e => by have := (ho.lt Q e).1; omega))
  · exact (h.low.later hg (fun b off len cap e _ he => by have := hne b he.symm; have := (h.lowAt b off len cap e).2; omega)).later sgr (fun b off len cap e _ => by have := (h.lowAt b off len cap e).2; simp; omega)
  · exact (h.high.later hg (fun b off len cap e _ he => by have := hne b he.symm; have := (h.highAt b off len cap e).2; omega)).later sgr (fun b off len cap e _ => by have := (h.highAt b off len cap e).2; simp; omega)
  · exact (h.src.later hg (fun q hq => by have := hne q hq; have := h.src.lt; omega)).later sgr (fun q hq => by simp at hq; have := h.src.lt; omega)
  · exact ⟨hg.os.trans h.grown.os, hg.tape.trans h.grown.tape, hg.output.trans h.grown.output, Nat.le_trans h.grown.size (by simpa [World.setCell] using hg.size), fun i hi hr => by
      rw [setCell_far (by show i ≠ Q; omega), hg.block i (Nat.lt_of_lt_of_le hi h.grown.size) (fun e => by have := hne i e.symm; omega)]; exact h.grown.block i hi hr⟩
end
theorem Try.infoPhaseT : (Try.prog.info? 30).map (fun i => (i.zero, i.size, i.bytes)) = some (some (.agg #[.int .i64 0, .int .i64 0, .int .i64 0, .int .i64 0, .int .i64 0, .int .i64 0]), 6, 48) := by kernel_rfl
/-- What Problem returns. -/
def NewProb (B p : Nat) (side most : Int) (w : World) (e : Ending) (w' : World) : Prop :=
  ∃ (P : Prob) (vl vh vp : Value), e = .returned (.agg (P.val vl vh vp)) ∧ boxIn 20 side P.x0 P.y0 P.z0 P.x1 P.y1 P.z1 ∧ tOk P.step P.ls P.hs ∧ (400 ≤ reachS P.step P.ls ∧ reachS P.step P.ls ≤ 2200) ∧ P.ls.length ≤ 23 ∧ P.cap ∈ ([10, 50, 200, 1000] : List Int) ∧ (0 < P.phs.length ∧ (P.phs.length : Int) ≤ most) ∧ (∀ a ∈ P.phs, goodPh a) ∧
    ProbIn P vl vh vp w' ∧ (∀ v, v = vl ∨ v = vh ∨ v = vp → ∀ b off len cap, v = .slice (some ⟨b, off, none⟩) len cap → w.heap.size ≤ b) ∧ Src B w' p ∧ w.grownBy w' (some p)
theorem sqk_any (n : Int) (w : World) (h1 : -4194304 ≤ n) (h2 : n ≤ 4194304) :
    Calls Try.prog 81 #[.int .i64 n] w fun e w' => e = .returned (.int .i64 (n * n)) ∧ w = w' := by
  obtain ⟨s0, s1, s2⟩ := sq_small (d := n) h1 h2
  generalize hq : n * n = q at *
  go_enter Try.func81, Try.ntmps81
  go_wp2
  go_ret
  exact ⟨rfl, rfl⟩
end Go.Proofs.Ytkckcaijfedijaa
