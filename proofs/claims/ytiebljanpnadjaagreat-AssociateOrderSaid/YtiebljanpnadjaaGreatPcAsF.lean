/- AsF -/
import Derived.Test.YtiebljanpnadjaaGreatPcAsD
namespace Go.Proofs.YtiebljanpnadjaaGreat
set_option linter.all false
open Go.RowKit Rg
theorem gb_newp {w u u' : World} {r row : Option Nat} (h : w.grownBy u r) (hg : u.grownBy u' row) (hq : ∀ q, row = some q → w.heap.size ≤ q) : w.grownBy u' r :=
  ⟨hg.os.trans h.os, hg.tape.trans h.tape, hg.output.trans h.output, Nat.le_trans h.size hg.size, fun i hi hr => (hg.block i (Nat.lt_of_lt_of_le hi h.size) (fun e => by have := hq i e.symm; omega)).trans (h.block i hi hr)⟩
structure PsAt (w : World) (B p X : Nat) (cs : Array Value) (px py pz : Int) (l : List Ph) (vp vl : Value) (ls : List Int) (u : World) : Prop where
  arg : u.heap[w.heap.size]? = some (.cells cs 30 (0, 0))
  pos : u.heap[X]? = some (.cells #[.int .i64 px, .int .i64 py, .int .i64 pz] 23 (0, 0))
  own : u.ownsRow (X + 1) 51 6 vp l.length (flatP l)
  low : Sl u vl ls
  lowAt : ∀ b off len cap, vl = .slice (some ⟨b, off, none⟩) len cap → b < w.heap.size ∧ b ≠ p
  order : p < w.heap.size ∧ w.heap.size < X
  src : Src B u p
  grown : w.grownBy u (some p)
section
variable {w u u' : World} {B p X : Nat} {cs : Array Value} {px py pz : Int} {l : List Ph} {vp vl : Value} {ls : List Int}
theorem PsAt.later (h : PsAt w B p X cs px py pz l vp vl ls u) (hg : u.grownBy u' none) : PsAt w B p X cs px py pz l vp vl ls u' :=
  ⟨block_kept hg h.arg rfl, block_kept hg h.pos rfl, owns_keep h.own hg, h.low.after hg, h.lowAt, h.order, h.src.later hg (by simp), gb_trans h.grown (gb_none hg)⟩
theorem PsAt.draw (h : PsAt w B p X cs px py pz l vp vl ls u) (hg : u.grownBy u' (some p)) (hs' : Src B u' p) : PsAt w B p X cs px py pz l vp vl ls u' := by
  obtain ⟨o1, o2⟩ := h.order
  exact ⟨block_keptp hg h.arg (by omega), block_keptp hg h.pos (by omega), owns_keepp h.own hg (by omega), h.low.later hg (fun b off len cap e _ => by have := (h.lowAt b off len cap e).2; simpa using this), h.lowAt, h.order, hs', gb_trans h.grown hg⟩
/-- One block a that is none of its own is written. -/
theorem PsAt.other {a : Nat} (h : PsAt w B p X cs px py pz l vp vl ls u) (hg : u.grownBy u' (some a)) (ha : X < a) (hv : vp.ownBlock ≠ some a) : PsAt w B p X cs px py pz l vp vl ls u' := by
  obtain ⟨o1, o2⟩ := h.order
  exact ⟨block_keptp hg h.arg (by omega), block_keptp hg h.pos (by omega), h.own.kept hg (.inr hv), h.low.later hg (fun b off len cap e _ => by have := (h.lowAt b off len cap e).1; simp; omega), h.lowAt, h.order, h.src.later hg (fun q hq => by simp at hq; have := h.src.lt; omega), gb_newp h.grown hg (fun q hq => by simp at hq; omega)⟩
/-- The origin has moved. -/
theorem PsAt.move {qx qy qz : Int} (h : PsAt w B p X cs px py pz l vp vl ls u) (hg : u.grownBy u' (some X)) (hx : u'.heap[X]? = some (.cells #[.int .i64 qx, .int .i64 qy, .int .i64 qz] 23 (0, 0))) : PsAt w B p X cs qx qy qz l vp vl ls u' := by
  obtain ⟨o1, o2⟩ := h.order
  exact ⟨block_keptp hg h.arg (by omega), hx, owns_keepp h.own hg (by omega), h.low.later hg (fun b off len cap e _ => by have := (h.lowAt b off len cap e).1; simp; omega), h.lowAt, h.order, h.src.later hg (fun q hq => by simp at hq; have := h.src.lt; omega), gb_newp h.grown hg (fun q hq => by simp at hq; omega)⟩
/-- One more phase. -/
theorem PsAt.push {a : Ph} {vp' : Value} (h : PsAt w B p X cs px py pz l vp vl ls u) (hg : u.grownBy u' vp.ownBlock) (ho : u'.ownsRow (X + 1) 51 6 vp' (l.length + 1) (flatP l ++ a.cells)) : PsAt w B p X cs px py pz (l ++ [a]) vp' vl ls u' := by
  obtain ⟨o1, o2⟩ := h.order
  have hne : ∀ b, vp.ownBlock = some b → X + 1 ≤ b := fun b hb => (h.own.lt b hb).1
  have far : ∀ {b : Nat} {o : Obj}, u.heap[b]? = some o → b ≤ X → u'.heap[b]? = some o := fun {b} {o} hb hX => by
    rw [hg.block b (Array.getElem?_eq_some_iff.1 hb).1 (fun e => by have := hne b e.symm; omega)]; exact hb
  refine ⟨far h.arg (by omega), far h.pos (Nat.le_refl _), ?_, h.low.later hg (fun b off len cap e _ he => by have := hne b he.symm; have := (h.lowAt b off len cap e).1; omega), h.lowAt, h.order, h.src.later hg (fun q hq => by have := hne q hq; have := h.src.lt; omega), gb_newp h.grown hg (fun q hq => by have := hne q hq; omega)⟩
  rw [List.length_append, show flatP (l ++ [a]) = flatP l ++ a.cells by simp [flatP]]
  exact ho
end
/-- A phase that the reader draws. -/
def soonPh (a : Ph) : Prop := goodPh a ∧ a.e ≤ 40000 ∧ a.l ≤ 50000
/-- What Phases returns. -/
def NewPhs (B p : Nat) (most : Int) (w : World) (e : Ending) (w' : World) : Prop :=
  ∃ (l : List Ph) (va : Option Addr) (vc : Nat), e = .returned (.slice va l.length vc) ∧ (l.length : Int) ≤ most ∧ (∀ a ∈ l, soonPh a) ∧ w'.ownsRow w.heap.size 51 6 (.slice va l.length vc) l.length (flatP l) ∧ (∀ b off, va = some ⟨b, off, none⟩ → w.heap.size ≤ b) ∧ Src B w' p ∧ w.grownBy w' (some p)
end Go.Proofs.YtiebljanpnadjaaGreat
