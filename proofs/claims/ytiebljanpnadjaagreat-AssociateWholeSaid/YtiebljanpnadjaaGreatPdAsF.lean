/- AsF AsJ -/
import Derived.ArgAppend
import Derived.Deep.Upon
import Derived.BigRegion
import Derived.Deep.AppendLies
import Derived.Laws.OwnMore
import Derived.Test.YtiebljanpnadjaaGreatPdRgMade
import Derived.Test.YtiebljanpnadjaaGreatPdRgPos
import Derived.Test.YtiebljanpnadjaaGreatPdMem
import Derived.Test.YtiebljanpnadjaaGreatPdMis
import Derived.Test.YtiebljanpnadjaaGreatPdAsD
import Derived.Test.YtiebljanpnadjaaGreatPdAsY
namespace Go.Proofs.YtiebljanpnadjaaGreat
set_option linter.all false
open Go.RowKit Rg
theorem gb_newp {w u u' : World} {r row : Option Nat} (h : w.grownBy u r) (hg : u.grownBy u' row) (hq : ∀ q, row = some q → w.heap.size ≤ q) : w.grownBy u' r :=
  ⟨hg.os.trans h.os, hg.tape.trans h.tape, hg.output.trans h.output, Nat.le_trans h.size hg.size, fun i hi hr => (hg.block i (Nat.lt_of_lt_of_le hi h.size) (fun e => by have := hq i e.symm; omega)).trans (h.block i hi hr)⟩
structure PsAt (w : World) (B p X : Nat) (cs : Array Value) (px py pz : Int) (l : List Ph) (vp vl : Value) (ls : List Int) (u : World) : Prop where
  arg : u.heap[w.heap.size]? = some (.cells cs 30 (0, 0))
  pos : u.heap[X]? = some (.cells #[.int .i64 px, .int .i64 py, .int .i64 pz] 23 (0, 0))
  own : u.ownsRow (X + 1) 51 6 vp l.length (flatP l)
  low : Sl u vl ls
  lowAt : ∀ b off len cap, vl = .slice (some ⟨b, off, none⟩) len cap → b < w.heap.size ∧ b ≠ p
  order : p < w.heap.size ∧ w.heap.size < X
  src : Src B u p
  grown : w.grownBy u (some p)
section
variable {w u u' : World} {B p X : Nat} {cs : Array Value} {px py pz : Int} {l : List Ph} {vp vl : Value} {ls : List Int}
theorem PsAt.later (h : PsAt w B p X cs px py pz l vp vl ls u) (hg : u.grownBy u' none) : PsAt w B p X cs px py pz l vp vl ls u' :=
  ⟨block_kept hg h.arg rfl, block_kept hg h.pos rfl, owns_keep h.own hg, h.low.after hg, h.lowAt, h.order, h.src.later hg (by simp), gb_trans h.grown (gb_none hg)⟩
theorem PsAt.draw (h : PsAt w B p X cs px py pz l vp vl ls u) (hg : u.grownBy u' (some p)) (hs' : Src B u' p) : PsAt w B p X cs px py pz l vp vl ls u' := by
  obtain ⟨o1, o2⟩ := h.order
  exact ⟨block_keptp hg h.arg (by omega), block_keptp hg h.pos (by omega), owns_keepp h.own hg (by omega), h.low.later hg (fun b off len cap e _ => by have := (h.lowAt b off len cap e).2; simpa using this), h.lowAt, h.order, hs', gb_trans h.grown hg⟩
/-- One block a that is none of its own is written. -/
theorem PsAt.other {a : Nat} (h : PsAt w B p X cs px py pz l vp vl ls u) (hg : u.grownBy u' (some a)) (ha : X < a) (hv : vp.ownBlock ≠ some a) : PsAt w B p X cs px py pz l vp vl ls u' := by
  obtain ⟨o1, o2⟩ := h.order
  exact ⟨block_keptp hg h.arg (by omega), block_keptp hg h.pos (by omega), h.own.kept hg (.inr hv), h.low.later hg (fun b off len cap e _ => by have := (h.lowAt b off len cap e).1; simp; omega), h.lowAt, h.order, h.src.later hg (fun q hq => by simp at hq; have := h.src.lt; omega), gb_newp h.grown hg (fun q hq => by simp at hq; omega)⟩
/-- The origin has moved. -/
theorem PsAt.move {qx qy qz : Int} (h : PsAt w B p X cs px py pz l vp vl ls u) (hg : u.grownBy u' (some X)) (hx : u'.heap[X]? = some (.cells #[.int .i64 qx, .int .i64 qy, .int .i64 qz] 23 (0, 0))) : PsAt w B p X cs qx qy qz l vp vl ls u' := by
  obtain ⟨o1, o2⟩ := h.order
  exact ⟨block_keptp hg h.arg (by omega), hx, owns_keepp h.own hg (by omega), h.low.later hg (fun b off len cap e _ => by have := (h.lowAt b off len cap e).1; simp; omega), h.lowAt, h.order, h.src.later hg (fun q hq => by simp at hq; have := h.src.lt; omega), gb_newp h.grown hg (fun q hq => by simp at hq; omega)⟩
/-- One more phase. -/
theorem PsAt.push {a : Ph} {vp' : Value} (h : PsAt w B p X cs px py pz l vp vl ls u) (hg : u.grownBy u' vp.ownBlock) (ho : u'.ownsRow (X + 1) 51 6 vp' (l.length + 1) (flatP l ++ a.cells)) : PsAt w B p X cs px py pz (l ++ [a]) vp' vl ls u' := by
  obtain ⟨o1, o2⟩ := h.order
  have hne : ∀ b, vp.ownBlock = some b → X + 1 ≤ b := fun b hb => (h.own.lt b hb).1
  have far : ∀ {b : Nat} {o : Obj}, u.heap[b]? = some o → b ≤ X → u'.heap[b]? = some o := fun {b} {o} hb hX => by
    rw [hg.block b (Array.getElem?_eq_some_iff.1 hb).1 (fun e => by have := hne b e.symm; omega)]; exact hb
  refine ⟨far h.arg (by omega), far h.pos (Nat.le_refl _), ?_, h.low.later hg (fun b off len cap e _ he => by have := hne b he.symm; have := (h.lowAt b off len cap e).1; omega), h.lowAt, h.order, h.src.later hg (fun q hq => by have := hne q hq; have := h.src.lt; omega), gb_newp h.grown hg (fun q hq => by have := hne q hq; omega)⟩
  rw [List.length_append, show flatP (l ++ [a]) = flatP l ++ a.cells by simp [flatP]]
  exact ho
end
end Go.Proofs.YtiebljanpnadjaaGreat
namespace Go.Proofs.YtiebljanpnadjaaGreat
set_option linter.all false
open Go.RowKit Rg
section
variable {b0 : Nat} {u u' : World} {L : List Grv} {gv lv : Value} {LF : List Int}
/-- One more group. -/
theorem GsOwn.push {x : Grv} {gv' : Value} (h : GsOwn b0 u L gv lv LF) (hown : u'.ownsRow b0 53 5 gv' (L.length + 1) (flatG L ++ x.cells)) (hg : u.grownBy u' gv.ownBlock) (hv : gv'.ownBlock = gv.ownBlock ∨ gv'.ownBlock = some u.heap.size)
    (hm : Sl u x.mv x.g.ms) (hmb : ∀ b off len cap, x.mv = .slice (some ⟨b, off, none⟩) len cap → b0 ≤ b ∧ b < u.heap.size ∧ gv.ownBlock ≠ some b ∧ lv.ownBlock ≠ some b) : GsOwn b0 u' (L ++ [x]) gv' lv LF := by
  have tap : ∀ y : Grv, (Sl u y.mv y.g.ms ∧ ∀ b off len cap, y.mv = .slice (some ⟨b, off, none⟩) len cap → b0 ≤ b ∧ b < u.heap.size ∧ gv.ownBlock ≠ some b ∧ lv.ownBlock ≠ some b) → (Sl u' y.mv y.g.ms ∧ ∀ b off len cap, y.mv = .slice (some ⟨b, off, none⟩) len cap → b0 ≤ b ∧ b < u'.heap.size ∧ gv'.ownBlock ≠ some b ∧ lv.ownBlock ≠ some b) := by
    rintro y ⟨t1, t2⟩
    refine ⟨t1.later hg (fun b off len cap e _ e2 => (t2 b off len cap e).2.2.1 e2.symm), fun b off len cap e => ?_⟩
    obtain ⟨a1, a2, a3, a4⟩ := t2 b off len cap e
    refine ⟨a1, Nat.lt_of_lt_of_le a2 hg.size, fun e2 => ?_, a4⟩
    rcases hv with hv | hv
    · exact a3 (hv ▸ e2)
    · rw [hv] at e2; simp at e2; omega
  refine ⟨by rw [flatG_snoc, List.length_append, List.length_singleton]; exact hown, ?_, fun y hy => ?_, fun g e e2 => ?_⟩
  · refine h.lr.kept hg ?_
    cases hb : lv.ownBlock with
    | none => exact .inl rfl
    | some g => exact .inr (fun e => h.ap g e.symm hb)
  · rcases List.mem_append.1 hy with hy | hy
    · exact tap y (h.ms y hy)
    · simp only [List.mem_singleton] at hy; subst hy; exact tap y ⟨hm, hmb⟩
  · rcases hv with hv | hv
    · exact h.ap g (hv ▸ e) e2
    · rw [hv] at e; simp at e; have := (h.lr.lt g e2).2; omega
/-- One more is left out. -/
theorem GsOwn.left {x : Int} {lv' : Value} (h : GsOwn b0 u L gv lv LF) (hown : u'.ownsRow b0 3 1 lv' (LF.length + 1) (LF.map (Value.int .i64) ++ [.int .i64 x])) (hg : u.grownBy u' lv.ownBlock) (hv : lv'.ownBlock = lv.ownBlock ∨ lv'.ownBlock = some u.heap.size) : GsOwn b0 u' L gv lv' (LF ++ [x]) := by
  refine ⟨?_, by rw [List.length_append, List.length_singleton, List.map_append]; exact hown, fun y hy => ?_, fun g e e2 => ?_⟩
  · refine h.gr.kept hg ?_
    cases hb : gv.ownBlock with
    | none => exact .inl rfl
    | some g => exact .inr (fun e => h.ap g hb e.symm)
  · obtain ⟨t1, t2⟩ := h.ms y hy
    refine ⟨t1.later hg (fun b off len cap e _ e2 => (t2 b off len cap e).2.2.2 e2.symm), fun b off len cap e => ?_⟩
    obtain ⟨a1, a2, a3, a4⟩ := t2 b off len cap e
    refine ⟨a1, Nat.lt_of_lt_of_le a2 hg.size, a3, fun e2 => ?_⟩
    rcases hv with hv | hv
    · exact a4 (hv ▸ e2)
    · rw [hv] at e2; simp at e2; omega
  · rcases hv with hv | hv
    · exact h.ap g e (hv ▸ e2)
    · rw [hv] at e2; simp at e2; have := (h.gr.lt g e).2; omega
theorem GsOwn.far {row : Option Nat} (h : GsOwn b0 u L gv lv LF) (hg : u.grownBy u' row) (hr : ∀ q, row = some q → q < b0) : GsOwn b0 u' L gv lv LF := by
  have ne : ∀ v : Value, (∀ b, v.ownBlock = some b → b0 ≤ b) → v.ownBlock = none ∨ v.ownBlock ≠ row := fun v hv => by
    cases e : v.ownBlock with
    | none => exact .inl rfl
    | some b => exact .inr (fun e2 => by have := hv b e; have := hr b e2.symm; omega)
  refine ⟨h.gr.kept hg (ne gv fun b e => (h.gr.lt b e).1), h.lr.kept hg (ne lv fun b e => (h.lr.lt b e).1), fun x hx => ?_, h.ap⟩
  obtain ⟨t1, t2⟩ := h.ms x hx
  refine ⟨t1.later hg (fun b off len cap e _ e2 => by have := (t2 b off len cap e).1; have := hr b e2.symm; omega), fun b off len cap e => ?_⟩
  obtain ⟨a1, a2, a3, a4⟩ := t2 b off len cap e
  exact ⟨a1, Nat.lt_of_lt_of_le a2 hg.size, a3, a4⟩
end
theorem GsOwn.mono {b0 b1 : Nat} {u : World} {L : List Grv} {gv lv : Value} {LF : List Int} (h : GsOwn b0 u L gv lv LF) (hb : b1 ≤ b0) : GsOwn b1 u L gv lv LF :=
  ⟨owns_mono h.gr hb, owns_mono h.lr hb, fun x hx => ⟨(h.ms x hx).1, fun b off len cap e => by obtain ⟨a1, a2⟩ := (h.ms x hx).2 b off len cap e; exact ⟨by omega, a2⟩⟩, h.ap⟩
section
end
section
end
end Go.Proofs.YtiebljanpnadjaaGreat
