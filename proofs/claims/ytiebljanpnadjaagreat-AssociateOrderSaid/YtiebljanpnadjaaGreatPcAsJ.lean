/- AsJ -/
import Derived.ArgAppend
import Derived.Deep.Upon
import Derived.BigRegion
import Derived.Deep.AppendLies
import Derived.Laws.OwnMore
import Derived.Test.YtiebljanpnadjaaGreatPcRgMade
import Derived.Test.YtiebljanpnadjaaGreatPcRgPos
import Derived.Test.YtiebljanpnadjaaGreatPcMem
import Derived.Test.YtiebljanpnadjaaGreatPcMis
import Derived.Test.YtiebljanpnadjaaGreatPcAsY
import Derived.Test.YtiebljanpnadjaaGreatPcAsH
namespace Go.Proofs.YtiebljanpnadjaaGreat
set_option linter.all false
open Go.RowKit Rg
section
variable {b0 : Nat} {u u' : World} {L : List Grv} {gv lv : Value} {LF : List Int}
/-- One more group. -/
theorem GsOwn.push {x : Grv} {gv' : Value} (h : GsOwn b0 u L gv lv LF) (hown : u'.ownsRow b0 53 5 gv' (L.length + 1) (flatG L ++ x.cells)) (hg : u.grownBy u' gv.ownBlock) (hv : gv'.ownBlock = gv.ownBlock ∨ gv'.ownBlock = some u.heap.size)
    (hm : Sl u x.mv x.g.ms) (hmb : ∀ b off len cap, x.mv = .slice (some ⟨b, off, none⟩) len cap → b0 ≤ b ∧ b < u.heap.size ∧ gv.ownBlock ≠ some b ∧ lv.ownBlock ≠ some b) : GsOwn b0 u' (L ++ [x]) gv' lv LF := by
  have tap : ∀ y : Grv, (Sl u y.mv y.g.ms ∧ ∀ b off len cap, y.mv = .slice (some ⟨b, off, none⟩) len cap → b0 ≤ b ∧ b < u.heap.size ∧ gv.ownBlock ≠ some b ∧ lv.ownBlock ≠ some b) → (Sl u' y.mv y.g.ms ∧ ∀ b off len cap, y.mv = .slice (some ⟨b, off, none⟩) len cap → b0 ≤ b ∧ b < u'.heap.size ∧ gv'.ownBlock ≠ some b ∧ lv.ownBlock ≠ some b) := by
    rintro y ⟨t1, t2⟩
    refine ⟨t1.later hg (fun b off len cap e _ e2 => (t2 b off len cap e).2.2.1 e2.symm), fun b off len cap e => ?_⟩
    obtain ⟨a1, a2, a3, a4⟩ := t2 b off len cap e
    refine ⟨a1, Nat.lt_of_lt_of_le a2 hg.size, fun e2 => ?_, a4⟩
    rcases hv with hv | hv
    · exact a3 (hv ▸ e2)
    · rw [hv] at e2; simp at e2; omega
  refine ⟨by rw [flatG_snoc, List.length_append, List.length_singleton]; exact hown, ?_, fun y hy => ?_, fun g e e2 => ?_⟩
  · refine h.lr.kept hg ?_
    cases hb : lv.ownBlock with
    | none => exact .inl rfl
    | some g => exact .inr (fun e => h.ap g e.symm hb)
  · rcases List.mem_append.1 hy with hy | hy
    · exact tap y (h.ms y hy)
    · simp only [List.mem_singleton] at hy; subst hy; exact tap y ⟨hm, hmb⟩
  · rcases hv with hv | hv
    · exact h.ap g (hv ▸ e) e2
    · rw [hv] at e; simp at e; have := (h.lr.lt g e2).2; omega
/-- One more is left out. -/
theorem GsOwn.left {x : Int} {lv' : Value} (h : GsOwn b0 u L gv lv LF) (hown : u'.ownsRow b0 3 1 lv' (LF.length + 1) (LF.map (Value.int .i64) ++ [.int .i64 x])) (hg : u.grownBy u' lv.ownBlock) (hv : lv'.ownBlock = lv.ownBlock ∨ lv'.ownBlock = some u.heap.size) : GsOwn b0 u' L gv lv' (LF ++ [x]) := by
  refine ⟨?_, by rw [List.length_append, List.length_singleton, List.map_append]; exact hown, fun y hy => ?_, fun g e e2 => ?_⟩
  · refine h.gr.kept hg ?_
    cases hb : gv.ownBlock with
    | none => exact .inl rfl
    | some g => exact .inr (fun e => h.ap g hb e.symm)
  · obtain ⟨t1, t2⟩ := h.ms y hy
    refine ⟨t1.later hg (fun b off len cap e _ e2 => (t2 b off len cap e).2.2.2 e2.symm), fun b off len cap e => ?_⟩
    obtain ⟨a1, a2, a3, a4⟩ := t2 b off len cap e
    refine ⟨a1, Nat.lt_of_lt_of_le a2 hg.size, a3, fun e2 => ?_⟩
    rcases hv with hv | hv
    · exact a4 (hv ▸ e2)
    · rw [hv] at e2; simp at e2; omega
  · rcases hv with hv | hv
    · exact h.ap g e (hv ▸ e2)
    · rw [hv] at e2; simp at e2; have := (h.gr.lt g e).2; omega
theorem GsOwn.far {row : Option Nat} (h : GsOwn b0 u L gv lv LF) (hg : u.grownBy u' row) (hr : ∀ q, row = some q → q < b0) : GsOwn b0 u' L gv lv LF := by
  have ne : ∀ v : Value, (∀ b, v.ownBlock = some b → b0 ≤ b) → v.ownBlock = none ∨ v.ownBlock ≠ row := fun v hv => by
    cases e : v.ownBlock with
    | none => exact .inl rfl
    | some b => exact .inr (fun e2 => by have := hv b e; have := hr b e2.symm; omega)
  refine ⟨h.gr.kept hg (ne gv fun b e => (h.gr.lt b e).1), h.lr.kept hg (ne lv fun b e => (h.lr.lt b e).1), fun x hx => ?_, h.ap⟩
  obtain ⟨t1, t2⟩ := h.ms x hx
  refine ⟨t1.later hg (fun b off len cap e _ e2 => by have := (t2 b off len cap e).1; have := hr b e2.symm; omega), fun b off len cap e => ?_⟩
  obtain ⟨a1, a2, a3, a4⟩ := t2 b off len cap e
  exact ⟨a1, Nat.lt_of_lt_of_le a2 hg.size, a3, a4⟩
end
theorem GsOwn.mono {b0 b1 : Nat} {u : World} {L : List Grv} {gv lv : Value} {LF : List Int} (h : GsOwn b0 u L gv lv LF) (hb : b1 ≤ b0) : GsOwn b1 u L gv lv LF :=
  ⟨owns_mono h.gr hb, owns_mono h.lr hb, fun x hx => ⟨(h.ms x hx).1, fun b off len cap e => by obtain ⟨a1, a2⟩ := (h.ms x hx).2 b off len cap e; exact ⟨by omega, a2⟩⟩, h.ap⟩
section
end
section
end
/-- One cell of one phase. -/
theorem flatP_put (v : Value) (j : Nat) (hj : j < 6) : ∀ (L : List Ph) (k : Nat) (hk : k < L.length) (a : Ph), a.cells = (L[k].cells).set j v → (flatP L).set (k * 6 + j) v = flatP (L.set k a)
  | b :: L, 0, _, a, h => by
    have e : flatP (b :: L) = b.cells ++ flatP L := by simp [flatP]
    have e2 : flatP ((b :: L).set 0 a) = a.cells ++ flatP L := by simp [flatP]
    rw [e, e2, Nat.zero_mul, Nat.zero_add, List.set_append_left _ _ (by simp [Ph.cells]; omega)]
    rw [h]; rfl
  | b :: L, k + 1, hk, a, h => by
    have e : flatP (b :: L) = b.cells ++ flatP L := by simp [flatP]
    have e2 : flatP ((b :: L).set (k + 1) a) = b.cells ++ flatP (L.set k a) := by simp [flatP]
    have hl : b.cells.length = 6 := rfl
    rw [e, e2, List.set_append_right _ _ (by rw [hl]; omega), hl, show (k + 1) * 6 + j - 6 = k * 6 + j by omega, flatP_put v j hj L k (by simpa using hk) a (by simpa using h)]
end Go.Proofs.YtiebljanpnadjaaGreat
