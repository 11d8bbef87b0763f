/- DetW -/
import Derived.Test.YtlddgafbgaaiiaaGreatDoorTsDetL
namespace Go.Proofs.YtlddgafbgaaiiaaGreatDoor
set_option linter.all false
open Go.RowKit Rg
def lookAll (s l n f : Int) : Wt → List Int → Wt × List Tg
  | t, [] => (t, [])
  | t, x :: xs => ((lookAll s l n f (lookV s l n f t x).1 xs).1, (lookV s l n f t x).2 ++ (lookAll s l n f (lookV s l n f t x).1 xs).2)
theorem lookAll_append (s l n f : Int) : ∀ (xs ys : List Int) (t : Wt), lookAll s l n f t (xs ++ ys) = ((lookAll s l n f (lookAll s l n f t xs).1 ys).1, (lookAll s l n f t xs).2 ++ (lookAll s l n f (lookAll s l n f t xs).1 ys).2)
  | [], ys, t => by simp [lookAll]
  | x :: xs, ys, t => by simp [lookAll, lookAll_append s l n f xs ys]
theorem lookAll_snoc (s l n f : Int) (xs : List Int) (x : Int) (t : Wt) : lookAll s l n f t (xs ++ [x]) = ((lookV s l n f (lookAll s l n f t xs).1 x).1, (lookAll s l n f t xs).2 ++ (lookV s l n f (lookAll s l n f t xs).1 x).2) := by
  rw [lookAll_append]; simp [lookAll]
/-- What a watch is like. -/
structure WtOk (l : Int) (t : Wt) : Prop where
  px : ∀ y ∈ t.past, 0 ≤ y ∧ y ≤ 1000
  pl : (t.past.length : Int) < l
  c1 : t.past.length ≤ t.count
  c2 : (t.past.length : Int) < l - 1 → t.count = t.past.length
  op : OpenOk l t.count t.on t.off t.pk
theorem WtOk.start {l : Int} (h : 1 < l) : WtOk l ⟨[], 0, -1, 0, 0⟩ := ⟨by simp, by simp; omega, by simp, by simp, ⟨by simp, by simp⟩⟩
theorem WtOk.on1 {l : Int} {t : Wt} (h : WtOk l t) : -1 ≤ t.on := by
  by_cases e : t.on = -1
  · omega
  · have := (h.op.yes e).2.1; omega
theorem WtOk.on2 {l : Int} {t : Wt} (h : WtOk l t) (h0 : 0 ≤ t.count) : t.on ≤ t.count := by
  by_cases e : t.on = -1
  · omega
  · have := (h.op.yes e).2.1; omega
theorem cutP_len {l : Int} {p : List Int} (h : (p.length : Int) ≤ l) (h1 : 1 < l) : ((cutP l p).length : Int) < l ∧ ((cutP l p).length = p.length ∧ (p.length : Int) < l ∨ (cutP l p).length + 1 = p.length ∧ (p.length : Int) = l) := by
  unfold cutP
  split
  · rename_i e; simp; omega
  · rename_i e; constructor <;> omega
theorem WtOk.look {s l n f : Int} {t : Wt} {x : Int} (h : WtOk l t) (hl : 1 < l) (hx : -1000 ≤ x ∧ x ≤ 1000) : WtOk l (lookV s l n f t x).1 := by
  obtain ⟨a, ha⟩ : ∃ a, max x (-x) = a := ⟨_, rfl⟩
  have hab : 0 ≤ a ∧ a ≤ 1000 := by omega
  have hlen : (t.past ++ [a]).length = t.past.length + 1 := by simp
  have hq := cutP_len (l := l) (p := t.past ++ [a]) (by have := h.pl; omega) hl
  have hpl := h.pl; have hc1 := h.c1; have hc2 := h.c2
  simp only [lookV, ha]
  refine ⟨fun y hy => ?_, hq.1, by simp only []; omega, fun hh => by simp only [] at hh ⊢; omega, ?_⟩
  · have hm : y ∈ t.past ++ [a] := by
      unfold cutP at hy
      split at hy
      · exact List.mem_of_mem_tail hy
      · exact hy
    rcases List.mem_append.1 hm with h1 | h1
    · exact h.px y h1
    · simp at h1; subst h1; exact hab
  · simp only [sw]
    have ho := h.op
    split
    · rename_i hcl
      split
      · rename_i h0
        have hne : t.on ≠ -1 := by omega
        obtain ⟨k1, k2, k3, k4⟩ := ho.yes hne
        split
        · exact ⟨fun e => absurd e hne, fun _ => ⟨by omega, by simp only []; omega, k3, by simp only [pkM, if_pos h0]; omega⟩⟩
        · exact ⟨fun _ => ⟨rfl, rfl⟩, fun e => absurd rfl e⟩
      · rename_i h0
        split
        · have hcn : 0 ≤ t.count + 1 - 1 := by omega
          exact ⟨fun e => by simp only [] at e; omega, fun _ => ⟨hcl, by simp only []; omega, rfl, by simp only [pkM, if_pos hcn]; omega⟩⟩
        · have hm1 : t.on = -1 := by
            by_cases e : t.on = -1
            · exact e
            · have := (ho.yes e).2.1; omega
          exact ⟨fun _ => ⟨(ho.no hm1).1, by simp only [pkM, if_neg h0]; exact (ho.no hm1).2⟩, fun e => absurd hm1 e⟩
    · rename_i hcl
      by_cases e : t.on = -1
      · have h0 : ¬ 0 ≤ t.on := by omega
        exact ⟨fun _ => ⟨(ho.no e).1, by simp only [pkM, if_neg h0]; exact (ho.no e).2⟩, fun e' => absurd e e'⟩
      · have := (ho.yes e).1; omega
theorem lookV_count (s l n f : Int) (t : Wt) (x : Int) : (lookV s l n f t x).1.count = t.count + 1 := rfl
theorem lookV_len (s l n f : Int) (t : Wt) (x : Int) : (lookV s l n f t x).2.length ≤ 1 := by
  simp only [lookV, sw]
  split
  · split <;> split <;> simp
  · simp
theorem lookAll_ok {s l n f : Int} (hl : 1 < l) : ∀ (xs : List Int) (t : Wt), WtOk l t → (∀ x ∈ xs, -1000 ≤ x ∧ x ≤ 1000) → WtOk l (lookAll s l n f t xs).1 ∧ (lookAll s l n f t xs).1.count = t.count + xs.length ∧ (lookAll s l n f t xs).2.length ≤ xs.length
  | [], t, h, _ => ⟨h, by simp [lookAll], by simp [lookAll]⟩
  | x :: xs, t, h, hx => by
    obtain ⟨h1, h2, h3⟩ := lookAll_ok hl xs _ (h.look (s := s) (n := n) (f := f) hl (hx x List.mem_cons_self)) (fun y hy => hx y (List.mem_cons_of_mem _ hy))
    refine ⟨h1, ?_, ?_⟩
    · show (lookAll s l n f (lookV s l n f t x).1 xs).1.count = _
      rw [h2, lookV_count]; simp; omega
    · show ((lookV s l n f t x).2 ++ (lookAll s l n f (lookV s l n f t x).1 xs).2).length ≤ _
      have := lookV_len s l n f t x
      simp; omega
theorem absS_nn {l : List Int} (h : ∀ y ∈ l, 0 ≤ y ∧ y ≤ 1000) : absS l = l.sum := by
  induction l with
  | nil => rfl
  | cons a l ih =>
    have h1 := h a List.mem_cons_self
    have h2 := ih (fun y hy => h y (List.mem_cons_of_mem _ hy))
    simp only [absS, List.map_cons, List.sum_cons] at h2 ⊢
    omega
end Go.Proofs.YtlddgafbgaaiiaaGreatDoor
