/- Of no program: rows in ascending order, and their middle. -/
import Derived.Test.YtmgfdfbhfhmekaaGreatBase
namespace Go.Proofs.YtmgfdfbhfhmekaaGreat
set_option linter.all false

/-- In ascending order. -/
def srt (l : List Int) : List Int := l.mergeSort fun x y => decide (x ≤ y)
theorem srt_perm (l : List Int) : (srt l).Perm l := List.mergeSort_perm _ _
theorem srt_len (l : List Int) : (srt l).length = l.length := (srt_perm l).length_eq
theorem srt_sorted (l : List Int) : (srt l).Pairwise (fun x y => x ≤ y) := by
  have := List.pairwise_mergeSort (le := fun x y : Int => decide (x ≤ y)) (fun a b c h1 h2 => by simp at *; omega) (fun a b => by simp; omega) l
  exact this.imp (fun h => by simpa using h)
/-- Two rows in ascending order of the same numbers are equal. -/
theorem sorted_eq : ∀ {l m : List Int}, l.Pairwise (fun x y => x ≤ y) → m.Pairwise (fun x y => x ≤ y) → l.Perm m → l = m
  | [], m, _, _, h => by simpa using h.symm.eq_nil
  | a :: l, [], _, _, h => by simpa using h.eq_nil
  | a :: l, b :: m, h1, h2, h => by
    rw [List.pairwise_cons] at h1 h2
    have e1 : a ∈ b :: m := h.subset (by simp)
    have e2 : b ∈ a :: l := h.symm.subset (by simp)
    have e : a = b := by
      rcases List.mem_cons.1 e1 with e | e
      · exact e
      rcases List.mem_cons.1 e2 with f | f
      · exact f.symm
      have := h1.1 b f; have := h2.1 a e; omega
    subst e
    rw [sorted_eq h1.2 h2.2 ((List.perm_cons a).1 h)]
theorem srt_congr {l m : List Int} (h : l.Perm m) : srt l = srt m := sorted_eq (srt_sorted _) (srt_sorted _) ((srt_perm l).trans (h.trans (srt_perm m).symm))
theorem srt_of {l m : List Int} (h : m.Pairwise (fun x y => x ≤ y)) (hp : m.Perm l) : srt l = m := sorted_eq (srt_sorted _) h ((srt_perm l).trans hp.symm)
theorem sorted_le_iff : ∀ {s : List Int} {k : Nat} {t : Int}, s.Pairwise (fun x y => x ≤ y) → (hk : k < s.length) → (s[k] ≤ t ↔ k < s.countP (fun x => decide (x ≤ t)))
  | a :: s, 0, t, h, _ => by
    rw [List.pairwise_cons] at h
    by_cases ha : a ≤ t
    · simp [List.countP_cons, ha]
    · have : s.countP (fun x => decide (x ≤ t)) = 0 := by
        rw [List.countP_eq_zero]
        intro x hx
        have := h.1 x hx
        simp; omega
      simp [List.countP_cons, ha, this]
  | a :: s, k + 1, t, h, hk => by
    rw [List.pairwise_cons] at h
    have hk' : k < s.length := by simpa using hk
    have ih := sorted_le_iff (t := t) h.2 hk'
    have hm := h.1 s[k] (List.getElem_mem hk')
    rw [List.getElem_cons_succ, ih, List.countP_cons]
    by_cases ha : a ≤ t
    · simp [ha]
    · have : s.countP (fun x => decide (x ≤ t)) = 0 := by
        rw [List.countP_eq_zero]
        intro x hx
        have := h.1 x hx
        simp; omega
      simp [ha, this]
theorem countP_le_of : ∀ {l m : List Int}, l.length = m.length → (∀ i (h1 : i < l.length) (h2 : i < m.length), l[i] ≤ m[i]) → ∀ t : Int, m.countP (fun x => decide (x ≤ t)) ≤ l.countP (fun x => decide (x ≤ t))
  | [], [], _, _, t => by simp
  | a :: l, b :: m, hl, h, t => by
    have h0 := h 0 (by simp) (by simp)
    have ih := countP_le_of (l := l) (m := m) (by simpa using hl) (fun i h1 h2 => by have := h (i + 1) (by simpa using h1) (by simpa using h2); simpa using this) t
    simp only [List.getElem_cons_zero] at h0
    rw [List.countP_cons, List.countP_cons]
    by_cases hb : b ≤ t
    · have ha : a ≤ t := by omega
      simp [ha, hb]; exact ih
    · simp [hb]; omega
/-- Rows one of which is at no place greater: so are they in order. -/
theorem srt_mono {l m : List Int} (hl : l.length = m.length) (h : ∀ i (h1 : i < l.length) (h2 : i < m.length), l[i] ≤ m[i]) (k : Nat) (h1 : k < (srt l).length) (h2 : k < (srt m).length) : (srt l)[k] ≤ (srt m)[k] := by
  rw [sorted_le_iff (srt_sorted l) h1, (srt_perm l).countP_eq]
  have := (sorted_le_iff (srt_sorted m) h2).1 (Int.le_refl _)
  rw [(srt_perm m).countP_eq] at this
  have := countP_le_of hl h (srt m)[k]
  omega
/-- The middle. -/
def med (l : List Int) : Int := (srt l)[(l.length - 1) / 2]?.getD 0
theorem med_congr {l m : List Int} (h : l.Perm m) : med l = med m := by unfold med; rw [srt_congr h, h.length_eq]
theorem med_mono {l m : List Int} (hl : l.length = m.length) (h : ∀ i (h1 : i < l.length) (h2 : i < m.length), l[i] ≤ m[i]) : med l ≤ med m := by
  unfold med
  by_cases h0 : l.length = 0
  · rw [List.getElem?_eq_none (by rw [srt_len]; omega), List.getElem?_eq_none (by rw [srt_len]; omega)]; exact Int.le_refl _
  · have h1 : (l.length - 1) / 2 < (srt l).length := by rw [srt_len]; omega
    have h2 : (m.length - 1) / 2 < (srt m).length := by rw [srt_len]; omega
    rw [List.getElem?_eq_getElem h1, List.getElem?_eq_getElem h2]
    simp only [← hl] at h2 ⊢
    exact srt_mono hl h _ h1 h2
/-- A number put into a row in ascending order, ahead of the first that is not less. -/
def insAt (out : List Int) (x : Int) : List Int := out.takeWhile (fun y => decide (y < x)) ++ x :: out.dropWhile (fun y => decide (y < x))
theorem insAt_perm (out : List Int) (x : Int) : (insAt out x).Perm (out ++ [x]) := by
  unfold insAt
  have h : (out ++ [x]).Perm (x :: out) := List.perm_append_comm
  refine List.Perm.trans ?_ h.symm
  refine List.perm_middle.trans ?_
  rw [List.takeWhile_append_dropWhile]
theorem insAt_sorted : ∀ {out : List Int} {x : Int}, out.Pairwise (fun x y => x ≤ y) → (insAt out x).Pairwise (fun x y => x ≤ y)
  | [], x, _ => by simp [insAt]
  | a :: out, x, h => by
    rw [List.pairwise_cons] at h
    unfold insAt
    by_cases ha : a < x
    · rw [List.takeWhile_cons_of_pos (by simpa using ha), List.dropWhile_cons_of_pos (by simpa using ha), List.cons_append, List.pairwise_cons]
      refine ⟨fun y hy => ?_, insAt_sorted h.2⟩
      have : y ∈ out ++ [x] := (insAt_perm out x).subset hy
      rcases List.mem_append.1 this with hy | hy
      · exact h.1 y hy
      · simp at hy; omega
    · rw [List.takeWhile_cons_of_neg (by simpa using ha), List.dropWhile_cons_of_neg (by simpa using ha), List.nil_append, List.pairwise_cons, List.pairwise_cons]
      refine ⟨fun y hy => ?_, h⟩
      rcases List.mem_cons.1 hy with rfl | hy
      · omega
      · have := h.1 y hy; omega
theorem srt_snoc (l : List Int) (x : Int) : srt (l ++ [x]) = insAt (srt l) x :=
  srt_of (insAt_sorted (srt_sorted l)) ((insAt_perm _ _).trans ((srt_perm l).append_right [x]))
end Go.Proofs.YtmgfdfbhfhmekaaGreat
