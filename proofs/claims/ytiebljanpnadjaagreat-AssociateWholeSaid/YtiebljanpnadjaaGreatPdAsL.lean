/- AsL -/
import Derived.Test.YtiebljanpnadjaaGreatPdRefC
import Derived.Test.YtiebljanpnadjaaGreatPdAsV
namespace Go.Proofs.YtiebljanpnadjaaGreat
set_option linter.all false
/-- Phases compared, but for their indices. -/
def cmpA (a b : Ph) : Int := if sgn a.e b.e ≠ 0 then sgn a.e b.e else if sgn a.l b.l ≠ 0 then sgn a.l b.l else if cmpP a.x a.y a.z b.x b.y b.z ≠ 0 then cmpP a.x a.y a.z b.x b.y b.z else sgn a.n b.n
def Ph.key (a : Ph) : List Int := [a.e, a.l, a.x, a.y, a.z, a.n]
theorem sgn_neg {a b : Int} : sgn a b < 0 ↔ a < b := by unfold sgn; split <;> (try split) <;> omega
theorem sgn_zero {a b : Int} : sgn a b = 0 ↔ a = b := by unfold sgn; split <;> (try split) <;> omega
theorem cmpA_neg {a b : Ph} : cmpA a b < 0 ↔ a.key < b.key := by
  unfold cmpA cmpP Ph.key
  simp only [List.cons_lt_cons_iff, List.lt_irrefl, and_false, or_false]
  by_cases h1 : sgn a.e b.e = 0
  · rw [if_neg (by simpa using h1)]
    have h1' := sgn_zero.1 h1
    by_cases h2 : sgn a.l b.l = 0
    · rw [if_neg (by simpa using h2)]
      have h2' := sgn_zero.1 h2
      by_cases h3 : sgn a.x b.x = 0
      · have h3' := sgn_zero.1 h3
        by_cases h4 : sgn a.y b.y = 0
        · have h4' := sgn_zero.1 h4
          by_cases h5 : sgn a.z b.z = 0
          · have h5' := sgn_zero.1 h5
            simp only [h3, h4, h5, ne_eq, not_true_eq_false, if_false]
            rw [sgn_neg]; omega
          · have h5' : ¬ a.z = b.z := fun e => h5 (sgn_zero.2 e)
            simp only [h3, h4, ne_eq, not_true_eq_false, if_false, h5, not_false_eq_true, if_true]
            rw [sgn_neg]; omega
        · have h4' : ¬ a.y = b.y := fun e => h4 (sgn_zero.2 e)
          simp only [h3, ne_eq, not_true_eq_false, if_false, h4, not_false_eq_true, if_true]
          rw [sgn_neg]; omega
      · have h3' : ¬ a.x = b.x := fun e => h3 (sgn_zero.2 e)
        simp only [ne_eq, h3, not_false_eq_true, if_true]
        rw [sgn_neg]; omega
    · have h2' : ¬ a.l = b.l := fun e => h2 (sgn_zero.2 e)
      rw [if_pos h2, sgn_neg]; omega
  · have h1' : ¬ a.e = b.e := fun e => h1 (sgn_zero.2 e)
    rw [if_pos h1, sgn_neg]; omega
def phA (P : List Ph) (i : Nat) : Ph := P[i]?.getD ⟨0, 0, 0, 0, 0, 0⟩
/-- The phase i is less than the phase k. -/
def lessA (P : List Ph) (i k : Nat) : Prop := (phA P i).key < (phA P k).key ∨ ((phA P i).key = (phA P k).key ∧ i < k)
theorem key_tri (a b : List Int) : a < b ∨ a = b ∨ b < a := by
  by_cases h1 : a < b
  · exact .inl h1
  · by_cases h2 : b < a
    · exact .inr (.inr h2)
    · exact .inr (.inl (List.le_antisymm (List.not_lt.1 h2) (List.not_lt.1 h1)))
theorem lessA_asymm {P : List Ph} {i k : Nat} (h : lessA P i k) : ¬ lessA P k i := by
  rintro (h2 | ⟨e2, h2⟩)
  · rcases h with h | ⟨e, h⟩
    · exact List.lt_asymm h h2
    · rw [e] at h2; exact List.lt_irrefl _ h2
  · rcases h with h | ⟨e, h⟩
    · rw [e2] at h; exact List.lt_irrefl _ h
    · omega
theorem lessA_trans {P : List Ph} {i j k : Nat} (h : lessA P i j) (h2 : lessA P j k) : lessA P i k := by
  rcases h with h | ⟨e, h⟩ <;> rcases h2 with h2 | ⟨e2, h2⟩
  · exact .inl (List.lt_trans h h2)
  · exact .inl (e2 ▸ h)
  · exact .inl (e ▸ h2)
  · exact .inr ⟨e.trans e2, by omega⟩
theorem lessA_tri (P : List Ph) (i k : Nat) (h : i ≠ k) : lessA P i k ∨ lessA P k i := by
  rcases key_tri (phA P i).key (phA P k).key with h1 | h1 | h1
  · exact .inl (.inl h1)
  · rcases Nat.lt_or_gt_of_ne h with h2 | h2
    · exact .inl (.inr ⟨h1, h2⟩)
    · exact .inr (.inr ⟨h1.symm, h2⟩)
  · exact .inr (.inl h1)
theorem sorted_uniq {P : List Ph} : ∀ {a b : List Nat}, a.Perm b → a.Pairwise (lessA P) → b.Pairwise (lessA P) → a = b
  | [], b, h, _, _ => (List.nil_perm.1 h).symm
  | x :: a, [], h, _, _ => (List.perm_nil.1 h)
  | x :: a, y :: b, h, h1, h2 => by
    have e : x = y := by
      by_cases e : x = y
      · exact e
      · exfalso
        have hx : x ∈ y :: b := h.mem_iff.1 (List.mem_cons_self ..)
        have hy : y ∈ x :: a := h.mem_iff.2 (List.mem_cons_self ..)
        have hx' : x ∈ b := by rcases List.mem_cons.1 hx with h | h; exact absurd h e; exact h
        have hy' : y ∈ a := by rcases List.mem_cons.1 hy with h | h; exact absurd h.symm e; exact h
        exact lessA_asymm (List.rel_of_pairwise_cons h1 hy') (List.rel_of_pairwise_cons h2 hx')
    subst e
    rw [sorted_uniq (List.Perm.cons_inv h) (List.Pairwise.of_cons h1) (List.Pairwise.of_cons h2)]
open Classical in
/-- One index put in its place. -/
noncomputable def insO (P : List Ph) (i : Nat) : List Nat → List Nat
  | [] => [i]
  | x :: s => if lessA P x i then x :: insO P i s else i :: x :: s
theorem insO_perm (P : List Ph) (i : Nat) : ∀ s, (insO P i s).Perm (i :: s)
  | [] => List.Perm.refl _
  | x :: s => by
    unfold insO
    split
    · exact ((insO_perm P i s).cons x).trans (List.Perm.swap i x s)
    · exact List.Perm.refl _
theorem insO_sorted {P : List Ph} {i : Nat} : ∀ {s}, s.Pairwise (lessA P) → i ∉ s → (insO P i s).Pairwise (lessA P)
  | [], _, _ => by simp [insO]
  | x :: s, h, hn => by
    have hx := List.pairwise_cons.1 h
    unfold insO
    split
    · rename_i hl
      refine List.pairwise_cons.2 ⟨fun y hy => ?_, insO_sorted hx.2 (fun h => hn (List.mem_cons_of_mem _ h))⟩
      rcases List.mem_cons.1 ((insO_perm P i s).mem_iff.1 hy) with rfl | hy
      · exact hl
      · exact hx.1 y hy
    · rename_i hl
      have hi : lessA P i x := by
        rcases lessA_tri P x i (fun e => hn (e ▸ List.mem_cons_self ..)) with h | h
        · exact absurd h hl
        · exact h
      refine List.pairwise_cons.2 ⟨fun y hy => ?_, h⟩
      rcases List.mem_cons.1 hy with rfl | hy
      · exact hi
      · exact lessA_trans hi (hx.1 y hy)
/-- The first n indices, in order. -/
noncomputable def ordN (P : List Ph) : Nat → List Nat
  | 0 => []
  | n + 1 => insO P n (ordN P n)
theorem ordN_perm (P : List Ph) : ∀ n, (ordN P n).Perm (List.range n)
  | 0 => List.Perm.refl _
  | n + 1 => by
    rw [ordN, List.range_succ]
    exact (insO_perm P n _).trans (((ordN_perm P n).cons n).trans (List.perm_append_singleton n _).symm)
theorem ordN_sorted (P : List Ph) : ∀ n, (ordN P n).Pairwise (lessA P)
  | 0 => List.Pairwise.nil
  | n + 1 => insO_sorted (ordN_sorted P n) (fun h => by have := List.mem_range.1 ((ordN_perm P n).mem_iff.1 h); omega)
noncomputable def ordA (P : List Ph) : List Nat := ordN P P.length
theorem ordA_perm (P : List Ph) : (ordA P).Perm (List.range P.length) := ordN_perm P _
theorem ordA_sorted (P : List Ph) : (ordA P).Pairwise (lessA P) := ordN_sorted P _
theorem ordA_length (P : List Ph) : (ordA P).length = P.length := by rw [(ordA_perm P).length_eq, List.length_range]
theorem ordA_lt {P : List Ph} {i : Nat} (h : i ∈ ordA P) : i < P.length := List.mem_range.1 ((ordA_perm P).mem_iff.1 h)
theorem ordA_uniq {P : List Ph} {r : List Nat} (h : r.Perm (List.range P.length)) (hs : r.Pairwise (lessA P)) : r = ordA P := sorted_uniq (h.trans (ordA_perm P).symm) hs (ordA_sorted P)
end Go.Proofs.YtiebljanpnadjaaGreat
