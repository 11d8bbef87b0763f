/- Plain: the limbs of a number, with zeros ahead of them, and their logarithm. -/
import Derived.Test.YtelmeggcgocmlaaLogMath
import Derived.Test.YtelmeggcgocmlaaLogNat
import Derived.Test.YtelmeggcgocmlaaFrom
namespace Go.Proofs.Ytelmeggcgocmlaa
set_option linter.all false
open Go.RowKit

theorem logS_div30 {n : Nat} (h1 : 1152921504606846976 ≤ n) (h : n < 9223372036854775808) : logS n = logS (n / 1073741824) + 7680 := by
  obtain ⟨c, hc, hcc, c1, c2⟩ := bl_pos (n := n) (by omega) h
  have h60 : 60 ≤ c := by
    rcases Nat.lt_or_ge c 60 with h' | h'
    · have := Nat.pow_le_pow_right (n := 2) (by omega) (show c + 1 ≤ 60 by omega); omega
    · exact h'
  have e1 : 2 ^ c = 2 ^ (c - 30) * 1073741824 := by rw [show 1073741824 = 2 ^ 30 from rfl, ← Nat.pow_add, show c - 30 + 30 = c from by omega]
  have e2 : 2 ^ (c + 1) = 2 ^ (c - 30 + 1) * 1073741824 := by rw [show 1073741824 = 2 ^ 30 from rfl, ← Nat.pow_add, show c - 30 + 1 + 30 = c + 1 from by omega]
  have h2 : Lib.bitLen (n / 1073741824) = c - 30 + 1 := bl_unique (by rw [e1] at c1; omega) (by rw [e2] at c2; omega) (by omega)
  have hm : mant n c = mant (n / 1073741824) (c - 30) := by
    unfold mant
    rw [if_neg (by omega)]
    split
    · obtain rfl : c = 60 := by omega
      simp
    · rw [show 1073741824 = 2 ^ 30 from rfl, Nat.div_div_eq_div_mul, ← Nat.pow_add, show 30 + (c - 30 - 30) = c - 30 from by omega]
  rw [logS, logS, h2, hc]
  simp only [Nat.add_sub_cancel]
  rw [hm]
  omega

theorem limbs1 {n : Nat} (h1 : 1 ≤ n) (h : n < 1073741824) : limbsF 3 n = [(n : Int)] := by
  rw [limbsF_pos 2 n (by omega), Nat.mod_eq_of_lt h, Nat.div_eq_of_lt h, limbsF_zero]
theorem limbs2 {n : Nat} (h1 : 1073741824 ≤ n) (h : n < 1152921504606846976) : limbsF 3 n = [((n % 1073741824 : Nat) : Int), ((n / 1073741824 : Nat) : Int)] := by
  rw [limbsF_pos 2 n (by omega), limbsF_pos 1 _ (by omega), Nat.mod_eq_of_lt (a := n / 1073741824) (by omega), Nat.div_eq_of_lt (a := n / 1073741824) (by omega), limbsF_zero]
theorem limbs3 {n : Nat} (h1 : 1152921504606846976 ≤ n) (h : n < 9223372036854775808) : limbsF 3 n = [((n % 1073741824 : Nat) : Int), ((n / 1073741824 % 1073741824 : Nat) : Int), ((n / 1073741824 / 1073741824 : Nat) : Int)] := by
  rw [limbsF_pos 2 n (by omega), limbsF_pos 1 _ (by omega), limbsF_pos 0 _ (by omega), Nat.mod_eq_of_lt (a := n / 1073741824 / 1073741824) (by omega)]
  rfl

theorem bad_nat {x : Nat} (h : x < 1073741824) : bad (x : Int) = false := by simp [bad]; omega
theorem any_zeros (k : Nat) : (List.replicate k (0 : Int)).any bad = false := by
  simp [bad]

theorem get_app (k : Nat) (l : List Int) (j : Nat) : (List.replicate k (0 : Int) ++ l)[k + j]? = l[j]? := by
  rw [List.getElem?_append_right (by simp)]; simp

theorem zeros_limbs {n k : Nat} (h1 : 1 ≤ n) (h : n < 9223372036854775808) (hk : k ≤ 9) :
    validS (List.replicate k 0 ++ limbsF 3 n) = true ∧ 0 < (List.replicate k (0 : Int) ++ limbsF 3 n).length ∧ logNatS (List.replicate k 0 ++ limbsF 3 n) = logS n + 7680 * k := by
  have three : n < 1073741824 ∨ (1073741824 ≤ n ∧ n < 1152921504606846976) ∨ 1152921504606846976 ≤ n := by omega
  rcases three with a | ⟨a, b⟩ | a
  · rw [limbs1 h1 a]
    refine ⟨?_, by simp, ?_⟩
    · have : ¬ n = 0 := by omega
      simp [validS, any_zeros, bad_nat a, -List.any_replicate, this]; omega
    · unfold logNatS topS
      cases k with
      | zero => simp
      | succ k =>
        have g1 := get_app (k + 1) [(n : Int)] 0
        simp only [Nat.add_zero] at g1
        have g2 : (List.replicate (k + 1) (0 : Int) ++ [(n : Int)])[k]? = some 0 := by rw [List.getElem?_append_left (by simp), List.getElem?_replicate, if_pos (by omega)]
        have hl : (List.replicate (k + 1) (0 : Int) ++ [(n : Int)]).length = k + 2 := by simp
        rw [if_neg (by omega), hl, show k + 2 - 1 = k + 1 from by omega, show k + 2 - 2 = k from by omega, g1, g2]
        have := logS_shift h1 30 (by omega)
        simp at this ⊢
        omega
  · rw [limbs2 a b]
    refine ⟨?_, by simp, ?_⟩
    · have : ¬ n / 1073741824 = 0 := by omega
      have := bad_nat (x := n % 1073741824) (by omega)
      have := bad_nat (x := n / 1073741824) (by omega)
      simp only [validS, any_zeros, List.any_append, List.any_cons, List.any_nil, List.length_append, List.length_replicate, List.length_cons, List.length_nil, *]
      simp [List.getLast?_append]; omega
    · unfold logNatS topS
      have hl : (List.replicate k (0 : Int) ++ [((n % 1073741824 : Nat) : Int), ((n / 1073741824 : Nat) : Int)]).length = k + 2 := by simp
      have g1 := get_app k [((n % 1073741824 : Nat) : Int), ((n / 1073741824 : Nat) : Int)] 0
      have g2 := get_app k [((n % 1073741824 : Nat) : Int), ((n / 1073741824 : Nat) : Int)] 1
      simp only [Nat.add_zero] at g1
      rw [if_neg (by omega), hl, show k + 2 - 1 = k + 1 from by omega, show k + 2 - 2 = k from by omega, g1, g2]
      simp
      rw [show ((n : Int) / 1073741824).toNat * 1073741824 + ((n : Int) % 1073741824).toNat = n from by omega]
  · rw [limbs3 a h]
    refine ⟨?_, by simp, ?_⟩
    · have : ¬ n / 1073741824 / 1073741824 = 0 := by omega
      have := bad_nat (x := n % 1073741824) (by omega)
      have := bad_nat (x := n / 1073741824 % 1073741824) (by omega)
      have := bad_nat (x := n / 1073741824 / 1073741824) (by omega)
      simp only [validS, any_zeros, List.any_append, List.any_cons, List.any_nil, List.length_append, List.length_replicate, List.length_cons, List.length_nil, *]
      simp [List.getLast?_append]; omega
    · unfold logNatS topS
      generalize hL : [((n % 1073741824 : Nat) : Int), ((n / 1073741824 % 1073741824 : Nat) : Int), ((n / 1073741824 / 1073741824 : Nat) : Int)] = L
      have hl : (List.replicate k (0 : Int) ++ L).length = k + 3 := by subst hL; simp
      have g1 := get_app k L 1
      have g2 := get_app k L 2
      rw [if_neg (by omega), hl, show k + 3 - 1 = k + 2 from by omega, show k + 3 - 2 = k + 1 from by omega, g1, g2]
      subst hL
      have := logS_div30 a h
      simp
      rw [show ((n : Int) / 1073741824 / 1073741824).toNat * 1073741824 + ((n : Int) / 1073741824 % 1073741824).toNat = n / 1073741824 from by omega]; omega
end Go.Proofs.Ytelmeggcgocmlaa
