/- Of no program: lists of limbs and their values. -/
import Derived.Test.YtmgfdfbhfhmekaaGreatNat
namespace Go.Proofs.YtmgfdfbhfhmekaaGreat
set_option linter.all false

/-- The value of limbs, the least first. -/
def valL : List Int → Int
  | [] => 0
  | x :: xs => x + 1073741824 * valL xs
def Dig (xs : List Int) : Prop := ∀ x ∈ xs, 0 ≤ x ∧ x < 1073741824
def bpow (k : Nat) : Int := 1073741824 ^ k
theorem bpow_succ (k : Nat) : bpow (k + 1) = bpow k * 1073741824 := by unfold bpow; rw [Int.pow_succ]
theorem bpow_pos (k : Nat) : 1 ≤ bpow k := by
  induction k with
  | zero => simp [bpow]
  | succ k ih => rw [bpow_succ]; omega
theorem bpow_zero : bpow 0 = 1 := rfl
theorem bpow_le {i j : Nat} (h : i ≤ j) : bpow i ≤ bpow j := by
  induction h with
  | refl => exact Int.le_refl _
  | @step m h ih => rw [bpow_succ]; have := bpow_pos m; omega
theorem Dig.tail {x : Int} {xs : List Int} (h : Dig (x :: xs)) : Dig xs := fun y hy => h y (List.mem_cons_of_mem _ hy)
theorem Dig.head {x : Int} {xs : List Int} (h : Dig (x :: xs)) : 0 ≤ x ∧ x < 1073741824 := h x (by simp)
theorem Dig.take {xs : List Int} (h : Dig xs) (k : Nat) : Dig (xs.take k) := fun y hy => h y (List.mem_of_mem_take hy)
theorem Dig.drop {xs : List Int} (h : Dig xs) (k : Nat) : Dig (xs.drop k) := fun y hy => h y (List.mem_of_mem_drop hy)
theorem Dig.at {xs : List Int} (h : Dig xs) (k : Nat) : 0 ≤ xs[k]?.getD 0 ∧ xs[k]?.getD 0 < 1073741824 := by
  by_cases hk : k < xs.length
  · rw [List.getElem?_eq_getElem hk]; exact h _ (List.getElem_mem hk)
  · rw [List.getElem?_eq_none (by omega)]; simp
theorem Dig.set {xs : List Int} (h : Dig xs) (k : Nat) {y : Int} (h0 : 0 ≤ y) (h1 : y < 1073741824) : Dig (xs.set k y) := by
  intro z hz
  rcases List.mem_or_eq_of_mem_set hz with hz | rfl
  · exact h z hz
  · exact ⟨h0, h1⟩
theorem valL_nn : ∀ {xs : List Int}, Dig xs → 0 ≤ valL xs
  | [], _ => Int.le_refl _
  | x :: xs, h => by have := h.head; have := valL_nn h.tail; simp only [valL]; omega
theorem valL_lt : ∀ {xs : List Int}, Dig xs → valL xs < bpow xs.length
  | [], _ => by simp [valL, bpow]
  | x :: xs, h => by
    have := h.head; have := valL_lt h.tail
    rw [List.length_cons, bpow_succ]; simp only [valL]; omega
theorem valL_split : ∀ (xs : List Int) (k : Nat), valL xs = valL (xs.take k) + bpow (min k xs.length) * valL (xs.drop k)
  | xs, 0 => by simp [valL, bpow]
  | [], k + 1 => by simp [valL]
  | x :: xs, k + 1 => by
    have ih := valL_split xs k
    rw [List.take_succ_cons, List.drop_succ_cons, List.length_cons, show min (k + 1) (xs.length + 1) = min k xs.length + 1 by omega, bpow_succ]
    simp only [valL]
    rw [ih]
    grind
theorem valL_take_succ (xs : List Int) (k : Nat) (h : k < xs.length) : valL (xs.take (k + 1)) = valL (xs.take k) + bpow k * (xs[k]?.getD 0) := by
  have := valL_split (xs.take (k + 1)) k
  rw [List.take_take, List.length_take, show min k (k + 1) = k by omega, show min k (min (k + 1) xs.length) = k by omega] at this
  rw [this, List.take_succ_eq_append_getElem h, List.drop_left' (by simp; omega), List.getElem?_eq_getElem h]
  simp [valL]
theorem valL_set : ∀ (xs : List Int) (k : Nat) (y : Int), k < xs.length → valL (xs.set k y) = valL xs + bpow k * (y - xs[k]?.getD 0)
  | x :: xs, 0, y, _ => by simp [valL, bpow]; omega
  | x :: xs, k + 1, y, h => by
    have ih := valL_set xs k y (by simpa using h)
    rw [List.set_cons_succ]
    simp only [valL, List.getElem?_cons_succ, bpow_succ]
    rw [ih]
    grind
theorem valL_zeros (n : Nat) : valL (List.replicate n 0) = 0 := by
  induction n with
  | zero => rfl
  | succ n ih => rw [List.replicate_succ]; simp [valL, ih]
theorem valL_cut {xs : List Int} {k : Nat} (hk : k ≤ xs.length) (h : ∀ j, k ≤ j → j < xs.length → xs[j]?.getD 0 = 0) : valL (xs.take k) = valL xs := by
  have e : xs.drop k = List.replicate (xs.length - k) 0 := by
    refine List.ext_getElem (by simp) fun j h1 h2 => ?_
    have := h (k + j) (by omega) (by simp at h1; omega)
    rw [List.getElem?_eq_getElem (by simp at h1; omega)] at this
    simpa using this
  rw [valL_split xs k, e, valL_zeros]; simp

/-- Limbs in their one form: of the number n. -/
structure IsNat (xs : List Int) (n : Int) : Prop where
  dig : Dig xs
  top : xs ≠ [] → xs[xs.length - 1]?.getD 0 ≠ 0
  val : valL xs = n
theorem IsNat.ge {xs : List Int} {n : Int} (h : IsNat xs n) (h0 : xs ≠ []) : bpow (xs.length - 1) ≤ n := by
  have hl : 0 < xs.length := List.length_pos_iff.2 h0
  have e := valL_take_succ xs (xs.length - 1) (by omega)
  rw [show xs.length - 1 + 1 = xs.length by omega, List.take_length, h.val] at e
  have h1 := valL_nn (h.dig.take (xs.length - 1))
  have h2 := h.top h0
  have h3 := h.dig.at (xs.length - 1)
  have h4 := bpow_pos (xs.length - 1)
  have : bpow (xs.length - 1) * 1 ≤ bpow (xs.length - 1) * (xs[xs.length - 1]?.getD 0) := Int.mul_le_mul_of_nonneg_left (by omega) (by omega)
  omega
theorem IsNat.lt {xs : List Int} {n : Int} (h : IsNat xs n) : n < bpow xs.length := by rw [← h.val]; exact valL_lt h.dig
theorem IsNat.length_le {xs : List Int} {n : Int} (h : IsNat xs n) {k : Nat} (hn : n < bpow k) : xs.length ≤ k := by
  by_cases h0 : xs = []
  · simp [h0]
  · have h1 := h.ge h0
    have hl : 0 < xs.length := List.length_pos_iff.2 h0
    by_cases hc : xs.length ≤ k
    · exact hc
    · have := bpow_le (show k ≤ xs.length - 1 by omega); omega
theorem IsNat.mk' {xs : List Int} {n : Int} {k : Nat} (hd : Dig xs) (hv : valL xs = n) (hk : k ≤ xs.length) (hz : ∀ j, k ≤ j → j < xs.length → xs[j]?.getD 0 = 0) (ht : 0 < k → xs[k - 1]?.getD 0 ≠ 0) : IsNat (xs.take k) n := by
  refine ⟨hd.take k, fun h0 => ?_, by rw [valL_cut hk hz, hv]⟩
  have hl : (xs.take k).length = k := by simp; omega
  have hp : 0 < k := by rw [← hl]; exact List.length_pos_iff.2 h0
  rw [hl, List.getElem?_take_of_lt (by omega)]
  exact ht hp
/-- Two numbers compared: by their lengths, .. -/
theorem IsNat.cmp_len {xs ys : List Int} {m n : Int} (hx : IsNat xs m) (hy : IsNat ys n) (h : xs.length < ys.length) : m < n := by
  have h1 := hx.lt
  have h2 := hy.ge (by intro e; simp [e] at h)
  have := bpow_le (show xs.length ≤ ys.length - 1 by omega)
  omega
/-- .. or by their first limb that differs. -/
theorem valL_cmp {xs ys : List Int} (hx : Dig xs) (hy : Dig ys) (hl : xs.length = ys.length) {i : Nat} (hi : i < xs.length) (hup : xs.drop (i + 1) = ys.drop (i + 1)) (hlt : xs[i]?.getD 0 < ys[i]?.getD 0) : valL xs < valL ys := by
  rw [valL_split xs (i + 1), valL_split ys (i + 1), hup, ← hl, valL_take_succ xs i hi, valL_take_succ ys i (by omega)]
  have h1 := valL_lt (hx.take i)
  rw [List.length_take, show min i xs.length = i by omega] at h1
  have h2 := valL_nn (hy.take i)
  have h3 := bpow_pos i
  have : bpow i * (xs[i]?.getD 0 + 1) ≤ bpow i * (ys[i]?.getD 0) := Int.mul_le_mul_of_nonneg_left (by omega) (by omega)
  rw [Int.mul_add, Int.mul_one] at this
  omega
theorem IsNat.valid {xs : List Int} {n : Int} (h : IsNat xs n) (hl : xs.length ≤ 64) : validS xs = true := by
  have h2 : xs.any bad = false := by
    rw [List.any_eq_false]
    intro x hx
    have := h.dig x hx
    simp [bad]; omega
  by_cases h0 : xs = []
  · subst h0; rfl
  · have ht := h.top h0
    unfold validS
    rw [h2, last_get xs (List.length_pos_iff.2 h0)]
    simp; exact ⟨hl, ht⟩
end Go.Proofs.YtmgfdfbhfhmekaaGreat
