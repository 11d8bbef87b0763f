/- Plain laws of the logarithm in steps: it does not decrease, doubling adds 256, the bounds of P31.2. No program is looked into. -/
import Derived.Test.YtmgfdfbhfhmekaaGreatLog
namespace Go.Proofs.YtmgfdfbhfhmekaaGreat
set_option linter.all false
open Go.RowKit

theorem stepM_nn (m : Int) (h : 0 ≤ m) : 0 ≤ stepM m := by
  have := Int.mul_nonneg h h
  unfold stepM; split <;> omega

theorem sq_le {a b : Int} (h0 : 0 ≤ a) (h : a ≤ b) : a * a ≤ b * b := Int.mul_le_mul h h h0 (by omega)

theorem bitM_mono {a b : Int} (h0 : 0 ≤ a) (h : a ≤ b) : bitM a ≤ bitM b := by
  have := sq_le h0 h
  unfold bitM; split <;> split <;> omega

theorem stepM_mono {a b : Int} (h0 : 0 ≤ a) (h : a ≤ b) (hb : bitM a = bitM b) : stepM a ≤ stepM b := by
  have := sq_le h0 h
  unfold bitM at hb; unfold stepM
  split <;> split <;> simp_all <;> omega

theorem dAt_mono {m n : Int} (h0 : 0 ≤ m) (h : m ≤ n) : ∀ k, dAt m k ≤ dAt n k ∧ (dAt m k = dAt n k → 0 ≤ mAt m k ∧ mAt m k ≤ mAt n k)
  | 0 => ⟨Int.le_refl _, fun _ => ⟨h0, h⟩⟩
  | k + 1 => by
    obtain ⟨h1, h2⟩ := dAt_mono h0 h k
    have b1 := bitM_in (mAt m k); have b2 := bitM_in (mAt n k)
    simp only [dAt, mAt]
    by_cases he : dAt m k = dAt n k
    · obtain ⟨h3, h4⟩ := h2 he
      have hb := bitM_mono h3 h4
      refine ⟨by omega, fun e => ⟨stepM_nn _ h3, stepM_mono h3 h4 (by omega)⟩⟩
    · exact ⟨by omega, fun e => by omega⟩

theorem bl_unique {n c : Nat} (h1 : 2 ^ c ≤ n) (h2 : n < 2 ^ (c + 1)) (h3 : n < 9223372036854775808) : Lib.bitLen n = c + 1 := by
  have hp := Nat.two_pow_pos c
  obtain ⟨d, hd, _, hb1, hb2⟩ := bl_pos (n := n) (by omega) h3
  rcases Nat.lt_trichotomy c d with h | h | h
  · have := Nat.pow_le_pow_right (n := 2) (by omega) (show c + 1 ≤ d by omega); omega
  · omega
  · have := Nat.pow_le_pow_right (n := 2) (by omega) (show d + 1 ≤ c by omega); omega

theorem bl_mono {a b : Nat} (h1 : 1 ≤ a) (h : a ≤ b) (hb : b < 9223372036854775808) : Lib.bitLen a ≤ Lib.bitLen b := by
  obtain ⟨c, hc, _, c1, c2⟩ := bl_pos (n := a) h1 (by omega)
  obtain ⟨d, hd, _, d1, d2⟩ := bl_pos (n := b) (by omega) hb
  rcases Nat.lt_or_ge d c with h' | h'
  · have := Nat.pow_le_pow_right (n := 2) (by omega) (show d + 1 ≤ c by omega); omega
  · omega

theorem mant_mono {a b c : Nat} (h : a ≤ b) : mant a c ≤ mant b c := by
  unfold mant; split
  · exact Nat.mul_le_mul_right _ h
  · exact Nat.div_le_div_right h

theorem logS_mono {a b : Nat} (h1 : 1 ≤ a) (h : a ≤ b) (hb : b < 9223372036854775808) : logS a ≤ logS b := by
  have hl := bl_mono h1 h hb
  have e1 := dAt_le (mant a (Lib.bitLen a - 1)) (Nat.le_refl 8)
  have e2 := dAt_le (mant b (Lib.bitLen b - 1)) (Nat.le_refl 8)
  by_cases he : Lib.bitLen a = Lib.bitLen b
  · have := (dAt_mono (m := mant a (Lib.bitLen b - 1)) (n := mant b (Lib.bitLen b - 1)) (by omega) (by have := mant_mono (c := Lib.bitLen b - 1) h; omega) 8).1
    unfold logS
    rw [he]
    omega
  · obtain ⟨c, hc, _⟩ := bl_pos (n := a) h1 (by omega)
    unfold logS
    omega

theorem logS_double {n : Nat} (h1 : 1 ≤ n) (h : 2 * n < 9223372036854775808) : logS (2 * n) = logS n + 256 := by
  obtain ⟨c, hc, _, c1, c2⟩ := bl_pos (n := n) h1 (by omega)
  have h2 : Lib.bitLen (2 * n) = c + 1 + 1 := bl_unique (by rw [Nat.pow_succ]; omega) (by rw [Nat.pow_succ]; omega) h
  have hm : mant (2 * n) (c + 1) = mant n c := by
    unfold mant
    by_cases h3 : c + 1 ≤ 30
    · rw [if_pos h3, if_pos (by omega), show 30 - c = 30 - (c + 1) + 1 from by omega, Nat.pow_succ]
      rw [Nat.mul_comm 2 n, Nat.mul_assoc, Nat.mul_comm 2]
    · rw [if_neg h3]
      by_cases h4 : c ≤ 30
      · obtain rfl : c = 30 := by omega
        simp
      · rw [if_neg h4, show c + 1 - 30 = c - 30 + 1 from by omega, Nat.pow_succ, Nat.mul_comm _ 2, Nat.mul_div_mul_left _ _ (by omega)]
  rw [logS, logS, h2, hc]
  simp only [Nat.add_sub_cancel]
  rw [hm]
  omega

theorem logS_shift {n : Nat} (h1 : 1 ≤ n) : ∀ k : Nat, n * 2 ^ k < 9223372036854775808 → logS (n * 2 ^ k) = logS n + 256 * k
  | 0, _ => by simp
  | k + 1, h => by
    have e : n * 2 ^ (k + 1) = 2 * (n * 2 ^ k) := by rw [Nat.pow_succ]; rw [← Nat.mul_assoc, Nat.mul_comm]
    rw [e] at h ⊢
    have hp := Nat.two_pow_pos k
    have := Nat.le_mul_of_pos_right n hp
    rw [logS_double (by omega) h, logS_shift h1 k (by omega)]
    omega

theorem logS_one : logS 1 = 0 := by decide
theorem logS_pow {k : Nat} (h : k ≤ 62) : logS (2 ^ k) = 256 * k := by
  have h2 : 2 ^ k ≤ 2 ^ 62 := Nat.pow_le_pow_right (by omega) h
  have := logS_shift (n := 1) (by omega) k (by omega)
  rw [Nat.one_mul, logS_one] at this
  omega

theorem logS_octave {n : Nat} (h1 : 1 ≤ n) (h : n < 9223372036854775808) : ∃ c : Nat, logS n / 256 = c ∧ 2 ^ c ≤ n ∧ n < 2 ^ (c + 1) := by
  obtain ⟨c, hc, _, c1, c2⟩ := bl_pos (n := n) h1 h
  have e1 := dAt_le (mant n c) (Nat.le_refl 8)
  refine ⟨c, ?_, c1, c2⟩
  unfold logS
  rw [hc]
  simp only [Nat.add_sub_cancel]
  omega

/-! ### P31.2: 2^r ≤ n^256 < 2^(r+2) -/

/-- The error of the upper bound, doubled and doubled. -/
def gS : Nat → Nat
  | 0 => 1
  | k + 1 => 5 * gS k + 2

/-- The exponent behind k squarings. -/
def eS (m : Int) (c : Nat) (k : Nat) : Nat := c * 2 ^ k + (dAt m k).toNat

theorem eS_succ (m : Int) (c k : Nat) : eS m c (k + 1) = 2 * eS m c k + (bitM (mAt m k)).toNat := by
  have h1 := dAt_in m k
  have h2 := bitM_in (mAt m k)
  unfold eS
  rw [dAt, Nat.pow_succ, Int.toNat_add (by omega) (by omega), Int.toNat_mul (by omega) (by omega), ← Nat.mul_assoc]
  simp only [show (2 : Int).toNat = 2 from rfl]
  omega

theorem sq_core (X q w vg gg g : Nat) (hgg : gg ≤ 600000 * g) (hvg : vg ≤ 2147483647 * g) (s1 : w * q ≤ X * 1073741824) (s2 : X * 1073741824 ≤ (w + 2 * vg + gg) * q) :
    (if 2147483648 ≤ w / 1073741824 then w / 1073741824 / 2 * (2 * q) ≤ X ∧ X ≤ (w / 1073741824 / 2 + (5 * g + 2)) * (2 * q)
     else w / 1073741824 * q ≤ X ∧ X ≤ (w / 1073741824 + (5 * g + 2)) * q) := by
  have up : w + 2 * vg + gg ≤ (w / 1073741824 + (5 * g + 2)) * 1073741824 := by omega
  have lo : w / 1073741824 * 1073741824 ≤ w := Nat.div_mul_le_self _ _
  generalize w / 1073741824 = y at *
  have r1 : y * q ≤ X := by
    have t : y * q * 1073741824 ≤ X * 1073741824 := by
      have := Nat.mul_le_mul_right q lo
      rw [Nat.mul_right_comm y 1073741824 q] at this
      exact Nat.le_trans this s1
    exact Nat.le_of_mul_le_mul_right t (by omega)
  have r2 : X ≤ (y + (5 * g + 2)) * q := by
    have t : X * 1073741824 ≤ (y + (5 * g + 2)) * q * 1073741824 := by
      have := Nat.mul_le_mul_right q up
      rw [Nat.mul_right_comm (y + (5 * g + 2)) 1073741824 q] at this
      exact Nat.le_trans s2 this
    exact Nat.le_of_mul_le_mul_right t (by omega)
  split
  · constructor
    · have : y / 2 * 2 * q ≤ y * q := Nat.mul_le_mul_right q (Nat.div_mul_le_self y 2)
      rw [← Nat.mul_assoc]; omega
    · have h3 : y + (5 * g + 2) ≤ (y / 2 + (5 * g + 2)) * 2 := by omega
      have := Nat.mul_le_mul_right q h3
      rw [← Nat.mul_assoc]; omega
  · exact ⟨r1, r2⟩

theorem sq_core1 {v p x : Nat} (h : v * p ≤ x) : v * v * (p * p) ≤ x * x := by
  have := Nat.mul_le_mul h h
  rwa [Nat.mul_mul_mul_comm] at this
theorem sq_core2 {v g p x : Nat} (h : x ≤ (v + g) * p) : x * x ≤ (v * v + 2 * (v * g) + g * g) * (p * p) := by
  have := Nat.mul_le_mul h h
  rw [Nat.mul_mul_mul_comm] at this
  have k4 : (v + g) * (v + g) = v * v + 2 * (v * g) + g * g := by rw [Nat.add_mul, Nat.mul_add, Nat.mul_add, Nat.mul_comm g v]; omega
  rwa [k4] at this
theorem sq_core3 (x M : Nat) : x * M * (x * M) = x * x * M * M := by rw [Nat.mul_mul_mul_comm, ← Nat.mul_assoc]

/-- One squaring, in natural numbers: v is the first digits, x the number, e the exponent. -/
theorem square_step (x v g e : Nat) (hv2 : v ≤ 2147483647) (hg : g ≤ 600000)
    (h1 : v * 2 ^ e ≤ x * 1073741824) (h2 : x * 1073741824 ≤ (v + g) * 2 ^ e) :
    (if 2147483648 ≤ v * v / 1073741824 then v * v / 1073741824 / 2 * 2 ^ (2 * e + 1) ≤ x * x * 1073741824 ∧ x * x * 1073741824 ≤ (v * v / 1073741824 / 2 + (5 * g + 2)) * 2 ^ (2 * e + 1)
     else v * v / 1073741824 * 2 ^ (2 * e) ≤ x * x * 1073741824 ∧ x * x * 1073741824 ≤ (v * v / 1073741824 + (5 * g + 2)) * 2 ^ (2 * e)) := by
  have hE : 2 ^ (2 * e) = 2 ^ e * 2 ^ e := by rw [← Nat.pow_add]; congr 1; omega
  have hE1 : 2 ^ (2 * e + 1) = 2 * (2 ^ e * 2 ^ e) := by rw [Nat.pow_succ, hE, Nat.mul_comm]
  rw [hE1, hE]
  have s1 := sq_core1 h1
  have s2 := sq_core2 h2
  rw [sq_core3] at s1 s2
  exact sq_core _ _ _ _ _ g (Nat.mul_le_mul_right g hg) (Nat.mul_le_mul_right g hv2) s1 s2

theorem gS_le : ∀ k, k ≤ 8 → gS k ≤ 600000 := by decide

theorem stepM_nat {v : Nat} : stepM (v : Int) = (if 2147483648 ≤ v * v / 1073741824 then v * v / 1073741824 / 2 else v * v / 1073741824 : Nat) := by
  unfold stepM
  have : (v : Int) * v = ((v * v : Nat) : Int) := by simp
  rw [this]
  generalize v * v = w
  split <;> split <;> omega
theorem bitM_nat {v : Nat} : bitM (v : Int) = (if 2147483648 ≤ v * v / 1073741824 then 1 else 0 : Nat) := by
  unfold bitM
  have : (v : Int) * v = ((v * v : Nat) : Int) := by simp
  rw [this]
  generalize v * v = w
  split <;> split <;> omega

theorem pow_bounds {n c m : Nat} (hm1 : 1073741824 ≤ m) (hm2 : m ≤ 2147483647) (h1 : m * 2 ^ c ≤ n * 1073741824) (h2 : n * 1073741824 ≤ (m + 1) * 2 ^ c) : ∀ k, k ≤ 8 →
    ∃ v : Nat, mAt m k = v ∧ v * 2 ^ eS m c k ≤ n ^ 2 ^ k * 1073741824 ∧ n ^ 2 ^ k * 1073741824 ≤ (v + gS k) * 2 ^ eS m c k
  | 0, _ => ⟨m, rfl, by simpa [eS, dAt] using h1, by simpa [eS, dAt, gS] using h2⟩
  | k + 1, hk => by
    obtain ⟨v, hv, a, b⟩ := pow_bounds hm1 hm2 h1 h2 k (by omega)
    have hin := mAt_in m (by omega) (by omega) k
    rw [hv] at hin
    have hs := square_step (n ^ 2 ^ k) v (gS k) (eS m c k) (by omega) (gS_le k (by omega)) a b
    have hn : n ^ 2 ^ (k + 1) = n ^ 2 ^ k * n ^ 2 ^ k := by rw [← Nat.pow_add]; congr 1; rw [Nat.pow_succ]; omega
    rw [hn]
    have he := eS_succ m c k
    rw [hv, bitM_nat] at he
    refine ⟨_, by rw [mAt, hv, stepM_nat], ?_⟩
    rw [gS]
    split at hs
    · rename_i hc
      simp only [if_pos hc] at he ⊢
      rw [he]; simpa using hs
    · rename_i hc
      simp only [if_neg hc] at he ⊢
      rw [he]; simpa using hs

theorem mant_bounds {n c : Nat} : mant n c * 2 ^ c ≤ n * 1073741824 ∧ n * 1073741824 ≤ (mant n c + 1) * 2 ^ c := by
  unfold mant
  split
  · rename_i h
    have e : 2 ^ (30 - c) * 2 ^ c = 1073741824 := by rw [← Nat.pow_add, Nat.sub_add_cancel h]
    rw [Nat.add_mul, Nat.mul_assoc, e]
    omega
  · rename_i h
    have e : 1073741824 * 2 ^ (c - 30) = 2 ^ c := by rw [show 1073741824 = 2 ^ 30 from rfl, ← Nat.pow_add, show 30 + (c - 30) = c from by omega]
    rw [← e]
    have hp := Nat.two_pow_pos (c - 30)
    generalize 2 ^ (c - 30) = p at *
    have d1 := Nat.div_mul_le_self n p
    have d2 := Nat.lt_div_mul_add (a := n) hp
    constructor
    · rw [Nat.mul_comm 1073741824 p, ← Nat.mul_assoc]; omega
    · rw [Nat.mul_comm 1073741824 p, ← Nat.mul_assoc, Nat.add_mul]; omega

/-- P31.2. -/
theorem logS_true {n : Nat} (h1 : 1 ≤ n) (h : n < 9223372036854775808) : 2 ^ (logS n).toNat ≤ n ^ 256 ∧ n ^ 256 < 2 ^ ((logS n).toNat + 2) := by
  obtain ⟨c, hc, _, c1, c2⟩ := bl_pos (n := n) h1 h
  have hm := mant_in c1 c2
  have hb := mant_bounds (n := n) (c := c)
  obtain ⟨v, hv, a, b⟩ := pow_bounds hm.1 hm.2 hb.1 hb.2 8 (by omega)
  have hin := mAt_in (mant n c) (by omega) (by omega) 8
  have hd := dAt_le (mant n c) (Nat.le_refl 8)
  have he : (logS n).toNat = eS (mant n c) c 8 := by
    unfold logS eS; rw [hc]; simp only [Nat.add_sub_cancel]; omega
  rw [hv] at hin
  rw [he]
  have hg : gS 8 = 585937 := by decide
  rw [hg] at b
  rw [show 2 ^ 8 = 256 from rfl] at a b
  have hp := Nat.two_pow_pos (eS (mant n c) c 8)
  rw [Nat.pow_add, show 2 ^ 2 = 4 from rfl]
  generalize 2 ^ eS (mant n c) c 8 = p at *
  generalize n ^ 256 = X at *
  have l1 : 1073741824 * p ≤ v * p := Nat.mul_le_mul_right p (by omega)
  have l2 : (v + 585937) * p < 4294967296 * p := (Nat.mul_lt_mul_right hp).2 (by omega)
  constructor <;> omega

theorem logS_nn {n : Nat} : 0 ≤ logS n := by
  have := dAt_le (mant n (Lib.bitLen n - 1)) (Nat.le_refl 8)
  unfold logS; omega

theorem pow_lt_of {a b : Nat} (h : 2 ^ a < 2 ^ b) : a < b := (Nat.pow_lt_pow_iff_right (by omega)).1 h

theorem logS_adds {a b : Nat} (h1 : 1 ≤ a) (h2 : 1 ≤ b) (h : a * b < 9223372036854775808) (ha : a < 9223372036854775808) (hb : b < 9223372036854775808) :
    logS a + logS b ≤ logS (a * b) + 1 ∧ logS (a * b) ≤ logS a + logS b + 3 := by
  have hab : 1 ≤ a * b := Nat.mul_pos h1 h2
  obtain ⟨a1, a2⟩ := logS_true h1 ha
  obtain ⟨b1, b2⟩ := logS_true h2 hb
  obtain ⟨c1, c2⟩ := logS_true hab h
  have na := logS_nn (n := a); have nb := logS_nn (n := b); have nc := logS_nn (n := a * b)
  rw [Nat.mul_pow] at c1 c2
  have x1 := Nat.mul_le_mul a1 b1
  have x2 := Nat.mul_lt_mul'' a2 b2
  rw [← Nat.pow_add] at x1 x2
  have y1 := pow_lt_of (Nat.lt_of_le_of_lt x1 c2)
  have y2 := pow_lt_of (Nat.lt_of_le_of_lt c1 x2)
  omega
end Go.Proofs.YtmgfdfbhfhmekaaGreat
