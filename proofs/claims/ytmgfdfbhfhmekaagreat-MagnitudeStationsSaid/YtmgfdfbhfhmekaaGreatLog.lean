/- Walks of layer 31: digits, steps, Log, Floor, Ceil of the program and of the reference. -/
import Derived.Test.YtmgfdfbhfhmekaaGreatBase
import Derived.Test.YtmgfdfbhfhmekaaGreatShelf
namespace Go.Proofs.YtmgfdfbhfhmekaaGreat
set_option linter.all false
open Go.RowKit

def stepM (m : Int) : Int := if 2147483648 ≤ m * m / 1073741824 then m * m / 1073741824 / 2 else m * m / 1073741824
def bitM (m : Int) : Int := if 2147483648 ≤ m * m / 1073741824 then 1 else 0
def digM : Nat → Int → Int
  | 0, _ => 0
  | k + 1, m => bitM m * 2 ^ k + digM k (stepM m)
/-- The state after k rounds. -/
def mAt (m : Int) : Nat → Int
  | 0 => m
  | k + 1 => stepM (mAt m k)
def dAt (m : Int) : Nat → Int
  | 0 => 0
  | k + 1 => 2 * dAt m k + bitM (mAt m k)

theorem stepM_in (m : Int) (h1 : 1073741824 ≤ m) (h2 : m ≤ 2147483647) : 1073741824 ≤ stepM m ∧ stepM m ≤ 2147483647 := by
  have a : 1073741824 * 1073741824 ≤ m * m := Int.mul_le_mul h1 h1 (by omega) (by omega)
  have b : m * m ≤ 2147483647 * 2147483647 := Int.mul_le_mul h2 h2 (by omega) (by omega)
  unfold stepM
  generalize m * m = q at *
  split <;> omega

theorem mAt_in (m : Int) (h1 : 1073741824 ≤ m) (h2 : m ≤ 2147483647) : ∀ k, 1073741824 ≤ mAt m k ∧ mAt m k ≤ 2147483647
  | 0 => ⟨h1, h2⟩
  | k + 1 => stepM_in _ (mAt_in m h1 h2 k).1 (mAt_in m h1 h2 k).2

theorem bitM_in (m : Int) : 0 ≤ bitM m ∧ bitM m ≤ 1 := by unfold bitM; split <;> omega

theorem dAt_in (m : Int) : ∀ k, 0 ≤ dAt m k ∧ dAt m k < 2 ^ k
  | 0 => by simp [dAt]
  | k + 1 => by have := dAt_in m k; have := bitM_in (mAt m k); rw [dAt, Int.pow_succ]; omega

theorem sq_in (m : Int) (h1 : 1073741824 ≤ m) (h2 : m ≤ 2147483647) : 1073741824 * 1073741824 ≤ m * m ∧ m * m ≤ 2147483647 * 2147483647 := 
  ⟨Int.mul_le_mul h1 h1 (by omega) (by omega), Int.mul_le_mul h2 h2 (by omega) (by omega)⟩

theorem pow_le8 {k : Nat} (h : k ≤ 8) : (2 : Int) ^ k ≤ 256 := by
  have : k = 0 ∨ k = 1 ∨ k = 2 ∨ k = 3 ∨ k = 4 ∨ k = 5 ∨ k = 6 ∨ k = 7 ∨ k = 8 := by omega
  rcases this with rfl | rfl | rfl | rfl | rfl | rfl | rfl | rfl | rfl <;> decide
theorem dAt_le (m : Int) {k : Nat} (h : k ≤ 8) : 0 ≤ dAt m k ∧ dAt m k ≤ 255 := by
  have := dAt_in m k; have := pow_le8 h; omega

theorem stepM_ge {m : Int} (h : 2147483648 ≤ m * m / 1073741824) : m * m / 1073741824 / 2 = stepM m := by rw [stepM, if_pos h]
theorem stepM_lt {m : Int} (h : m * m / 1073741824 < 2147483648) : m * m / 1073741824 = stepM m := by rw [stepM, if_neg (by omega)]
theorem bitM_ge {m : Int} (h : 2147483648 ≤ m * m / 1073741824) : bitM m = 1 := by rw [bitM, if_pos h]
theorem bitM_lt {m : Int} (h : m * m / 1073741824 < 2147483648) : bitM m = 0 := by rw [bitM, if_neg (by omega)]

set_option maxHeartbeats 400000 in
theorem digits_any (c m : Int) (w : World) (h1 : 1073741824 ≤ m) (h2 : m ≤ 2147483647) (h3 : 0 ≤ c) (h4 : c ≤ 100) :
    Calls Tryz.prog 70 #[.int .i64 c, .int .i64 m] w fun e w' => e = .returned (.int .i64 (256 * c + dAt m 8)) ∧ w = w' := by
  go_enter Tryz.func70, Tryz.ntmps70
  go_wp2
  go_loop [1, 5, 6] (fun x d i => ∃ k : Nat, k ≤ 8 ∧ i = .int .i64 k ∧ x = .int .i64 (mAt m k) ∧ d = .int .i64 (dAt m k)) (fun _ _ i => 8 - (intOf i).toNat)
  case atStart => exact ⟨0, by omega, rfl, rfl, rfl⟩
  case round =>
    obtain ⟨k, hk, rfl, rfl, rfl⟩ := hrel
    have hm := mAt_in m h1 h2 k
    have hd := dAt_le m hk
    have hq := sq_in _ hm.1 hm.2
    by_cases hlt : k < 8
    · go_wp2
      · have hb : 2147483648 ≤ mAt m k * mAt m k / 1073741824 := by assumption
        have hb2 := bitM_ge hb
        go_round
        case rel => exact ⟨k + 1, by omega, by go_num, by rw [mAt, stepM_ge hb], by rw [dAt, hb2, Int.mul_comm 2]⟩
        case measure => simp [intOf]; omega
      · have hb : mAt m k * mAt m k / 1073741824 < 2147483648 := by assumption
        have hb2 := bitM_lt hb
        go_round
        case rel => exact ⟨k + 1, by omega, by go_num, by rw [mAt, ← stepM_lt hb], by rw [dAt, hb2, Int.mul_comm 2, Int.add_zero]⟩
        case measure => simp [intOf]; omega
    · obtain rfl : k = 8 := by omega
      go_wp2
      go_ret
      exact ⟨rfl, rfl⟩

set_option maxHeartbeats 400000 in
theorem steps_any (c m : Int) (w : World) (h1 : 1073741824 ≤ m) (h2 : m ≤ 2147483647) (h3 : 0 ≤ c) (h4 : c ≤ 10000) :
    Calls Tryz.prog 60 #[.int .i64 c, .int .i64 m] w fun e w' => e = .returned (.int .i64 (256 * c + dAt m 8)) ∧ w = w' := by
  go_enter Tryz.func60, Tryz.ntmps60
  go_wp2
  go_loop [1, 5, 6] (fun x d i => ∃ k : Nat, k ≤ 8 ∧ i = .int .i64 k ∧ x = .int .i64 (mAt m k) ∧ d = .int .i64 (dAt m k)) (fun _ _ i => 8 - (intOf i).toNat)
  case atStart => exact ⟨0, by omega, rfl, rfl, rfl⟩
  case round =>
    obtain ⟨k, hk, rfl, rfl, rfl⟩ := hrel
    have hm := mAt_in m h1 h2 k
    have hd := dAt_le m hk
    have hq := sq_in _ hm.1 hm.2
    by_cases hlt : k < 8
    · go_wp2
      · have hb : 2147483648 ≤ mAt m k * mAt m k / 1073741824 := by assumption
        have hb2 := bitM_ge hb
        go_round
        case rel => exact ⟨k + 1, by omega, by go_num, by rw [mAt, stepM_ge hb], by rw [dAt, hb2, Int.mul_comm 2]⟩
        case measure => simp [intOf]; omega
      · have hb : mAt m k * mAt m k / 1073741824 < 2147483648 := by assumption
        have hb2 := bitM_lt hb
        go_round
        case rel => exact ⟨k + 1, by omega, by go_num, by rw [mAt, ← stepM_lt hb], by rw [dAt, hb2, Int.mul_comm 2, Int.add_zero]⟩
        case measure => simp [intOf]; omega
    · obtain rfl : k = 8 := by omega
      go_wp2
      go_ret
      exact ⟨rfl, rfl⟩

theorem bl_half {x : Nat} (h0 : 0 < x) (h : x < 9223372036854775808) : Lib.bitLen x = 1 + Lib.bitLen (x / 2) := Lib.bitLen_half x (by omega) (Nat.lt_trans h (by decide))
theorem bl_le (x : Nat) (h : x < 9223372036854775808) : Lib.bitLen x ≤ 63 := Lib.bitLen_le x 63 (by omega) h

set_option maxHeartbeats 400000 in
theorem rdigits_any (n : Nat) (w : World) (h2 : n < 9223372036854775808) :
    Calls Tryz.prog 59 #[.int .i64 n] w fun e w' => e = .returned (.int .i64 (Lib.bitLen n)) ∧ w = w' := by
  have hle := bl_le n h2
  go_enter Tryz.func59, Tryz.ntmps59
  go_wp2
  go_loop [0, 3] (fun x d => ∃ y k : Nat, y < 9223372036854775808 ∧ k ≤ 63 ∧ x = .int .i64 y ∧ d = .int .i64 k ∧ Lib.bitLen n = k + Lib.bitLen y) (fun x _ => (intOf x).toNat)
  case atStart => exact ⟨n, 0, h2, by omega, rfl, rfl, by omega⟩
  case round =>
    obtain ⟨y, k, hy, hk, rfl, rfl, hb⟩ := hrel
    by_cases hlt : 0 < y
    · have h3 := bl_half hlt hy
      have H3 := Lib.hid h3; clear h3
      have HB := Lib.hid hb; clear hb
      go_wp2
      go_round
      case rel => exact ⟨y / 2, k + 1, by omega, by have := HB.out; have := H3.out; omega, by go_num, by go_num, by have := HB.out; have := H3.out; omega⟩
      case measure => simp [intOf]; omega
    · obtain rfl : y = 0 := by omega
      have h3 : Lib.bitLen 0 = 0 := by decide
      have HB := Lib.hid hb; clear hb
      go_wp2
      go_ret
      exact ⟨ret_int (by have := HB.out; omega), rfl⟩

def mant (n c : Nat) : Nat := if c ≤ 30 then n * 2 ^ (30 - c) else n / 2 ^ (c - 30)
def logS (n : Nat) : Int := 256 * ((Lib.bitLen n - 1 : Nat) : Int) + dAt (mant n (Lib.bitLen n - 1)) 8

theorem bl_pos {n : Nat} (h1 : 1 ≤ n) (h2 : n < 9223372036854775808) : ∃ c, Lib.bitLen n = c + 1 ∧ c ≤ 62 ∧ 2 ^ c ≤ n ∧ n < 2 ^ (c + 1) := by
  obtain ⟨a, b, c⟩ := Lib.bitLenAux_bounds 64 n (Nat.lt_trans h2 (by decide)) (by omega)
  have d := bl_le n h2
  change 1 ≤ Lib.bitLen n at a
  change 2 ^ (Lib.bitLen n - 1) ≤ n at b
  change n < 2 ^ Lib.bitLen n at c
  exact ⟨Lib.bitLen n - 1, by omega, by omega, b, by rw [Nat.sub_add_cancel a]; exact c⟩

theorem mant_in {n c : Nat} (h1 : 2 ^ c ≤ n) (h2 : n < 2 ^ (c + 1)) : 1073741824 ≤ mant n c ∧ mant n c ≤ 2147483647 := by
  unfold mant
  split
  · rename_i h
    have e : 2 ^ c * 2 ^ (30 - c) = 1073741824 := by rw [← Nat.pow_add, Nat.add_sub_cancel' h]
    have e2 : 2 ^ (c + 1) * 2 ^ (30 - c) = 2147483648 := by rw [← Nat.pow_add, show c + 1 + (30 - c) = 31 from by omega]
    have p := Nat.two_pow_pos (30 - c)
    have := Nat.mul_le_mul_right (2 ^ (30 - c)) h1
    have := (Nat.mul_lt_mul_right p).2 h2
    omega
  · rename_i h
    have p := Nat.two_pow_pos (c - 30)
    have e : 1073741824 * 2 ^ (c - 30) = 2 ^ c := by rw [show 1073741824 = 2 ^ 30 from rfl, ← Nat.pow_add, show 30 + (c - 30) = c from by omega]
    have e2 : 2147483648 * 2 ^ (c - 30) = 2 ^ (c + 1) := by rw [show 2147483648 = 2 ^ 31 from rfl, ← Nat.pow_add, show 31 + (c - 30) = c + 1 from by omega]
    have := (Nat.le_div_iff_mul_le p).2 (e ▸ h1)
    have := (Nat.div_lt_iff_lt_mul p).2 (e2 ▸ h2)
    omega

theorem mant_shl {n c : Nat} (h : c ≤ 30) (hm : mant n c ≤ 2147483647) : wrap64 ((n : Int) * 2 ^ (30 - c)) = (mant n c : Int) := by
  have e : (n : Int) * 2 ^ (30 - c) = (mant n c : Int) := by simp [mant, h]
  rw [e]; exact IntWalk.wrap64_in _ (by omega)
theorem mant_shr {n c : Nat} (h : 30 < c) : (n : Int) / 2 ^ (c - 30) = (mant n c : Int) := by
  simp [mant, show ¬ c ≤ 30 from by omega]
theorem logS_eq {n c : Nat} (h : Lib.bitLen n = c + 1) : 256 * (c : Int) + dAt (mant n c) 8 = logS n := by
  simp [logS, h]

set_option maxHeartbeats 400000 in
theorem log_any (n : Nat) (w : World) (h1 : 1 ≤ n) (h2 : n < 9223372036854775808) :
    Calls Tryz.prog 43 #[.int .i64 n] w fun e w' => e = .returned (.tuple #[.int .i64 (logS n), .int .i64 0]) ∧ w = w' := by
  obtain ⟨c, hc, hc2, hb1, hb2⟩ := bl_pos h1 h2
  have hm := mant_in hb1 hb2
  have HC := Lib.hid hc; clear hc
  have HM := Lib.hid hm; clear hm
  clear hb1 hb2
  go_enter Tryz.func43, Tryz.ntmps43
  go_wp2_with (go_at_call 69; refine (Tryz.bits_Len _ _ (by omega) (by omega)).mono ?_; rintro e w' ⟨rfl, rfl⟩; rw [show (↑n : Int).toNat = n from rfl, HC.out])
  · rw [mant_shl (by omega) HM.out.2]
    refine (digits_any _ _ _ (by have := HM.out; omega) (by have := HM.out; omega) (by omega) (by omega)).mono ?_
    rintro e w' ⟨rfl, rfl⟩
    rw [logS_eq HC.out]
    go_wp2
    go_ret2
    exact ⟨rfl, rfl⟩
  · rw [mant_shr (by omega)]
    refine (digits_any _ _ _ (by have := HM.out; omega) (by have := HM.out; omega) (by omega) (by omega)).mono ?_
    rintro e w' ⟨rfl, rfl⟩
    rw [logS_eq HC.out]
    go_wp2
    go_ret2
    exact ⟨rfl, rfl⟩

theorem log_bad (n : Int) (w : World) (h1 : n < 1) :
    Calls Tryz.prog 43 #[.int .i64 n] w fun e w' => e = .returned (.tuple #[.int .i64 0, .int .i64 2]) ∧ w = w' := by
  go_enter Tryz.func43, Tryz.ntmps43
  go_wp2
  go_ret2
  exact ⟨rfl, rfl⟩

set_option maxHeartbeats 400000 in
theorem rlog_any (n : Nat) (w : World) (h1 : 1 ≤ n) (h2 : n < 9223372036854775808) :
    Calls Tryz.prog 31 #[.int .i64 n] w fun e w' => e = .returned (.tuple #[.int .i64 (logS n), .int .i64 0]) ∧ w = w' := by
  obtain ⟨c, hc, hc2, hb1, hb2⟩ := bl_pos h1 h2
  have hm := mant_in hb1 hb2
  have HC := Lib.hid hc; clear hc
  have HM := Lib.hid hm; clear hm
  clear hb1 hb2
  go_enter Tryz.func31, Tryz.ntmps31
  go_wp2_with (go_at_call 59; refine (rdigits_any n _ (by omega)).mono ?_; rintro e w' ⟨rfl, rfl⟩; rw [HC.out])
  · rw [mant_shl (by omega) HM.out.2]
    refine (steps_any _ _ _ (by have := HM.out; omega) (by have := HM.out; omega) (by omega) (by omega)).mono ?_
    rintro e w' ⟨rfl, rfl⟩
    rw [logS_eq HC.out]
    go_wp2
    go_ret2
    exact ⟨rfl, rfl⟩
  · rw [mant_shr (by omega)]
    refine (steps_any _ _ _ (by have := HM.out; omega) (by have := HM.out; omega) (by omega) (by omega)).mono ?_
    rintro e w' ⟨rfl, rfl⟩
    rw [logS_eq HC.out]
    go_wp2
    go_ret2
    exact ⟨rfl, rfl⟩

theorem rlog_bad (n : Int) (w : World) (h1 : n < 1) :
    Calls Tryz.prog 31 #[.int .i64 n] w fun e w' => e = .returned (.tuple #[.int .i64 0, .int .i64 2]) ∧ w = w' := by
  go_enter Tryz.func31, Tryz.ntmps31
  go_wp2
  go_ret2
  exact ⟨rfl, rfl⟩

/-- The hundredths of a decade, rounded down. -/
def floorS (l : Int) : Int := if -16777216 ≤ l ∧ l ≤ 16777216 then l * 30103 / 256000 else 0

theorem tdiv_floor (x n : Int) (h1 : 0 < n) : x / n = if x.tmod n < 0 then x.tdiv n - 1 else x.tdiv n := by
  have a := Int.tmod_add_mul_tdiv x n
  have b := Int.emod_add_mul_ediv x n
  have c := Int.emod_nonneg x (by omega : n ≠ 0)
  have d := Int.emod_lt_of_pos x h1
  have e : x.tmod n = x % n - _ := Int.tmod_eq_emod
  have f := Int.natAbs_of_nonneg (Int.le_of_lt h1)
  have key : x / n = x.tdiv n ∨ x / n = x.tdiv n - 1 := by
    split at e
    · left; have : n * (x / n) = n * x.tdiv n := by omega
      exact Int.eq_of_mul_eq_mul_left (by omega) this
    · right; have : n * (x / n) = n * (x.tdiv n - 1) := by rw [Int.mul_sub, Int.mul_one]; omega
      exact Int.eq_of_mul_eq_mul_left (by omega) this
  split
  · rename_i h
    rcases key with k | k
    · rw [k] at b; omega
    · exact k
  · rename_i h
    rcases key with k | k
    · exact k
    · rw [k, Int.mul_sub, Int.mul_one] at b; omega

set_option maxHeartbeats 400000 in
theorem floor_any (l : Int) (w : World) :
    Calls Tryz.prog 26 #[.int .i64 l] w fun e w' => e = .returned (.int .i64 (floorS l)) ∧ w = w' := by
  have ht := tdiv_floor (l * 30103) 256000 (by omega)
  have HT := Lib.hid ht; clear ht
  by_cases h1 : -16777216 ≤ l <;> by_cases h2 : l ≤ 16777216
  all_goals
    go_enter Tryz.func26, Tryz.ntmps26
    go_wp2
  · go_ret
    have h : (l * 30103).tmod 256000 < 0 := by assumption
    have ht := HT.out
    rw [if_pos h] at ht
    exact ⟨ret_int (by rw [floorS, if_pos ⟨h1, h2⟩, ht]; exact IntWalk.wrap64_in _ (by omega)), rfl⟩
  · go_ret
    have h : 0 ≤ (l * 30103).tmod 256000 := by assumption
    have ht := HT.out
    rw [if_neg (by omega)] at ht
    exact ⟨ret_int (by rw [floorS, if_pos ⟨h1, h2⟩, ht]), rfl⟩
  all_goals
    go_ret
    exact ⟨ret_int (by rw [floorS, if_neg (by omega)]), rfl⟩

theorem floorS_in (l : Int) : -2000000 ≤ floorS l ∧ floorS l ≤ 2000000 := by unfold floorS; split <;> omega

set_option maxHeartbeats 400000 in
theorem ceil_any (l : Int) (w : World) :
    Calls Tryz.prog 28 #[.int .i64 l] w fun e w' => e = .returned (.int .i64 (- floorS (wrap64 (-l)))) ∧ w = w' := by
  have hf := floorS_in (wrap64 (-l))
  go_enter Tryz.func28, Tryz.ntmps28
  go_wp2_with (go_at_call 26; refine (floor_any _ _).mono ?_; rintro e w' ⟨rfl, rfl⟩)
  go_ret
  exact ⟨rfl, rfl⟩

theorem tdiv_floor' (x n : Int) (h1 : 0 < n) : x / n = if x < x.tdiv n * n then x.tdiv n - 1 else x.tdiv n := by
  rw [tdiv_floor x n h1]
  have a := Int.tmod_add_mul_tdiv x n
  rw [Int.mul_comm] at a
  split <;> split <;> omega

set_option maxHeartbeats 400000 in
theorem rfloor_any (l : Int) (w : World) :
    Calls Tryz.prog 33 #[.int .i64 l] w fun e w' => e = .returned (.int .i64 (floorS l)) ∧ w = w' := by
  have ht := tdiv_floor' (l * 30103) 256000 (by omega)
  have ha := Int.tmod_add_mul_tdiv (l * 30103) 256000
  have hb := Int.tmod_lt_of_pos (l * 30103) (show 0 < (256000 : Int) by omega)
  have hb' := Int.lt_tmod_of_pos (l * 30103) (show 0 < (256000 : Int) by omega)
  have HT := Lib.hid ht; clear ht
  have HA := Lib.hid ha
  by_cases h1 : -16777216 ≤ l <;> by_cases h2 : l ≤ 16777216
  · have hq : -3000000 ≤ (l * 30103).tdiv 256000 ∧ (l * 30103).tdiv 256000 ≤ 3000000 := by omega
    clear ha hb hb'
    go_enter Tryz.func33, Tryz.ntmps33
    go_wp2
    · go_ret
      have h : l * 30103 < (l * 30103).tdiv 256000 * 256000 := by assumption
      have ht := HT.out
      rw [if_pos h] at ht
      exact ⟨ret_int (by rw [floorS, if_pos ⟨h1, h2⟩, ht]), rfl⟩
    · go_ret
      have h : (l * 30103).tdiv 256000 * 256000 ≤ l * 30103 := by assumption
      have ht := HT.out
      rw [if_neg (by omega)] at ht
      exact ⟨ret_int (by rw [floorS, if_pos ⟨h1, h2⟩, ht]), rfl⟩
  all_goals
    clear ha hb hb'
    go_enter Tryz.func33, Tryz.ntmps33
    go_wp2
    go_ret
    exact ⟨ret_int (by rw [floorS, if_neg (by omega)]), rfl⟩

set_option maxHeartbeats 400000 in
theorem rceil_any (l : Int) (w : World) :
    Calls Tryz.prog 35 #[.int .i64 l] w fun e w' => e = .returned (.int .i64 (- floorS (wrap64 (-l)))) ∧ w = w' := by
  have hf := floorS_in (wrap64 (-l))
  go_enter Tryz.func35, Tryz.ntmps35
  go_wp2_with (go_at_call 33; refine (rfloor_any _ _).mono ?_; rintro e w' ⟨rfl, rfl⟩)
  go_ret
  exact ⟨rfl, rfl⟩
end Go.Proofs.YtmgfdfbhfhmekaaGreat
