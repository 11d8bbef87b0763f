/- Layer 24: Floor and Ceil of the program and of the reference. -/
import Derived.Test.YtkckcaijfedijaaInts
import Derived.Test.YtkckcaijfedijaaShelf
namespace Go.Proofs.Ytkckcaijfedijaa
set_option linter.all false
open Go.RowKit

/-- The square root, rounded down. -/
def sqF : Nat → Nat → Nat
  | 0, _ => 0
  | k + 1, n => if (sqF k n + 1) * (sqF k n + 1) ≤ n then sqF k n + 1 else sqF k n
def sqS (n : Nat) : Nat := sqF n n
theorem sqF_le (n : Nat) : ∀ k, sqF k n * sqF k n ≤ n
  | 0 => by simp [sqF]
  | k + 1 => by unfold sqF; split; assumption; exact sqF_le n k
theorem sqF_lt (n : Nat) : ∀ k, n < (sqF k n + 1) * (sqF k n + 1) ∨ k ≤ sqF k n
  | 0 => .inr (Nat.zero_le _)
  | k + 1 => by
    unfold sqF
    rcases sqF_lt n k with h | h
    · split
      · omega
      · exact .inl h
    · split
      · right; omega
      · left; omega
theorem sqS_spec (n : Nat) : sqS n * sqS n ≤ n ∧ n < (sqS n + 1) * (sqS n + 1) := by
  refine ⟨sqF_le n n, ?_⟩
  rcases sqF_lt n n with h | h
  · exact h
  · have : n * n ≤ sqF n n * sqF n n := Nat.mul_le_mul h h
    unfold sqS
    rw [Nat.add_mul, Nat.mul_add]; omega
theorem sq_mono {a b : Nat} (h : a * a < b * b) : a < b := by
  rcases Nat.lt_or_ge a b with h' | h'
  · exact h'
  · have := Nat.mul_le_mul h' h'; omega
theorem sqS_unique {n r : Nat} (h1 : r * r ≤ n) (h2 : n < (r + 1) * (r + 1)) : r = sqS n := by
  obtain ⟨a, b⟩ := sqS_spec n
  have := sq_mono (Nat.lt_of_le_of_lt h1 b)
  have := sq_mono (Nat.lt_of_le_of_lt a h2)
  omega
theorem sqS_le {n : Nat} (h : n < 9223372036854775808) : sqS n ≤ 3037000499 := by
  have a := (sqS_spec n).1
  have : sqS n < 3037000500 := sq_mono (by omega)
  omega

def floorI (n : Int) : Int := sqS n.toNat
def ceilI (n : Int) : Int := if floorI n * floorI n < n then floorI n + 1 else floorI n
theorem floorI_neg {n : Int} (h : n ≤ 0) : floorI n = 0 := by
  unfold floorI; rw [show n.toNat = 0 from by omega]; rfl
theorem floorI_le {n : Int} (h : n ≤ 9223372036854775807) : 0 ≤ floorI n ∧ floorI n ≤ 3037000499 := by
  have := sqS_le (n := n.toNat) (by omega)
  unfold floorI; omega
theorem floorI_spec {n : Int} (h : 0 ≤ n) : floorI n * floorI n ≤ n ∧ n < (floorI n + 1) * (floorI n + 1) := by
  obtain ⟨a, b⟩ := sqS_spec n.toNat
  have e1 : floorI n * floorI n = ((sqS n.toNat * sqS n.toNat : Nat) : Int) := by unfold floorI; simp
  have e2 : (floorI n + 1) * (floorI n + 1) = (((sqS n.toNat + 1) * (sqS n.toNat + 1) : Nat) : Int) := by unfold floorI; simp
  rw [e1, e2]; omega
theorem floorI_unique {n r : Int} (h0 : 0 ≤ r) (h1 : r * r ≤ n) (h2 : n < (r + 1) * (r + 1)) : r = floorI n := by
  obtain ⟨r, rfl⟩ := Int.eq_ofNat_of_zero_le h0
  have hn : 0 ≤ n := Int.le_trans (Int.mul_nonneg h0 h0) h1
  obtain ⟨n, rfl⟩ := Int.eq_ofNat_of_zero_le hn
  have := sqS_unique (n := n) (r := r) (by exact_mod_cast h1) (by exact_mod_cast h2)
  unfold floorI; rw [this]; rfl

theorem pow2 (j : Nat) : 2 ^ (j + 1) = 2 * 2 ^ j := by rw [Nat.pow_succ]; omega
theorem or_bit {r j : Nat} (h : r % 2 ^ (j + 1) = 0) (h1 : r < 4294967296) (h2 : j ≤ 31) : bits .or .i64 (r : Int) (2 ^ j) = ((r + 2 ^ j : Nat) : Int) := by
  have p : 2 ^ j ≤ 2 ^ 31 := Nat.pow_le_pow_right (by omega) h2
  have pp := pow2 j
  have q := Nat.two_pow_pos j
  have c : (2 : Int) ^ j = ((2 ^ j : Nat) : Int) := by simp
  have c2 : (2 : Int) ^ (j + 1) = ((2 ^ (j + 1) : Nat) : Int) := by simp
  rw [bits_join .i64 63 (by decide) wraps_i64 (j + 1) _ _ (by omega) (by rw [c2]; omega) (by omega) (by rw [c]; omega) (by rw [c, c2]; omega) (by rw [c]; omega)]
  rw [c]; omega

/-- The walk's state: r is the root so far, its square at most n, and n is less than the square of r + 2^j. -/
def Root (n r j : Nat) : Prop := r % 2 ^ j = 0 ∧ r * r ≤ n ∧ n < (r + 2 ^ j) * (r + 2 ^ j)
theorem Root.yes {n r j : Nat} (h : Root n r (j + 1)) (hx : (r + 2 ^ j) * (r + 2 ^ j) ≤ n) : Root n (r + 2 ^ j) j := by
  obtain ⟨h1, h2, h3⟩ := h
  have pp := pow2 j
  refine ⟨?_, hx, ?_⟩
  · rw [Nat.add_mod_right]
    rw [pp] at h1
    have : r % (2 * 2 ^ j) % 2 ^ j = r % 2 ^ j := Nat.mod_mul_left_mod r 2 (2 ^ j)
    rw [h1] at this; simpa using this.symm
  · rw [pp] at h3; rw [show r + 2 ^ j + 2 ^ j = r + 2 * 2 ^ j from by omega]; exact h3
theorem Root.no {n r j : Nat} (h : Root n r (j + 1)) (hx : n < (r + 2 ^ j) * (r + 2 ^ j)) : Root n r j := by
  obtain ⟨h1, h2, h3⟩ := h
  refine ⟨?_, h2, hx⟩
  rw [pow2 j] at h1
  have : r % (2 * 2 ^ j) % 2 ^ j = r % 2 ^ j := Nat.mod_mul_left_mod r 2 (2 ^ j)
  rw [h1] at this; simpa using this.symm
theorem Root.done {n r : Nat} (h : Root n r 0) : r = sqS n := sqS_unique h.2.1 (by simpa using h.2.2)
theorem Root.start {n m : Nat} (h : n < 2 ^ (2 * m)) : Root n 0 m := by
  refine ⟨by simp, by simp, ?_⟩
  rw [Nat.zero_add, ← Nat.pow_add]; rwa [show m + m = 2 * m from by omega]
theorem Root.lt {n r j : Nat} (h : Root n r j) (hn : n < 9223372036854775808) : r ≤ 3037000499 := by
  have : r < 3037000500 := sq_mono (by have := h.2.1; omega)
  omega
theorem le_div_iff {x n : Nat} (h : 0 < x) : x ≤ n / x ↔ x * x ≤ n := Nat.le_div_iff_mul_le h

theorem wrap_pow {j : Nat} (h : j ≤ 62) : wrap64 (2 ^ j) = ((2 ^ j : Nat) : Int) := by
  have pw : 2 ^ j ≤ 2 ^ 62 := Nat.pow_le_pow_right (by omega) h
  have e : (2 : Int) ^ j = ((2 ^ j : Nat) : Int) := by simp
  rw [e]
  generalize 2 ^ j = p at *
  exact IntWalk.wrap64_in _ (by omega)
theorem or_bit' {r j b : Nat} (hb : b = 2 ^ j) (h : r % 2 ^ (j + 1) = 0) (h1 : r < 4294967296) (h2 : j ≤ 31) : bits .or .i64 (r : Int) (b : Int) = ((r + b : Nat) : Int) := by
  subst hb; rw [← or_bit h h1 h2]; simp
theorem div_dec_yes {x n : Nat} (h : x * x ≤ n) (h0 : 0 < x) : (x : Int) ≤ (n : Int) / (x : Int) := by
  have := (le_div_iff h0).2 h
  exact_mod_cast this
theorem div_dec_no {x n : Nat} (h : n < x * x) (h0 : 0 < x) : (n : Int) / (x : Int) < (x : Int) := by
  rcases Nat.lt_or_ge (n / x) x with h' | h'
  · exact_mod_cast h'
  · have := (le_div_iff h0).1 h'; omega

theorem div_wrap {x n : Nat} (h2 : n < 9223372036854775808) : wrap64 ((n : Int) / (x : Int)) = (n : Int) / (x : Int) := by
  have e : (n : Int) / (x : Int) = ((n / x : Nat) : Int) := by simp
  rw [e]
  have : n / x ≤ n := Nat.div_le_self n x
  generalize n / x = y at *
  exact IntWalk.wrap64_in _ (by omega)

set_option maxHeartbeats 800000 in
theorem floor_pos (n : Nat) (w : World) (h1 : 1 ≤ n) (h2 : n < 9223372036854775808) :
    Calls Try.prog 90 #[.int .i64 n] w fun e w' => e = .returned (.int .i64 (sqS n)) ∧ w = w' := by
  obtain ⟨a, b, c⟩ := Lib.bitLenAux_bounds 64 n (Nat.lt_trans h2 (by decide)) (by omega)
  have d := Lib.bitLen_le n 63 (by omega) h2
  change 1 ≤ Lib.bitLen n at a
  change n < 2 ^ Lib.bitLen n at c
  obtain ⟨l, hl⟩ : ∃ l, Lib.bitLen n = l + 1 := ⟨Lib.bitLen n - 1, by omega⟩
  rw [hl] at c d
  have hst : Root n 0 (l / 2 + 1) := Root.start (Nat.lt_of_lt_of_le c (Nat.pow_le_pow_right (by omega) (by omega)))
  have HL := Lib.hid hl; have HST := Lib.hid hst
  clear a b c hl hst
  have hl2 : l / 2 ≤ 31 := by omega
  have EW := Lib.hid (wrap_pow (j := l / 2) (by omega))
  go_enter Try.func90, Try.ntmps90
  go_wp2_with (go_at_call 103; refine (Try.bits_Len _ _ (by omega) (by omega)).mono ?_; rintro e w' ⟨rfl, rfl⟩; rw [show (↑n : Int).toNat = n from rfl, HL.out])
  rw [EW.out]
  go_loop [3, 4] (fun x y => ∃ r j b : Nat, j ≤ 32 ∧ x = .int .i64 r ∧ y = .int .i64 b ∧ b = 2 ^ j / 2 ∧ Root n r j) (fun _ y => (intOf y).toNat)
  case atStart => exact ⟨0, l / 2 + 1, 2 ^ (l / 2), by omega, rfl, rfl, by rw [pow2, Nat.mul_div_cancel_left _ (by omega)], HST.out⟩
  case round =>
    obtain ⟨r, j, b, hj, rfl, rfl, hb, hR⟩ := hrel
    have hr := hR.lt h2
    cases j with
    | zero =>
      have hd := hR.done
      obtain rfl : b = 0 := hb
      have HD := Lib.hid hd
      clear hR hd
      go_wp2
      go_ret
      exact ⟨by rw [← HD.out]; rfl, rfl⟩
    | succ i =>
      have hb' : b = 2 ^ i := by rw [hb, pow2]; exact Nat.mul_div_cancel_left _ (by omega)
      have hor := or_bit' hb' hR.1 (by omega) (by omega)
      have hb1 : 1 ≤ b := by rw [hb']; exact Nat.two_pow_pos i
      have hb2 : b ≤ 2147483648 := by rw [hb']; exact Nat.pow_le_pow_right (n := 2) (by omega) (show i ≤ 31 by omega)
      have HB := Lib.hid hb'
      have hbn : b / 2 = 2 ^ i / 2 := by rw [hb']
      have HBN := Lib.hid hbn
      obtain ⟨x, hx⟩ : ∃ x, x = r + b := ⟨_, rfl⟩
      rw [← hx] at hor
      have hx1 : 1 ≤ x := by omega
      have hx2 : x ≤ 6000000000 := by omega
      have HX := Lib.hid hx; have HR := Lib.hid hR
      clear hb hb' hbn hx hR
      by_cases hq : x * x ≤ n
      · have hd := div_dec_yes hq hx1
        have hdw := div_wrap (x := x) h2
        have hR' : Root n x i := by have := HR.out.yes (by rw [← HB.out, ← HX.out]; exact hq); rwa [← HB.out, ← HX.out] at this
        have HR' := Lib.hid hR'
        clear hq hR'
        go_wp2
        go_round
        case rel => exact ⟨x, i, b / 2, by omega, rfl, by go_num, HBN.out, HR'.out⟩
        case measure => simp [intOf]; omega
      · have hd := div_dec_no (Nat.lt_of_not_le hq) hx1
        have hdw := div_wrap (x := x) h2
        have hR' : Root n r i := HR.out.no (by rw [← HB.out, ← HX.out]; omega)
        have HR' := Lib.hid hR'
        clear hq hR'
        go_wp2
        go_round
        case rel => exact ⟨r, i, b / 2, by omega, rfl, by go_num, HBN.out, HR'.out⟩
        case measure => simp [intOf]; omega

theorem floor_neg (n : Int) (w : World) (h : n ≤ 0) :
    Calls Try.prog 90 #[.int .i64 n] w fun e w' => e = .returned (.int .i64 0) ∧ w = w' := by
  go_enter Try.func90, Try.ntmps90
  go_wp2
  go_ret
  exact ⟨rfl, rfl⟩

theorem gfloor_any (n : Int) (w : World) (h : n ≤ 9223372036854775807) :
    Calls Try.prog 90 #[.int .i64 n] w fun e w' => e = .returned (.int .i64 (floorI n)) ∧ w = w' := by
  by_cases h0 : n ≤ 0
  · rw [floorI_neg h0]; exact floor_neg n w h0
  · obtain ⟨m, rfl⟩ := Int.eq_ofNat_of_zero_le (show 0 ≤ n by omega)
    exact floor_pos m w (by omega) (by omega)

theorem floor_sq_dec (n : Int) (h : n ≤ 9223372036854775807) : wrap64 (floorI n * floorI n) = floorI n * floorI n := by
  have a := floorI_le h
  have b : floorI n * floorI n ≤ 3037000499 * 3037000499 := Int.mul_le_mul a.2 a.2 a.1 (by omega)
  have c := Int.mul_nonneg a.1 a.1
  generalize floorI n * floorI n = q at *
  exact IntWalk.wrap64_in _ (by omega)

set_option maxHeartbeats 400000 in
theorem gceil_any (n : Int) (w : World) (h : n ≤ 9223372036854775807) :
    Calls Try.prog 86 #[.int .i64 n] w fun e w' => e = .returned (.int .i64 (ceilI n)) ∧ w = w' := by
  have hw := floor_sq_dec n h
  have hin := floorI_le h
  by_cases hlt : floorI n * floorI n < n
  · have hc : ceilI n = floorI n + 1 := by unfold ceilI; rw [if_pos hlt]
    have HC := Lib.hid hc; clear hc
    go_enter Try.func86, Try.ntmps86
    go_wp2_with (go_at_call 90; refine (gfloor_any _ _ h).mono ?_; rintro e w' ⟨rfl, rfl⟩)
    go_ret
    exact ⟨by rw [HC.out]; rfl, rfl⟩
  · have hc : ceilI n = floorI n := by unfold ceilI; rw [if_neg hlt]
    have HC := Lib.hid hc; clear hc
    go_enter Try.func86, Try.ntmps86
    go_wp2_with (go_at_call 90; refine (gfloor_any _ _ h).mono ?_; rintro e w' ⟨rfl, rfl⟩)
    go_ret
    exact ⟨by rw [HC.out]; rfl, rfl⟩

theorem sq_cast (x : Nat) : (x : Int) * (x : Int) = ((x * x : Nat) : Int) := by simp

/-- What the reference's loop keeps, for numbers of any sign. -/
def RRoot (n : Int) (r j : Nat) : Prop := (n < 0 ∧ r = 0) ∨ (0 ≤ n ∧ Root n.toNat r j)
theorem RRoot.le {n : Int} {r j : Nat} (h : RRoot n r j) (hn : n ≤ 9223372036854775807) : r ≤ 3037000499 := by
  rcases h with ⟨_, rfl⟩ | ⟨_, h⟩
  · omega
  · exact h.lt (by omega)
theorem RRoot.yes {n : Int} {r j : Nat} (h : RRoot n r (j + 1)) (hx : ((r + 2 ^ j : Nat) : Int) * ((r + 2 ^ j : Nat) : Int) ≤ n) : RRoot n (r + 2 ^ j) j := by
  rw [sq_cast] at hx
  rcases h with ⟨h0, rfl⟩ | ⟨h0, h⟩
  · omega
  · exact .inr ⟨h0, h.yes (by omega)⟩
theorem RRoot.no {n : Int} {r j : Nat} (h : RRoot n r (j + 1)) (hx : n < ((r + 2 ^ j : Nat) : Int) * ((r + 2 ^ j : Nat) : Int)) : RRoot n r j := by
  rw [sq_cast] at hx
  rcases h with ⟨h0, rfl⟩ | ⟨h0, h⟩
  · exact .inl ⟨h0, rfl⟩
  · exact .inr ⟨h0, h.no (by omega)⟩
theorem RRoot.done {n : Int} {r : Nat} (h : RRoot n r 0) : (r : Int) = floorI n := by
  rcases h with ⟨h0, rfl⟩ | ⟨h0, h⟩
  · rw [floorI_neg (by omega)]; rfl
  · rw [h.done]; rfl
theorem RRoot.start {n : Int} (h : n ≤ 9223372036854775807) : RRoot n 0 32 := by
  by_cases h0 : n < 0
  · exact .inl ⟨h0, rfl⟩
  · exact .inr ⟨by omega, Root.start (Nat.lt_of_lt_of_le (show n.toNat < 9223372036854775808 by omega) (by decide))⟩

set_option maxHeartbeats 800000 in
theorem rfloor24_any (n : Int) (w : World) (h2 : n ≤ 9223372036854775807) :
    Calls Try.prog 96 #[.int .i64 n] w fun e w' => e = .returned (.int .i64 (floorI n)) ∧ w = w' := by
  have HST := Lib.hid (RRoot.start h2)
  go_enter Try.func96, Try.ntmps96
  go_wp2
  go_loop [3, 4] (fun x y => ∃ r j b : Nat, j ≤ 32 ∧ x = .int .i64 r ∧ y = .int .i64 b ∧ b = 2 ^ j / 2 ∧ RRoot n r j) (fun _ y => (intOf y).toNat)
  case atStart => exact ⟨0, 32, 2147483648, by omega, rfl, rfl, rfl, HST.out⟩
  case round =>
    obtain ⟨r, j, b, hj, rfl, rfl, hb, hR⟩ := hrel
    have hr := hR.le h2
    cases j with
    | zero =>
      have hd := hR.done
      obtain rfl : b = 0 := hb
      have HD := Lib.hid hd
      clear hR hd
      go_wp2
      go_ret
      exact ⟨by rw [← HD.out]; rfl, rfl⟩
    | succ i =>
      have hb' : b = 2 ^ i := by rw [hb, pow2]; exact Nat.mul_div_cancel_left _ (by omega)
      have hb1 : 1 ≤ b := by rw [hb']; exact Nat.two_pow_pos i
      have hb2 : b ≤ 2147483648 := by rw [hb']; exact Nat.pow_le_pow_right (n := 2) (by omega) (show i ≤ 31 by omega)
      have HB := Lib.hid hb'
      have hbn : b / 2 = 2 ^ i / 2 := by rw [hb']
      have HBN := Lib.hid hbn
      have HR := Lib.hid hR
      clear hb hb' hbn hR
      by_cases hs : r + b ≤ 3037000499
      · have hsi : (r : Int) + (b : Int) ≤ 3037000499 := by omega
        have hsq : (r + b) * (r + b) ≤ 3037000499 * 3037000499 := Nat.mul_le_mul hs hs
        have hw : wrap64 (((r : Int) + (b : Int)) * ((r : Int) + (b : Int))) = ((r + b : Nat) : Int) * ((r + b : Nat) : Int) := by
          have e : ((r : Int) + (b : Int)) * ((r : Int) + (b : Int)) = (((r + b) * (r + b) : Nat) : Int) := by simp
          rw [e, sq_cast]
          generalize (r + b) * (r + b) = q at *
          exact IntWalk.wrap64_in _ (by omega)
        by_cases hq : ((r + b : Nat) : Int) * ((r + b : Nat) : Int) ≤ n
        · have hd : decide (wrap64 (((r : Int) + (b : Int)) * ((r : Int) + (b : Int))) ≤ n) = true := by rw [hw]; simpa using hq
          have HR' := Lib.hid (HR.out.yes (by rw [← HB.out]; exact hq))
          clear hq hw hsq
          go_wp2
          go_round
          case rel => exact ⟨r + b, i, b / 2, by omega, by go_num, by go_num, HBN.out, by have := HR'.out; rwa [← HB.out] at this⟩
          case measure => simp [intOf]; omega
        · have hd : decide (wrap64 (((r : Int) + (b : Int)) * ((r : Int) + (b : Int))) ≤ n) = false := by rw [hw]; simpa using hq
          have HR' := Lib.hid (HR.out.no (by rw [← HB.out]; omega))
          clear hq hw hsq
          go_wp2
          go_round
          case rel => exact ⟨r, i, b / 2, by omega, rfl, by go_num, HBN.out, HR'.out⟩
          case measure => simp [intOf]; omega
      · have hsi : 3037000499 < (r : Int) + (b : Int) := by omega
        have hq : n < ((r + b : Nat) : Int) * ((r + b : Nat) : Int) := by
          have : 3037000500 * 3037000500 ≤ (r + b) * (r + b) := Nat.mul_le_mul (by omega) (by omega)
          rw [sq_cast]
          generalize (r + b) * (r + b) = q at *
          omega
        have HR' := Lib.hid (HR.out.no (by rw [← HB.out]; exact hq))
        have hsd : decide ((r : Int) + (b : Int) ≤ 3037000499) = false := by simp; omega
        clear hq
        go_wp2
        go_round
        case rel => exact ⟨r, i, b / 2, by omega, rfl, by go_num, HBN.out, HR'.out⟩
        case measure => simp [intOf]; omega

set_option maxHeartbeats 400000 in
theorem rceil24_any (n : Int) (w : World) (h : n ≤ 9223372036854775807) :
    Calls Try.prog 93 #[.int .i64 n] w fun e w' => e = .returned (.int .i64 (ceilI n)) ∧ w = w' := by
  have hw := floor_sq_dec n h
  have hin := floorI_le h
  by_cases hlt : floorI n * floorI n < n
  · have hc : ceilI n = floorI n + 1 := by unfold ceilI; rw [if_pos hlt]
    have HC := Lib.hid hc; clear hc
    go_enter Try.func93, Try.ntmps93
    go_wp2_with (go_at_call 96; refine (rfloor24_any _ _ h).mono ?_; rintro e w' ⟨rfl, rfl⟩)
    go_ret
    exact ⟨by rw [HC.out]; rfl, rfl⟩
  · have hc : ceilI n = floorI n := by unfold ceilI; rw [if_neg hlt]
    have HC := Lib.hid hc; clear hc
    go_enter Try.func93, Try.ntmps93
    go_wp2_with (go_at_call 96; refine (rfloor24_any _ _ h).mono ?_; rintro e w' ⟨rfl, rfl⟩)
    go_ret
    exact ⟨by rw [HC.out]; rfl, rfl⟩
end Go.Proofs.Ytkckcaijfedijaa
