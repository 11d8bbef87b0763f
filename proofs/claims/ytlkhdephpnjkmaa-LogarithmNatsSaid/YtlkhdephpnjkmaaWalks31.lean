/- The walks of the laws of layer 31. -/
import Derived.Test.YtlkhdephpnjkmaaAwake31
import Derived.Test.YtlkhdephpnjkmaaLogMath
import Derived.Test.YtlkhdephpnjkmaaNatMath
namespace Go.Proofs.Ytlkhdephpnjkmaa
open Go.RowKit

/-- LogarithmDecades. -/
theorem decades_plain (l : Int) (h1 : -16777216 ≤ l) (h2 : l ≤ 16777216) :
    floorS l * 256000 ≤ l * 30103 ∧ l * 30103 < (floorS l + 1) * 256000 ∧ l * 30103 ≤ - floorS (-l) * 256000 ∧ (- floorS (-l) - 1) * 256000 < l * 30103 := by
  unfold floorS
  rw [if_pos (by omega), if_pos (by omega)]
  omega

set_option maxHeartbeats 400000 in
theorem logarithmDecades_walk (w : World) (x : Int) (_h1 : -9223372036854775808 ≤ x) (_h2 : x ≤ 9223372036854775807) :
    Calls Try.prog 6 #[.int .i64 x] w fun e w' => e = .returned (.bool true) ∧ Below w.heap.size w w' := by
  have hm0 := Int.emod_nonneg x (show (33554433 : Int) ≠ 0 by omega)
  have hm1 := Int.emod_lt_of_pos x (show 0 < (33554433 : Int) by omega)
  generalize hl : x % 33554433 - 16777216 = l
  have hp := decades_plain l (by omega) (by omega)
  have hf := floorS_in l
  have hg := floorS_in (-l)
  have HL := Lib.hid hl; 
  have h1 : -16777216 ≤ l := by omega
  have h2 : l ≤ 16777216 := by omega
  have hw : wrap64 (-l) = -l := IntWalk.wrap64_in _ (by omega)
  have hw2 : wrap64 (- (-l)) = l := by rw [Int.neg_neg]; exact IntWalk.wrap64_in _ (by omega)
  obtain ⟨p1, p2, p3, p4⟩ := hp
  generalize hF : floorS l = f at *
  generalize hC : floorS (-l) = c at *
  have HF := Lib.hid hF; have HC := Lib.hid hC; have HW := Lib.hid hw; have HW2 := Lib.hid hw2
  clear hF hC hw hw2 hl
  go_enter Try.func6, Try.ntmps6
  go_wp2_with fail
  refine (mod_any x 33554433 _ (by omega) (by omega)).mono ?_
  rintro e w' ⟨rfl, rfl⟩
  go_wp2_with fail
  rw [HL.out]
  refine (floor_any _ _).mono ?_
  rintro e w' ⟨rfl, rfl⟩
  rw [HF.out]
  go_wp2_with fail
  refine (ceil_any _ _).mono ?_
  rintro e w' ⟨rfl, rfl⟩
  rw [HW.out, HC.out]
  clear hm0 hm1
  go_wp2_with fail
  refine (ceil_any _ _).mono ?_
  rintro e w' ⟨rfl, rfl⟩
  rw [HW2.out, HF.out]
  go_wp2_with fail
  refine (awake_any _).mono ?_
  rintro e w' ⟨rfl, hg⟩
  have HG := Lib.hid hg; clear hg
  go_wp2
  go_ret
  exact ⟨rfl, gb_end HG.out⟩

/-- A drawn number as a natural one. -/
theorem mod_nat (x M : Int) (h : 0 < M) : ∃ y : Nat, x % M = y ∧ (y : Int) < M := by
  have := Int.emod_nonneg x (show M ≠ 0 by omega)
  have := Int.emod_lt_of_pos x h
  exact ⟨(x % M).toNat, by omega, by omega⟩

set_option maxRecDepth 100000 in
set_option maxHeartbeats 400000 in
theorem logarithmOctaves_walk (w : World) (x : Int) (_h1 : -9223372036854775808 ≤ x) (_h2 : x ≤ 9223372036854775807) :
    Calls Try.prog 7 #[.int .i64 x] w fun e w' => e = .returned (.bool true) ∧ Below w.heap.size w w' := by
  obtain ⟨y, hy, hlt⟩ := mod_nat x 4611686018427387903 (by omega)
  have HY := Lib.hid hy; clear hy
  obtain ⟨c, hc, c1, c2⟩ := logS_octave (n := y + 1) (by omega) (by omega)
  have hin := logS_in (y + 1) (by omega)
  have c61 : c ≤ 61 := by
    rcases Nat.lt_or_ge 61 c with h | h
    · have : 2 ^ 62 ≤ 2 ^ c := Nat.pow_le_pow_right (by omega) h
      omega
    · exact h
  go_enter Try.func7, Try.ntmps7
  go_wp2_with fail
  refine (mod_any x 4611686018427387903 _ (by omega) (by omega)).mono ?_
  rintro e w' ⟨rfl, rfl⟩
  rw [HY.out]
  have HC := Lib.hid hc; clear hc
  have C1 := Lib.hid c1; have C2 := Lib.hid c2; clear c1 c2
  go_wp2_with fail
  rw [show (1 : Int) + (y : Int) = ((y + 1 : Nat) : Int) from by omega]
  refine (log_any (y + 1) _ (by omega) (by omega)).mono ?_
  rintro e w' ⟨rfl, rfl⟩
  generalize hr : logS (y + 1) = r at *
  clear hr
  have hc2 : r / 256 ≤ 61 := by have := HC.out; omega
  obtain ⟨hin1, hin2⟩ := hin
  have hb1 : decide (r < 0) = false := by simp; omega
  have hc := HC.out
  have hb2 : decide (61 < (c : Int)) = false := by simp; omega
  clear hc2
  have p1 : (2 : Int) ^ c ≤ y + 1 := by have := C1.out; have e : (2 : Int) ^ c = ((2 ^ c : Nat) : Int) := by simp
                                        rw [e]; omega
  have p2 : (y : Int) + 1 < 2 ^ (c + 1) := by have := C2.out; have e : (2 : Int) ^ (c + 1) = ((2 ^ (c + 1) : Nat) : Int) := by simp
                                              rw [e]; omega
  have p3 : (2 : Int) ^ (c + 1) ≤ 4611686018427387904 := by
    have : 2 ^ (c + 1) ≤ 2 ^ 62 := Nat.pow_le_pow_right (by omega) (by omega)
    have e : (2 : Int) ^ (c + 1) = ((2 ^ (c + 1) : Nat) : Int) := by simp
    rw [e]; omega
  have p4 : (0 : Int) < 2 ^ c := Int.pow_pos (by omega)
  have hw1 : wrap64 (2 ^ c) = 2 ^ c := IntWalk.wrap64_in _ (by rw [Int.pow_succ] at p3; omega)
  have hw2 : wrap64 (2 ^ (c + 1)) = 2 ^ (c + 1) := IntWalk.wrap64_in _ (by rw [Int.pow_succ] at p3 ⊢; omega)
  have hd1 : decide ((2 : Int) ^ c ≤ ↑y + 1) = true := by simpa using p1
  have hd2 : decide ((y : Int) + 1 < 2 ^ (c + 1)) = true := by simpa using p2
  clear p1 p2 p3 p4
  go_wp2_with fail
  refine (awake_any _).mono ?_
  rintro e w' ⟨rfl, hg⟩
  have HG := Lib.hid hg; clear hg
  go_wp2
  go_ret
  exact ⟨rfl, gb_end HG.out⟩

theorem int_succ (y : Nat) : (1 : Int) + (y : Int) = ((y + 1 : Nat) : Int) := by omega

set_option maxRecDepth 100000 in
set_option maxHeartbeats 800000 in
theorem logarithmAdds_walk (w : World) (x0 : Int) (_h1 : -9223372036854775808 ≤ x0) (_h2 : x0 ≤ 9223372036854775807) (x1 : Int) (_h3 : -9223372036854775808 ≤ x1) (_h4 : x1 ≤ 9223372036854775807) :
    Calls Try.prog 5 #[.int .i64 x0, .int .i64 x1] w fun e w' => e = .returned (.bool true) ∧ Below w.heap.size w w' := by
  obtain ⟨p, hp, hlp⟩ := mod_nat x0 2147483647 (by omega)
  obtain ⟨q, hq, hlq⟩ := mod_nat x1 2147483647 (by omega)
  have hpq : (p + 1) * (q + 1) ≤ 2147483647 * 2147483647 := Nat.mul_le_mul (by omega) (by omega)
  have hadds := logS_adds (a := p + 1) (b := q + 1) (by omega) (by omega) (by omega) (by omega) (by omega)
  have i1 := logS_in (p + 1) (by omega)
  have i2 := logS_in (q + 1) (by omega)
  have i3 := logS_in ((p + 1) * (q + 1)) (by omega)
  have hpos : 1 ≤ (p + 1) * (q + 1) := Nat.mul_pos (by omega) (by omega)
  have hw : wrap64 (((p : Int) + 1) * ((q : Int) + 1)) = (((p + 1) * (q + 1) : Nat) : Int) := by
    have e : ((p : Int) + 1) * ((q : Int) + 1) = (((p + 1) * (q + 1) : Nat) : Int) := by simp
    rw [e]; exact IntWalk.wrap64_in _ (by omega)
  have HW := Lib.hid hw; clear hw
  have HP := Lib.hid hp; have HQ := Lib.hid hq; clear hp hq
  generalize hm : (p + 1) * (q + 1) = m at *
  generalize hr1 : logS (p + 1) = r1 at *
  generalize hr2 : logS (q + 1) = r2 at *
  generalize hr3 : logS m = r3 at *
  have HM := Lib.hid hm; have R1 := Lib.hid hr1; have R2 := Lib.hid hr2; have R3 := Lib.hid hr3
  clear hm hr1 hr2 hr3
  go_enter Try.func5, Try.ntmps5
  go_wp2_with fail
  refine (mod_any x0 2147483647 _ (by omega) (by omega)).mono ?_
  rintro e w' ⟨rfl, rfl⟩
  rw [HP.out]
  go_wp2_with fail
  refine (mod_any x1 2147483647 _ (by omega) (by omega)).mono ?_
  rintro e w' ⟨rfl, rfl⟩
  rw [HQ.out]
  go_wp2_with fail
  rw [int_succ p]
  refine (log_any (p + 1) _ (by omega) (by omega)).mono ?_
  rintro e w' ⟨rfl, rfl⟩
  rw [R1.out]
  go_wp2_with fail
  rw [int_succ q]
  refine (log_any (q + 1) _ (by omega) (by omega)).mono ?_
  rintro e w' ⟨rfl, rfl⟩
  rw [R2.out]
  go_wp2_with fail
  rw [HW.out]
  refine (log_any m _ (by omega) (by omega)).mono ?_
  rintro e w' ⟨rfl, rfl⟩
  rw [R3.out]
  obtain ⟨hadds1, hadds2⟩ := hadds
  go_wp2_with fail
  refine (awake_any _).mono ?_
  rintro e w' ⟨rfl, hg⟩
  have HG := Lib.hid hg; clear hg
  go_wp2
  go_ret
  exact ⟨rfl, gb_end HG.out⟩


set_option maxRecDepth 100000 in
set_option maxHeartbeats 1600000 in
theorem logarithmGrows_walk (w : World) (x0 : Int) (_h1 : -9223372036854775808 ≤ x0) (_h2 : x0 ≤ 9223372036854775807) (x1 : Int) (_h3 : -9223372036854775808 ≤ x1) (_h4 : x1 ≤ 9223372036854775807)
    (v : Value) (xs : List Int) (hs : Sl w v xs) (_hr : ∀ x ∈ xs, -9223372036854775808 ≤ x ∧ x ≤ 9223372036854775807) :
    Calls Try.prog 4 #[.int .i64 x0, .int .i64 x1, v] w fun e w' => e = .returned (.bool true) ∧ Below w.heap.size w w' := by
  obtain ⟨p, hp, hlp⟩ := mod_nat x0 1152921504606846976 (by omega)
  obtain ⟨q, hq, hlq⟩ := mod_nat x1 1152921504606846976 (by omega)
  have HP := Lib.hid hp; have HQ := Lib.hid hq; clear hp hq
  have HS0 := Lib.hid hs; clear hs _hr _h1 _h2 _h3 _h4
  go_enter Try.func4, Try.ntmps4
  go_wp2_with fail
  refine (new_any w v xs HS0.out).mono ?_
  rintro e w1 ⟨rfl, hs, hg⟩
  have HS1 := Lib.hid hs; have HG1 := Lib.hid hg; clear hs hg HS0
  go_wp2_with fail
  refine (mod_any x0 1152921504606846976 _ (by omega) (by omega)).mono ?_
  rintro e w' ⟨rfl, rfl⟩
  rw [HP.out]
  go_wp2_with fail
  refine (mod_any x1 1152921504606846976 _ (by omega) (by omega)).mono ?_
  rintro e w' ⟨rfl, rfl⟩
  rw [HQ.out]
  go_wp2_with fail
  rw [int_succ p, int_succ q]
  generalize ha : p + 1 = a
  generalize hb : q + 1 = b
  have ha1 : 1 ≤ a := by omega
  have ha2 : a ≤ 1152921504606846976 := by omega
  have hb1 : 1 ≤ b := by omega
  have hb2 : b ≤ 1152921504606846976 := by omega
  clear ha hb HP HQ hlp hlq
  refine (n_any w.heap.size _ w.heap.size 2 HS1.out (by omega) (by omega)).mono ?_
  rintro e w2 ⟨t, rfl, ⟨ht0, ht1⟩, hs, hg⟩
  have HS2 := Lib.hid hs; have HG2 := Lib.hid (gb_new HG1.out hg (by simp)); clear hs hg HS1 HG1
  by_cases ht : t = 0
  · subst ht
    go_wp2_with fail
    refine (n_any w.heap.size _ w.heap.size 9 HS2.out (by omega) (by omega)).mono ?_
    rintro e w3 ⟨d0, rfl, ⟨hd0, hd1⟩, hs, hg⟩
    obtain ⟨d, rfl⟩ := Int.eq_ofNat_of_zero_le hd0
    have HS := Lib.hid hs; have HG := Lib.hid (gb_new HG2.out hg (by simp)); clear hs hg HS2 HG2
    obtain ⟨lo, hlo⟩ : ∃ lo, lo = min a (a + 1 + d) := ⟨_, rfl⟩
    obtain ⟨hi, hhi⟩ : ∃ hi, hi = max a (a + 1 + d) := ⟨_, rfl⟩
    have elo : min (a : Int) ((a : Int) + 1 + (d : Int)) = (lo : Int) := by omega
    have ehi : max (a : Int) ((a : Int) + 1 + (d : Int)) = (hi : Int) := by omega
    have hl1 : 1 ≤ lo := by omega
    have hl2 : lo ≤ hi := by omega
    have hl3 : hi ≤ 1152921504606846990 := by omega
    have hl4 : lo ≤ 1152921504606846976 := by omega
    have ELO := Lib.hid elo; have EHI := Lib.hid ehi
    clear hlo hhi elo ehi
    go_wp2_with fail
    rw [ELO.out]
    (with_reducible refine (log_any lo _ (by omega) (by omega)).mono ?_)
    rintro e w' ⟨rfl, rfl⟩
    go_wp2_with fail
    rw [EHI.out]
    (with_reducible refine (log_any hi _ (by omega) (by omega)).mono ?_)
    rintro e w' ⟨rfl, rfl⟩
    have elo := ELO.out
    go_wp2_with fail
    rw [show (2 : Int) * (lo : Int) = ((2 * lo : Nat) : Int) from by omega]
    (with_reducible refine (log_any (2 * lo) _ (by omega) (by omega)).mono ?_)
    rintro e w' ⟨rfl, rfl⟩
    have hmono := logS_mono (a := lo) (b := hi) (by omega) (by omega) (by omega)
    have hdbl := logS_double (n := lo) (by omega) (by omega)
    have i1 := logS_in lo (by omega)
    generalize logS (2 * lo) = r3 at *
    generalize logS lo = r1 at *
    generalize logS hi = r2 at *
    subst hdbl
    clear elo
    go_wp2_with fail
    (with_reducible refine (n_any w.heap.size _ w.heap.size 62 HS.out (by omega) (by omega)).mono ?_)
    rintro e w4 ⟨k0, rfl, ⟨hk0, hk1⟩, hs, hg⟩
    obtain ⟨k, rfl⟩ := Int.eq_ofNat_of_zero_le hk0
    have HG4 := Lib.hid (gb_new HG.out hg (by simp)); clear hg hs
    have hpw : (2 : Int) ^ k = ((2 ^ k : Nat) : Int) := by simp
    have hpw2 : 2 ^ k ≤ 2 ^ 61 := Nat.pow_le_pow_right (by omega) (by omega)
    have hpw3 : 1 ≤ 2 ^ k := Nat.two_pow_pos k
    have hlk := logS_pow (k := k) (by omega)
    have hw : wrap64 (2 ^ k) = ((2 ^ k : Nat) : Int) := by rw [hpw]; exact IntWalk.wrap64_in _ (by omega)
    generalize 2 ^ k = pk at hpw2 hpw3 hlk hw
    have HLK := Lib.hid hlk
    clear hpw hlk
    go_wp2_with fail
    (with_reducible refine (log_any pk _ (by omega) (by omega)).mono ?_)
    rintro e w' ⟨rfl, rfl⟩
    rw [HLK.out]
    clear hw
    go_wp2_with fail
    refine (awake_any _).mono ?_
    rintro e w' ⟨rfl, hg⟩
    have HG5 := Lib.hid (gb_trans HG4.out hg); clear hg
    go_wp2
    go_ret
    exact ⟨rfl, gb_end HG5.out⟩
  · obtain rfl : t = 1 := by omega
    have HS := HS2; have HG := HG2; clear HS2 HG2 ht
    obtain ⟨lo, hlo⟩ : ∃ lo, lo = min a (b) := ⟨_, rfl⟩
    obtain ⟨hi, hhi⟩ : ∃ hi, hi = max a (b) := ⟨_, rfl⟩
    have elo : min (a : Int) ((b : Int)) = (lo : Int) := by omega
    have ehi : max (a : Int) ((b : Int)) = (hi : Int) := by omega
    have hl1 : 1 ≤ lo := by omega
    have hl2 : lo ≤ hi := by omega
    have hl3 : hi ≤ 1152921504606846990 := by omega
    have hl4 : lo ≤ 1152921504606846976 := by omega
    have ELO := Lib.hid elo; have EHI := Lib.hid ehi
    clear hlo hhi elo ehi
    go_wp2_with fail
    rw [ELO.out]
    (with_reducible refine (log_any lo _ (by omega) (by omega)).mono ?_)
    rintro e w' ⟨rfl, rfl⟩
    go_wp2_with fail
    rw [EHI.out]
    (with_reducible refine (log_any hi _ (by omega) (by omega)).mono ?_)
    rintro e w' ⟨rfl, rfl⟩
    have elo := ELO.out
    go_wp2_with fail
    rw [show (2 : Int) * (lo : Int) = ((2 * lo : Nat) : Int) from by omega]
    (with_reducible refine (log_any (2 * lo) _ (by omega) (by omega)).mono ?_)
    rintro e w' ⟨rfl, rfl⟩
    have hmono := logS_mono (a := lo) (b := hi) (by omega) (by omega) (by omega)
    have hdbl := logS_double (n := lo) (by omega) (by omega)
    have i1 := logS_in lo (by omega)
    generalize logS (2 * lo) = r3 at *
    generalize logS lo = r1 at *
    generalize logS hi = r2 at *
    subst hdbl
    clear elo
    go_wp2_with fail
    (with_reducible refine (n_any w.heap.size _ w.heap.size 62 HS.out (by omega) (by omega)).mono ?_)
    rintro e w4 ⟨k0, rfl, ⟨hk0, hk1⟩, hs, hg⟩
    obtain ⟨k, rfl⟩ := Int.eq_ofNat_of_zero_le hk0
    have HG4 := Lib.hid (gb_new HG.out hg (by simp)); clear hg hs
    have hpw : (2 : Int) ^ k = ((2 ^ k : Nat) : Int) := by simp
    have hpw2 : 2 ^ k ≤ 2 ^ 61 := Nat.pow_le_pow_right (by omega) (by omega)
    have hpw3 : 1 ≤ 2 ^ k := Nat.two_pow_pos k
    have hlk := logS_pow (k := k) (by omega)
    have hw : wrap64 (2 ^ k) = ((2 ^ k : Nat) : Int) := by rw [hpw]; exact IntWalk.wrap64_in _ (by omega)
    generalize 2 ^ k = pk at hpw2 hpw3 hlk hw
    have HLK := Lib.hid hlk
    clear hpw hlk
    go_wp2_with fail
    (with_reducible refine (log_any pk _ (by omega) (by omega)).mono ?_)
    rintro e w' ⟨rfl, rfl⟩
    rw [HLK.out]
    clear hw
    go_wp2_with fail
    refine (awake_any _).mono ?_
    rintro e w' ⟨rfl, hg⟩
    have HG5 := Lib.hid (gb_trans HG4.out hg); clear hg
    go_wp2
    go_ret
    exact ⟨rfl, gb_end HG5.out⟩

theorem limbs_pos {n : Nat} (h : 1 ≤ n) : 0 < (limbsF 3 n).length ∧ (limbsF 3 n).length ≤ 3 := by
  have : ∀ k n, (limbsF k n).length ≤ k := by
    intro k
    induction k with
    | zero => intro n; simp [limbsF]
    | succ k ih => intro n; unfold limbsF; split <;> simp; exact ih _
  exact ⟨by rw [limbsF_pos 2 n (by omega)]; simp, this 3 n⟩

set_option maxRecDepth 100000 in
set_option maxHeartbeats 1600000 in
theorem logarithmNats_walk (w : World) (x0 : Int) (_h1 : -9223372036854775808 ≤ x0) (_h2 : x0 ≤ 9223372036854775807)
    (v : Value) (xs : List Int) (hs : Sl w v xs) (_hr : ∀ x ∈ xs, -9223372036854775808 ≤ x ∧ x ≤ 9223372036854775807) :
    Calls Try.prog 8 #[.int .i64 x0, v] w fun e w' => e = .returned (.bool true) ∧ Below w.heap.size w w' := by
  obtain ⟨p, hp, hlp⟩ := mod_nat x0 4611686018427387904 (by omega)
  obtain ⟨i0, hi, hz0, hz1, hz2⟩ := info_parts Try.infoInt
  have HP := Lib.hid hp; clear hp
  have HS0 := Lib.hid hs; clear hs _hr _h1 _h2
  go_enter Try.func8, Try.ntmps8
  go_wp2_with fail
  (with_reducible refine (new_any w v xs HS0.out).mono ?_)
  rintro e w1 ⟨rfl, hs, hg⟩
  have HS1 := Lib.hid hs; have HG1 := Lib.hid hg; clear hs hg HS0
  go_wp2_with fail
  (with_reducible refine (mod_any x0 4611686018427387904 _ (by omega) (by omega)).mono ?_)
  rintro e w' ⟨rfl, rfl⟩
  rw [HP.out]
  go_wp2_with fail
  rw [int_succ p]
  generalize hn : p + 1 = n
  have hn1 : 1 ≤ n := by omega
  have hn2 : n ≤ 4611686018427387904 := by omega
  clear hn HP hlp
  (with_reducible refine (from_any n _ (by omega)).mono ?_)
  rintro e w2 ⟨vx, rfl, hown, hg⟩
  have HX := Lib.hid (Sl_of_owns hown rfl)
  have HS2 := Lib.hid (HS1.out.later hg (by simp))
  have HG2 := Lib.hid (gb_trans HG1.out hg)
  clear hown hg HS1 HG1
  go_wp2_with fail
  have z0 := zeros_limbs (n := n) (k := 0) hn1 (by omega) (by omega)
  simp only [List.replicate_zero, List.nil_append] at z0
  (with_reducible refine (lognat_any _ _ _ HX.out z0.1 z0.2.1).mono ?_)
  rintro e w' ⟨rfl, n1, rfl⟩
  rw [show logNatS (limbsF 3 n) = logS n from by rw [z0.2.2]; simp]
  clear z0 HX
  go_wp2_with fail
  (with_reducible refine (log_any n _ (by omega) (by omega)).mono ?_)
  rintro e w' ⟨rfl, rfl⟩
  have i1 := logS_in n (by omega)
  obtain ⟨r, hr⟩ : ∃ r, r = logS n := ⟨_, rfl⟩
  rw [← hr] at i1 ⊢
  have HR := Lib.hid hr; clear hr
  have HS3 := Lib.hid (HS2.out.later (gb_drewN (gb_refl w2 none) n1) (by simp))
  have HG3 := Lib.hid (gb_drewN HG2.out n1)
  clear HS2 HG2
  generalize hw3 : w2.drewN n1 = w3 at *
  clear hw3
  go_wp2_with fail
  (with_reducible refine (n_any w.heap.size _ w.heap.size 6 (HS3.out.later (gb_alloc (gb_refl _ none) _) (by simp)) (by omega) (by omega)).mono ?_)
  rintro e w4 ⟨k0, rfl, ⟨hk0, hk1⟩, hs, hg⟩
  obtain ⟨k, rfl⟩ := Int.eq_ofNat_of_zero_le hk0
  have HS4 := Lib.hid hs
  have HG4 := Lib.hid (gb_new (gb_alloc HG3.out _) hg (by simp))
  have hp3 := HS3.out.lt
  have hown : w4.ownsRow (w.heap.size + 1) 3 1 (.slice (some ⟨w3.heap.size, 0, none⟩) 0 0) 0 (List.replicate 0 (Value.int .i64 0)) :=
    (World.ownsRow_made (base := w.heap.size + 1) (e := 3) (size := 1) w3 #[] 0 (by omega) (by decide) rfl).kept hg (.inr (by simp [Value.ownBlock]; omega))
  clear hg hs HS3 HG3 HS4 hp3
  have HO := Lib.hid hown; clear hown
  go_wp2
  go_loopw [12, 13] (fun m c wr => ∃ j : Nat, j ≤ k ∧ c = .int .i64 ((k - j : Nat) : Int) ∧ wr.ownsRow (w.heap.size + 1) 3 1 m j (List.replicate j (Value.int .i64 0)) ∧ w.grownBy wr none) (fun _ c _ => (intOf c).toNat)
  case atStart => exact ⟨0, by omega, rfl, HO.out, HG4.out⟩
  case round =>
    obtain ⟨j, hj, rfl, hown, hgr⟩ := hrel
    have hsz := hgr.size
    by_cases h0 : 0 < k - j
    · obtain ⟨d, hd⟩ : ∃ d, k - j = d + 1 := ⟨k - j - 1, by omega⟩
      have hj5 : j ≤ 5 := by omega
      rw [hd] at h0 ⊢
      have HD := Lib.hid hd; clear hd
      have hdd : d ≤ 5 := by have := HD.out; omega
      go_wp2_with (at_builtin; refine wpList_push rfl _ _ 26 rfl (w.heap.size + 1) 3 (.int .i64 0) 1 8 Try.underlying26 Try.infoInt rfl (by decide) (by decide) _ _ _ rfl (hown.alloc _) wr.heap.size 1 [.int .i64 0] 3 rfl (heap_alloc_new _ _) rfl (one_cell_int _) (by omega) (by simp; have := hown.lt; omega) ?_; intro v' w5 hown' hg')
      have r1 : w5.ownsRow (w.heap.size + 1) 3 1 v' (j + 1) (List.replicate (j + 1) (Value.int .i64 0)) := by rw [List.replicate_succ']; exact hown'
      have R1 := Lib.hid r1; clear r1
      have R2 := Lib.hid (push_grown hgr hown (by omega) hg')
      clear hown' hg' hown hgr
      go_wp2
      go_roundw
      case rel => exact ⟨j + 1, by have := HD.out; omega, by have := HD.out; rw [show k - (j + 1) = d from by omega], R1.out, R2.out⟩
      case measure => simp [intOf]
    · obtain rfl : j = k := by omega
      have hk6 : j ≤ 5 := by omega
      rw [Nat.sub_self]
      have HO2 := Lib.hid hown; have HGR := Lib.hid hgr
      clear HO hj h0 hown hgr
      go_wp2_with fail
      (with_reducible refine (limbs_any n _ (by omega)).mono ?_)
      rintro e w6 ⟨vy, rfl, hown6, hg6⟩
      have hlp := limbs_pos hn1
      obtain ⟨g, cap, rfl, hgB, hgs, hcap, hcap2, hcells⟩ := owns_at hown6 hlp.1
      have hmore := owns_keep HO2.out hg6
      obtain ⟨a12, c12, rfl⟩ := owns_slice hmore
      have hgr6 := gb_trans HGR.out hg6
      have hsz6 := hgr6.size
      have hsz7 := hg6.size
      have z1 := zeros_limbs (n := n) (k := j) hn1 (by omega) (by omega)
      have Z1 := Lib.hid z1
      have HG6 := Lib.hid hgr6
      have HC := Lib.hid hcells
      clear z1 hgr6 hcells hg6 hown6 HO2 HGR
      have hr1 : r + 7680 * (j : Int) ≤ 100000 := by omega
      go_wp2_with (at_builtin; refine wpList_append_own _ rfl _ _ 26 rfl (w.heap.size + 1) 3 i0 (.int .i64 0) 1 8 Try.underlying26 hi hz0 hz1 hz2 rfl (by decide) _ _ _ rfl hmore ⟨g, 0, none⟩ (limbsF 3 n).length cap ((limbsF 3 n).map (Value.int .i64)) rfl (by simp) HC.out (by simp [Value.oneCell']) (by unfold maxLen; omega) (by omega) (by omega) ?_; intro v' w7 hown' hg' _)
      have hy : Sl w7 v' (List.replicate j 0 ++ limbsF 3 n) := Sl_of_owns (n := j + (limbsF 3 n).length) (by rw [List.map_append, List.map_replicate]; exact hown') (by simp)
      have HG7 := Lib.hid (gb_new HG6.out hg' (by intro q hq; have := (hmore.lt q hq).1; omega))
      have HY := Lib.hid hy
      clear hy hown' hg' hmore
      (with_reducible refine (lognat_any _ _ _ HY.out Z1.out.1 Z1.out.2.1).mono ?_)
      rintro e w8 ⟨rfl, n8, rfl⟩
      rw [Z1.out.2.2, ← HR.out]
      go_wp2_with fail
      (with_reducible refine (awake_any _).mono ?_)
      rintro e w9 ⟨rfl, hg⟩
      have HG9 := Lib.hid (gb_trans (gb_drewN HG7.out n8) hg); clear hg
      go_wp2
      go_ret
      exact ⟨rfl, gb_end HG9.out⟩
end Go.Proofs.Ytlkhdephpnjkmaa
