/- LogNat of the program and of the reference. -/
import Derived.Test.YtmgfdfbhfhmekaaGreatLog
import Derived.Test.YtmgfdfbhfhmekaaGreatNat
namespace Go.Proofs.YtmgfdfbhfhmekaaGreat
set_option linter.all false
open Go.RowKit

theorem validS_ok {xs : List Int} (h : validS xs = true) : xs.length ≤ 64 ∧ (∀ k, k < xs.length → 0 ≤ xs[k]?.getD 0 ∧ xs[k]?.getD 0 < 1073741824) ∧ (0 < xs.length → xs[xs.length - 1]?.getD 0 ≠ 0) := by
  simp only [validS, Bool.and_eq_true, Bool.not_eq_true', Bool.or_eq_false_iff, decide_eq_false_iff_not, beq_eq_false_iff_ne] at h
  obtain ⟨⟨h1, h2⟩, h3⟩ := h
  refine ⟨by omega, fun k hk => ?_, fun h0 he => h2 (by rw [last_get xs h0, he])⟩
  have h4 := List.any_eq_false.1 h3 xs[k] (List.getElem_mem hk)
  simp [bad] at h4
  rw [List.getElem?_eq_getElem hk]
  simpa using h4

/-- The two topmost limbs. -/
def topS (xs : List Int) : Nat := (xs[xs.length - 1]?.getD 0).toNat * 1073741824 + (xs[xs.length - 2]?.getD 0).toNat
def logNatS (xs : List Int) : Int := if xs.length = 1 then logS (xs[0]?.getD 0).toNat else logS (topS xs) + 7680 * ((xs.length : Int) - 2)

theorem lognat_bad (xs : List Int) (v : Value) (w : World) (hs : Sl w v xs) (hv : validS xs = false) :
    Calls Tryz.prog 42 #[v] w fun e w' => e = .returned (.tuple #[.int .i64 0, .int .i64 1]) ∧ w = w' := by
  have HS := Lib.hid hs; clear hs
  have HV := Lib.hid hv; clear hv
  go_enter Tryz.func42, Tryz.ntmps42
  go_wp2_with (go_at_call 68; refine (nvalid_any xs _ _ HS.out).mono ?_; rintro e w' ⟨rfl, rfl⟩; rw [HV.out])
  go_ret2
  exact ⟨rfl, rfl⟩

theorem lognat_nil (v : Value) (w : World) (hs : Sl w v []) :
    Calls Tryz.prog 42 #[v] w fun e w' => e = .returned (.tuple #[.int .i64 0, .int .i64 2]) ∧ w = w' := by
  have HS := Lib.hid hs
  have hv : validS [] = true := by decide
  have HV := Lib.hid hv; clear hv
  rcases hs with ⟨_, a, cap, rfl⟩ | ⟨b, off, cap, rfl, hb, hcap, hcap2, hc⟩
  all_goals
    go_enter Tryz.func42, Tryz.ntmps42
    go_wp2_with (go_at_call 68; refine (nvalid_any [] _ _ HS.out).mono ?_; rintro e w' ⟨rfl, rfl⟩; rw [HV.out])
    go_ret2
    exact ⟨rfl, rfl⟩

theorem or30 (z1 z2 : Int) (h1 : 0 ≤ z1 ∧ z1 < 1073741824) (h2 : 0 ≤ z2 ∧ z2 < 1073741824) : bits .or .i64 (z1 * 1073741824) z2 = ((z1.toNat * 1073741824 + z2.toNat : Nat) : Int) := by
  rw [bits_join .i64 63 (by decide) wraps_i64 30 _ _ (by omega) (by omega) (by omega) (by omega) (by omega) (by omega)]
  omega

theorem topS_in {z1 z2 : Int} (h1 : 0 ≤ z1 ∧ z1 < 1073741824) (h2 : 0 ≤ z2 ∧ z2 < 1073741824) (h : z1 ≠ 0) : 1073741824 ≤ z1.toNat * 1073741824 + z2.toNat ∧ z1.toNat * 1073741824 + z2.toNat < 1152921504606846976 := by omega
theorem logS_in (n : Nat) (h2 : n < 9223372036854775808) : 0 ≤ logS n ∧ logS n ≤ 16383 := by
  have := bl_le n h2
  have := dAt_le (mant n (Lib.bitLen n - 1)) (Nat.le_refl 8)
  unfold logS; omega

set_option maxHeartbeats 400000 in
theorem lognat_any (xs : List Int) (v : Value) (w : World) (hs : Sl w v xs) (hv : validS xs = true) (h0 : 0 < xs.length) :
    Calls Tryz.prog 42 #[v] w fun e w' => e = .returned (.tuple #[.int .i64 (logNatS xs), .int .i64 0]) ∧ ∃ n, w' = w.drewN n := by
  have HS := Lib.hid hs
  have hok := validS_ok hv
  have HV := Lib.hid hv; clear hv
  rcases hs with ⟨rfl, a, cap, rfl⟩ | ⟨b, off, cap, rfl, hb, hcap, hcap2, hc⟩
  · simp at h0
  have HC := Lib.hid hc; clear hc
  obtain ⟨h64, hlim, hlast⟩ := hok
  by_cases h1 : xs.length = 1
  · have hx1 := hlim 0 (by omega)
    have hc1 := HC.out 0 (by omega)
    have hl := hlast h0
    rw [h1] at hl
    have ht : logNatS xs = logS (xs[0]?.getD 0).toNat := by rw [logNatS, if_pos h1]
    simp only [Nat.sub_self] at hl
    generalize hz1 : xs[0]?.getD 0 = z1 at *
    have HT := Lib.hid ht; clear ht
    clear hlast hlim hz1
    obtain ⟨z, rfl⟩ := Int.eq_ofNat_of_zero_le hx1.1
    have hz : 1 ≤ z := by omega
    clear hl
    have hlen : (xs.length : Int) = 1 := by omega
    clear h1
    rw [Nat.add_zero] at hc1
    go_enter Tryz.func42, Tryz.ntmps42
    go_wp2_with (first | (go_at_call 68; refine (nvalid_any xs _ _ HS.out).mono ?_; rintro e w' ⟨rfl, rfl⟩; rw [HV.out]) | (go_at_call 43; refine (log_any z _ hz (by omega)).mono ?_; rintro e w' ⟨rfl, rfl⟩))
    go_ret2
    exact ⟨by rw [HT.out]; rfl, 0, rfl⟩
  · have hx1 := hlim (xs.length - 1) (by omega)
    have hx2 := hlim (xs.length - 2) (by omega)
    have hc1 := HC.out (xs.length - 1) (by omega)
    have hc2 := HC.out (xs.length - 2) (by omega)
    have hl := hlast h0
    have ht : logNatS xs = logS ((xs[xs.length - 1]?.getD 0).toNat * 1073741824 + (xs[xs.length - 2]?.getD 0).toNat) + 7680 * ((xs.length : Int) - 2) := by rw [logNatS, if_neg h1]; rfl
    generalize hz1 : xs[xs.length - 1]?.getD 0 = z1 at *
    generalize hz2 : xs[xs.length - 2]?.getD 0 = z2 at *
    have htop := topS_in hx1 hx2 hl
    have hor := or30 z1 z2 hx1 hx2
    generalize htt : z1.toNat * 1073741824 + z2.toNat = t at *
    have hlg := logS_in t (by omega)
    have HT := Lib.hid ht; clear ht
    have HO := Lib.hid hor; clear hor
    clear hl hlast hlim hz1 hz2 htt
    have hn : ((xs.length : Int) - 1 == 0) = false := beq_eq_false_iff_ne.2 (by omega)
    have hi1 : IntKind.i64.wrap (↑xs.length - 1) = (↑xs.length : Int) - 1 := IntWalk.i64_in _ (by omega)
    have hi2 : ((↑xs.length : Int) - 1).toNat = xs.length - 1 := by omega
    have hi3 : IntKind.i64.wrap (↑xs.length - 1 - 1) = (↑xs.length : Int) - 1 - 1 := IntWalk.i64_in _ (by omega)
    have hi4 : ((↑xs.length : Int) - 1 - 1).toNat = xs.length - 2 := by omega
    have hi5 : 0 ≤ (↑xs.length : Int) - 1 := by omega
    have hi6 : 0 ≤ (↑xs.length : Int) - 1 - 1 := by omega
    have hi7 : (↑xs.length : Int) - 1 < ↑xs.length := by omega
    have hi8 : (↑xs.length : Int) - 1 - 1 < ↑xs.length := by omega
    clear h1
    go_enter Tryz.func42, Tryz.ntmps42
    go_wp2_with (go_at_call 68; refine (nvalid_any xs _ _ HS.out).mono ?_; rintro e w' ⟨rfl, rfl⟩; rw [HV.out])
    go_quiet (fail)
    clear hi1 hi2 hi3 hi4 hi5 hi6 hi7 hi8
    go_wp2_with fail
    rw [HO.out]
    refine (log_any t _ (by omega) (by omega)).mono ?_
    rintro e w' ⟨rfl, rfl⟩
    go_wp2
    go_ret2
    refine ⟨?_, _, rfl⟩
    rw [HT.out]
    simp
    omega

theorem rlognat_bad (xs : List Int) (v : Value) (w : World) (hs : Sl w v xs) (hv : validS xs = false) :
    Calls Tryz.prog 32 #[v] w fun e w' => e = .returned (.tuple #[.int .i64 0, .int .i64 1]) ∧ w = w' := by
  have HS := Lib.hid hs; clear hs
  have HV := Lib.hid hv; clear hv
  go_enter Tryz.func32, Tryz.ntmps32
  go_wp2_with (go_at_call 61; refine (rnvalid_any xs _ _ HS.out).mono ?_; rintro e w' ⟨rfl, rfl⟩; rw [HV.out])
  go_ret2
  exact ⟨rfl, rfl⟩

theorem rlognat_nil (v : Value) (w : World) (hs : Sl w v []) :
    Calls Tryz.prog 32 #[v] w fun e w' => e = .returned (.tuple #[.int .i64 0, .int .i64 2]) ∧ w = w' := by
  have HS := Lib.hid hs
  have hv : validS [] = true := by decide
  have HV := Lib.hid hv; clear hv
  rcases hs with ⟨_, a, cap, rfl⟩ | ⟨b, off, cap, rfl, hb, hcap, hcap2, hc⟩
  all_goals
    go_enter Tryz.func32, Tryz.ntmps32
    go_wp2_with (go_at_call 61; refine (rnvalid_any [] _ _ HS.out).mono ?_; rintro e w' ⟨rfl, rfl⟩; rw [HV.out])
    go_ret2
    exact ⟨rfl, rfl⟩

theorem or0 (z : Int) (h1 : 0 ≤ z ∧ z < 1073741824) : bits .or .i64 0 z = z := by
  rw [bits_join .i64 63 (by decide) wraps_i64 30 _ _ (by omega) (by omega) (by omega) (by omega) (by omega) (by omega)]
  omega

/-- What the reference computes for three limbs and more. -/
theorem logS_top (t n : Nat) (h1 : 1073741824 ≤ t) (h2 : t < 1152921504606846976) :
    256 * (30 * (n : Int) + Lib.bitLen t - 1) + dAt (t / 2 ^ (Lib.bitLen t - 31) : Nat) 8 = logS t + 7680 * n := by
  obtain ⟨c, hc, hc2, hb1, hb2⟩ := bl_pos (n := t) (by omega) (by omega)
  have h30 : 30 ≤ c := by
    rcases Nat.lt_or_ge c 30 with h | h
    · have : 2 ^ (c + 1) ≤ 2 ^ 30 := Nat.pow_le_pow_right (by omega) (by omega)
      omega
    · exact h
  rw [logS, hc, mant]
  have : (if c + 1 - 1 ≤ 30 then t * 2 ^ (30 - (c + 1 - 1)) else t / 2 ^ (c + 1 - 1 - 30)) = t / 2 ^ (c + 1 - 31) := by
    split
    · have : c = 30 := by omega
      subst this; simp
    · rw [show c + 1 - 1 - 30 = c + 1 - 31 from by omega]
  rw [this]
  generalize dAt _ 8 = d
  omega

set_option maxHeartbeats 800000 in
theorem rlognat_any (xs : List Int) (v : Value) (w : World) (hs : Sl w v xs) (hv : validS xs = true) (h0 : 0 < xs.length) :
    Calls Tryz.prog 32 #[v] w fun e w' => e = .returned (.tuple #[.int .i64 (logNatS xs), .int .i64 0]) ∧ ∃ n, w' = w.drewN n := by
  have HS := Lib.hid hs
  have hok := validS_ok hv
  have HV := Lib.hid hv; clear hv
  rcases hs with ⟨rfl, a, cap, rfl⟩ | ⟨b, off, cap, rfl, hb, hcap, hcap2, hc⟩
  · simp at h0
  have HC := Lib.hid hc; clear hc
  obtain ⟨h64, hlim, hlast⟩ := hok
  match xs, h0, h64, hlim, hlast, HS, HV, HC, hcap with
  | [z], h0, h64, hlim, hlast, HS, HV, HC, hcap =>
    have hx1 := hlim 0 (by simp)
    have hc1 := HC.out 0 (by simp)
    have hl := hlast h0
    simp at hx1 hl hc1
    have ht : logNatS [z] = logS z.toNat := rfl
    have HT := Lib.hid ht; clear ht
    clear hlast hlim h64
    have ho := or0 z hx1
    obtain ⟨z, rfl⟩ := Int.eq_ofNat_of_zero_le hx1.1
    have hz : 1 ≤ z := by omega
    clear hl
    go_enter Tryz.func32, Tryz.ntmps32
    go_wp2_with (go_at_call 61; refine (rnvalid_any _ _ _ HS.out).mono ?_; rintro e w' ⟨rfl, rfl⟩; rw [HV.out])
    refine wp_loop_rounds 2 ?_
    repeat any_goals (rw [rounds_succ]; go_wp2_with (go_at_call 31; refine (rlog_any z _ hz (by omega)).mono ?_; rintro e w' ⟨rfl, rfl⟩))
    go_ret2
    exact ⟨by rw [HT.out]; rfl, 0, rfl⟩
  | [y, z], h0, h64, hlim, hlast, HS, HV, HC, hcap =>
    have hx1 := hlim 1 (by simp)
    have hx2 := hlim 0 (by simp)
    have hc1 := HC.out 1 (by simp)
    have hc2 := HC.out 0 (by simp)
    have hl := hlast h0
    simp at hx1 hx2 hl hc1 hc2
    have ht : logNatS [y, z] = logS (z.toNat * 1073741824 + y.toNat) := by rw [logNatS, if_neg (by simp)]; simp [topS]
    have htop := topS_in hx1 hx2 hl
    have ho := or0 z hx1
    have hor := or30 z y hx1 hx2
    generalize z.toNat * 1073741824 + y.toNat = t at *
    have HT := Lib.hid ht; clear ht
    clear hlast hlim h64 hl
    go_enter Tryz.func32, Tryz.ntmps32
    go_wp2_with (go_at_call 61; refine (rnvalid_any _ _ _ HS.out).mono ?_; rintro e w' ⟨rfl, rfl⟩; rw [HV.out])
    refine wp_loop_rounds 3 ?_
    repeat any_goals (rw [rounds_succ]; go_wp2_with (go_at_call 31; refine (rlog_any t _ (by omega) (by omega)).mono ?_; rintro e w' ⟨rfl, rfl⟩))
    go_ret2
    exact ⟨by rw [HT.out]; rfl, 0, rfl⟩
  | x :: y :: z :: xs', h0, h64, hlim, hlast, HS, HV, HC, hcap =>
    generalize hxs : x :: y :: z :: xs' = xs at *
    have h1 : 3 ≤ xs.length := by rw [← hxs]; simp
    clear hxs
    have hx1 := hlim (xs.length - 1) (by omega)
    have hx2 := hlim (xs.length - 2) (by omega)
    have hc1 := HC.out (xs.length - 1) (by omega)
    have hc2 := HC.out (xs.length - 2) (by omega)
    have hl := hlast h0
    have ht : logNatS xs = logS ((xs[xs.length - 1]?.getD 0).toNat * 1073741824 + (xs[xs.length - 2]?.getD 0).toNat) + 7680 * ((xs.length : Int) - 2) := by rw [logNatS, if_neg (by omega)]; rfl
    generalize hz1 : xs[xs.length - 1]?.getD 0 = z1 at *
    generalize hz2 : xs[xs.length - 2]?.getD 0 = z2 at *
    have htop := topS_in hx1 hx2 hl
    have hor := or30 z1 z2 hx1 hx2
    generalize htt : z1.toNat * 1073741824 + z2.toNat = t at *
    have hlt := logS_top t (xs.length - 2) htop.1 htop.2
    obtain ⟨c, hc, hcc, hb1, hb2⟩ := bl_pos (n := t) (by omega) (by omega)
    have h30 : 30 ≤ c := by
      rcases Nat.lt_or_ge c 30 with h | h
      · have : 2 ^ (c + 1) ≤ 2 ^ 30 := Nat.pow_le_pow_right (by omega) (by omega)
        omega
      · exact h
    have hm := mant_in hb1 hb2
    have hme : mant t c = t / 2 ^ (c - 30) := by
      unfold mant; split
      · obtain rfl : c = 30 := by omega
        simp
      · rfl
    rw [hme] at hm
    rw [hc, show c + 1 - 31 = c - 30 from by omega] at hlt
    have HLT := Lib.hid hlt; clear hlt
    have HB := Lib.hid hc; clear hc
    have HM := Lib.hid hm; clear hm
    have HT := Lib.hid ht; clear ht
    have HO := Lib.hid hor; clear hor
    clear hl hlast hlim hz1 hz2 htt hb1 hb2 hme
    have hn : ((xs.length : Int) == 0) = false := beq_eq_false_iff_ne.2 (by omega)
    have hi1 : IntKind.i64.wrap (↑xs.length - 1) = (↑xs.length : Int) - 1 := IntWalk.i64_in _ (by omega)
    have hi2 : ((↑xs.length : Int) - 1).toNat = xs.length - 1 := by omega
    have hi3 : IntKind.i64.wrap (↑xs.length - 2) = (↑xs.length : Int) - 2 := IntWalk.i64_in _ (by omega)
    have hi4 : ((↑xs.length : Int) - 2).toNat = xs.length - 2 := by omega
    have hi5 : 0 ≤ (↑xs.length : Int) - 1 := by omega
    have hi6 : 0 ≤ (↑xs.length : Int) - 2 := by omega
    have hi7 : (↑xs.length : Int) - 1 < ↑xs.length := by omega
    have hi8 : (↑xs.length : Int) - 2 < ↑xs.length := by omega
    go_enter Tryz.func32, Tryz.ntmps32
    go_wp2_with (go_at_call 61; refine (rnvalid_any _ _ _ HS.out).mono ?_; rintro e w' ⟨rfl, rfl⟩; rw [HV.out])
    go_quiet (fail)
    clear hi1 hi2 hi3 hi4 hi5 hi6 hi7 hi8
    go_wp2_with fail
    rw [HO.out]
    refine (rdigits_any t _ (by omega)).mono ?_
    rintro e w' ⟨rfl, rfl⟩
    rw [HB.out]
    go_wp2_with fail
    rw [show ((t : Int) / 2 ^ (c - 30)) = ((t / 2 ^ (c - 30) : Nat) : Int) from by simp]
    refine (steps_any _ _ _ (by have := HM.out; omega) (by have := HM.out; omega) (by omega) (by omega)).mono ?_
    rintro e w' ⟨rfl, rfl⟩
    go_wp2
    go_ret2
    refine ⟨?_, _, rfl⟩
    have h5 := HLT.out
    rw [HT.out, show (xs.length : Int) - 2 = ((xs.length - 2 : Nat) : Int) from by omega, ← h5]
    simp
end Go.Proofs.YtmgfdfbhfhmekaaGreat
