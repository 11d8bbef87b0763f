/- Reference 24: Valid, ValidBox, square, near, far, Contains, Within, Points, middle, sign, Compare. -/
import Derived.Test.YtkmikiljpajaaaaGeoP
import Derived.Test.YtkmikiljpajaaaaGrown
namespace Go.Proofs.Ytkmikiljpajaaaa
set_option linter.all false
open Go.RowKit

set_option maxHeartbeats 1000000 in
theorem rvalid_any (x y z : Int) (w : World) :
    Calls Try.prog 63 #[.agg #[.int .i64 x, .int .i64 y, .int .i64 z]] w fun e w' => e = .returned (.bool (vP x y z)) ∧ w.grownBy w' none := by
  rcases three x (-1048576) 1048576 with hx | ⟨hx1, hx2⟩ | ⟨hx1, hx2⟩
  rotate_left 2
  rcases three y (-1048576) 1048576 with hy | ⟨hy1, hy2⟩ | ⟨hy1, hy2⟩
  rotate_left 2
  rcases three z (-16384) 1048576 with hz | ⟨hz1, hz2⟩ | ⟨hz1, hz2⟩
  all_goals
    go_enter Try.func63, Try.ntmps63
    go_wp2
  all_goals
    go_ret
    refine ⟨ret_bool (by unfold vP; simp; omega), ?_⟩
    repeat (first | exact gb_refl _ _ | refine gb_alloc ?_ _)

set_option maxHeartbeats 1000000 in
theorem rvalidBox_any (x0 y0 z0 x1 y1 z1 : Int) (w : World) :
    Calls Try.prog 39 #[.agg #[.int .i64 x0, .int .i64 y0, .int .i64 z0, .int .i64 x1, .int .i64 y1, .int .i64 z1]] w fun e w' => e = .returned (.bool (bP x0 y0 z0 x1 y1 z1)) ∧ w.grownBy w' none := by
  go_enter Try.func39, Try.ntmps39
  go_wp2_with fail
  (with_reducible refine (rvalid_any _ _ _ _).mono ?_)
  rintro e w1 ⟨rfl, hg1⟩
  obtain ⟨cb, hz⟩ := gb_at hg1 (b := w.heap.size) (by simp)
  have HG1 := Lib.hid (gb_trans (gb_alloc (gb_refl _ _) _) hg1); clear hg1
  cases hv0 : vP x0 y0 z0
  · go_wp2
    go_ret
    exact ⟨ret_bool (by simp [bP, hv0]), HG1.out⟩
  go_wp2_with fail
  (with_reducible refine (rvalid_any _ _ _ _).mono ?_)
  rintro e w2 ⟨rfl, hg2⟩
  obtain ⟨cb2, hz2⟩ := gb_at hg2 hz
  have HG2 := Lib.hid (gb_trans HG1.out hg2); clear hg2 HG1
  cases hv1 : vP x1 y1 z1
  · go_wp2
    go_ret
    exact ⟨ret_bool (by simp [bP, hv1]), HG2.out⟩
  have HV0 := Lib.hid hv0; have HV1 := Lib.hid hv1; clear hv0 hv1
  rcases Int.lt_or_le x1 x0 with hx | hx
  rotate_left
  rcases Int.lt_or_le y1 y0 with hy | hy
  rotate_left
  rcases Int.lt_or_le z1 z0 with hz | hz
  all_goals
    go_wp2
    go_ret
    refine ⟨ret_bool (by simp [bP, HV0.out, HV1.out]; omega), HG2.out⟩

theorem rsq_any (n : Int) (w : World) (h1 : -4194304 ≤ n) (h2 : n ≤ 4194304) :
    Calls Try.prog 82 #[.int .i64 n] w fun e w' => e = .returned (.int .i64 (n * n)) ∧ w = w' := by
  obtain ⟨s0, s1, s2⟩ := sq_small (d := n) h1 h2
  generalize hq : n * n = q at *
  go_enter Try.func82, Try.ntmps82
  go_wp2
  go_ret
  exact ⟨rfl, rfl⟩
theorem rnear_any (x lo hi : Int) (w : World) (h1 : -2000000 ≤ x) (h2 : x ≤ 2000000) (h3 : -2000000 ≤ lo) (h4 : lo ≤ 2000000) (h5 : -2000000 ≤ hi) (h6 : hi ≤ 2000000) :
    Calls Try.prog 83 #[.int .i64 lo, .int .i64 hi, .int .i64 x] w fun e w' => e = .returned (.int .i64 (nearS x lo hi)) ∧ w = w' := by
  go_enter Try.func83, Try.ntmps83
  go_wp2
  all_goals
    go_ret
    exact ⟨ret_int (by unfold nearS; omega), rfl⟩
theorem rfar_any (x lo hi : Int) (w : World) (h1 : -2000000 ≤ x) (h2 : x ≤ 2000000) (h3 : -2000000 ≤ lo) (h4 : lo ≤ 2000000) (h5 : -2000000 ≤ hi) (h6 : hi ≤ 2000000) :
    Calls Try.prog 84 #[.int .i64 lo, .int .i64 hi, .int .i64 x] w fun e w' => e = .returned (.int .i64 (farS x lo hi)) ∧ w = w' := by
  go_enter Try.func84, Try.ntmps84
  go_wp2
  go_ret
  exact ⟨ret_int (by unfold farS; omega), rfl⟩
theorem rmiddle_any (a b : Int) (w : World) (h1 : -2000000 ≤ a) (h2 : a ≤ b) (h3 : b ≤ 2000000) :
    Calls Try.prog 81 #[.int .i64 a, .int .i64 b] w fun e w' => e = .returned (.int .i64 (midI a b)) ∧ w = w' := by
  go_enter Try.func81, Try.ntmps81
  go_wp2
  go_ret
  exact ⟨ret_int (by unfold midI; omega), rfl⟩

def sgn (a b : Int) : Int := if a < b then -1 else if b < a then 1 else 0
theorem rsign_any (a b : Int) (w : World) :
    Calls Try.prog 90 #[.int .i64 a, .int .i64 b] w fun e w' => e = .returned (.int .i64 (sgn a b)) ∧ w = w' := by
  rcases Int.lt_trichotomy a b with h | h | h
  all_goals
    go_enter Try.func90, Try.ntmps90
    go_wp2
    go_ret
    exact ⟨ret_int (by unfold sgn; split <;> (try split) <;> omega), rfl⟩

def cmpP (x0 y0 z0 x1 y1 z1 : Int) : Int := if sgn x0 x1 ≠ 0 then sgn x0 x1 else if sgn y0 y1 ≠ 0 then sgn y0 y1 else sgn z0 z1

theorem rcompare_any (x0 y0 z0 x1 y1 z1 : Int) (w : World) :
    Calls Try.prog 65 #[.agg #[.int .i64 x0, .int .i64 y0, .int .i64 z0], .agg #[.int .i64 x1, .int .i64 y1, .int .i64 z1]] w fun e w' => e = .returned (.int .i64 (cmpP x0 y0 z0 x1 y1 z1)) ∧ w.grownBy w' none := by
  go_enter Try.func65, Try.ntmps65
  go_wp2_with fail
  (with_reducible refine (rsign_any _ _ _).mono ?_)
  rintro e w1 ⟨rfl, rfl⟩
  have HG := Lib.hid (gb_alloc (gb_alloc (gb_refl w none) (.cells #[.int .i64 x0, .int .i64 y0, .int .i64 z0] 40)) (.cells #[.int .i64 x1, .int .i64 y1, .int .i64 z1] 40))
  by_cases h1 : sgn x0 x1 = 0
  rotate_left
  · go_wp2
    go_ret
    exact ⟨ret_int (by simp [cmpP, h1]), HG.out⟩
  go_wp2_with fail
  (with_reducible refine (rsign_any _ _ _).mono ?_)
  rintro e w1 ⟨rfl, rfl⟩
  by_cases h2 : sgn y0 y1 = 0
  rotate_left
  · go_wp2
    go_ret
    exact ⟨ret_int (by simp [cmpP, h1, h2]), HG.out⟩
  go_wp2_with fail
  (with_reducible refine (rsign_any _ _ _).mono ?_)
  rintro e w1 ⟨rfl, rfl⟩
  go_wp2
  go_ret
  exact ⟨ret_int (by simp [cmpP, h1, h2]), HG.out⟩

set_option maxHeartbeats 2000000 in
theorem rcontains_any (x0 y0 z0 x1 y1 z1 px py pz : Int) (w : World) :
    Calls Try.prog 45 #[.agg #[.int .i64 x0, .int .i64 y0, .int .i64 z0, .int .i64 x1, .int .i64 y1, .int .i64 z1], .agg #[.int .i64 px, .int .i64 py, .int .i64 pz]] w fun e w' => e = .returned (.bool (conP x0 y0 z0 x1 y1 z1 px py pz)) ∧ w.grownBy w' none := by
  have hv : conP x0 y0 z0 x1 y1 z1 px py pz = (bP x0 y0 z0 x1 y1 z1 && decide (x0 ≤ px ∧ px ≤ x1 ∧ y0 ≤ py ∧ py ≤ y1 ∧ z0 ≤ pz ∧ pz ≤ z1)) := by
    rw [Bool.eq_iff_iff, conP_iff, Bool.and_eq_true, decide_eq_true_eq]
    constructor
    · rintro ⟨h1, h2, h3⟩; exact ⟨h1, h3⟩
    · rintro ⟨h1, h3⟩
      obtain ⟨v0, v1, o0, o1, o2⟩ := bP_iff h1
      have a := vP_iff v0; have b := vP_iff v1
      exact ⟨h1, vP_mk (by omega), h3⟩
  have HV := Lib.hid hv; clear hv
  go_enter Try.func45, Try.ntmps45
  go_wp2_with fail
  (with_reducible refine (rvalidBox_any _ _ _ _ _ _ _).mono ?_)
  rintro e w1 ⟨rfl, hg1⟩
  obtain ⟨ca, hza⟩ := gb_at hg1 (b := w.heap.size) (by first | omega | (simp <;> omega))
  obtain ⟨cb, hzb⟩ := gb_at hg1 (b := w.heap.size + 1) (by first | omega | (simp <;> omega))
  have HG1 := Lib.hid (gb_trans (gb_alloc (gb_alloc (gb_refl _ _) _) _) hg1); clear hg1
  cases hv0 : bP x0 y0 z0 x1 y1 z1
  · go_wp2
    go_ret
    exact ⟨ret_bool (by rw [HV.out, hv0]; rfl), HG1.out⟩
  have H0 := Lib.hid hv0; clear hv0
  rcases three px x0 x1 with hx | ⟨hx1, hx2⟩ | ⟨hx1, hx2⟩
  rotate_left 2
  rcases three py y0 y1 with hy | ⟨hy1, hy2⟩ | ⟨hy1, hy2⟩
  rotate_left 2
  rcases three pz z0 z1 with hz | ⟨hz1, hz2⟩ | ⟨hz1, hz2⟩
  all_goals
    go_wp2
    go_ret
    refine ⟨ret_bool (by rw [HV.out, H0.out, Bool.true_and, Bool.eq_iff_iff]; simp only [decide_eq_true_eq, Bool.false_eq_true]; exact ⟨fun h => by first | exact h.elim | exact ⟨by omega, by omega, by omega, by omega, by omega, by omega⟩, fun ⟨h1, h2, h3, h4, h5, h6⟩ => by first | exact True.intro | rfl | omega⟩), HG1.out⟩

theorem rwithin_any (a0 b0 c0 a1 b1 c1 x0 y0 z0 x1 y1 z1 : Int) (w : World) :
    Calls Try.prog 47 #[.agg #[.int .i64 a0, .int .i64 b0, .int .i64 c0, .int .i64 a1, .int .i64 b1, .int .i64 c1], .agg #[.int .i64 x0, .int .i64 y0, .int .i64 z0, .int .i64 x1, .int .i64 y1, .int .i64 z1]] w fun e w' => e = .returned (.bool (wiP a0 b0 c0 a1 b1 c1 x0 y0 z0 x1 y1 z1)) ∧ w.grownBy w' none := by
  go_enter Try.func47, Try.ntmps47
  go_wp2_with fail
  (with_reducible refine (rvalidBox_any _ _ _ _ _ _ _).mono ?_)
  rintro e w1 ⟨rfl, hg1⟩
  obtain ⟨ca, hza⟩ := gb_at hg1 (b := w.heap.size) (by first | omega | (simp <;> omega))
  obtain ⟨cb, hzb⟩ := gb_at hg1 (b := w.heap.size + 1) (by first | omega | (simp <;> omega))
  have HG1 := Lib.hid (gb_trans (gb_alloc (gb_alloc (gb_refl _ _) _) _) hg1); clear hg1
  cases hv0 : bP a0 b0 c0 a1 b1 c1
  · go_wp2
    go_ret
    exact ⟨ret_bool (by simp [wiP, hv0]), HG1.out⟩
  go_wp2_with fail
  (with_reducible refine (rcontains_any _ _ _ _ _ _ _ _ _ _).mono ?_)
  rintro e w2 ⟨rfl, hg2⟩
  obtain ⟨ca2, hza2⟩ := gb_at hg2 hza
  obtain ⟨cb2, hzb2⟩ := gb_at hg2 hzb
  have HG2 := Lib.hid (gb_trans HG1.out hg2); clear hg2 HG1
  cases hv1 : conP x0 y0 z0 x1 y1 z1 a0 b0 c0
  · go_wp2
    go_ret
    exact ⟨ret_bool (by simp [wiP, hv1]), HG2.out⟩
  have H0 := Lib.hid hv0; have H1 := Lib.hid hv1; clear hv0 hv1
  go_wp2_with fail
  (with_reducible refine (rcontains_any _ _ _ _ _ _ _ _ _ _).mono ?_)
  rintro e w3 ⟨rfl, hg3⟩
  have HG3 := Lib.hid (gb_trans HG2.out hg3); clear hg3 HG2
  go_wp2
  go_ret
  exact ⟨ret_bool (by simp [wiP, H0.out, H1.out]), HG3.out⟩

set_option maxHeartbeats 1000000 in
theorem rpoints_any (x0 y0 z0 x1 y1 z1 : Int) (w : World) :
    Calls Try.prog 40 #[.agg #[.int .i64 x0, .int .i64 y0, .int .i64 z0, .int .i64 x1, .int .i64 y1, .int .i64 z1]] w fun e w' => e = .returned (.int .i64 (ptsP x0 y0 z0 x1 y1 z1)) ∧ w.grownBy w' none := by
  go_enter Try.func40, Try.ntmps40
  go_wp2_with fail
  (with_reducible refine (rvalidBox_any _ _ _ _ _ _ _).mono ?_)
  rintro e w1 ⟨rfl, hg1⟩
  obtain ⟨ca, hza⟩ := gb_at hg1 (b := w.heap.size) (by first | omega | (simp <;> omega))
  have HG1 := Lib.hid (gb_trans (gb_alloc (gb_refl _ _) _) hg1); clear hg1
  cases hv0 : bP x0 y0 z0 x1 y1 z1
  · go_wp2
    go_ret
    exact ⟨ret_int (by simp [ptsP, hv0]), HG1.out⟩
  have HE := Lib.hid (show ptsP x0 y0 z0 x1 y1 z1 = (x1 - x0 + 1) * (y1 - y0 + 1) * (z1 - z0 + 1) from by simp [ptsP, hv0, ptsD])
  obtain ⟨b0, b1, b2, b3, b4⟩ := bP_iff hv0
  have hi0 := vP_iff b0
  have hi1 := vP_iff b1
  clear hv0 b0 b1
  obtain ⟨s1, s2, s3, s4⟩ := pts_small (a := x1 - x0 + 1) (b := y1 - y0 + 1) (c := z1 - z0 + 1) (by omega) (by omega) (by omega)
  have wb := IntWalk.wrap64_in ((x1 - x0 + 1) * (y1 - y0 + 1)) (by omega)
  have wc := IntWalk.wrap64_in ((x1 - x0 + 1) * (y1 - y0 + 1) * (z1 - z0 + 1)) (by omega)
  clear s1 s2 s3 s4
  go_wp2
  go_ret
  exact ⟨ret_int (by rw [HE.out]; exact wc), HG1.out⟩
end Go.Proofs.Ytkmikiljpajaaaa
