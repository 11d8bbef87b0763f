/- Layer 24: Contains, Within, Points. -/
import Derived.Test.YtkckcaijfedijaaGeoD
namespace Go.Proofs.Ytkckcaijfedijaa
set_option linter.all false
open Go.RowKit

def conP (x0 y0 z0 x1 y1 z1 px py pz : Int) : Bool := bP x0 y0 z0 x1 y1 z1 && vP px py pz && decide (nearP x0 y0 z0 x1 y1 z1 px py pz = 0)
def wiP (a0 b0 c0 a1 b1 c1 x0 y0 z0 x1 y1 z1 : Int) : Bool := bP a0 b0 c0 a1 b1 c1 && conP x0 y0 z0 x1 y1 z1 a0 b0 c0 && conP x0 y0 z0 x1 y1 z1 a1 b1 c1
def ptsD (x0 y0 z0 x1 y1 z1 : Int) : Int := (x1 - x0 + 1) * (y1 - y0 + 1) * (z1 - z0 + 1)
def ptsP (x0 y0 z0 x1 y1 z1 : Int) : Int := if bP x0 y0 z0 x1 y1 z1 then ptsD x0 y0 z0 x1 y1 z1 else 0

theorem contains_any (x0 y0 z0 x1 y1 z1 px py pz : Int) (w : World) :
    Calls Try.prog 102 #[.agg #[.int .i64 x0, .int .i64 y0, .int .i64 z0, .int .i64 x1, .int .i64 y1, .int .i64 z1], .agg #[.int .i64 px, .int .i64 py, .int .i64 pz]] w fun e w' => e = .returned (.bool (conP x0 y0 z0 x1 y1 z1 px py pz)) ∧ w.grownBy w' none := by
  go_enter Try.func102, Try.ntmps102
  go_wp2_with fail
  (with_reducible refine (validBox_any _ _ _ _ _ _ _).mono ?_)
  rintro e w1 ⟨rfl, hg1⟩
  obtain ⟨ca, hza⟩ := gb_at hg1 (b := w.heap.size) (by first | omega | (simp <;> omega))
  obtain ⟨cb, hzb⟩ := gb_at hg1 (b := w.heap.size + 1) (by first | omega | (simp <;> omega))
  have HG1 := Lib.hid (gb_trans (gb_alloc (gb_alloc (gb_refl _ _) _) _) hg1); clear hg1
  cases hv0 : bP x0 y0 z0 x1 y1 z1
  · go_wp2
    go_ret
    exact ⟨ret_bool (by simp [conP, hv0]), HG1.out⟩
  go_wp2_with fail
  (with_reducible refine (valid_any _ _ _ _).mono ?_)
  rintro e w2 ⟨rfl, hg2⟩
  obtain ⟨ca2, hza2⟩ := gb_at hg2 hza
  obtain ⟨cb2, hzb2⟩ := gb_at hg2 hzb
  have HG2 := Lib.hid (gb_trans HG1.out hg2); clear hg2 HG1
  cases hv1 : vP px py pz
  · go_wp2
    go_ret
    exact ⟨ret_bool (by simp [conP, hv1]), HG2.out⟩
  have H0 := Lib.hid hv0; have H1 := Lib.hid hv1; clear hv0 hv1
  go_wp2_with fail
  (with_reducible refine (near_any _ _ _ _ _ _ _ _ _ _).mono ?_)
  rintro e w3 ⟨rfl, hg3⟩
  have HG3 := Lib.hid (gb_trans HG2.out hg3); clear hg3 HG2
  go_wp2
  go_ret
  exact ⟨ret_bool (by simp [conP, H0.out, H1.out]; rfl), HG3.out⟩

theorem within_any (a0 b0 c0 a1 b1 c1 x0 y0 z0 x1 y1 z1 : Int) (w : World) :
    Calls Try.prog 84 #[.agg #[.int .i64 a0, .int .i64 b0, .int .i64 c0, .int .i64 a1, .int .i64 b1, .int .i64 c1], .agg #[.int .i64 x0, .int .i64 y0, .int .i64 z0, .int .i64 x1, .int .i64 y1, .int .i64 z1]] w fun e w' => e = .returned (.bool (wiP a0 b0 c0 a1 b1 c1 x0 y0 z0 x1 y1 z1)) ∧ w.grownBy w' none := by
  go_enter Try.func84, Try.ntmps84
  go_wp2_with fail
  (with_reducible refine (validBox_any _ _ _ _ _ _ _).mono ?_)
  rintro e w1 ⟨rfl, hg1⟩
  obtain ⟨ca, hza⟩ := gb_at hg1 (b := w.heap.size) (by first | omega | (simp <;> omega))
  obtain ⟨cb, hzb⟩ := gb_at hg1 (b := w.heap.size + 1) (by first | omega | (simp <;> omega))
  have HG1 := Lib.hid (gb_trans (gb_alloc (gb_alloc (gb_refl _ _) _) _) hg1); clear hg1
  cases hv0 : bP a0 b0 c0 a1 b1 c1
  · go_wp2
    go_ret
    exact ⟨ret_bool (by simp [wiP, hv0]), HG1.out⟩
  go_wp2_with fail
  (with_reducible refine (contains_any _ _ _ _ _ _ _ _ _ _).mono ?_)
  rintro e w2 ⟨rfl, hg2⟩
  obtain ⟨ca2, hza2⟩ := gb_at hg2 hza
  obtain ⟨cb2, hzb2⟩ := gb_at hg2 hzb
  have HG2 := Lib.hid (gb_trans HG1.out hg2); clear hg2 HG1
  cases hv1 : conP x0 y0 z0 x1 y1 z1 a0 b0 c0
  · go_wp2
    go_ret
    exact ⟨ret_bool (by simp [wiP, hv1]), HG2.out⟩
  have H0 := Lib.hid hv0; have H1 := Lib.hid hv1; clear hv0 hv1
  go_wp2_with fail
  (with_reducible refine (contains_any _ _ _ _ _ _ _ _ _ _).mono ?_)
  rintro e w3 ⟨rfl, hg3⟩
  have HG3 := Lib.hid (gb_trans HG2.out hg3); clear hg3 HG2
  go_wp2
  go_ret
  exact ⟨ret_bool (by simp [wiP, H0.out, H1.out]), HG3.out⟩

/-- The number of points of a valid box is an int. -/
theorem pts_small {a b c : Int} (ha : 1 ≤ a ∧ a ≤ 2097153) (hb : 1 ≤ b ∧ b ≤ 2097153) (hc : 1 ≤ c ∧ c ≤ 1064961) : 1 ≤ a * b ∧ a * b ≤ 4398050705409 ∧ 1 ≤ a * b * c ∧ a * b * c ≤ 4683752477283074049 := by
  have h1 : a * b ≤ 2097153 * 2097153 := Int.mul_le_mul ha.2 hb.2 (by omega) (by omega)
  have h2 : 1 * 1 ≤ a * b := Int.mul_le_mul ha.1 hb.1 (by omega) (by omega)
  have h3 : a * b * c ≤ 4398050705409 * 1064961 := Int.mul_le_mul (by omega) hc.2 (by omega) (by omega)
  have h4 : 1 * 1 ≤ a * b * c := Int.mul_le_mul (by omega) hc.1 (by omega) (by omega)
  omega

set_option maxHeartbeats 1000000 in
theorem points_any (x0 y0 z0 x1 y1 z1 : Int) (w : World) :
    Calls Try.prog 77 #[.agg #[.int .i64 x0, .int .i64 y0, .int .i64 z0, .int .i64 x1, .int .i64 y1, .int .i64 z1]] w fun e w' => e = .returned (.int .i64 (ptsP x0 y0 z0 x1 y1 z1)) ∧ w.grownBy w' none := by
  go_enter Try.func77, Try.ntmps77
  go_wp2_with fail
  (with_reducible refine (validBox_any _ _ _ _ _ _ _).mono ?_)
  rintro e w1 ⟨rfl, hg1⟩
  obtain ⟨ca, hza⟩ := gb_at hg1 (b := w.heap.size) (by first | omega | (simp <;> omega))
  have HG1 := Lib.hid (gb_trans (gb_alloc (gb_refl _ _) _) hg1); clear hg1
  cases hv0 : bP x0 y0 z0 x1 y1 z1
  · go_wp2
    go_ret
    exact ⟨ret_int (by simp [ptsP, hv0]), HG1.out⟩
  have HE := Lib.hid (show ptsP x0 y0 z0 x1 y1 z1 = (x1 - x0 + 1) * (y1 - y0 + 1) * (z1 - z0 + 1) from by simp [ptsP, hv0, ptsD])
  obtain ⟨b0, b1, b2, b3, b4⟩ := bP_iff hv0
  have hi0 := vP_iff b0
  have hi1 := vP_iff b1
  clear hv0 b0 b1
  obtain ⟨s1, s2, s3, s4⟩ := pts_small (a := x1 - x0 + 1) (b := y1 - y0 + 1) (c := z1 - z0 + 1) (by omega) (by omega) (by omega)
  have wb := IntWalk.wrap64_in ((x1 - x0 + 1) * (y1 - y0 + 1)) (by omega)
  have wc := IntWalk.wrap64_in ((x1 - x0 + 1) * (y1 - y0 + 1) * (z1 - z0 + 1)) (by omega)
  clear s1 s2 s3 s4
  go_wp2_with fail
  (with_reducible refine (of_any _ _ _ _).mono ?_)
  rintro e w2 ⟨rfl, hg2⟩
  obtain ⟨ca2, hza2⟩ := gb_at hg2 hza
  have HG2 := Lib.hid (gb_trans HG1.out hg2); clear hg2 HG1
  go_wp2_with fail
  (with_reducible refine (of_any _ _ _ _).mono ?_)
  rintro e w3 ⟨rfl, hg3⟩
  obtain ⟨cb3, hzb3⟩ := gb_at hg3 (b := w2.heap.size) (by simp)
  have HG3 := Lib.hid (gb_trans (gb_alloc HG2.out _) hg3); clear hg3 HG2
  go_wp2_with fail
  refine wp_loop_rounds 4 ?_
  rw [rounds_succ]
  go_wp2
  rw [rounds_succ]
  go_wp2
  rw [rounds_succ]
  go_wp2
  rw [rounds_succ]
  go_wp2
  go_ret
  exact ⟨ret_int (by rw [HE.out]; exact wc), HG3.out⟩
end Go.Proofs.Ytkckcaijfedijaa
