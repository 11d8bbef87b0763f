/- Layer 24: ValidBox. -/
import Derived.Test.YtkckcaijfedijaaGeoA
namespace Go.Proofs.Ytkckcaijfedijaa
set_option linter.all false
open Go.RowKit

def bP (x0 y0 z0 x1 y1 z1 : Int) : Bool := vP x0 y0 z0 && vP x1 y1 z1 && decide (x0 ≤ x1) && decide (y0 ≤ y1) && decide (z0 ≤ z1)

set_option maxHeartbeats 1000000 in
theorem validBox_any (x0 y0 z0 x1 y1 z1 : Int) (w : World) :
    Calls Try.prog 64 #[.agg #[.int .i64 x0, .int .i64 y0, .int .i64 z0, .int .i64 x1, .int .i64 y1, .int .i64 z1]] w fun e w' => e = .returned (.bool (bP x0 y0 z0 x1 y1 z1)) ∧ w.grownBy w' none := by
  go_enter Try.func64, Try.ntmps64
  go_wp2_with fail
  (with_reducible refine (valid_any _ _ _ _).mono ?_)
  rintro e w1 ⟨rfl, hg1⟩
  obtain ⟨cb, hz⟩ := gb_at hg1 (b := w.heap.size) (by simp)
  have HG1 := Lib.hid (gb_trans (gb_alloc (gb_refl _ _) _) hg1); clear hg1
  cases hv0 : vP x0 y0 z0
  · go_wp2
    go_ret
    exact ⟨ret_bool (by simp [bP, hv0]), HG1.out⟩
  go_wp2_with fail
  (with_reducible refine (valid_any _ _ _ _).mono ?_)
  rintro e w2 ⟨rfl, hg2⟩
  obtain ⟨cb2, hz2⟩ := gb_at hg2 hz
  have HG2 := Lib.hid (gb_trans HG1.out hg2); clear hg2 HG1
  cases hv1 : vP x1 y1 z1
  · go_wp2
    go_ret
    exact ⟨ret_bool (by simp [bP, hv1]), HG2.out⟩
  have HV0 := Lib.hid hv0; have HV1 := Lib.hid hv1; clear hv0 hv1
  go_wp2_with fail
  (with_reducible refine (of_any _ _ _ _).mono ?_)
  rintro e w3 ⟨rfl, hg3⟩
  obtain ⟨cb3, hz3⟩ := gb_at hg3 hz2
  have HG3 := Lib.hid (gb_trans HG2.out hg3); clear hg3 HG2
  go_wp2_with fail
  (with_reducible refine (of_any _ _ _ _).mono ?_)
  rintro e w4 ⟨rfl, hg4⟩
  obtain ⟨cb4, hz4⟩ := gb_at hg4 (b := w3.heap.size) (by simp)
  have HG4 := Lib.hid (gb_trans (gb_alloc HG3.out _) hg4); clear hg4 HG3
  go_wp2_with fail
  rcases Int.lt_or_le x1 x0 with hx | hx
  rotate_left
  rcases Int.lt_or_le y1 y0 with hy | hy
  rotate_left
  rcases Int.lt_or_le z1 z0 with hz | hz
  all_goals
    refine wp_loop_rounds 4 ?_
    repeat any_goals (rw [rounds_succ]; go_wp2)
  all_goals
    go_ret
    refine ⟨ret_bool (by simp [bP, HV0.out, HV1.out]; omega), HG4.out⟩
end Go.Proofs.Ytkckcaijfedijaa
