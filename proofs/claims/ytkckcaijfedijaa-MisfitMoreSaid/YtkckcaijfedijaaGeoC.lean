/- Layer 24: Square, Near, Far, Contains, Within. -/
import Derived.Test.YtkckcaijfedijaaGeoB
namespace Go.Proofs.Ytkckcaijfedijaa
set_option linter.all false
open Go.RowKit

theorem vP_iff {x y z : Int} (h : vP x y z = true) : -1048576 ≤ x ∧ x ≤ 1048576 ∧ -1048576 ≤ y ∧ y ≤ 1048576 ∧ -16384 ≤ z ∧ z ≤ 1048576 := by
  simp [vP] at h; omega

/-- The square of a difference of coordinates: small. -/
theorem sq_small {d : Int} (h1 : -4194304 ≤ d) (h2 : d ≤ 4194304) : 0 ≤ d * d ∧ d * d ≤ 17592186044416 ∧ wrap64 (d * d) = d * d := by
  have a : 0 ≤ d * d := by
    rcases Int.le_total 0 d with h | h
    · exact Int.mul_nonneg h h
    · have := Int.mul_nonneg (Int.neg_nonneg_of_nonpos h) (Int.neg_nonneg_of_nonpos h); rwa [Int.neg_mul_neg] at this
  have b : d * d ≤ 4194304 * 4194304 := by
    rcases Int.le_total 0 d with h | h
    · exact Int.mul_le_mul h2 h2 h (by omega)
    · have := Int.mul_le_mul (a := -d) (b := -d) (c := 4194304) (d := 4194304) (by omega) (by omega) (by omega) (by omega)
      rwa [Int.neg_mul_neg] at this
  generalize d * d = q at *
  exact ⟨a, by omega, IntWalk.wrap64_in _ (by omega)⟩

def sqD (x0 y0 z0 x1 y1 z1 : Int) : Int := (x0 - x1) * (x0 - x1) + (y0 - y1) * (y0 - y1) + (z0 - z1) * (z0 - z1)
def sqP (x0 y0 z0 x1 y1 z1 : Int) : Int := if vP x0 y0 z0 && vP x1 y1 z1 then sqD x0 y0 z0 x1 y1 z1 else 0

set_option maxHeartbeats 1000000 in
theorem square_any (x0 y0 z0 x1 y1 z1 : Int) (w : World) :
    Calls Try.prog 76 #[.agg #[.int .i64 x0, .int .i64 y0, .int .i64 z0], .agg #[.int .i64 x1, .int .i64 y1, .int .i64 z1]] w fun e w' => e = .returned (.int .i64 (sqP x0 y0 z0 x1 y1 z1)) ∧ w.grownBy w' none := by
  go_enter Try.func76, Try.ntmps76
  go_wp2_with fail
  (with_reducible refine (valid_any _ _ _ _).mono ?_)
  rintro e w1 ⟨rfl, hg1⟩
  obtain ⟨ca, hza⟩ := gb_at hg1 (b := w.heap.size) (by first | omega | (simp <;> omega))
  obtain ⟨cb, hzb⟩ := gb_at hg1 (b := w.heap.size + 1) (by first | omega | (simp <;> omega))
  have HG1 := Lib.hid (gb_trans (gb_alloc (gb_alloc (gb_refl _ _) _) _) hg1); clear hg1
  cases hv0 : vP x0 y0 z0
  · go_wp2
    go_ret
    exact ⟨ret_int (by simp [sqP, hv0]), HG1.out⟩
  go_wp2_with fail
  (with_reducible refine (valid_any _ _ _ _).mono ?_)
  rintro e w2 ⟨rfl, hg2⟩
  obtain ⟨ca2, hza2⟩ := gb_at hg2 hza
  obtain ⟨cb2, hzb2⟩ := gb_at hg2 hzb
  have HG2 := Lib.hid (gb_trans HG1.out hg2); clear hg2 HG1
  cases hv1 : vP x1 y1 z1
  · go_wp2
    go_ret
    exact ⟨ret_int (by simp [sqP, hv1]), HG2.out⟩
  have hi0 := vP_iff hv0
  have hi1 := vP_iff hv1
  have HE := Lib.hid (show sqP x0 y0 z0 x1 y1 z1 = sqD x0 y0 z0 x1 y1 z1 from by simp [sqP, hv0, hv1])
  clear hv0 hv1
  obtain ⟨sx0, sx1, sx2⟩ := sq_small (d := x0 - x1) (by omega) (by omega)
  obtain ⟨sy0, sy1, sy2⟩ := sq_small (d := y0 - y1) (by omega) (by omega)
  obtain ⟨sz0, sz1, sz2⟩ := sq_small (d := z0 - z1) (by omega) (by omega)
  have hD : sqD x0 y0 z0 x1 y1 z1 = (x0 - x1) * (x0 - x1) + (y0 - y1) * (y0 - y1) + (z0 - z1) * (z0 - z1) := rfl
  generalize hsx : (x0 - x1) * (x0 - x1) = sx at *
  generalize hsy : (y0 - y1) * (y0 - y1) = sy at *
  generalize hsz : (z0 - z1) * (z0 - z1) = sz at *
  have HD := Lib.hid hD; clear hD
  go_wp2_with fail
  (with_reducible refine (of_any _ _ _ _).mono ?_)
  rintro e w3 ⟨rfl, hg3⟩
  obtain ⟨ca3, hza3⟩ := gb_at hg3 hza2
  have HG3 := Lib.hid (gb_trans HG2.out hg3); clear hg3 HG2
  clear cb cb2 hzb hzb2
  go_wp2_with fail
  (with_reducible refine (of_any _ _ _ _).mono ?_)
  rintro e w4 ⟨rfl, hg4⟩
  obtain ⟨ct, hzt⟩ := gb_at hg4 (b := w3.heap.size) (by simp)
  have HG4 := Lib.hid (gb_trans (gb_alloc HG3.out _) hg4); clear hg4 HG3
  clear ca ca2 ca3 hza hza2 hza3
  go_wp2_with fail
  refine wp_loop_rounds 4 ?_
  rw [rounds_succ]
  go_wp2
  go_quiet (fail)
  go_wp2
  rw [rounds_succ]
  go_wp2
  go_quiet (fail)
  go_wp2
  rw [rounds_succ]
  go_wp2
  go_quiet (fail)
  go_wp2
  rw [rounds_succ]
  go_wp2
  go_ret
  refine ⟨ret_int (by rw [HE.out, HD.out]), gb_trans HG4.out ?_⟩
  repeat (first | exact gb_refl _ _ | refine gb_alloc ?_ _ | refine gb_drewN ?_ _ | refine gb_drew ?_)
end Go.Proofs.Ytkckcaijfedijaa
