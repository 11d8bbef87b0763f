/- GeoP -/
import Derived.Test.YtiebljanpnadjaaGreatPdTrv
import Derived.Test.YtiebljanpnadjaaGreatPdGeo
import Derived.Test.YtiebljanpnadjaaGreatPdGeoS
import Derived.Test.YtiebljanpnadjaaGreatPdRgPos
namespace Go.Proofs.YtiebljanpnadjaaGreat
set_option linter.all false
section LTri
open Go.RowKit
theorem sq_nn (a : Int) : 0 ≤ a * a := by
  rcases Int.le_total 0 a with h | h
  · exact Int.mul_nonneg h h
  · have := Int.mul_nonneg (Int.neg_nonneg_of_nonpos h) (Int.neg_nonneg_of_nonpos h); rwa [Int.neg_mul_neg] at this
theorem sq3_zero {a b c : Int} (h : a*a+b*b+c*c = 0) : a = 0 ∧ b = 0 ∧ c = 0 := by
  have := sq_nn a; have := sq_nn b; have := sq_nn c
  refine ⟨?_, ?_, ?_⟩
  · have : a * a = 0 := by omega
    exact (Int.mul_eq_zero.1 this).elim id id
  · have : b * b = 0 := by omega
    exact (Int.mul_eq_zero.1 this).elim id id
  · have : c * c = 0 := by omega
    exact (Int.mul_eq_zero.1 this).elim id id
theorem sqD_comm (x0 y0 z0 x1 y1 z1 : Int) : sqD x0 y0 z0 x1 y1 z1 = sqD x1 y1 z1 x0 y0 z0 := by unfold sqD; grind
theorem sqD_nonneg (x0 y0 z0 x1 y1 z1 : Int) : 0 ≤ sqD x0 y0 z0 x1 y1 z1 := by
  have := sq_nn (x0 - x1); have := sq_nn (y0 - y1); have := sq_nn (z0 - z1)
  unfold sqD; omega
theorem ceilI_sq_ge {n : Int} (h : 0 ≤ n) : 0 ≤ ceilI n ∧ n ≤ ceilI n * ceilI n := by
  obtain ⟨f1, f2⟩ := floorI_spec h
  have f0 : 0 ≤ floorI n := by unfold floorI; omega
  unfold ceilI; split
  · exact ⟨by omega, by omega⟩
  · exact ⟨f0, by omega⟩
/-- Two positions are equal. -/
def same3 (x0 y0 z0 x1 y1 z1 : Int) : Bool := x0 == x1 && y0 == y1 && z0 == z1
theorem run_same3 (x0 y0 z0 x1 y1 z1 : Int) (w : World) :
    (binOp .eql 23 (.agg #[.int .i64 x0, .int .i64 y0, .int .i64 z0]) (.agg #[.int .i64 x1, .int .i64 y1, .int .i64 z1])).run Tryz.prog w = .ok (.bool (same3 x0 y0 z0 x1 y1 z1)) w := by
  unfold same3
  by_cases h0 : x0 = x1 <;> by_cases h1 : y0 = y1 <;> by_cases h2 : z0 = z1 <;> simp [go_sem, h0, h1, h2]
attribute [go_sem high] run_same3
end LTri
section LGeoP
open Go.RowKit
/-- Two boxes are equal. -/
def same6 (x0 y0 z0 x1 y1 z1 a0 b0 c0 a1 b1 c1 : Int) : Bool := x0 == a0 && y0 == b0 && z0 == c0 && x1 == a1 && y1 == b1 && z1 == c1
theorem run_in3 (x0 y0 z0 x1 y1 z1 : Int) (w : World) :
    (Op.equalIn 9999 23 (.agg #[.int .i64 x0, .int .i64 y0, .int .i64 z0]) (.agg #[.int .i64 x1, .int .i64 y1, .int .i64 z1])).run Tryz.prog w = .ok (same3 x0 y0 z0 x1 y1 z1) w := by
  unfold same3
  by_cases h0 : x0 = x1 <;> by_cases h1 : y0 = y1 <;> by_cases h2 : z0 = z1 <;> simp [go_sem, h0, h1, h2]
theorem same6_same3 (x0 y0 z0 x1 y1 z1 a0 b0 c0 a1 b1 c1 : Int) : same6 x0 y0 z0 x1 y1 z1 a0 b0 c0 a1 b1 c1 = (same3 x0 y0 z0 a0 b0 c0 && same3 x1 y1 z1 a1 b1 c1) := by simp [same6, same3, Bool.and_assoc]
attribute [local go_sem high] run_in3
theorem run_neq6 (x0 y0 z0 x1 y1 z1 a0 b0 c0 a1 b1 c1 : Int) (w : World) :
    (binOp .neq 25 (.agg #[.int .i64 x0, .int .i64 y0, .int .i64 z0, .int .i64 x1, .int .i64 y1, .int .i64 z1]) (.agg #[.int .i64 a0, .int .i64 b0, .int .i64 c0, .int .i64 a1, .int .i64 b1, .int .i64 c1])).run Tryz.prog w = .ok (.bool (!same6 x0 y0 z0 x1 y1 z1 a0 b0 c0 a1 b1 c1)) w := by
  rw [same6_same3]
  cases h : same3 x0 y0 z0 a0 b0 c0 <;> cases h' : same3 x1 y1 z1 a1 b1 c1 <;> simp [go_sem, h, h']
theorem run_eql6 (x0 y0 z0 x1 y1 z1 a0 b0 c0 a1 b1 c1 : Int) (w : World) :
    (binOp .eql 25 (.agg #[.int .i64 x0, .int .i64 y0, .int .i64 z0, .int .i64 x1, .int .i64 y1, .int .i64 z1]) (.agg #[.int .i64 a0, .int .i64 b0, .int .i64 c0, .int .i64 a1, .int .i64 b1, .int .i64 c1])).run Tryz.prog w = .ok (.bool (same6 x0 y0 z0 x1 y1 z1 a0 b0 c0 a1 b1 c1)) w := by
  rw [same6_same3]
  cases h : same3 x0 y0 z0 a0 b0 c0 <;> cases h' : same3 x1 y1 z1 a1 b1 c1 <;> simp [go_sem, h, h']
attribute [go_sem high] run_neq6 run_eql6
theorem vP_mk {x y z : Int} (h : -1048576 ≤ x ∧ x ≤ 1048576 ∧ -1048576 ≤ y ∧ y ≤ 1048576 ∧ -16384 ≤ z ∧ z ≤ 1048576) : vP x y z = true := by simp [vP]; omega
theorem bP_mk {x0 y0 z0 x1 y1 z1 : Int} (h0 : vP x0 y0 z0 = true) (h1 : vP x1 y1 z1 = true) (hx : x0 ≤ x1) (hy : y0 ≤ y1) (hz : z0 ≤ z1) : bP x0 y0 z0 x1 y1 z1 = true := by simp [bP, h0, h1, hx, hy, hz]
theorem nearS_zero {x lo hi : Int} : nearS x lo hi = 0 ↔ lo ≤ x ∧ x ≤ hi := by unfold nearS; omega
theorem conP_iff {x0 y0 z0 x1 y1 z1 px py pz : Int} : conP x0 y0 z0 x1 y1 z1 px py pz = true ↔ bP x0 y0 z0 x1 y1 z1 = true ∧ vP px py pz = true ∧ x0 ≤ px ∧ px ≤ x1 ∧ y0 ≤ py ∧ py ≤ y1 ∧ z0 ≤ pz ∧ pz ≤ z1 := by
  unfold conP
  rw [Bool.and_eq_true, Bool.and_eq_true, decide_eq_true_eq]
  constructor
  · rintro ⟨⟨h1, h2⟩, h3⟩
    unfold nearP at h3; rw [h1, h2] at h3; simp only [Bool.and_self, if_true] at h3
    obtain ⟨a, b, c⟩ := sq3_zero h3
    rw [nearS_zero] at a b c
    exact ⟨h1, h2, a.1, a.2, b.1, b.2, c.1, c.2⟩
  · rintro ⟨h1, h2, a0, a1, b0, b1, c0, c1⟩
    refine ⟨⟨h1, h2⟩, ?_⟩
    unfold nearP nearD; rw [h1, h2, nearS_zero.2 ⟨a0, a1⟩, nearS_zero.2 ⟨b0, b1⟩, nearS_zero.2 ⟨c0, c1⟩]; simp
theorem wiP_iff {a0 b0 c0 a1 b1 c1 x0 y0 z0 x1 y1 z1 : Int} : wiP a0 b0 c0 a1 b1 c1 x0 y0 z0 x1 y1 z1 = true ↔ bP a0 b0 c0 a1 b1 c1 = true ∧ bP x0 y0 z0 x1 y1 z1 = true ∧ x0 ≤ a0 ∧ a1 ≤ x1 ∧ y0 ≤ b0 ∧ b1 ≤ y1 ∧ z0 ≤ c0 ∧ c1 ≤ z1 := by
  unfold wiP
  rw [Bool.and_eq_true, Bool.and_eq_true, conP_iff, conP_iff]
  constructor
  · rintro ⟨⟨h1, h2, h3, h4⟩, h5, h6, h7⟩
    exact ⟨h1, h2, by omega, by omega, by omega, by omega, by omega, by omega⟩
  · rintro ⟨h1, h2, h3⟩
    obtain ⟨v0, v1, o0, o1, o2⟩ := bP_iff h1
    exact ⟨⟨h1, h2, v0, by omega⟩, h2, v1, by omega⟩
theorem sq_up {a b : Int} (h0 : 0 ≤ a) (h : a ≤ b) : a * a ≤ b * b := Int.mul_le_mul h h h0 (by omega)
/-- A greater box is nearer, and reaches farther. -/
theorem near_up {a0 b0 c0 a1 b1 c1 h0 g0 k0 h1 g1 k1 px py pz : Int} (hx : h0 ≤ a0 ∧ a1 ≤ h1) (hy : g0 ≤ b0 ∧ b1 ≤ g1) (hz : k0 ≤ c0 ∧ c1 ≤ k1) : nearD h0 g0 k0 h1 g1 k1 px py pz ≤ nearD a0 b0 c0 a1 b1 c1 px py pz := by
  have i : nearS px h0 h1 * nearS px h0 h1 ≤ nearS px a0 a1 * nearS px a0 a1 := sq_up (by unfold nearS; omega) (by unfold nearS; omega)
  have j : nearS py g0 g1 * nearS py g0 g1 ≤ nearS py b0 b1 * nearS py b0 b1 := sq_up (by unfold nearS; omega) (by unfold nearS; omega)
  have k : nearS pz k0 k1 * nearS pz k0 k1 ≤ nearS pz c0 c1 * nearS pz c0 c1 := sq_up (by unfold nearS; omega) (by unfold nearS; omega)
  unfold nearD; omega
theorem far_up {a0 b0 c0 a1 b1 c1 h0 g0 k0 h1 g1 k1 px py pz : Int} (hx : h0 ≤ a0 ∧ a0 ≤ a1 ∧ a1 ≤ h1) (hy : g0 ≤ b0 ∧ b0 ≤ b1 ∧ b1 ≤ g1) (hz : k0 ≤ c0 ∧ c0 ≤ c1 ∧ c1 ≤ k1) : farD a0 b0 c0 a1 b1 c1 px py pz ≤ farD h0 g0 k0 h1 g1 k1 px py pz := by
  have i : farS px a0 a1 * farS px a0 a1 ≤ farS px h0 h1 * farS px h0 h1 := sq_up (by unfold farS; omega) (by unfold farS; omega)
  have j : farS py b0 b1 * farS py b0 b1 ≤ farS py g0 g1 * farS py g0 g1 := sq_up (by unfold farS; omega) (by unfold farS; omega)
  have k : farS pz c0 c1 * farS pz c0 c1 ≤ farS pz k0 k1 * farS pz k0 k1 := sq_up (by unfold farS; omega) (by unfold farS; omega)
  unfold farD; omega
theorem nearP_ok {x0 y0 z0 x1 y1 z1 px py pz : Int} (h : bP x0 y0 z0 x1 y1 z1 = true) (h' : vP px py pz = true) : nearP x0 y0 z0 x1 y1 z1 px py pz = nearD x0 y0 z0 x1 y1 z1 px py pz := by simp [nearP, h, h']
theorem farP_ok {x0 y0 z0 x1 y1 z1 px py pz : Int} (h : bP x0 y0 z0 x1 y1 z1 = true) (h' : vP px py pz = true) : farP x0 y0 z0 x1 y1 z1 px py pz = farD x0 y0 z0 x1 y1 z1 px py pz := by simp [farP, h, h']
theorem boxIn_ok {most side x0 y0 z0 x1 y1 z1 : Int} (h : boxIn most side x0 y0 z0 x1 y1 z1) (h1 : most ≤ 1000) (h2 : side ≤ 1000) : bP x0 y0 z0 x1 y1 z1 = true := by
  obtain ⟨⟨a, b, c, d, e, f⟩, g⟩ := h
  exact bP_mk (vP_mk (by omega)) (vP_mk (by omega)) (by omega) (by omega) (by omega)
end LGeoP
end Go.Proofs.YtiebljanpnadjaaGreat
