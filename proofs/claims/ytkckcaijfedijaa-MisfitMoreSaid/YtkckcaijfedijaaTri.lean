/- Plain laws of squared distances. Of no program but for the names of the contracts. -/
import Derived.Test.YtkckcaijfedijaaGeoC
import Derived.Test.YtkckcaijfedijaaSqrt
namespace Go.Proofs.Ytkckcaijfedijaa
set_option linter.all false
open Go.RowKit

theorem sq_le_sq {a b : Int} (h0 : 0 ≤ b) (h : a * a ≤ b * b) : a ≤ b := by
  rcases Int.lt_or_le b a with h1 | h1
  · have := Int.mul_le_mul (a := b + 1) (b := b + 1) (c := a) (d := a) (by omega) (by omega) (by omega) (by omega)
    have e : (b + 1) * (b + 1) = b * b + (b + b + 1) := by rw [Int.add_mul, Int.mul_add]; omega
    omega
  · exact h1
theorem sq_nn (a : Int) : 0 ≤ a * a := by
  rcases Int.le_total 0 a with h | h
  · exact Int.mul_nonneg h h
  · have := Int.mul_nonneg (Int.neg_nonneg_of_nonpos h) (Int.neg_nonneg_of_nonpos h); rwa [Int.neg_mul_neg] at this
theorem lagrange (a b c d e f : Int) : (a*a+b*b+c*c)*(d*d+e*e+f*f) - (a*d+b*e+c*f)*(a*d+b*e+c*f) = (a*e-b*d)*(a*e-b*d) + (a*f-c*d)*(a*f-c*d) + (b*f-c*e)*(b*f-c*e) := by grind
theorem tri_core {a b c d e f p q : Int} (hp0 : 0 ≤ p) (hq0 : 0 ≤ q) (hp : a*a+b*b+c*c ≤ p*p) (hq : d*d+e*e+f*f ≤ q*q) :
    (a+d)*(a+d) + (b+e)*(b+e) + (c+f)*(c+f) ≤ (p+q)*(p+q) := by
  have l := lagrange a b c d e f
  have n1 := sq_nn (a*e-b*d); have n2 := sq_nn (a*f-c*d); have n3 := sq_nn (b*f-c*e)
  have m0 : 0 ≤ a*a+b*b+c*c := by have := sq_nn a; have := sq_nn b; have := sq_nn c; omega
  have m1 : 0 ≤ d*d+e*e+f*f := by have := sq_nn d; have := sq_nn e; have := sq_nn f; omega
  have hm : (a*a+b*b+c*c)*(d*d+e*e+f*f) ≤ (p*p)*(q*q) := Int.mul_le_mul hp hq m1 (Int.le_trans m0 hp)
  have hD : (a*d+b*e+c*f)*(a*d+b*e+c*f) ≤ (p*q)*(p*q) := by
    have e1 : (p*q)*(p*q) = (p*p)*(q*q) := by grind
    rw [e1]; omega
  have hd := sq_le_sq (Int.mul_nonneg hp0 hq0) hD
  have e2 : (a+d)*(a+d) + (b+e)*(b+e) + (c+f)*(c+f) = (a*a+b*b+c*c) + (d*d+e*e+f*f) + 2*(a*d+b*e+c*f) := by grind
  have e3 : (p+q)*(p+q) = p*p + q*q + 2*(p*q) := by grind
  rw [e2, e3]; omega
theorem sq3_zero {a b c : Int} (h : a*a+b*b+c*c = 0) : a = 0 ∧ b = 0 ∧ c = 0 := by
  have := sq_nn a; have := sq_nn b; have := sq_nn c
  refine ⟨?_, ?_, ?_⟩
  · have : a * a = 0 := by omega
    exact (Int.mul_eq_zero.1 this).elim id id
  · have : b * b = 0 := by omega
    exact (Int.mul_eq_zero.1 this).elim id id
  · have : c * c = 0 := by omega
    exact (Int.mul_eq_zero.1 this).elim id id

theorem sqD_comm (x0 y0 z0 x1 y1 z1 : Int) : sqD x0 y0 z0 x1 y1 z1 = sqD x1 y1 z1 x0 y0 z0 := by unfold sqD; grind
theorem sqD_zero {x0 y0 z0 x1 y1 z1 : Int} : sqD x0 y0 z0 x1 y1 z1 = 0 ↔ x0 = x1 ∧ y0 = y1 ∧ z0 = z1 := by
  constructor
  · intro h
    obtain ⟨a, b, c⟩ := sq3_zero h
    omega
  · rintro ⟨rfl, rfl, rfl⟩
    unfold sqD; simp
theorem sqD_nonneg (x0 y0 z0 x1 y1 z1 : Int) : 0 ≤ sqD x0 y0 z0 x1 y1 z1 := by
  have := sq_nn (x0 - x1); have := sq_nn (y0 - y1); have := sq_nn (z0 - z1)
  unfold sqD; omega
theorem sqP_valid {x0 y0 z0 x1 y1 z1 : Int} (h : vP x0 y0 z0 = true) (h' : vP x1 y1 z1 = true) : sqP x0 y0 z0 x1 y1 z1 = sqD x0 y0 z0 x1 y1 z1 := by simp [sqP, h, h']
theorem sqD_small {x0 y0 z0 x1 y1 z1 : Int} (h : vP x0 y0 z0 = true) (h' : vP x1 y1 z1 = true) : sqD x0 y0 z0 x1 y1 z1 ≤ 52776558133248 := by
  have a := vP_iff h; have b := vP_iff h'
  have s0 := (sq_small (d := x0 - x1) (by omega) (by omega)).2.1
  have s1 := (sq_small (d := y0 - y1) (by omega) (by omega)).2.1
  have s2 := (sq_small (d := z0 - z1) (by omega) (by omega)).2.1
  unfold sqD; omega
theorem ceilI_sq_ge {n : Int} (h : 0 ≤ n) : 0 ≤ ceilI n ∧ n ≤ ceilI n * ceilI n := by
  obtain ⟨f1, f2⟩ := floorI_spec h
  have f0 : 0 ≤ floorI n := by unfold floorI; omega
  unfold ceilI; split
  · exact ⟨by omega, by omega⟩
  · exact ⟨f0, by omega⟩
/-- The triangle inequality, rounded. -/
theorem tri_plain (x0 y0 z0 x1 y1 z1 x2 y2 z2 : Int) : floorI (sqD x0 y0 z0 x2 y2 z2) ≤ ceilI (sqD x0 y0 z0 x1 y1 z1) + ceilI (sqD x1 y1 z1 x2 y2 z2) := by
  obtain ⟨p0, p1⟩ := ceilI_sq_ge (sqD_nonneg x0 y0 z0 x1 y1 z1)
  obtain ⟨q0, q1⟩ := ceilI_sq_ge (sqD_nonneg x1 y1 z1 x2 y2 z2)
  have f1 := (floorI_spec (sqD_nonneg x0 y0 z0 x2 y2 z2)).1
  generalize ceilI (sqD x0 y0 z0 x1 y1 z1) = p at *
  generalize ceilI (sqD x1 y1 z1 x2 y2 z2) = q at *
  have hc := tri_core (a := x0 - x1) (b := y0 - y1) (c := z0 - z1) (d := x1 - x2) (e := y1 - y2) (f := z1 - z2) p0 q0 p1 q1
  refine sq_le_sq (by omega) (Int.le_trans f1 ?_)
  have e : sqD x0 y0 z0 x2 y2 z2 = (x0 - x1 + (x1 - x2)) * (x0 - x1 + (x1 - x2)) + (y0 - y1 + (y1 - y2)) * (y0 - y1 + (y1 - y2)) + (z0 - z1 + (z1 - z2)) * (z0 - z1 + (z1 - z2)) := by
    unfold sqD
    rw [show x0 - x1 + (x1 - x2) = x0 - x2 by omega, show y0 - y1 + (y1 - y2) = y0 - y2 by omega, show z0 - z1 + (z1 - z2) = z0 - z2 by omega]
  rw [e]; exact hc

/-- Two positions are equal. -/
def same3 (x0 y0 z0 x1 y1 z1 : Int) : Bool := x0 == x1 && y0 == y1 && z0 == z1
theorem same3_iff {x0 y0 z0 x1 y1 z1 : Int} : same3 x0 y0 z0 x1 y1 z1 = true ↔ x0 = x1 ∧ y0 = y1 ∧ z0 = z1 := by simp [same3, and_assoc]
theorem same3_no {x0 y0 z0 x1 y1 z1 : Int} (h : ¬ (x0 = x1 ∧ y0 = y1 ∧ z0 = z1)) : same3 x0 y0 z0 x1 y1 z1 = false := by
  cases e : same3 x0 y0 z0 x1 y1 z1
  · rfl
  · exact absurd (same3_iff.1 e) h
theorem run_same3 (x0 y0 z0 x1 y1 z1 : Int) (w : World) :
    (binOp .eql 26 (.agg #[.int .i64 x0, .int .i64 y0, .int .i64 z0]) (.agg #[.int .i64 x1, .int .i64 y1, .int .i64 z1])).run Try.prog w = .ok (.bool (same3 x0 y0 z0 x1 y1 z1)) w := by
  unfold same3
  by_cases h0 : x0 = x1 <;> by_cases h1 : y0 = y1 <;> by_cases h2 : z0 = z1 <;> simp [go_sem, h0, h1, h2]
attribute [go_sem high] run_same3
end Go.Proofs.Ytkckcaijfedijaa
