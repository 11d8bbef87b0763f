/- Plain laws of squared distances. Of no program but for the names of the contracts. -/
import Derived.Test.YtmgfdfbhfhmekaaGreatGeo
import Derived.Test.YtmgfdfbhfhmekaaGreatTrv
import Derived.Test.YtmgfdfbhfhmekaaGreatGeoS
import Derived.Test.YtmgfdfbhfhmekaaGreatRgPos
namespace Go.Proofs.YtmgfdfbhfhmekaaGreat
set_option linter.all false
section LTri
open Go.RowKit

theorem sq_le_sq {a b : Int} (h0 : 0 ≤ b) (h : a * a ≤ b * b) : a ≤ b := by
  rcases Int.lt_or_le b a with h1 | h1
  · have := Int.mul_le_mul (a := b + 1) (b := b + 1) (c := a) (d := a) (by omega) (by omega) (by omega) (by omega)
    have e : (b + 1) * (b + 1) = b * b + (b + b + 1) := by rw [Int.add_mul, Int.mul_add]; omega
    omega
  · exact h1
theorem sq_nn (a : Int) : 0 ≤ a * a := by
  rcases Int.le_total 0 a with h | h
  · exact Int.mul_nonneg h h
  · have := Int.mul_nonneg (Int.neg_nonneg_of_nonpos h) (Int.neg_nonneg_of_nonpos h); rwa [Int.neg_mul_neg] at this
theorem lagrange (a b c d e f : Int) : (a*a+b*b+c*c)*(d*d+e*e+f*f) - (a*d+b*e+c*f)*(a*d+b*e+c*f) = (a*e-b*d)*(a*e-b*d) + (a*f-c*d)*(a*f-c*d) + (b*f-c*e)*(b*f-c*e) := by grind
theorem tri_core {a b c d e f p q : Int} (hp0 : 0 ≤ p) (hq0 : 0 ≤ q) (hp : a*a+b*b+c*c ≤ p*p) (hq : d*d+e*e+f*f ≤ q*q) :
    (a+d)*(a+d) + (b+e)*(b+e) + (c+f)*(c+f) ≤ (p+q)*(p+q) := by
  have l := lagrange a b c d e f
  have n1 := sq_nn (a*e-b*d); have n2 := sq_nn (a*f-c*d); have n3 := sq_nn (b*f-c*e)
  have m0 : 0 ≤ a*a+b*b+c*c := by have := sq_nn a; have := sq_nn b; have := sq_nn c; omega
  have m1 : 0 ≤ d*d+e*e+f*f := by have := sq_nn d; have := sq_nn e; have := sq_nn f; omega
  have hm : (a*a+b*b+c*c)*(d*d+e*e+f*f) ≤ (p*p)*(q*q) := Int.mul_le_mul hp hq m1 (Int.le_trans m0 hp)
  have hD : (a*d+b*e+c*f)*(a*d+b*e+c*f) ≤ (p*q)*(p*q) := by
    have e1 : (p*q)*(p*q) = (p*p)*(q*q) := by grind
    rw [e1]; omega
  have hd := sq_le_sq (Int.mul_nonneg hp0 hq0) hD
  have e2 : (a+d)*(a+d) + (b+e)*(b+e) + (c+f)*(c+f) = (a*a+b*b+c*c) + (d*d+e*e+f*f) + 2*(a*d+b*e+c*f) := by grind
  have e3 : (p+q)*(p+q) = p*p + q*q + 2*(p*q) := by grind
  rw [e2, e3]; omega
theorem sq3_zero {a b c : Int} (h : a*a+b*b+c*c = 0) : a = 0 ∧ b = 0 ∧ c = 0 := by
  have := sq_nn a; have := sq_nn b; have := sq_nn c
  refine ⟨?_, ?_, ?_⟩
  · have : a * a = 0 := by omega
    exact (Int.mul_eq_zero.1 this).elim id id
  · have : b * b = 0 := by omega
    exact (Int.mul_eq_zero.1 this).elim id id
  · have : c * c = 0 := by omega
    exact (Int.mul_eq_zero.1 this).elim id id

theorem sqD_comm (x0 y0 z0 x1 y1 z1 : Int) : sqD x0 y0 z0 x1 y1 z1 = sqD x1 y1 z1 x0 y0 z0 := by unfold sqD; grind
theorem sqD_zero {x0 y0 z0 x1 y1 z1 : Int} : sqD x0 y0 z0 x1 y1 z1 = 0 ↔ x0 = x1 ∧ y0 = y1 ∧ z0 = z1 := by
  constructor
  · intro h
    obtain ⟨a, b, c⟩ := sq3_zero h
    omega
  · rintro ⟨rfl, rfl, rfl⟩
    unfold sqD; simp
theorem sqD_nonneg (x0 y0 z0 x1 y1 z1 : Int) : 0 ≤ sqD x0 y0 z0 x1 y1 z1 := by
  have := sq_nn (x0 - x1); have := sq_nn (y0 - y1); have := sq_nn (z0 - z1)
  unfold sqD; omega
theorem sqP_valid {x0 y0 z0 x1 y1 z1 : Int} (h : vP x0 y0 z0 = true) (h' : vP x1 y1 z1 = true) : sqP x0 y0 z0 x1 y1 z1 = sqD x0 y0 z0 x1 y1 z1 := by simp [sqP, h, h']
theorem sqD_small {x0 y0 z0 x1 y1 z1 : Int} (h : vP x0 y0 z0 = true) (h' : vP x1 y1 z1 = true) : sqD x0 y0 z0 x1 y1 z1 ≤ 52776558133248 := by
  have a := vP_iff h; have b := vP_iff h'
  have s0 := (sq_small (d := x0 - x1) (by omega) (by omega)).2.1
  have s1 := (sq_small (d := y0 - y1) (by omega) (by omega)).2.1
  have s2 := (sq_small (d := z0 - z1) (by omega) (by omega)).2.1
  unfold sqD; omega
theorem ceilI_sq_ge {n : Int} (h : 0 ≤ n) : 0 ≤ ceilI n ∧ n ≤ ceilI n * ceilI n := by
  obtain ⟨f1, f2⟩ := floorI_spec h
  have f0 : 0 ≤ floorI n := by unfold floorI; omega
  unfold ceilI; split
  · exact ⟨by omega, by omega⟩
  · exact ⟨f0, by omega⟩
/-- The triangle inequality, rounded. -/
theorem tri_plain (x0 y0 z0 x1 y1 z1 x2 y2 z2 : Int) : floorI (sqD x0 y0 z0 x2 y2 z2) ≤ ceilI (sqD x0 y0 z0 x1 y1 z1) + ceilI (sqD x1 y1 z1 x2 y2 z2) := by
  obtain ⟨p0, p1⟩ := ceilI_sq_ge (sqD_nonneg x0 y0 z0 x1 y1 z1)
  obtain ⟨q0, q1⟩ := ceilI_sq_ge (sqD_nonneg x1 y1 z1 x2 y2 z2)
  have f1 := (floorI_spec (sqD_nonneg x0 y0 z0 x2 y2 z2)).1
  generalize ceilI (sqD x0 y0 z0 x1 y1 z1) = p at *
  generalize ceilI (sqD x1 y1 z1 x2 y2 z2) = q at *
  have hc := tri_core (a := x0 - x1) (b := y0 - y1) (c := z0 - z1) (d := x1 - x2) (e := y1 - y2) (f := z1 - z2) p0 q0 p1 q1
  refine sq_le_sq (by omega) (Int.le_trans f1 ?_)
  have e : sqD x0 y0 z0 x2 y2 z2 = (x0 - x1 + (x1 - x2)) * (x0 - x1 + (x1 - x2)) + (y0 - y1 + (y1 - y2)) * (y0 - y1 + (y1 - y2)) + (z0 - z1 + (z1 - z2)) * (z0 - z1 + (z1 - z2)) := by
    unfold sqD
    rw [show x0 - x1 + (x1 - x2) = x0 - x2 by omega, show y0 - y1 + (y1 - y2) = y0 - y2 by omega, show z0 - z1 + (z1 - z2) = z0 - z2 by omega]
  rw [e]; exact hc

/-- Two positions are equal. -/
def same3 (x0 y0 z0 x1 y1 z1 : Int) : Bool := x0 == x1 && y0 == y1 && z0 == z1
theorem same3_iff {x0 y0 z0 x1 y1 z1 : Int} : same3 x0 y0 z0 x1 y1 z1 = true ↔ x0 = x1 ∧ y0 = y1 ∧ z0 = z1 := by simp [same3, and_assoc]
theorem same3_no {x0 y0 z0 x1 y1 z1 : Int} (h : ¬ (x0 = x1 ∧ y0 = y1 ∧ z0 = z1)) : same3 x0 y0 z0 x1 y1 z1 = false := by
  cases e : same3 x0 y0 z0 x1 y1 z1
  · rfl
  · exact absurd (same3_iff.1 e) h
end LTri
section LGeoP
open Go.RowKit

/-- Two boxes are equal. -/
def same6 (x0 y0 z0 x1 y1 z1 a0 b0 c0 a1 b1 c1 : Int) : Bool := x0 == a0 && y0 == b0 && z0 == c0 && x1 == a1 && y1 == b1 && z1 == c1
theorem same6_refl (x0 y0 z0 x1 y1 z1 : Int) : same6 x0 y0 z0 x1 y1 z1 x0 y0 z0 x1 y1 z1 = true := by simp [same6]
theorem same6_same3 (x0 y0 z0 x1 y1 z1 a0 b0 c0 a1 b1 c1 : Int) : same6 x0 y0 z0 x1 y1 z1 a0 b0 c0 a1 b1 c1 = (same3 x0 y0 z0 a0 b0 c0 && same3 x1 y1 z1 a1 b1 c1) := by simp [same6, same3, Bool.and_assoc]
theorem vP_mk {x y z : Int} (h : -1048576 ≤ x ∧ x ≤ 1048576 ∧ -1048576 ≤ y ∧ y ≤ 1048576 ∧ -16384 ≤ z ∧ z ≤ 1048576) : vP x y z = true := by simp [vP]; omega
theorem bP_mk {x0 y0 z0 x1 y1 z1 : Int} (h0 : vP x0 y0 z0 = true) (h1 : vP x1 y1 z1 = true) (hx : x0 ≤ x1) (hy : y0 ≤ y1) (hz : z0 ≤ z1) : bP x0 y0 z0 x1 y1 z1 = true := by simp [bP, h0, h1, hx, hy, hz]
theorem nearS_zero {x lo hi : Int} : nearS x lo hi = 0 ↔ lo ≤ x ∧ x ≤ hi := by unfold nearS; omega
theorem conP_iff {x0 y0 z0 x1 y1 z1 px py pz : Int} : conP x0 y0 z0 x1 y1 z1 px py pz = true ↔ bP x0 y0 z0 x1 y1 z1 = true ∧ vP px py pz = true ∧ x0 ≤ px ∧ px ≤ x1 ∧ y0 ≤ py ∧ py ≤ y1 ∧ z0 ≤ pz ∧ pz ≤ z1 := by
  unfold conP
  rw [Bool.and_eq_true, Bool.and_eq_true, decide_eq_true_eq]
  constructor
  · rintro ⟨⟨h1, h2⟩, h3⟩
    unfold nearP at h3; rw [h1, h2] at h3; simp only [Bool.and_self, if_true] at h3
    obtain ⟨a, b, c⟩ := sq3_zero h3
    rw [nearS_zero] at a b c
    exact ⟨h1, h2, a.1, a.2, b.1, b.2, c.1, c.2⟩
  · rintro ⟨h1, h2, a0, a1, b0, b1, c0, c1⟩
    refine ⟨⟨h1, h2⟩, ?_⟩
    unfold nearP nearD; rw [h1, h2, nearS_zero.2 ⟨a0, a1⟩, nearS_zero.2 ⟨b0, b1⟩, nearS_zero.2 ⟨c0, c1⟩]; simp
theorem wiP_iff {a0 b0 c0 a1 b1 c1 x0 y0 z0 x1 y1 z1 : Int} : wiP a0 b0 c0 a1 b1 c1 x0 y0 z0 x1 y1 z1 = true ↔ bP a0 b0 c0 a1 b1 c1 = true ∧ bP x0 y0 z0 x1 y1 z1 = true ∧ x0 ≤ a0 ∧ a1 ≤ x1 ∧ y0 ≤ b0 ∧ b1 ≤ y1 ∧ z0 ≤ c0 ∧ c1 ≤ z1 := by
  unfold wiP
  rw [Bool.and_eq_true, Bool.and_eq_true, conP_iff, conP_iff]
  constructor
  · rintro ⟨⟨h1, h2, h3, h4⟩, h5, h6, h7⟩
    exact ⟨h1, h2, by omega, by omega, by omega, by omega, by omega, by omega⟩
  · rintro ⟨h1, h2, h3⟩
    obtain ⟨v0, v1, o0, o1, o2⟩ := bP_iff h1
    exact ⟨⟨h1, h2, v0, by omega⟩, h2, v1, by omega⟩
theorem sq_up {a b : Int} (h0 : 0 ≤ a) (h : a ≤ b) : a * a ≤ b * b := Int.mul_le_mul h h h0 (by omega)
/-- A greater box is nearer, and reaches farther. -/
theorem near_up {a0 b0 c0 a1 b1 c1 h0 g0 k0 h1 g1 k1 px py pz : Int} (hx : h0 ≤ a0 ∧ a1 ≤ h1) (hy : g0 ≤ b0 ∧ b1 ≤ g1) (hz : k0 ≤ c0 ∧ c1 ≤ k1) : nearD h0 g0 k0 h1 g1 k1 px py pz ≤ nearD a0 b0 c0 a1 b1 c1 px py pz := by
  have i : nearS px h0 h1 * nearS px h0 h1 ≤ nearS px a0 a1 * nearS px a0 a1 := sq_up (by unfold nearS; omega) (by unfold nearS; omega)
  have j : nearS py g0 g1 * nearS py g0 g1 ≤ nearS py b0 b1 * nearS py b0 b1 := sq_up (by unfold nearS; omega) (by unfold nearS; omega)
  have k : nearS pz k0 k1 * nearS pz k0 k1 ≤ nearS pz c0 c1 * nearS pz c0 c1 := sq_up (by unfold nearS; omega) (by unfold nearS; omega)
  unfold nearD; omega
theorem far_up {a0 b0 c0 a1 b1 c1 h0 g0 k0 h1 g1 k1 px py pz : Int} (hx : h0 ≤ a0 ∧ a0 ≤ a1 ∧ a1 ≤ h1) (hy : g0 ≤ b0 ∧ b0 ≤ b1 ∧ b1 ≤ g1) (hz : k0 ≤ c0 ∧ c0 ≤ c1 ∧ c1 ≤ k1) : farD a0 b0 c0 a1 b1 c1 px py pz ≤ farD h0 g0 k0 h1 g1 k1 px py pz := by
  have i : farS px a0 a1 * farS px a0 a1 ≤ farS px h0 h1 * farS px h0 h1 := sq_up (by unfold farS; omega) (by unfold farS; omega)
  have j : farS py b0 b1 * farS py b0 b1 ≤ farS py g0 g1 * farS py g0 g1 := sq_up (by unfold farS; omega) (by unfold farS; omega)
  have k : farS pz c0 c1 * farS pz c0 c1 ≤ farS pz k0 k1 * farS pz k0 k1 := sq_up (by unfold farS; omega) (by unfold farS; omega)
  unfold farD; omega
theorem nearP_ok {x0 y0 z0 x1 y1 z1 px py pz : Int} (h : bP x0 y0 z0 x1 y1 z1 = true) (h' : vP px py pz = true) : nearP x0 y0 z0 x1 y1 z1 px py pz = nearD x0 y0 z0 x1 y1 z1 px py pz := by simp [nearP, h, h']
theorem farP_ok {x0 y0 z0 x1 y1 z1 px py pz : Int} (h : bP x0 y0 z0 x1 y1 z1 = true) (h' : vP px py pz = true) : farP x0 y0 z0 x1 y1 z1 px py pz = farD x0 y0 z0 x1 y1 z1 px py pz := by simp [farP, h, h']
theorem boxIn_ok {most side x0 y0 z0 x1 y1 z1 : Int} (h : boxIn most side x0 y0 z0 x1 y1 z1) (h1 : most ≤ 1000) (h2 : side ≤ 1000) : bP x0 y0 z0 x1 y1 z1 = true := by
  obtain ⟨⟨a, b, c, d, e, f⟩, g⟩ := h
  exact bP_mk (vP_mk (by omega)) (vP_mk (by omega)) (by omega) (by omega) (by omega)
end LGeoP
end Go.Proofs.YtmgfdfbhfhmekaaGreat
