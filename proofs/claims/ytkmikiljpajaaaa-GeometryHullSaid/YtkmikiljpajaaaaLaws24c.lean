/- The walk of GeometryHull. Written by gen_laws24c.py. -/
import Derived.Test.YtkmikiljpajaaaaAwake24
import Derived.Test.YtkmikiljpajaaaaGeoP
import Derived.Test.YtkmikiljpajaaaaRgPos
import Derived.Test.YtkmikiljpajaaaaGrown
namespace Go.Proofs.Ytkmikiljpajaaaa
set_option linter.all false
open Go.RowKit Rg

set_option maxRecDepth 100000 in
set_option maxHeartbeats 2000000 in
theorem geometryHull_walk (w : World) (v : Value) (xs : List Int) (hs : Sl w v xs) (_hx : ∀ x ∈ xs, -9223372036854775808 ≤ x ∧ x ≤ 9223372036854775807) :
    Calls Try.prog 11 #[v] w fun e w' => e = .returned (.bool true) ∧ Below w.heap.size w w' := by
  go_enter Try.func11, Try.ntmps11
  go_wp2_with fail
  (with_reducible refine (new_any w v xs hs).mono ?_)
  rintro e w1 ⟨rfl, hS, hg1⟩
  have HG1 := Lib.hid hg1; have HS1 := Lib.hid hS; clear hg1 hs hS
  go_wp2_with fail
  (with_reducible refine (box_any w.heap.size w1 w.heap.size 20 9 HS1.out (by omega) (by omega) (by omega) (by omega)).mono ?_)
  rintro e w2 ⟨a0, b0, c0, a1, b1, c1, rfl, hA, hS2, hg2⟩
  have HS2 := Lib.hid hS2; have HG2 := Lib.hid hg2; have HA := Lib.hid hA; clear hS2 hg2 HS1 hA
  go_wp2_with fail
  (with_reducible refine (box_any w.heap.size w2 w.heap.size 20 9 HS2.out (by omega) (by omega) (by omega) (by omega)).mono ?_)
  rintro e w3 ⟨x0, y0, z0, x1, y1, z1, rfl, hB, hS3, hg3⟩
  have HS3 := Lib.hid hS3; have HG3 := Lib.hid (gb_trans HG2.out hg3); have HB := Lib.hid hB; clear hS3 hg3 HS2 HG2 hB
  go_wp2_with fail
  (with_reducible refine (box_any w.heap.size w3 w.heap.size 30 60 HS3.out (by omega) (by omega) (by omega) (by omega)).mono ?_)
  rintro e w4 ⟨u0, v0, t0, u1, v1, t1, rfl, hC, hS4, hg4⟩
  have HS4 := Lib.hid hS4; have HG4 := Lib.hid (gb_trans HG3.out hg4); have HC := Lib.hid hC; clear hS4 hg4 HS3 HG3 hC
  go_wp2_with fail
  (with_reducible refine (place_any w.heap.size w4 w.heap.size 40 HS4.out (by omega) (by omega)).mono ?_)
  rintro e w5 ⟨px, py, pz, rfl, hP, hS5, hg5⟩
  have HG5 := Lib.hid (gb_new HG1.out (gb_trans HG4.out hg5) (by simp)); have HP := Lib.hid hP; clear hS5 hg5 HS4 HG4 HG1 hP
  have bA := Lib.hid (boxIn_ok HA.out (by omega) (by omega)); have bB := Lib.hid (boxIn_ok HB.out (by omega) (by omega)); have bC := Lib.hid (boxIn_ok HC.out (by omega) (by omega))
  have vQ : Hid (vP px py pz = true) := Lib.hid (vP_mk (by obtain ⟨i1, i2, i3, i4, i5, i6⟩ := HP.out; omega))
  obtain ⟨h0, eh0⟩ : ∃ h, h = min a0 x0 := ⟨_, rfl⟩
  obtain ⟨g0, eg0⟩ : ∃ h, h = min b0 y0 := ⟨_, rfl⟩
  obtain ⟨k0, ek0⟩ : ∃ h, h = min c0 z0 := ⟨_, rfl⟩
  obtain ⟨h1, eh1⟩ : ∃ h, h = max a1 x1 := ⟨_, rfl⟩
  obtain ⟨g1, eg1⟩ : ∃ h, h = max b1 y1 := ⟨_, rfl⟩
  obtain ⟨k1, ek1⟩ : ∃ h, h = max c1 z1 := ⟨_, rfl⟩
  have hA' := HA.out; have hB' := HB.out
  obtain ⟨⟨i1, i2, i3, i4, i5, i6⟩, i7, i8, i9, i10, i11, i12⟩ := hA'
  obtain ⟨⟨j1, j2, j3, j4, j5, j6⟩, j7, j8, j9, j10, j11, j12⟩ := hB'
  have bH : Hid (bP h0 g0 k0 h1 g1 k1 = true) := Lib.hid (bP_mk (vP_mk (by omega)) (vP_mk (by omega)) (by omega) (by omega) (by omega))
  have eAH : Hid (wiP a0 b0 c0 a1 b1 c1 h0 g0 k0 h1 g1 k1 = true) := Lib.hid (wiP_iff.2 ⟨bA.out, bH.out, by omega, by omega, by omega, by omega, by omega, by omega⟩)
  have eBH : Hid (wiP x0 y0 z0 x1 y1 z1 h0 g0 k0 h1 g1 k1 = true) := Lib.hid (wiP_iff.2 ⟨bB.out, bH.out, by omega, by omega, by omega, by omega, by omega, by omega⟩)
  have eHC : Hid (wiP a0 b0 c0 a1 b1 c1 u0 v0 t0 u1 v1 t1 = true → wiP x0 y0 z0 x1 y1 z1 u0 v0 t0 u1 v1 t1 = true → wiP h0 g0 k0 h1 g1 k1 u0 v0 t0 u1 v1 t1 = true) := Lib.hid (fun p q => by
    obtain ⟨-, -, p1, p2, p3, p4, p5, p6⟩ := wiP_iff.1 p
    obtain ⟨-, -, q1, q2, q3, q4, q5, q6⟩ := wiP_iff.1 q
    exact wiP_iff.2 ⟨bH.out, bC.out, by omega, by omega, by omega, by omega, by omega, by omega⟩)
  have eAB : Hid ((Value.agg #[.int .i64 (huL (bP a0 b0 c0 a1 b1 c1 && bP x0 y0 z0 x1 y1 z1) a0 x0), .int .i64 (huL (bP a0 b0 c0 a1 b1 c1 && bP x0 y0 z0 x1 y1 z1) b0 y0), .int .i64 (huL (bP a0 b0 c0 a1 b1 c1 && bP x0 y0 z0 x1 y1 z1) c0 z0), .int .i64 (huH (bP a0 b0 c0 a1 b1 c1 && bP x0 y0 z0 x1 y1 z1) a1 x1), .int .i64 (huH (bP a0 b0 c0 a1 b1 c1 && bP x0 y0 z0 x1 y1 z1) b1 y1), .int .i64 (huH (bP a0 b0 c0 a1 b1 c1 && bP x0 y0 z0 x1 y1 z1) c1 z1)]) = .agg #[.int .i64 h0, .int .i64 g0, .int .i64 k0, .int .i64 h1, .int .i64 g1, .int .i64 k1]) := Lib.hid (by rw [bA.out, bB.out, eh0, eg0, ek0, eh1, eg1, ek1]; rfl)
  have eBA : Hid ((Value.agg #[.int .i64 (huL (bP x0 y0 z0 x1 y1 z1 && bP a0 b0 c0 a1 b1 c1) x0 a0), .int .i64 (huL (bP x0 y0 z0 x1 y1 z1 && bP a0 b0 c0 a1 b1 c1) y0 b0), .int .i64 (huL (bP x0 y0 z0 x1 y1 z1 && bP a0 b0 c0 a1 b1 c1) z0 c0), .int .i64 (huH (bP x0 y0 z0 x1 y1 z1 && bP a0 b0 c0 a1 b1 c1) x1 a1), .int .i64 (huH (bP x0 y0 z0 x1 y1 z1 && bP a0 b0 c0 a1 b1 c1) y1 b1), .int .i64 (huH (bP x0 y0 z0 x1 y1 z1 && bP a0 b0 c0 a1 b1 c1) z1 c1)]) = .agg #[.int .i64 h0, .int .i64 g0, .int .i64 k0, .int .i64 h1, .int .i64 g1, .int .i64 k1]) := Lib.hid (by rw [bA.out, bB.out]; simp only [huL, huH, Bool.and_self, if_true]; rw [show min x0 a0 = h0 by omega, show min y0 b0 = g0 by omega, show min z0 c0 = k0 by omega, show max x1 a1 = h1 by omega, show max y1 b1 = g1 by omega, show max z1 c1 = k1 by omega])
  have eHA : Hid ((Value.agg #[.int .i64 (huL (bP h0 g0 k0 h1 g1 k1 && bP a0 b0 c0 a1 b1 c1) h0 a0), .int .i64 (huL (bP h0 g0 k0 h1 g1 k1 && bP a0 b0 c0 a1 b1 c1) g0 b0), .int .i64 (huL (bP h0 g0 k0 h1 g1 k1 && bP a0 b0 c0 a1 b1 c1) k0 c0), .int .i64 (huH (bP h0 g0 k0 h1 g1 k1 && bP a0 b0 c0 a1 b1 c1) h1 a1), .int .i64 (huH (bP h0 g0 k0 h1 g1 k1 && bP a0 b0 c0 a1 b1 c1) g1 b1), .int .i64 (huH (bP h0 g0 k0 h1 g1 k1 && bP a0 b0 c0 a1 b1 c1) k1 c1)]) = .agg #[.int .i64 h0, .int .i64 g0, .int .i64 k0, .int .i64 h1, .int .i64 g1, .int .i64 k1]) := Lib.hid (by rw [bA.out, bH.out]; simp only [huL, huH, Bool.and_self, if_true]; rw [show min h0 a0 = h0 by omega, show min g0 b0 = g0 by omega, show min k0 c0 = k0 by omega, show max h1 a1 = h1 by omega, show max g1 b1 = g1 by omega, show max k1 c1 = k1 by omega])
  have nA : Hid (nearP h0 g0 k0 h1 g1 k1 px py pz ≤ nearP a0 b0 c0 a1 b1 c1 px py pz) := Lib.hid (by rw [nearP_ok bH.out vQ.out, nearP_ok bA.out vQ.out]; exact near_up (by omega) (by omega) (by omega))
  have nB : Hid (nearP h0 g0 k0 h1 g1 k1 px py pz ≤ nearP x0 y0 z0 x1 y1 z1 px py pz) := Lib.hid (by rw [nearP_ok bH.out vQ.out, nearP_ok bB.out vQ.out]; exact near_up (by omega) (by omega) (by omega))
  have fA : Hid (farP a0 b0 c0 a1 b1 c1 px py pz ≤ farP h0 g0 k0 h1 g1 k1 px py pz) := Lib.hid (by rw [farP_ok bH.out vQ.out, farP_ok bA.out vQ.out]; exact far_up (by omega) (by omega) (by omega))
  have fB : Hid (farP x0 y0 z0 x1 y1 z1 px py pz ≤ farP h0 g0 k0 h1 g1 k1 px py pz) := Lib.hid (by rw [farP_ok bH.out vQ.out, farP_ok bB.out vQ.out]; exact far_up (by omega) (by omega) (by omega))
  clear i1 i2 i3 i4 i5 i6 i7 i8 i9 i10 i11 i12 j1 j2 j3 j4 j5 j6 j7 j8 j9 j10 j11 j12 eh0 eg0 ek0 eh1 eg1 ek1 HA HB HC HP
  have KAH : Hid (∀ u : World, Calls Try.prog 46 #[.agg #[.int .i64 a0, .int .i64 b0, .int .i64 c0, .int .i64 a1, .int .i64 b1, .int .i64 c1], .agg #[.int .i64 h0, .int .i64 g0, .int .i64 k0, .int .i64 h1, .int .i64 g1, .int .i64 k1]] u fun e w' => e = .returned (.bool true) ∧ u.grownBy w' none) := Lib.hid (fun u => by have h := within_any a0 b0 c0 a1 b1 c1 h0 g0 k0 h1 g1 k1 u; rwa [eAH.out] at h)
  have KBH : Hid (∀ u : World, Calls Try.prog 46 #[.agg #[.int .i64 x0, .int .i64 y0, .int .i64 z0, .int .i64 x1, .int .i64 y1, .int .i64 z1], .agg #[.int .i64 h0, .int .i64 g0, .int .i64 k0, .int .i64 h1, .int .i64 g1, .int .i64 k1]] u fun e w' => e = .returned (.bool true) ∧ u.grownBy w' none) := Lib.hid (fun u => by have h := within_any x0 y0 z0 x1 y1 z1 h0 g0 k0 h1 g1 k1 u; rwa [eBH.out] at h)
  have KBA : Hid (∀ u : World, Calls Try.prog 48 #[.agg #[.int .i64 x0, .int .i64 y0, .int .i64 z0, .int .i64 x1, .int .i64 y1, .int .i64 z1], .agg #[.int .i64 a0, .int .i64 b0, .int .i64 c0, .int .i64 a1, .int .i64 b1, .int .i64 c1]] u fun e w' => e = .returned (.agg #[.int .i64 h0, .int .i64 g0, .int .i64 k0, .int .i64 h1, .int .i64 g1, .int .i64 k1]) ∧ u.grownBy w' none) := Lib.hid (fun u => by have h := hull_any x0 y0 z0 x1 y1 z1 a0 b0 c0 a1 b1 c1 u; rwa [eBA.out] at h)
  have KHA : Hid (∀ u : World, Calls Try.prog 48 #[.agg #[.int .i64 h0, .int .i64 g0, .int .i64 k0, .int .i64 h1, .int .i64 g1, .int .i64 k1], .agg #[.int .i64 a0, .int .i64 b0, .int .i64 c0, .int .i64 a1, .int .i64 b1, .int .i64 c1]] u fun e w' => e = .returned (.agg #[.int .i64 h0, .int .i64 g0, .int .i64 k0, .int .i64 h1, .int .i64 g1, .int .i64 k1]) ∧ u.grownBy w' none) := Lib.hid (fun u => by have h := hull_any h0 g0 k0 h1 g1 k1 a0 b0 c0 a1 b1 c1 u; rwa [eHA.out] at h)
  have KAC := Lib.hid (fun u => within_any a0 b0 c0 a1 b1 c1 u0 v0 t0 u1 v1 t1 u)
  have KBC := Lib.hid (fun u => within_any x0 y0 z0 x1 y1 z1 u0 v0 t0 u1 v1 t1 u)
  have KHC := Lib.hid (fun u => within_any h0 g0 k0 h1 g1 k1 u0 v0 t0 u1 v1 t1 u)
  have NH := Lib.hid (fun u => near_any h0 g0 k0 h1 g1 k1 px py pz u); have NA := Lib.hid (fun u => near_any a0 b0 c0 a1 b1 c1 px py pz u); have NB := Lib.hid (fun u => near_any x0 y0 z0 x1 y1 z1 px py pz u)
  have FH := Lib.hid (fun u => far_any h0 g0 k0 h1 g1 k1 px py pz u); have FA := Lib.hid (fun u => far_any a0 b0 c0 a1 b1 c1 px py pz u); have FB := Lib.hid (fun u => far_any x0 y0 z0 x1 y1 z1 px py pz u)
  generalize wiP a0 b0 c0 a1 b1 c1 u0 v0 t0 u1 v1 t1 = qa at *
  generalize wiP x0 y0 z0 x1 y1 z1 u0 v0 t0 u1 v1 t1 = qb at *
  generalize wiP h0 g0 k0 h1 g1 k1 u0 v0 t0 u1 v1 t1 = qh at *
  generalize nearP h0 g0 k0 h1 g1 k1 px py pz = nh at *
  generalize nearP a0 b0 c0 a1 b1 c1 px py pz = na at *
  generalize nearP x0 y0 z0 x1 y1 z1 px py pz = nb at *
  generalize farP h0 g0 k0 h1 g1 k1 px py pz = fh at *
  generalize farP a0 b0 c0 a1 b1 c1 px py pz = fa at *
  generalize farP x0 y0 z0 x1 y1 z1 px py pz = fb at *
  have R0 : Hid (((((w5.alloc (.cells #[.int .i64 a0, .int .i64 b0, .int .i64 c0, .int .i64 a1, .int .i64 b1, .int .i64 c1] 44)).alloc (.cells #[.int .i64 x0, .int .i64 y0, .int .i64 z0, .int .i64 x1, .int .i64 y1, .int .i64 z1] 44)).alloc (.cells #[.int .i64 u0, .int .i64 v0, .int .i64 t0, .int .i64 u1, .int .i64 v1, .int .i64 t1] 44)).alloc (.cells #[.int .i64 px, .int .i64 py, .int .i64 pz] 40)).heap[w5.heap.size]? = some (.cells #[.int .i64 a0, .int .i64 b0, .int .i64 c0, .int .i64 a1, .int .i64 b1, .int .i64 c1] 44 (0, 0))) := Lib.hid (by rw [heap_alloc_old _ _ (by simp <;> omega), heap_alloc_old _ _ (by simp <;> omega), heap_alloc_old _ _ (by simp), heap_alloc_new])
  have R1 : Hid (((((w5.alloc (.cells #[.int .i64 a0, .int .i64 b0, .int .i64 c0, .int .i64 a1, .int .i64 b1, .int .i64 c1] 44)).alloc (.cells #[.int .i64 x0, .int .i64 y0, .int .i64 z0, .int .i64 x1, .int .i64 y1, .int .i64 z1] 44)).alloc (.cells #[.int .i64 u0, .int .i64 v0, .int .i64 t0, .int .i64 u1, .int .i64 v1, .int .i64 t1] 44)).alloc (.cells #[.int .i64 px, .int .i64 py, .int .i64 pz] 40)).heap[w5.heap.size + 1]? = some (.cells #[.int .i64 x0, .int .i64 y0, .int .i64 z0, .int .i64 x1, .int .i64 y1, .int .i64 z1] 44 (0, 0))) := Lib.hid (by rw [heap_alloc_old _ _ (by simp <;> omega), heap_alloc_old _ _ (by simp)]; simpa using heap_alloc_new (w5.alloc _) _)
  have R2 : Hid (((((w5.alloc (.cells #[.int .i64 a0, .int .i64 b0, .int .i64 c0, .int .i64 a1, .int .i64 b1, .int .i64 c1] 44)).alloc (.cells #[.int .i64 x0, .int .i64 y0, .int .i64 z0, .int .i64 x1, .int .i64 y1, .int .i64 z1] 44)).alloc (.cells #[.int .i64 u0, .int .i64 v0, .int .i64 t0, .int .i64 u1, .int .i64 v1, .int .i64 t1] 44)).alloc (.cells #[.int .i64 px, .int .i64 py, .int .i64 pz] 40)).heap[w5.heap.size + 1 + 1]? = some (.cells #[.int .i64 u0, .int .i64 v0, .int .i64 t0, .int .i64 u1, .int .i64 v1, .int .i64 t1] 44 (0, 0))) := Lib.hid (by rw [heap_alloc_old _ _ (by simp)]; simpa using heap_alloc_new ((w5.alloc _).alloc _) _)
  have R3 : Hid (((((w5.alloc (.cells #[.int .i64 a0, .int .i64 b0, .int .i64 c0, .int .i64 a1, .int .i64 b1, .int .i64 c1] 44)).alloc (.cells #[.int .i64 x0, .int .i64 y0, .int .i64 z0, .int .i64 x1, .int .i64 y1, .int .i64 z1] 44)).alloc (.cells #[.int .i64 u0, .int .i64 v0, .int .i64 t0, .int .i64 u1, .int .i64 v1, .int .i64 t1] 44)).alloc (.cells #[.int .i64 px, .int .i64 py, .int .i64 pz] 40)).heap[w5.heap.size + 1 + 1 + 1]? = some (.cells #[.int .i64 px, .int .i64 py, .int .i64 pz] 40 (0, 0))) := Lib.hid (by simpa using heap_alloc_new (((w5.alloc _).alloc _).alloc _) _)
  have HG6 : Hid (w.grownBy ((((w5.alloc (.cells #[.int .i64 a0, .int .i64 b0, .int .i64 c0, .int .i64 a1, .int .i64 b1, .int .i64 c1] 44)).alloc (.cells #[.int .i64 x0, .int .i64 y0, .int .i64 z0, .int .i64 x1, .int .i64 y1, .int .i64 z1] 44)).alloc (.cells #[.int .i64 u0, .int .i64 v0, .int .i64 t0, .int .i64 u1, .int .i64 v1, .int .i64 t1] 44)).alloc (.cells #[.int .i64 px, .int .i64 py, .int .i64 pz] 40)) none) := Lib.hid (gb_alloc (gb_alloc (gb_alloc (gb_alloc HG5.out _) _) _) _)
  go_wp2_with fail
  generalize (((w5.alloc (.cells #[.int .i64 a0, .int .i64 b0, .int .i64 c0, .int .i64 a1, .int .i64 b1, .int .i64 c1] 44)).alloc (.cells #[.int .i64 x0, .int .i64 y0, .int .i64 z0, .int .i64 x1, .int .i64 y1, .int .i64 z1] 44)).alloc (.cells #[.int .i64 u0, .int .i64 v0, .int .i64 t0, .int .i64 u1, .int .i64 v1, .int .i64 t1] 44)).alloc (.cells #[.int .i64 px, .int .i64 py, .int .i64 pz] 40) = w6 at *
  (with_reducible refine (hull_any _ _ _ _ _ _ _ _ _ _ _ _ _).mono ?_)
  rintro e w7 ⟨rfl, hg7⟩
  rw [eAB.out]
  have S0 := Lib.hid (block_kept hg7 R0.out rfl); have S1 := Lib.hid (block_kept hg7 R1.out rfl); have S2 := Lib.hid (block_kept hg7 R2.out rfl); have S3 := Lib.hid (block_kept hg7 R3.out rfl)
  have HG7 := Lib.hid (gb_alloc (gb_trans HG6.out hg7) (.cells #[.int .i64 h0, .int .i64 g0, .int .i64 k0, .int .i64 h1, .int .i64 g1, .int .i64 k1] 44))
  have T0 := Lib.hid ((heap_alloc_old w7 (.cells #[.int .i64 h0, .int .i64 g0, .int .i64 k0, .int .i64 h1, .int .i64 g1, .int .i64 k1] 44) (block_lt S0.out)).trans S0.out)
  have T1 := Lib.hid ((heap_alloc_old w7 (.cells #[.int .i64 h0, .int .i64 g0, .int .i64 k0, .int .i64 h1, .int .i64 g1, .int .i64 k1] 44) (block_lt S1.out)).trans S1.out)
  have T2 := Lib.hid ((heap_alloc_old w7 (.cells #[.int .i64 h0, .int .i64 g0, .int .i64 k0, .int .i64 h1, .int .i64 g1, .int .i64 k1] 44) (block_lt S2.out)).trans S2.out)
  have T3 := Lib.hid ((heap_alloc_old w7 (.cells #[.int .i64 h0, .int .i64 g0, .int .i64 k0, .int .i64 h1, .int .i64 g1, .int .i64 k1] 44) (block_lt S3.out)).trans S3.out)
  have T4 := Lib.hid (heap_alloc_new w7 (.cells #[.int .i64 h0, .int .i64 g0, .int .i64 k0, .int .i64 h1, .int .i64 g1, .int .i64 k1] 44))
  clear hg7 S0 S1 S2 S3 R0 R1 R2 R3 HG6
  go_wp2_with fail
  generalize w7.alloc (.cells #[.int .i64 h0, .int .i64 g0, .int .i64 k0, .int .i64 h1, .int .i64 g1, .int .i64 k1] 44) = w8 at *
  obtain ⟨m0_0_, m0_1_, m0_2_, m0_3_, m0_4_, m0_5_⟩ := cells6 T0.out
  have lt0 := block_lt T0.out
  have q0_0_ := fun (x : Up w8) => (ever_cell x lt0).trans m0_0_
  have q0_1_ := fun (x : Up w8) => (ever_cell x lt0).trans m0_1_
  have q0_2_ := fun (x : Up w8) => (ever_cell x lt0).trans m0_2_
  have q0_3_ := fun (x : Up w8) => (ever_cell x lt0).trans m0_3_
  have q0_4_ := fun (x : Up w8) => (ever_cell x lt0).trans m0_4_
  have q0_5_ := fun (x : Up w8) => (ever_cell x lt0).trans m0_5_
  obtain ⟨m1_0_, m1_1_, m1_2_, m1_3_, m1_4_, m1_5_⟩ := cells6 T1.out
  have lt1 := block_lt T1.out
  have q1_0_ := fun (x : Up w8) => (ever_cell x lt1).trans m1_0_
  have q1_1_ := fun (x : Up w8) => (ever_cell x lt1).trans m1_1_
  have q1_2_ := fun (x : Up w8) => (ever_cell x lt1).trans m1_2_
  have q1_3_ := fun (x : Up w8) => (ever_cell x lt1).trans m1_3_
  have q1_4_ := fun (x : Up w8) => (ever_cell x lt1).trans m1_4_
  have q1_5_ := fun (x : Up w8) => (ever_cell x lt1).trans m1_5_
  obtain ⟨m2_0_, m2_1_, m2_2_, m2_3_, m2_4_, m2_5_⟩ := cells6 T2.out
  have lt2 := block_lt T2.out
  have q2_0_ := fun (x : Up w8) => (ever_cell x lt2).trans m2_0_
  have q2_1_ := fun (x : Up w8) => (ever_cell x lt2).trans m2_1_
  have q2_2_ := fun (x : Up w8) => (ever_cell x lt2).trans m2_2_
  have q2_3_ := fun (x : Up w8) => (ever_cell x lt2).trans m2_3_
  have q2_4_ := fun (x : Up w8) => (ever_cell x lt2).trans m2_4_
  have q2_5_ := fun (x : Up w8) => (ever_cell x lt2).trans m2_5_
  obtain ⟨m3_0_, m3_1_, m3_2_⟩ := cells3 T3.out
  have lt3 := block_lt T3.out
  have q3_0_ := fun (x : Up w8) => (ever_cell x lt3).trans m3_0_
  have q3_1_ := fun (x : Up w8) => (ever_cell x lt3).trans m3_1_
  have q3_2_ := fun (x : Up w8) => (ever_cell x lt3).trans m3_2_
  obtain ⟨m4_0_, m4_1_, m4_2_, m4_3_, m4_4_, m4_5_⟩ := cells6 T4.out
  have lt4 := block_lt T4.out
  have q4_0_ := fun (x : Up w8) => (ever_cell x lt4).trans m4_0_
  have q4_1_ := fun (x : Up w8) => (ever_cell x lt4).trans m4_1_
  have q4_2_ := fun (x : Up w8) => (ever_cell x lt4).trans m4_2_
  have q4_3_ := fun (x : Up w8) => (ever_cell x lt4).trans m4_3_
  have q4_4_ := fun (x : Up w8) => (ever_cell x lt4).trans m4_4_
  have q4_5_ := fun (x : Up w8) => (ever_cell x lt4).trans m4_5_
  have sm := same6_refl h0 g0 k0 h1 g1 k1
  (refine wp_region_grown (by kernel_rfl) (by kernel_rfl) ?_; (repeat (go_big_quiet_step (first
    | (go_at_call 46; first | (with_reducible exact Calls.grown_of (KAH.out _)) | (with_reducible exact Calls.grown_of (KBH.out _)))
    | (go_at_call 48; first | (with_reducible exact Calls.grown_of (KBA.out _)) | (with_reducible exact Calls.grown_of (KHA.out _)))))); refine wpQuiet_nil ?_; intro wq hq)
  have U0 := Lib.hid (block_kept hq T0.out rfl); have U1 := Lib.hid (block_kept hq T1.out rfl); have U2 := Lib.hid (block_kept hq T2.out rfl); have U3 := Lib.hid (block_kept hq T3.out rfl); have U4 := Lib.hid (block_kept hq T4.out rfl)
  have HG8 := Lib.hid (gb_trans HG7.out hq)
  clear m0_0_ q0_0_ m0_1_ q0_1_ m0_2_ q0_2_ m0_3_ q0_3_ m0_4_ q0_4_ m0_5_ q0_5_ m1_0_ q1_0_ m1_1_ q1_1_ m1_2_ q1_2_ m1_3_ q1_3_ m1_4_ q1_4_ m1_5_ q1_5_ m2_0_ q2_0_ m2_1_ q2_1_ m2_2_ q2_2_ m2_3_ q2_3_ m2_4_ q2_4_ m2_5_ q2_5_ m3_0_ q3_0_ m3_1_ q3_1_ m3_2_ q3_2_ m4_0_ q4_0_ m4_1_ q4_1_ m4_2_ q4_2_ m4_3_ q4_3_ m4_4_ q4_4_ m4_5_ q4_5_ lt0 lt1 lt2 lt3 lt4
  clear hq T0 T1 T2 T3 T4 HG7 sm
  have T0 := U0; have T1 := U1; have T2 := U2; have T3 := U3; have T4 := U4
  clear U0 U1 U2 U3 U4
  obtain ⟨m0_0_, m0_1_, m0_2_, m0_3_, m0_4_, m0_5_⟩ := cells6 T0.out
  obtain ⟨m1_0_, m1_1_, m1_2_, m1_3_, m1_4_, m1_5_⟩ := cells6 T1.out
  obtain ⟨m2_0_, m2_1_, m2_2_, m2_3_, m2_4_, m2_5_⟩ := cells6 T2.out
  obtain ⟨m3_0_, m3_1_, m3_2_⟩ := cells3 T3.out
  obtain ⟨m4_0_, m4_1_, m4_2_, m4_3_, m4_4_, m4_5_⟩ := cells6 T4.out
  go_wp2_with fail
  (with_reducible refine (KAC.out _).mono ?_)
  rintro e w9 ⟨rfl, hg9⟩
  clear m0_0_ m0_1_ m0_2_ m0_3_ m0_4_ m0_5_ m1_0_ m1_1_ m1_2_ m1_3_ m1_4_ m1_5_ m2_0_ m2_1_ m2_2_ m2_3_ m2_4_ m2_5_ m3_0_ m3_1_ m3_2_ m4_0_ m4_1_ m4_2_ m4_3_ m4_4_ m4_5_
  have U0 := Lib.hid (block_kept hg9 T0.out rfl); have U1 := Lib.hid (block_kept hg9 T1.out rfl); have U2 := Lib.hid (block_kept hg9 T2.out rfl); have U3 := Lib.hid (block_kept hg9 T3.out rfl); have U4 := Lib.hid (block_kept hg9 T4.out rfl)
  have HG8' := Lib.hid (gb_trans HG8.out hg9)
  clear hg9 T0 T1 T2 T3 T4 HG8
  have T0 := U0; have T1 := U1; have T2 := U2; have T3 := U3; have T4 := U4; have HG8 := HG8'
  clear U0 U1 U2 U3 U4 HG8'
  cases qa
  · obtain ⟨m0_0_, m0_1_, m0_2_, m0_3_, m0_4_, m0_5_⟩ := cells6 T0.out
    have lt0 := block_lt T0.out
    have q0_0_ := fun (x : Up w9) => (ever_cell x lt0).trans m0_0_
    have q0_1_ := fun (x : Up w9) => (ever_cell x lt0).trans m0_1_
    have q0_2_ := fun (x : Up w9) => (ever_cell x lt0).trans m0_2_
    have q0_3_ := fun (x : Up w9) => (ever_cell x lt0).trans m0_3_
    have q0_4_ := fun (x : Up w9) => (ever_cell x lt0).trans m0_4_
    have q0_5_ := fun (x : Up w9) => (ever_cell x lt0).trans m0_5_
    obtain ⟨m1_0_, m1_1_, m1_2_, m1_3_, m1_4_, m1_5_⟩ := cells6 T1.out
    have lt1 := block_lt T1.out
    have q1_0_ := fun (x : Up w9) => (ever_cell x lt1).trans m1_0_
    have q1_1_ := fun (x : Up w9) => (ever_cell x lt1).trans m1_1_
    have q1_2_ := fun (x : Up w9) => (ever_cell x lt1).trans m1_2_
    have q1_3_ := fun (x : Up w9) => (ever_cell x lt1).trans m1_3_
    have q1_4_ := fun (x : Up w9) => (ever_cell x lt1).trans m1_4_
    have q1_5_ := fun (x : Up w9) => (ever_cell x lt1).trans m1_5_
    obtain ⟨m2_0_, m2_1_, m2_2_, m2_3_, m2_4_, m2_5_⟩ := cells6 T2.out
    have lt2 := block_lt T2.out
    have q2_0_ := fun (x : Up w9) => (ever_cell x lt2).trans m2_0_
    have q2_1_ := fun (x : Up w9) => (ever_cell x lt2).trans m2_1_
    have q2_2_ := fun (x : Up w9) => (ever_cell x lt2).trans m2_2_
    have q2_3_ := fun (x : Up w9) => (ever_cell x lt2).trans m2_3_
    have q2_4_ := fun (x : Up w9) => (ever_cell x lt2).trans m2_4_
    have q2_5_ := fun (x : Up w9) => (ever_cell x lt2).trans m2_5_
    obtain ⟨m3_0_, m3_1_, m3_2_⟩ := cells3 T3.out
    have lt3 := block_lt T3.out
    have q3_0_ := fun (x : Up w9) => (ever_cell x lt3).trans m3_0_
    have q3_1_ := fun (x : Up w9) => (ever_cell x lt3).trans m3_1_
    have q3_2_ := fun (x : Up w9) => (ever_cell x lt3).trans m3_2_
    obtain ⟨m4_0_, m4_1_, m4_2_, m4_3_, m4_4_, m4_5_⟩ := cells6 T4.out
    have lt4 := block_lt T4.out
    have q4_0_ := fun (x : Up w9) => (ever_cell x lt4).trans m4_0_
    have q4_1_ := fun (x : Up w9) => (ever_cell x lt4).trans m4_1_
    have q4_2_ := fun (x : Up w9) => (ever_cell x lt4).trans m4_2_
    have q4_3_ := fun (x : Up w9) => (ever_cell x lt4).trans m4_3_
    have q4_4_ := fun (x : Up w9) => (ever_cell x lt4).trans m4_4_
    have q4_5_ := fun (x : Up w9) => (ever_cell x lt4).trans m4_5_
    have D1 : decide (nh ≤ min na nb) = true := decide_eq_true (by have := nA.out; have := nB.out; omega)
    have D2 : decide (max fa fb ≤ fh) = true := decide_eq_true (by have := fA.out; have := fB.out; omega)
    go_wp2_with fail
    (refine wp_region_grown (by kernel_rfl) (by kernel_rfl) ?_; (repeat (go_big_quiet_step (first
      | (go_at_call 32; first | (with_reducible exact Calls.grown_of (NH.out _)) | (with_reducible exact Calls.grown_of (NA.out _)) | (with_reducible exact Calls.grown_of (NB.out _)))
      | (go_at_call 33; first | (with_reducible exact Calls.grown_of (FH.out _)) | (with_reducible exact Calls.grown_of (FA.out _)) | (with_reducible exact Calls.grown_of (FB.out _)))
      | (go_at_call 25; exact Calls.grown_of (awake24_any _))))); refine wpQuiet_nil ?_; intro wq hq)
    go_wp2
    go_ret
    exact ⟨rfl, gb_end (gb_trans HG8.out hq)⟩
  · obtain ⟨m0_0_, m0_1_, m0_2_, m0_3_, m0_4_, m0_5_⟩ := cells6 T0.out
    obtain ⟨m1_0_, m1_1_, m1_2_, m1_3_, m1_4_, m1_5_⟩ := cells6 T1.out
    obtain ⟨m2_0_, m2_1_, m2_2_, m2_3_, m2_4_, m2_5_⟩ := cells6 T2.out
    obtain ⟨m3_0_, m3_1_, m3_2_⟩ := cells3 T3.out
    obtain ⟨m4_0_, m4_1_, m4_2_, m4_3_, m4_4_, m4_5_⟩ := cells6 T4.out
    go_wp2_with fail
    (with_reducible refine (KBC.out _).mono ?_)
    rintro e w10 ⟨rfl, hg10⟩
    clear m0_0_ m0_1_ m0_2_ m0_3_ m0_4_ m0_5_ m1_0_ m1_1_ m1_2_ m1_3_ m1_4_ m1_5_ m2_0_ m2_1_ m2_2_ m2_3_ m2_4_ m2_5_ m3_0_ m3_1_ m3_2_ m4_0_ m4_1_ m4_2_ m4_3_ m4_4_ m4_5_
    have U0 := Lib.hid (block_kept hg10 T0.out rfl); have U1 := Lib.hid (block_kept hg10 T1.out rfl); have U2 := Lib.hid (block_kept hg10 T2.out rfl); have U3 := Lib.hid (block_kept hg10 T3.out rfl); have U4 := Lib.hid (block_kept hg10 T4.out rfl)
    have HG8' := Lib.hid (gb_trans HG8.out hg10)
    clear hg10 T0 T1 T2 T3 T4 HG8
    have T0 := U0; have T1 := U1; have T2 := U2; have T3 := U3; have T4 := U4; have HG8 := HG8'
    clear U0 U1 U2 U3 U4 HG8'
    cases qb
    · obtain ⟨m0_0_, m0_1_, m0_2_, m0_3_, m0_4_, m0_5_⟩ := cells6 T0.out
      have lt0 := block_lt T0.out
      have q0_0_ := fun (x : Up w10) => (ever_cell x lt0).trans m0_0_
      have q0_1_ := fun (x : Up w10) => (ever_cell x lt0).trans m0_1_
      have q0_2_ := fun (x : Up w10) => (ever_cell x lt0).trans m0_2_
      have q0_3_ := fun (x : Up w10) => (ever_cell x lt0).trans m0_3_
      have q0_4_ := fun (x : Up w10) => (ever_cell x lt0).trans m0_4_
      have q0_5_ := fun (x : Up w10) => (ever_cell x lt0).trans m0_5_
      obtain ⟨m1_0_, m1_1_, m1_2_, m1_3_, m1_4_, m1_5_⟩ := cells6 T1.out
      have lt1 := block_lt T1.out
      have q1_0_ := fun (x : Up w10) => (ever_cell x lt1).trans m1_0_
      have q1_1_ := fun (x : Up w10) => (ever_cell x lt1).trans m1_1_
      have q1_2_ := fun (x : Up w10) => (ever_cell x lt1).trans m1_2_
      have q1_3_ := fun (x : Up w10) => (ever_cell x lt1).trans m1_3_
      have q1_4_ := fun (x : Up w10) => (ever_cell x lt1).trans m1_4_
      have q1_5_ := fun (x : Up w10) => (ever_cell x lt1).trans m1_5_
      obtain ⟨m2_0_, m2_1_, m2_2_, m2_3_, m2_4_, m2_5_⟩ := cells6 T2.out
      have lt2 := block_lt T2.out
      have q2_0_ := fun (x : Up w10) => (ever_cell x lt2).trans m2_0_
      have q2_1_ := fun (x : Up w10) => (ever_cell x lt2).trans m2_1_
      have q2_2_ := fun (x : Up w10) => (ever_cell x lt2).trans m2_2_
      have q2_3_ := fun (x : Up w10) => (ever_cell x lt2).trans m2_3_
      have q2_4_ := fun (x : Up w10) => (ever_cell x lt2).trans m2_4_
      have q2_5_ := fun (x : Up w10) => (ever_cell x lt2).trans m2_5_
      obtain ⟨m3_0_, m3_1_, m3_2_⟩ := cells3 T3.out
      have lt3 := block_lt T3.out
      have q3_0_ := fun (x : Up w10) => (ever_cell x lt3).trans m3_0_
      have q3_1_ := fun (x : Up w10) => (ever_cell x lt3).trans m3_1_
      have q3_2_ := fun (x : Up w10) => (ever_cell x lt3).trans m3_2_
      obtain ⟨m4_0_, m4_1_, m4_2_, m4_3_, m4_4_, m4_5_⟩ := cells6 T4.out
      have lt4 := block_lt T4.out
      have q4_0_ := fun (x : Up w10) => (ever_cell x lt4).trans m4_0_
      have q4_1_ := fun (x : Up w10) => (ever_cell x lt4).trans m4_1_
      have q4_2_ := fun (x : Up w10) => (ever_cell x lt4).trans m4_2_
      have q4_3_ := fun (x : Up w10) => (ever_cell x lt4).trans m4_3_
      have q4_4_ := fun (x : Up w10) => (ever_cell x lt4).trans m4_4_
      have q4_5_ := fun (x : Up w10) => (ever_cell x lt4).trans m4_5_
      have D1 : decide (nh ≤ min na nb) = true := decide_eq_true (by have := nA.out; have := nB.out; omega)
      have D2 : decide (max fa fb ≤ fh) = true := decide_eq_true (by have := fA.out; have := fB.out; omega)
      go_wp2_with fail
      (refine wp_region_grown (by kernel_rfl) (by kernel_rfl) ?_; (repeat (go_big_quiet_step (first
        | (go_at_call 32; first | (with_reducible exact Calls.grown_of (NH.out _)) | (with_reducible exact Calls.grown_of (NA.out _)) | (with_reducible exact Calls.grown_of (NB.out _)))
        | (go_at_call 33; first | (with_reducible exact Calls.grown_of (FH.out _)) | (with_reducible exact Calls.grown_of (FA.out _)) | (with_reducible exact Calls.grown_of (FB.out _)))
        | (go_at_call 25; exact Calls.grown_of (awake24_any _))))); refine wpQuiet_nil ?_; intro wq hq)
      go_wp2
      go_ret
      exact ⟨rfl, gb_end (gb_trans HG8.out hq)⟩
    · obtain rfl : qh = true := eHC.out (by simp) (by simp)
      obtain ⟨m0_0_, m0_1_, m0_2_, m0_3_, m0_4_, m0_5_⟩ := cells6 T0.out
      obtain ⟨m1_0_, m1_1_, m1_2_, m1_3_, m1_4_, m1_5_⟩ := cells6 T1.out
      obtain ⟨m2_0_, m2_1_, m2_2_, m2_3_, m2_4_, m2_5_⟩ := cells6 T2.out
      obtain ⟨m3_0_, m3_1_, m3_2_⟩ := cells3 T3.out
      obtain ⟨m4_0_, m4_1_, m4_2_, m4_3_, m4_4_, m4_5_⟩ := cells6 T4.out
      go_wp2_with fail
      (with_reducible refine (KHC.out _).mono ?_)
      rintro e w11 ⟨rfl, hg11⟩
      clear m0_0_ m0_1_ m0_2_ m0_3_ m0_4_ m0_5_ m1_0_ m1_1_ m1_2_ m1_3_ m1_4_ m1_5_ m2_0_ m2_1_ m2_2_ m2_3_ m2_4_ m2_5_ m3_0_ m3_1_ m3_2_ m4_0_ m4_1_ m4_2_ m4_3_ m4_4_ m4_5_
      have U0 := Lib.hid (block_kept hg11 T0.out rfl); have U1 := Lib.hid (block_kept hg11 T1.out rfl); have U2 := Lib.hid (block_kept hg11 T2.out rfl); have U3 := Lib.hid (block_kept hg11 T3.out rfl); have U4 := Lib.hid (block_kept hg11 T4.out rfl)
      have HG8' := Lib.hid (gb_trans HG8.out hg11)
      clear hg11 T0 T1 T2 T3 T4 HG8
      have T0 := U0; have T1 := U1; have T2 := U2; have T3 := U3; have T4 := U4; have HG8 := HG8'
      clear U0 U1 U2 U3 U4 HG8'
      obtain ⟨m0_0_, m0_1_, m0_2_, m0_3_, m0_4_, m0_5_⟩ := cells6 T0.out
      have lt0 := block_lt T0.out
      have q0_0_ := fun (x : Up w11) => (ever_cell x lt0).trans m0_0_
      have q0_1_ := fun (x : Up w11) => (ever_cell x lt0).trans m0_1_
      have q0_2_ := fun (x : Up w11) => (ever_cell x lt0).trans m0_2_
      have q0_3_ := fun (x : Up w11) => (ever_cell x lt0).trans m0_3_
      have q0_4_ := fun (x : Up w11) => (ever_cell x lt0).trans m0_4_
      have q0_5_ := fun (x : Up w11) => (ever_cell x lt0).trans m0_5_
      obtain ⟨m1_0_, m1_1_, m1_2_, m1_3_, m1_4_, m1_5_⟩ := cells6 T1.out
      have lt1 := block_lt T1.out
      have q1_0_ := fun (x : Up w11) => (ever_cell x lt1).trans m1_0_
      have q1_1_ := fun (x : Up w11) => (ever_cell x lt1).trans m1_1_
      have q1_2_ := fun (x : Up w11) => (ever_cell x lt1).trans m1_2_
      have q1_3_ := fun (x : Up w11) => (ever_cell x lt1).trans m1_3_
      have q1_4_ := fun (x : Up w11) => (ever_cell x lt1).trans m1_4_
      have q1_5_ := fun (x : Up w11) => (ever_cell x lt1).trans m1_5_
      obtain ⟨m2_0_, m2_1_, m2_2_, m2_3_, m2_4_, m2_5_⟩ := cells6 T2.out
      have lt2 := block_lt T2.out
      have q2_0_ := fun (x : Up w11) => (ever_cell x lt2).trans m2_0_
      have q2_1_ := fun (x : Up w11) => (ever_cell x lt2).trans m2_1_
      have q2_2_ := fun (x : Up w11) => (ever_cell x lt2).trans m2_2_
      have q2_3_ := fun (x : Up w11) => (ever_cell x lt2).trans m2_3_
      have q2_4_ := fun (x : Up w11) => (ever_cell x lt2).trans m2_4_
      have q2_5_ := fun (x : Up w11) => (ever_cell x lt2).trans m2_5_
      obtain ⟨m3_0_, m3_1_, m3_2_⟩ := cells3 T3.out
      have lt3 := block_lt T3.out
      have q3_0_ := fun (x : Up w11) => (ever_cell x lt3).trans m3_0_
      have q3_1_ := fun (x : Up w11) => (ever_cell x lt3).trans m3_1_
      have q3_2_ := fun (x : Up w11) => (ever_cell x lt3).trans m3_2_
      obtain ⟨m4_0_, m4_1_, m4_2_, m4_3_, m4_4_, m4_5_⟩ := cells6 T4.out
      have lt4 := block_lt T4.out
      have q4_0_ := fun (x : Up w11) => (ever_cell x lt4).trans m4_0_
      have q4_1_ := fun (x : Up w11) => (ever_cell x lt4).trans m4_1_
      have q4_2_ := fun (x : Up w11) => (ever_cell x lt4).trans m4_2_
      have q4_3_ := fun (x : Up w11) => (ever_cell x lt4).trans m4_3_
      have q4_4_ := fun (x : Up w11) => (ever_cell x lt4).trans m4_4_
      have q4_5_ := fun (x : Up w11) => (ever_cell x lt4).trans m4_5_
      have D1 : decide (nh ≤ min na nb) = true := decide_eq_true (by have := nA.out; have := nB.out; omega)
      have D2 : decide (max fa fb ≤ fh) = true := decide_eq_true (by have := fA.out; have := fB.out; omega)
      go_wp2_with fail
      (refine wp_region_grown (by kernel_rfl) (by kernel_rfl) ?_; (repeat (go_big_quiet_step (first
        | (go_at_call 32; first | (with_reducible exact Calls.grown_of (NH.out _)) | (with_reducible exact Calls.grown_of (NA.out _)) | (with_reducible exact Calls.grown_of (NB.out _)))
        | (go_at_call 33; first | (with_reducible exact Calls.grown_of (FH.out _)) | (with_reducible exact Calls.grown_of (FA.out _)) | (with_reducible exact Calls.grown_of (FB.out _)))
        | (go_at_call 25; exact Calls.grown_of (awake24_any _))))); refine wpQuiet_nil ?_; intro wq hq)
      go_wp2
      go_ret
      exact ⟨rfl, gb_end (gb_trans HG8.out hq)⟩
end Go.Proofs.Ytkmikiljpajaaaa
