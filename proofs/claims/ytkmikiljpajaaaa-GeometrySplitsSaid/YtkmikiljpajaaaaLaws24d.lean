/- The walk of GeometrySplits. Written by gen_laws24d.py. -/
import Derived.Test.YtkmikiljpajaaaaAwake24
import Derived.Test.YtkmikiljpajaaaaGeoQ
import Derived.Test.YtkmikiljpajaaaaRgPos
import Derived.Test.YtkmikiljpajaaaaGrown
namespace Go.Proofs.Ytkmikiljpajaaaa
set_option linter.all false
open Go.RowKit Rg

theorem cells12 {w : World} {b : Nat} {x y z p q r x' y' z' p' q' r' : Value} {t : TypeId} {fr : Nat × Nat} (h : w.heap[b]? = some (.cells #[x, y, z, p, q, r, x', y', z', p', q', r'] t fr)) :
    w.cell? ⟨b, 0, none⟩ = some x ∧ w.cell? ⟨b, 1, none⟩ = some y ∧ w.cell? ⟨b, 2, none⟩ = some z ∧ w.cell? ⟨b, 3, none⟩ = some p ∧ w.cell? ⟨b, 4, none⟩ = some q ∧ w.cell? ⟨b, 5, none⟩ = some r ∧
    w.cell? ⟨b, 6, none⟩ = some x' ∧ w.cell? ⟨b, 7, none⟩ = some y' ∧ w.cell? ⟨b, 8, none⟩ = some z' ∧ w.cell? ⟨b, 9, none⟩ = some p' ∧ w.cell? ⟨b, 10, none⟩ = some q' ∧ w.cell? ⟨b, 11, none⟩ = some r' := by simp [World.cell?, h]

set_option maxRecDepth 100000 in
set_option maxHeartbeats 2000000 in
theorem geometrySplits_walk (w : World) (v : Value) (xs : List Int) (hs : Sl w v xs) (_hx : ∀ x ∈ xs, -9223372036854775808 ≤ x ∧ x ≤ 9223372036854775807) :
    Calls Try.prog 10 #[v] w fun e w' => e = .returned (.bool true) ∧ Below w.heap.size w w' := by
  go_enter Try.func10, Try.ntmps10
  go_wp2_with fail
  (with_reducible refine (new_any w v xs hs).mono ?_)
  rintro e w1 ⟨rfl, hS, hg1⟩
  have HG1 := Lib.hid hg1; have HS1 := Lib.hid hS; clear hg1 hs hS
  go_wp2_with fail
  (with_reducible refine (box_any w.heap.size w1 w.heap.size 30 9 HS1.out (by omega) (by omega) (by omega) (by omega)).mono ?_)
  rintro e w2 ⟨x0, y0, z0, x1, y1, z1, rfl, hB, hS2, hg2⟩
  have HS2 := Lib.hid hS2; have HG2 := Lib.hid hg2; have HB := Lib.hid hB; clear hS2 hg2 HS1 hB
  go_wp2_with fail
  (with_reducible refine (posn_any w.heap.size w2 w.heap.size 60 HS2.out (by omega) (by omega)).mono ?_)
  rintro e w3 ⟨px, py, pz, rfl, hP, hS3, hg3⟩
  have HG3 := Lib.hid (gb_new HG1.out (gb_trans HG2.out hg3) (by simp)); have vQ := Lib.hid hP
  have hB' := HB.out
  obtain ⟨⟨i1, i2, i3, i4, i5, i6⟩, i7, i8, i9, i10, i11, i12⟩ := hB'
  have bB := Lib.hid (boxIn_ok HB.out (by omega) (by omega))
  have T0 : Hid (((w3.alloc (.cells #[.int .i64 x0, .int .i64 y0, .int .i64 z0, .int .i64 x1, .int .i64 y1, .int .i64 z1] 44)).alloc (.cells #[.int .i64 px, .int .i64 py, .int .i64 pz] 40)).heap[w3.heap.size]? = some (.cells #[.int .i64 x0, .int .i64 y0, .int .i64 z0, .int .i64 x1, .int .i64 y1, .int .i64 z1] 44 (0, 0))) := Lib.hid (by rw [heap_alloc_old _ _ (by simp), heap_alloc_new])
  have T1 : Hid (((w3.alloc (.cells #[.int .i64 x0, .int .i64 y0, .int .i64 z0, .int .i64 x1, .int .i64 y1, .int .i64 z1] 44)).alloc (.cells #[.int .i64 px, .int .i64 py, .int .i64 pz] 40)).heap[w3.heap.size + 1]? = some (.cells #[.int .i64 px, .int .i64 py, .int .i64 pz] 40 (0, 0))) := Lib.hid (by simpa using heap_alloc_new (w3.alloc _) _)
  have HG4 : Hid (w.grownBy ((w3.alloc (.cells #[.int .i64 x0, .int .i64 y0, .int .i64 z0, .int .i64 x1, .int .i64 y1, .int .i64 z1] 44)).alloc (.cells #[.int .i64 px, .int .i64 py, .int .i64 pz] 40)) none) := Lib.hid (gb_alloc (gb_alloc HG3.out _) _)
  have hp3 := hS3.lt.2
  have HS4 : Hid (Src w.heap.size ((w3.alloc (.cells #[.int .i64 x0, .int .i64 y0, .int .i64 z0, .int .i64 x1, .int .i64 y1, .int .i64 z1] 44)).alloc (.cells #[.int .i64 px, .int .i64 py, .int .i64 pz] 40)) w.heap.size) := Lib.hid (hS3.later (row := none) (gb_alloc (gb_alloc (gb_refl w3 none) _) _) (by simp))
  clear hS3 hg3 HS2 HG1 HG2 HG3 hP HB
  go_wp2_with fail
  generalize (w3.alloc (.cells #[.int .i64 x0, .int .i64 y0, .int .i64 z0, .int .i64 x1, .int .i64 y1, .int .i64 z1] 44)).alloc (.cells #[.int .i64 px, .int .i64 py, .int .i64 pz] 40) = w4 at *
  (with_reducible refine (split_any _ _ _ _ _ _ _).mono ?_)
  rintro e w5 ⟨rfl, hg5⟩
  have U0 := Lib.hid (block_kept hg5 T0.out rfl)
  have U1 := Lib.hid (block_kept hg5 T1.out rfl)
  clear T0 T1
  have T0 := U0
  have T1 := U1
  clear U0 U1
  have HG5 := Lib.hid (gb_trans HG4.out hg5); have HS5 := Lib.hid (HS4.out.later hg5 (by simp))
  have hp5 := block_lt T0.out
  clear hg5 HG4 HS4
  by_cases hp : 2 ≤ ptsP x0 y0 z0 x1 y1 z1
  rotate_left
  · have hpt := pts_one bB.out (by omega)
    have hsm : same3 x0 y0 z0 x1 y1 z1 = true := same3_iff.2 hpt
    have hv : splOk x0 y0 z0 x1 y1 z1 = false := by simp [splOk]; omega
    have hV : splV (splOk x0 y0 z0 x1 y1 z1) (axis (x1 - x0) (y1 - y0) (z1 - z0)) x0 y0 z0 x1 y1 z1 = .tuple #[.agg #[.int .i64 0, .int .i64 0, .int .i64 0, .int .i64 0, .int .i64 0, .int .i64 0], .agg #[.int .i64 0, .int .i64 0, .int .i64 0, .int .i64 0, .int .i64 0, .int .i64 0], .bool false] := by rw [hv]; simp [splV, keepI, spE, spB]
    rw [hV]
    clear hV hv hpt
    have D1 : decide (1 < ptsP x0 y0 z0 x1 y1 z1) = false := decide_eq_false (by omega)
    have KP := Lib.hid (fun u => points_any x0 y0 z0 x1 y1 z1 u)
    generalize ptsP x0 y0 z0 x1 y1 z1 = pt at *
    have V0 := Lib.hid ((heap_alloc_old (w5.alloc (.cells #[.int .i64 0, .int .i64 0, .int .i64 0, .int .i64 0, .int .i64 0, .int .i64 0] 44)) (.cells #[.int .i64 0, .int .i64 0, .int .i64 0, .int .i64 0, .int .i64 0, .int .i64 0] 44) (by have := block_lt T0.out; simp; omega)).trans ((heap_alloc_old w5 (.cells #[.int .i64 0, .int .i64 0, .int .i64 0, .int .i64 0, .int .i64 0, .int .i64 0] 44) (block_lt T0.out)).trans T0.out))
    have HG6 := Lib.hid (gb_alloc (gb_alloc HG5.out (.cells #[.int .i64 0, .int .i64 0, .int .i64 0, .int .i64 0, .int .i64 0, .int .i64 0] 44)) (.cells #[.int .i64 0, .int .i64 0, .int .i64 0, .int .i64 0, .int .i64 0, .int .i64 0] 44))
    obtain ⟨m0_0_, m0_1_, m0_2_, m0_3_, m0_4_, m0_5_⟩ := cells6 V0.out
    clear T0 T1 hp
    go_wp2_with fail
    (with_reducible refine (KP.out _).mono ?_)
    rintro e w6 ⟨rfl, hg6⟩
    have V1 := Lib.hid (block_kept hg6 V0.out rfl)
    have HG7 := Lib.hid (gb_trans HG6.out hg6)
    clear hg6 m0_0_ m0_1_ m0_2_ m0_3_ m0_4_ m0_5_ V0 HG6
    obtain ⟨m0_0_, m0_1_, m0_2_, m0_3_, m0_4_, m0_5_⟩ := cells6 V1.out
    go_wp2_with fail
    (with_reducible refine (awake24_any _).mono ?_)
    rintro e w7 ⟨rfl, hg7⟩
    go_wp2
    go_ret
    exact ⟨rfl, gb_end (gb_trans HG7.out hg7)⟩
  obtain ⟨e0, e1, e2, f0, f1, f2, hV, hH⟩ := split_halves bB.out hp
  rw [hV]
  have HH := Lib.hid hH
  clear hV hH
  have D1 : decide (1 < ptsP x0 y0 z0 x1 y1 z1) = true := decide_eq_true (by omega)
  have HSUM := Lib.hid HH.out.sum
  have nX : Hid (nearP x0 y0 z0 x1 y1 z1 px py pz ≤ nearP x0 y0 z0 e0 e1 e2 px py pz) := Lib.hid (by rw [nearP_ok bB.out vQ.out, nearP_ok HH.out.vx vQ.out]; have h := wiP_iff.1 HH.out.wx; exact near_up (by omega) (by omega) (by omega))
  have nY : Hid (nearP x0 y0 z0 x1 y1 z1 px py pz ≤ nearP f0 f1 f2 x1 y1 z1 px py pz) := Lib.hid (by rw [nearP_ok bB.out vQ.out, nearP_ok HH.out.vy vQ.out]; have h := wiP_iff.1 HH.out.wy; exact near_up (by omega) (by omega) (by omega))
  have fX : Hid (farP x0 y0 z0 e0 e1 e2 px py pz ≤ farP x0 y0 z0 x1 y1 z1 px py pz) := Lib.hid (by rw [farP_ok bB.out vQ.out, farP_ok HH.out.vx vQ.out]; have h := wiP_iff.1 HH.out.wx; have k := bP_iff HH.out.vx; exact far_up (by omega) (by omega) (by omega))
  have fY : Hid (farP f0 f1 f2 x1 y1 z1 px py pz ≤ farP x0 y0 z0 x1 y1 z1 px py pz) := Lib.hid (by rw [farP_ok bB.out vQ.out, farP_ok HH.out.vy vQ.out]; have h := wiP_iff.1 HH.out.wy; have k := bP_iff HH.out.vy; exact far_up (by omega) (by omega) (by omega))
  have hbd : 1 ≤ ptsP x0 y0 z0 x1 y1 z1 ∧ ptsP x0 y0 z0 x1 y1 z1 ≤ 4683752477283074049 := by
    have hsm := pts_small (a := x1 - x0 + 1) (b := y1 - y0 + 1) (c := z1 - z0 + 1) (by omega) (by omega) (by omega)
    unfold ptsP ptsD; rw [bB.out]; simp only [if_true]; omega
  have HCEN : Hid ((Value.agg #[.int .i64 (cen (bP x0 y0 z0 x1 y1 z1) x0 x1), .int .i64 (cen (bP x0 y0 z0 x1 y1 z1) y0 y1), .int .i64 (cen (bP x0 y0 z0 x1 y1 z1) z0 z1)]) = .agg #[.int .i64 (midI x0 x1), .int .i64 (midI y0 y1), .int .i64 (midI z0 z1)]) := Lib.hid (by rw [bB.out]; rfl)
  have HHUL : Hid ((Value.agg #[.int .i64 (huL (bP x0 y0 z0 e0 e1 e2 && bP f0 f1 f2 x1 y1 z1) x0 f0), .int .i64 (huL (bP x0 y0 z0 e0 e1 e2 && bP f0 f1 f2 x1 y1 z1) y0 f1), .int .i64 (huL (bP x0 y0 z0 e0 e1 e2 && bP f0 f1 f2 x1 y1 z1) z0 f2), .int .i64 (huH (bP x0 y0 z0 e0 e1 e2 && bP f0 f1 f2 x1 y1 z1) e0 x1), .int .i64 (huH (bP x0 y0 z0 e0 e1 e2 && bP f0 f1 f2 x1 y1 z1) e1 y1), .int .i64 (huH (bP x0 y0 z0 e0 e1 e2 && bP f0 f1 f2 x1 y1 z1) e2 z1)]) = .agg #[.int .i64 x0, .int .i64 y0, .int .i64 z0, .int .i64 x1, .int .i64 y1, .int .i64 z1]) := Lib.hid (by
    obtain ⟨k1, k2, k3, k4, k5, k6⟩ := HH.out.hull
    rw [HH.out.vx, HH.out.vy]; simp only [huL, huH, Bool.and_self, if_true]; rw [k1, k2, k3, k4, k5, k6])
  have KC : Hid (∀ u : World, Calls Try.prog 41 #[.agg #[.int .i64 x0, .int .i64 y0, .int .i64 z0, .int .i64 x1, .int .i64 y1, .int .i64 z1]] u fun e w' => e = .returned (.agg #[.int .i64 (midI x0 x1), .int .i64 (midI y0 y1), .int .i64 (midI z0 z1)]) ∧ u.grownBy w' none) := Lib.hid (fun u => by have h := center_any x0 y0 z0 x1 y1 z1 u; rwa [HCEN.out] at h)
  have KH : Hid (∀ u : World, Calls Try.prog 48 #[.agg #[.int .i64 x0, .int .i64 y0, .int .i64 z0, .int .i64 e0, .int .i64 e1, .int .i64 e2], .agg #[.int .i64 f0, .int .i64 f1, .int .i64 f2, .int .i64 x1, .int .i64 y1, .int .i64 z1]] u fun e w' => e = .returned (.agg #[.int .i64 x0, .int .i64 y0, .int .i64 z0, .int .i64 x1, .int .i64 y1, .int .i64 z1]) ∧ u.grownBy w' none) := Lib.hid (fun u => by have h := hull_any x0 y0 z0 e0 e1 e2 f0 f1 f2 x1 y1 z1 u; rwa [HHUL.out] at h)
  have KM : Hid (∀ u : World, Calls Try.prog 31 #[.agg #[.int .i64 x0, .int .i64 y0, .int .i64 z0, .int .i64 e0, .int .i64 e1, .int .i64 e2], .agg #[.int .i64 (midI x0 x1), .int .i64 (midI y0 y1), .int .i64 (midI z0 z1)]] u fun e w' => e = .returned (.bool true) ∧ u.grownBy w' none) := Lib.hid (fun u => by have h := contains_any x0 y0 z0 e0 e1 e2 (midI x0 x1) (midI y0 y1) (midI z0 z1) u; rwa [HH.out.mid] at h)
  have KWX : Hid (∀ u : World, Calls Try.prog 46 #[.agg #[.int .i64 x0, .int .i64 y0, .int .i64 z0, .int .i64 e0, .int .i64 e1, .int .i64 e2], .agg #[.int .i64 x0, .int .i64 y0, .int .i64 z0, .int .i64 x1, .int .i64 y1, .int .i64 z1]] u fun e w' => e = .returned (.bool true) ∧ u.grownBy w' none) := Lib.hid (fun u => by have h := within_any x0 y0 z0 e0 e1 e2 x0 y0 z0 x1 y1 z1 u; rwa [HH.out.wx] at h)
  have KWY : Hid (∀ u : World, Calls Try.prog 46 #[.agg #[.int .i64 f0, .int .i64 f1, .int .i64 f2, .int .i64 x1, .int .i64 y1, .int .i64 z1], .agg #[.int .i64 x0, .int .i64 y0, .int .i64 z0, .int .i64 x1, .int .i64 y1, .int .i64 z1]] u fun e w' => e = .returned (.bool true) ∧ u.grownBy w' none) := Lib.hid (fun u => by have h := within_any f0 f1 f2 x1 y1 z1 x0 y0 z0 x1 y1 z1 u; rwa [HH.out.wy] at h)
  have KPB := Lib.hid (fun u => points_any x0 y0 z0 x1 y1 z1 u); have KNB := Lib.hid (fun u => near_any x0 y0 z0 x1 y1 z1 px py pz u); have KFB := Lib.hid (fun u => far_any x0 y0 z0 x1 y1 z1 px py pz u)
  have KPX := Lib.hid (fun u => points_any x0 y0 z0 e0 e1 e2 u); have KNX := Lib.hid (fun u => near_any x0 y0 z0 e0 e1 e2 px py pz u); have KFX := Lib.hid (fun u => far_any x0 y0 z0 e0 e1 e2 px py pz u)
  have KPY := Lib.hid (fun u => points_any f0 f1 f2 x1 y1 z1 u); have KNY := Lib.hid (fun u => near_any f0 f1 f2 x1 y1 z1 px py pz u); have KFY := Lib.hid (fun u => far_any f0 f1 f2 x1 y1 z1 px py pz u)
  generalize ptsP x0 y0 z0 x1 y1 z1 = ptb at *
  generalize nearP x0 y0 z0 x1 y1 z1 px py pz = nb at *
  generalize farP x0 y0 z0 x1 y1 z1 px py pz = fb at *
  generalize ptsP x0 y0 z0 e0 e1 e2 = ptx at *
  generalize nearP x0 y0 z0 e0 e1 e2 px py pz = nx at *
  generalize farP x0 y0 z0 e0 e1 e2 px py pz = fx at *
  generalize ptsP f0 f1 f2 x1 y1 z1 = pty at *
  generalize nearP f0 f1 f2 x1 y1 z1 px py pz = ny at *
  generalize farP f0 f1 f2 x1 y1 z1 px py pz = fy at *
  generalize midI x0 x1 = c0 at KC KM
  generalize midI y0 y1 = c1 at KC KM
  generalize midI z0 z1 = c2 at KC KM
  have V0 := Lib.hid ((heap_alloc_old (w5.alloc (.cells #[.int .i64 x0, .int .i64 y0, .int .i64 z0, .int .i64 e0, .int .i64 e1, .int .i64 e2] 44)) (.cells #[.int .i64 f0, .int .i64 f1, .int .i64 f2, .int .i64 x1, .int .i64 y1, .int .i64 z1] 44) (by have := block_lt T0.out; simp; omega)).trans ((heap_alloc_old w5 (.cells #[.int .i64 x0, .int .i64 y0, .int .i64 z0, .int .i64 e0, .int .i64 e1, .int .i64 e2] 44) (block_lt T0.out)).trans T0.out))
  have V1 := Lib.hid ((heap_alloc_old (w5.alloc (.cells #[.int .i64 x0, .int .i64 y0, .int .i64 z0, .int .i64 e0, .int .i64 e1, .int .i64 e2] 44)) (.cells #[.int .i64 f0, .int .i64 f1, .int .i64 f2, .int .i64 x1, .int .i64 y1, .int .i64 z1] 44) (by have := block_lt T1.out; simp; omega)).trans ((heap_alloc_old w5 (.cells #[.int .i64 x0, .int .i64 y0, .int .i64 z0, .int .i64 e0, .int .i64 e1, .int .i64 e2] 44) (block_lt T1.out)).trans T1.out))
  have V2 : Hid (((w5.alloc (.cells #[.int .i64 x0, .int .i64 y0, .int .i64 z0, .int .i64 e0, .int .i64 e1, .int .i64 e2] 44)).alloc (.cells #[.int .i64 f0, .int .i64 f1, .int .i64 f2, .int .i64 x1, .int .i64 y1, .int .i64 z1] 44)).heap[w5.heap.size]? = some (.cells #[.int .i64 x0, .int .i64 y0, .int .i64 z0, .int .i64 e0, .int .i64 e1, .int .i64 e2] 44 (0, 0))) := Lib.hid (by rw [heap_alloc_old _ _ (by simp), heap_alloc_new])
  have V3 : Hid (((w5.alloc (.cells #[.int .i64 x0, .int .i64 y0, .int .i64 z0, .int .i64 e0, .int .i64 e1, .int .i64 e2] 44)).alloc (.cells #[.int .i64 f0, .int .i64 f1, .int .i64 f2, .int .i64 x1, .int .i64 y1, .int .i64 z1] 44)).heap[w5.heap.size + 1]? = some (.cells #[.int .i64 f0, .int .i64 f1, .int .i64 f2, .int .i64 x1, .int .i64 y1, .int .i64 z1] 44 (0, 0))) := Lib.hid (by simpa using heap_alloc_new (w5.alloc _) _)
  have HG6 : Hid (w.grownBy ((w5.alloc (.cells #[.int .i64 x0, .int .i64 y0, .int .i64 z0, .int .i64 e0, .int .i64 e1, .int .i64 e2] 44)).alloc (.cells #[.int .i64 f0, .int .i64 f1, .int .i64 f2, .int .i64 x1, .int .i64 y1, .int .i64 z1] 44)) none) := Lib.hid (gb_alloc (gb_alloc HG5.out _) _)
  have HS6 : Hid (Src w.heap.size ((w5.alloc (.cells #[.int .i64 x0, .int .i64 y0, .int .i64 z0, .int .i64 e0, .int .i64 e1, .int .i64 e2] 44)).alloc (.cells #[.int .i64 f0, .int .i64 f1, .int .i64 f2, .int .i64 x1, .int .i64 y1, .int .i64 z1] 44)) w.heap.size) := Lib.hid (HS5.out.later (row := none) (gb_alloc (gb_alloc (gb_refl w5 none) _) _) (by simp))
  obtain ⟨m0_0_, m0_1_, m0_2_, m0_3_, m0_4_, m0_5_⟩ := cells6 V0.out
  clear T0 T1 HG5 HS5 hp
  go_wp2_with fail
  (with_reducible refine (KPB.out _).mono ?_)
  rintro e w7 ⟨rfl, hg7⟩
  generalize (w5.alloc (.cells #[.int .i64 x0, .int .i64 y0, .int .i64 z0, .int .i64 e0, .int .i64 e1, .int .i64 e2] 44)).alloc (.cells #[.int .i64 f0, .int .i64 f1, .int .i64 f2, .int .i64 x1, .int .i64 y1, .int .i64 z1] 44) = w6 at *
  have T0 := Lib.hid (block_kept hg7 V0.out rfl); have T1 := Lib.hid (block_kept hg7 V1.out rfl); have T2 := Lib.hid (block_kept hg7 V2.out rfl); have T3 := Lib.hid (block_kept hg7 V3.out rfl)
  have HG7 := Lib.hid (gb_trans HG6.out hg7); have HS7 := Lib.hid (HS6.out.later hg7 (by simp))
  clear hg7 m0_0_ m0_1_ m0_2_ m0_3_ m0_4_ m0_5_ V0 V1 V2 V3 HG6 HS6
  have lt3 := block_lt T3.out
  have hp7 : w.heap.size < w3.heap.size := hp3
  have hp8 : w.heap.size < w5.heap.size := by omega
  go_wp2_with fail
  go_loopw [9] (fun t wr => ∃ k : Nat, k ≤ 8 ∧ t = .int .i64 k ∧ Src w.heap.size wr w.heap.size ∧ w7.grownBy wr (some w.heap.size)) (fun t _ => 8 - (intOf t).toNat)
  case atStart => exact ⟨0, by omega, rfl, HS7.out, gb_refl _ _⟩
  case round =>
    obtain ⟨k, hk, rfl, hsr, hgr⟩ := hrel
    have U0 := Lib.hid (block_keptp hgr T0.out (by omega))
    have U1 := Lib.hid (block_keptp hgr T1.out (by omega))
    have U2 := Lib.hid (block_keptp hgr T2.out (by omega))
    have U3 := Lib.hid (block_keptp hgr T3.out (by omega))
    have HSR := Lib.hid hsr; have HGR := Lib.hid hgr
    clear hsr hgr HS7
    clear T0 T1 T2 T3
    have T0 := U0
    have T1 := U1
    have T2 := U2
    have T3 := U3
    clear U0 U1 U2 U3
    by_cases hlt : k < 8
    · 
      obtain ⟨m0_0_, m0_1_, m0_2_, m0_3_, m0_4_, m0_5_⟩ := cells6 T0.out
      obtain ⟨m1_0_, m1_1_, m1_2_⟩ := cells3 T1.out
      obtain ⟨m2_0_, m2_1_, m2_2_, m2_3_, m2_4_, m2_5_⟩ := cells6 T2.out
      obtain ⟨m3_0_, m3_1_, m3_2_, m3_3_, m3_4_, m3_5_⟩ := cells6 T3.out
      go_wp2_with fail
      (with_reducible refine (point_any w.heap.size wr w.heap.size _ _ _ _ _ _ HSR.out (by omega) (by omega) (by omega)).mono ?_)
      rintro e w8 ⟨qx, qy, qz, rfl, hq1, hs8, hg8⟩
      clear m0_0_ m0_1_ m0_2_ m0_3_ m0_4_ m0_5_ m1_0_ m1_1_ m1_2_ m2_0_ m2_1_ m2_2_ m2_3_ m2_4_ m2_5_ m3_0_ m3_1_ m3_2_ m3_3_ m3_4_ m3_5_
      have hpart := HH.out.part qx qy qz hq1.1 hq1.2.1 hq1.2.2.1 hq1.2.2.2.1 hq1.2.2.2.2.1 hq1.2.2.2.2.2
      have LX := Lib.hid (fun u => contains_any x0 y0 z0 e0 e1 e2 qx qy qz u); have LY := Lib.hid (fun u => contains_any f0 f1 f2 x1 y1 z1 qx qy qz u)
      generalize conP x0 y0 z0 e0 e1 e2 qx qy qz = ca at *
      generalize conP f0 f1 f2 x1 y1 z1 qx qy qz = cb at *
      subst hpart

      have HG9 := Lib.hid (gb_trans (gb_trans HGR.out hg8) (gb_none (row := some w.heap.size) (gb_alloc (gb_refl w8 none) (.cells #[.int .i64 qx, .int .i64 qy, .int .i64 qz] 40))))
      have HS9 : Hid (Src w.heap.size (w8.alloc (.cells #[.int .i64 qx, .int .i64 qy, .int .i64 qz] 40)) w.heap.size) := Lib.hid (hs8.later (row := none) (gb_alloc (gb_refl w8 none) _) (by simp))
      have A2 := Lib.hid ((heap_alloc_old w8 (.cells #[.int .i64 qx, .int .i64 qy, .int .i64 qz] 40) (block_lt' (block_keptp hg8 T2.out (by omega)))).trans (block_keptp hg8 T2.out (by omega)))
      have A3 := Lib.hid ((heap_alloc_old w8 (.cells #[.int .i64 qx, .int .i64 qy, .int .i64 qz] 40) (block_lt' (block_keptp hg8 T3.out (by omega)))).trans (block_keptp hg8 T3.out (by omega)))
      have A4 := Lib.hid (heap_alloc_new w8 (.cells #[.int .i64 qx, .int .i64 qy, .int .i64 qz] 40))
      clear hg8 hs8 hq1 HGR HSR T0 T1 T2 T3
      go_wp2_with fail
      generalize w8.alloc (.cells #[.int .i64 qx, .int .i64 qy, .int .i64 qz] 40) = w9 at *
      obtain ⟨m0_0_, m0_1_, m0_2_, m0_3_, m0_4_, m0_5_⟩ := cells6 A2.out
      obtain ⟨m1_0_, m1_1_, m1_2_, m1_3_, m1_4_, m1_5_⟩ := cells6 A3.out
      obtain ⟨m2_0_, m2_1_, m2_2_⟩ := cells3 A4.out
      have lt0 := block_lt A2.out
      have q0_0_ := fun (x : Up w9) => (ever_cell x lt0).trans m0_0_
      have q0_1_ := fun (x : Up w9) => (ever_cell x lt0).trans m0_1_
      have q0_2_ := fun (x : Up w9) => (ever_cell x lt0).trans m0_2_
      have q0_3_ := fun (x : Up w9) => (ever_cell x lt0).trans m0_3_
      have q0_4_ := fun (x : Up w9) => (ever_cell x lt0).trans m0_4_
      have q0_5_ := fun (x : Up w9) => (ever_cell x lt0).trans m0_5_
      have lt1 := block_lt A3.out
      have q1_0_ := fun (x : Up w9) => (ever_cell x lt1).trans m1_0_
      have q1_1_ := fun (x : Up w9) => (ever_cell x lt1).trans m1_1_
      have q1_2_ := fun (x : Up w9) => (ever_cell x lt1).trans m1_2_
      have q1_3_ := fun (x : Up w9) => (ever_cell x lt1).trans m1_3_
      have q1_4_ := fun (x : Up w9) => (ever_cell x lt1).trans m1_4_
      have q1_5_ := fun (x : Up w9) => (ever_cell x lt1).trans m1_5_
      have lt2 := block_lt A4.out
      have q2_0_ := fun (x : Up w9) => (ever_cell x lt2).trans m2_0_
      have q2_1_ := fun (x : Up w9) => (ever_cell x lt2).trans m2_1_
      have q2_2_ := fun (x : Up w9) => (ever_cell x lt2).trans m2_2_
      cases cb
      all_goals
        (refine wp_region_grown (by kernel_rfl) (by kernel_rfl) ?_; (repeat (go_big_quiet_step (first | (go_at_call 31; first | (with_reducible exact Calls.grown_of (LX.out _)) | (with_reducible exact Calls.grown_of (LY.out _)))))); refine wpQuiet_nil ?_; intro wq hq)
        go_wp2
        go_roundw
        case rel => exact ⟨k + 1, by omega, by go_num, HS9.out.later hq (by simp), gb_trans HG9.out (gb_none hq)⟩
        case measure => simp [intOf]; omega
    · obtain rfl : k = 8 := by omega
      clear hk hlt
      obtain ⟨m0_0_, m0_1_, m0_2_, m0_3_, m0_4_, m0_5_⟩ := cells6 T0.out
      obtain ⟨m1_0_, m1_1_, m1_2_⟩ := cells3 T1.out
      obtain ⟨m2_0_, m2_1_, m2_2_, m2_3_, m2_4_, m2_5_⟩ := cells6 T2.out
      obtain ⟨m3_0_, m3_1_, m3_2_, m3_3_, m3_4_, m3_5_⟩ := cells6 T3.out
      go_wp2_with fail
      have T5 := Lib.hid (heap_alloc_new wr (.cells #[.int .i64 x0, .int .i64 y0, .int .i64 z0, .int .i64 e0, .int .i64 e1, .int .i64 e2, .int .i64 f0, .int .i64 f1, .int .i64 f2, .int .i64 x1, .int .i64 y1, .int .i64 z1] 44))
      have B0 := Lib.hid ((heap_alloc_old wr (.cells #[.int .i64 x0, .int .i64 y0, .int .i64 z0, .int .i64 e0, .int .i64 e1, .int .i64 e2, .int .i64 f0, .int .i64 f1, .int .i64 f2, .int .i64 x1, .int .i64 y1, .int .i64 z1] 44) (block_lt T0.out)).trans T0.out)
      have B1 := Lib.hid ((heap_alloc_old wr (.cells #[.int .i64 x0, .int .i64 y0, .int .i64 z0, .int .i64 e0, .int .i64 e1, .int .i64 e2, .int .i64 f0, .int .i64 f1, .int .i64 f2, .int .i64 x1, .int .i64 y1, .int .i64 z1] 44) (block_lt T1.out)).trans T1.out)
      have B2 := Lib.hid ((heap_alloc_old wr (.cells #[.int .i64 x0, .int .i64 y0, .int .i64 z0, .int .i64 e0, .int .i64 e1, .int .i64 e2, .int .i64 f0, .int .i64 f1, .int .i64 f2, .int .i64 x1, .int .i64 y1, .int .i64 z1] 44) (block_lt T2.out)).trans T2.out)
      have B3 := Lib.hid ((heap_alloc_old wr (.cells #[.int .i64 x0, .int .i64 y0, .int .i64 z0, .int .i64 e0, .int .i64 e1, .int .i64 e2, .int .i64 f0, .int .i64 f1, .int .i64 f2, .int .i64 x1, .int .i64 y1, .int .i64 z1] 44) (block_lt T3.out)).trans T3.out)
      have HG10 : Hid (w.grownBy (wr.alloc (.cells #[.int .i64 x0, .int .i64 y0, .int .i64 z0, .int .i64 e0, .int .i64 e1, .int .i64 e2, .int .i64 f0, .int .i64 f1, .int .i64 f2, .int .i64 x1, .int .i64 y1, .int .i64 z1] 44)) none) := Lib.hid (gb_alloc (gb_new HG7.out HGR.out (by simp)) _)
      clear m0_0_ m0_1_ m0_2_ m0_3_ m0_4_ m0_5_ m1_0_ m1_1_ m1_2_ m2_0_ m2_1_ m2_2_ m2_3_ m2_4_ m2_5_ m3_0_ m3_1_ m3_2_ m3_3_ m3_4_ m3_5_
      clear T0 T1 T2 T3 HGR HSR
      generalize wr.heap.size = sb at *
      generalize wr.alloc (.cells #[.int .i64 x0, .int .i64 y0, .int .i64 z0, .int .i64 e0, .int .i64 e1, .int .i64 e2, .int .i64 f0, .int .i64 f1, .int .i64 f2, .int .i64 x1, .int .i64 y1, .int .i64 z1] 44) = w10 at *
      have T0 := B0; have T1 := B1; have T2 := B2; have T3 := B3
      clear B0 B1 B2 B3
      refine wp_loop_rounds 3 ?_
      rw [rounds_succ]
      have c12 := cells12 T5.out
      obtain ⟨s0_, s1_, s2_, s3_, s4_, s5_, s6_, s7_, s8_, s9_, s10_, s11_⟩ := c12
      have A0 := Lib.hid ((heap_alloc_old w10 (.cells #[.int .i64 x0, .int .i64 y0, .int .i64 z0, .int .i64 e0, .int .i64 e1, .int .i64 e2] 44) (block_lt T0.out)).trans T0.out)
      have A1 := Lib.hid ((heap_alloc_old w10 (.cells #[.int .i64 x0, .int .i64 y0, .int .i64 z0, .int .i64 e0, .int .i64 e1, .int .i64 e2] 44) (block_lt T1.out)).trans T1.out)
      have A2 := Lib.hid ((heap_alloc_old w10 (.cells #[.int .i64 x0, .int .i64 y0, .int .i64 z0, .int .i64 e0, .int .i64 e1, .int .i64 e2] 44) (block_lt T2.out)).trans T2.out)
      have A3 := Lib.hid ((heap_alloc_old w10 (.cells #[.int .i64 x0, .int .i64 y0, .int .i64 z0, .int .i64 e0, .int .i64 e1, .int .i64 e2] 44) (block_lt T3.out)).trans T3.out)
      have A5 := Lib.hid ((heap_alloc_old w10 (.cells #[.int .i64 x0, .int .i64 y0, .int .i64 z0, .int .i64 e0, .int .i64 e1, .int .i64 e2] 44) (block_lt T5.out)).trans T5.out)
      have A6 := Lib.hid (heap_alloc_new w10 (.cells #[.int .i64 x0, .int .i64 y0, .int .i64 z0, .int .i64 e0, .int .i64 e1, .int .i64 e2] 44))
      have HGA := Lib.hid (gb_alloc HG10.out (.cells #[.int .i64 x0, .int .i64 y0, .int .i64 z0, .int .i64 e0, .int .i64 e1, .int .i64 e2] 44))
      go_wp2_with fail
      generalize w10.alloc (.cells #[.int .i64 x0, .int .i64 y0, .int .i64 z0, .int .i64 e0, .int .i64 e1, .int .i64 e2] 44) = w11 at *
      clear s0_ s1_ s2_ s3_ s4_ s5_ s6_ s7_ s8_ s9_ s10_ s11_ T0 T1 T2 T3 T5 HG10
      obtain ⟨m0_0_, m0_1_, m0_2_, m0_3_, m0_4_, m0_5_⟩ := cells6 A0.out
      obtain ⟨m1_0_, m1_1_, m1_2_⟩ := cells3 A1.out
      obtain ⟨m2_0_, m2_1_, m2_2_, m2_3_, m2_4_, m2_5_⟩ := cells6 A6.out
      have lt0 := block_lt A0.out
      have q0_0_ := fun (x : Up w11) => (ever_cell x lt0).trans m0_0_
      have q0_1_ := fun (x : Up w11) => (ever_cell x lt0).trans m0_1_
      have q0_2_ := fun (x : Up w11) => (ever_cell x lt0).trans m0_2_
      have q0_3_ := fun (x : Up w11) => (ever_cell x lt0).trans m0_3_
      have q0_4_ := fun (x : Up w11) => (ever_cell x lt0).trans m0_4_
      have q0_5_ := fun (x : Up w11) => (ever_cell x lt0).trans m0_5_
      have lt1 := block_lt A1.out
      have q1_0_ := fun (x : Up w11) => (ever_cell x lt1).trans m1_0_
      have q1_1_ := fun (x : Up w11) => (ever_cell x lt1).trans m1_1_
      have q1_2_ := fun (x : Up w11) => (ever_cell x lt1).trans m1_2_
      have lt2 := block_lt A6.out
      have q2_0_ := fun (x : Up w11) => (ever_cell x lt2).trans m2_0_
      have q2_1_ := fun (x : Up w11) => (ever_cell x lt2).trans m2_1_
      have q2_2_ := fun (x : Up w11) => (ever_cell x lt2).trans m2_2_
      have q2_3_ := fun (x : Up w11) => (ever_cell x lt2).trans m2_3_
      have q2_4_ := fun (x : Up w11) => (ever_cell x lt2).trans m2_4_
      have q2_5_ := fun (x : Up w11) => (ever_cell x lt2).trans m2_5_
      have D2 : decide (nx < nb) = false := decide_eq_false (by have := nX.out; omega)
      have D3 : decide (fb < fx) = false := decide_eq_false (by have := fX.out; omega)
      (refine wp_region_grown (by kernel_rfl) (by kernel_rfl) ?_; (repeat (go_big_quiet_step (first
        | (go_at_call 46; exact Calls.grown_of (KWX.out _))
        | (go_at_call 32; first | (with_reducible exact Calls.grown_of (KNX.out _)) | (with_reducible exact Calls.grown_of (KNB.out _)))
        | (go_at_call 33; first | (with_reducible exact Calls.grown_of (KFX.out _)) | (with_reducible exact Calls.grown_of (KFB.out _)))))); refine wpQuiet_nil ?_; intro wq hq)
      clear m0_0_ q0_0_ m0_1_ q0_1_ m0_2_ q0_2_ m0_3_ q0_3_ m0_4_ q0_4_ m0_5_ q0_5_ m1_0_ q1_0_ m1_1_ q1_1_ m1_2_ q1_2_ m2_0_ q2_0_ m2_1_ q2_1_ m2_2_ q2_2_ m2_3_ q2_3_ m2_4_ q2_4_ m2_5_ q2_5_ lt0 lt1 lt2
      have T0 := Lib.hid (block_kept hq A0.out rfl); have T1 := Lib.hid (block_kept hq A1.out rfl); have T2 := Lib.hid (block_kept hq A2.out rfl); have T3 := Lib.hid (block_kept hq A3.out rfl); have T5 := Lib.hid (block_kept hq A5.out rfl)
      have HG10 := Lib.hid (gb_trans HGA.out hq)
      clear hq A0 A1 A2 A3 A5 A6 HGA D2 D3
      go_wp2
      generalize wq = w12 at *
      rw [rounds_succ]
      have c12 := cells12 T5.out
      obtain ⟨s0_, s1_, s2_, s3_, s4_, s5_, s6_, s7_, s8_, s9_, s10_, s11_⟩ := c12
      have A0 := Lib.hid ((heap_alloc_old w12 (.cells #[.int .i64 f0, .int .i64 f1, .int .i64 f2, .int .i64 x1, .int .i64 y1, .int .i64 z1] 44) (block_lt T0.out)).trans T0.out)
      have A1 := Lib.hid ((heap_alloc_old w12 (.cells #[.int .i64 f0, .int .i64 f1, .int .i64 f2, .int .i64 x1, .int .i64 y1, .int .i64 z1] 44) (block_lt T1.out)).trans T1.out)
      have A2 := Lib.hid ((heap_alloc_old w12 (.cells #[.int .i64 f0, .int .i64 f1, .int .i64 f2, .int .i64 x1, .int .i64 y1, .int .i64 z1] 44) (block_lt T2.out)).trans T2.out)
      have A3 := Lib.hid ((heap_alloc_old w12 (.cells #[.int .i64 f0, .int .i64 f1, .int .i64 f2, .int .i64 x1, .int .i64 y1, .int .i64 z1] 44) (block_lt T3.out)).trans T3.out)
      have A5 := Lib.hid ((heap_alloc_old w12 (.cells #[.int .i64 f0, .int .i64 f1, .int .i64 f2, .int .i64 x1, .int .i64 y1, .int .i64 z1] 44) (block_lt T5.out)).trans T5.out)
      have A6 := Lib.hid (heap_alloc_new w12 (.cells #[.int .i64 f0, .int .i64 f1, .int .i64 f2, .int .i64 x1, .int .i64 y1, .int .i64 z1] 44))
      have HGA := Lib.hid (gb_alloc HG10.out (.cells #[.int .i64 f0, .int .i64 f1, .int .i64 f2, .int .i64 x1, .int .i64 y1, .int .i64 z1] 44))
      go_wp2_with fail
      generalize w12.alloc (.cells #[.int .i64 f0, .int .i64 f1, .int .i64 f2, .int .i64 x1, .int .i64 y1, .int .i64 z1] 44) = w13 at *
      clear s0_ s1_ s2_ s3_ s4_ s5_ s6_ s7_ s8_ s9_ s10_ s11_ T0 T1 T2 T3 T5 HG10
      obtain ⟨m0_0_, m0_1_, m0_2_, m0_3_, m0_4_, m0_5_⟩ := cells6 A0.out
      obtain ⟨m1_0_, m1_1_, m1_2_⟩ := cells3 A1.out
      obtain ⟨m2_0_, m2_1_, m2_2_, m2_3_, m2_4_, m2_5_⟩ := cells6 A6.out
      have lt0 := block_lt A0.out
      have q0_0_ := fun (x : Up w13) => (ever_cell x lt0).trans m0_0_
      have q0_1_ := fun (x : Up w13) => (ever_cell x lt0).trans m0_1_
      have q0_2_ := fun (x : Up w13) => (ever_cell x lt0).trans m0_2_
      have q0_3_ := fun (x : Up w13) => (ever_cell x lt0).trans m0_3_
      have q0_4_ := fun (x : Up w13) => (ever_cell x lt0).trans m0_4_
      have q0_5_ := fun (x : Up w13) => (ever_cell x lt0).trans m0_5_
      have lt1 := block_lt A1.out
      have q1_0_ := fun (x : Up w13) => (ever_cell x lt1).trans m1_0_
      have q1_1_ := fun (x : Up w13) => (ever_cell x lt1).trans m1_1_
      have q1_2_ := fun (x : Up w13) => (ever_cell x lt1).trans m1_2_
      have lt2 := block_lt A6.out
      have q2_0_ := fun (x : Up w13) => (ever_cell x lt2).trans m2_0_
      have q2_1_ := fun (x : Up w13) => (ever_cell x lt2).trans m2_1_
      have q2_2_ := fun (x : Up w13) => (ever_cell x lt2).trans m2_2_
      have q2_3_ := fun (x : Up w13) => (ever_cell x lt2).trans m2_3_
      have q2_4_ := fun (x : Up w13) => (ever_cell x lt2).trans m2_4_
      have q2_5_ := fun (x : Up w13) => (ever_cell x lt2).trans m2_5_
      have D2 : decide (ny < nb) = false := decide_eq_false (by have := nY.out; omega)
      have D3 : decide (fb < fy) = false := decide_eq_false (by have := fY.out; omega)
      (refine wp_region_grown (by kernel_rfl) (by kernel_rfl) ?_; (repeat (go_big_quiet_step (first
        | (go_at_call 46; exact Calls.grown_of (KWY.out _))
        | (go_at_call 32; first | (with_reducible exact Calls.grown_of (KNY.out _)) | (with_reducible exact Calls.grown_of (KNB.out _)))
        | (go_at_call 33; first | (with_reducible exact Calls.grown_of (KFY.out _)) | (with_reducible exact Calls.grown_of (KFB.out _)))))); refine wpQuiet_nil ?_; intro wq hq)
      clear m0_0_ q0_0_ m0_1_ q0_1_ m0_2_ q0_2_ m0_3_ q0_3_ m0_4_ q0_4_ m0_5_ q0_5_ m1_0_ q1_0_ m1_1_ q1_1_ m1_2_ q1_2_ m2_0_ q2_0_ m2_1_ q2_1_ m2_2_ q2_2_ m2_3_ q2_3_ m2_4_ q2_4_ m2_5_ q2_5_ lt0 lt1 lt2
      have T0 := Lib.hid (block_kept hq A0.out rfl); have T1 := Lib.hid (block_kept hq A1.out rfl); have T2 := Lib.hid (block_kept hq A2.out rfl); have T3 := Lib.hid (block_kept hq A3.out rfl); have T5 := Lib.hid (block_kept hq A5.out rfl)
      have HG10 := Lib.hid (gb_trans HGA.out hq)
      clear hq A0 A1 A2 A3 A5 A6 HGA D2 D3
      go_wp2
      generalize wq = w14 at *
      rw [rounds_succ]
      obtain ⟨m0_0_, m0_1_, m0_2_, m0_3_, m0_4_, m0_5_⟩ := cells6 T0.out
      obtain ⟨m1_0_, m1_1_, m1_2_, m1_3_, m1_4_, m1_5_⟩ := cells6 T2.out
      obtain ⟨m2_0_, m2_1_, m2_2_, m2_3_, m2_4_, m2_5_⟩ := cells6 T3.out
      have lt0 := block_lt T0.out
      have q0_0_ := fun (x : Up w14) => (ever_cell x lt0).trans m0_0_
      have q0_1_ := fun (x : Up w14) => (ever_cell x lt0).trans m0_1_
      have q0_2_ := fun (x : Up w14) => (ever_cell x lt0).trans m0_2_
      have q0_3_ := fun (x : Up w14) => (ever_cell x lt0).trans m0_3_
      have q0_4_ := fun (x : Up w14) => (ever_cell x lt0).trans m0_4_
      have q0_5_ := fun (x : Up w14) => (ever_cell x lt0).trans m0_5_
      have lt1 := block_lt T2.out
      have q1_0_ := fun (x : Up w14) => (ever_cell x lt1).trans m1_0_
      have q1_1_ := fun (x : Up w14) => (ever_cell x lt1).trans m1_1_
      have q1_2_ := fun (x : Up w14) => (ever_cell x lt1).trans m1_2_
      have q1_3_ := fun (x : Up w14) => (ever_cell x lt1).trans m1_3_
      have q1_4_ := fun (x : Up w14) => (ever_cell x lt1).trans m1_4_
      have q1_5_ := fun (x : Up w14) => (ever_cell x lt1).trans m1_5_
      have lt2 := block_lt T3.out
      have q2_0_ := fun (x : Up w14) => (ever_cell x lt2).trans m2_0_
      have q2_1_ := fun (x : Up w14) => (ever_cell x lt2).trans m2_1_
      have q2_2_ := fun (x : Up w14) => (ever_cell x lt2).trans m2_2_
      have q2_3_ := fun (x : Up w14) => (ever_cell x lt2).trans m2_3_
      have q2_4_ := fun (x : Up w14) => (ever_cell x lt2).trans m2_4_
      have q2_5_ := fun (x : Up w14) => (ever_cell x lt2).trans m2_5_
      have sm := same6_refl x0 y0 z0 x1 y1 z1
      have ws : IntKind.i64.wrap (ptx + pty) = ptb := by have := HSUM.out; rw [IntKind.wrap_i64]; omega
      go_wp2_with fail
      (refine wp_region_grown (by kernel_rfl) (by kernel_rfl) ?_; (repeat (go_big_quiet_step (first
        | (go_at_call 41; exact Calls.grown_of (KC.out _))
        | (go_at_call 31; exact Calls.grown_of (KM.out _))
        | (go_at_call 34; first | (with_reducible exact Calls.grown_of (KPX.out _)) | (with_reducible exact Calls.grown_of (KPY.out _)) | (with_reducible exact Calls.grown_of (KPB.out _)))
        | (go_at_call 48; exact Calls.grown_of (KH.out _))
        | (go_at_call 25; exact Calls.grown_of (awake24_any _))))); refine wpQuiet_nil ?_; intro wq hq)
      go_wp2
      go_ret
      exact ⟨rfl, gb_end (gb_trans HG10.out hq)⟩
end Go.Proofs.Ytkmikiljpajaaaa
