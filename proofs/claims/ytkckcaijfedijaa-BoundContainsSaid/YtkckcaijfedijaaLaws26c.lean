/- The walk of BoundContains. Written by a program (walkgen.py). -/
import Derived.Test.YtkckcaijfedijaaAwake26
import Derived.Test.YtkckcaijfedijaaBndP
import Derived.Test.YtkckcaijfedijaaMem
import Derived.Test.YtkckcaijfedijaaRgPos
import Derived.Test.YtkckcaijfedijaaOne
import Derived.Test.YtkckcaijfedijaaGeoQ
namespace Go.Proofs.Ytkckcaijfedijaa
set_option linter.all false
open Go.RowKit Rg

set_option maxRecDepth 100000 in
set_option maxHeartbeats 2000000 in
theorem boundContains_walk (w : World) (v : Value) (xs : List Int) (hs : Sl w v xs) (_hx : ∀ x ∈ xs, -9223372036854775808 ≤ x ∧ x ≤ 9223372036854775807) :
    Calls Try.prog 7 #[v] w fun e w' => e = .returned (.bool true) ∧ Below w.heap.size w w' := by
  go_enter Try.func7, Try.ntmps7
  go_wp2_with fail
  (with_reducible refine (new_any w v xs hs).mono ?_)
  rintro e w1 ⟨rfl, hS, hg⟩
  have S1 := Lib.hid hS; have M1 := Lib.hid (Mem.nil (p := w.heap.size) hg); clear hg hs hS
  go_wp2_with fail
  (with_reducible refine (table_any w.heap.size w1 w.heap.size S1.out).mono ?_)
  rintro e w2 ⟨step, vl, vh, ls, hs, rfl, hT, hst, hre, hln, ol, oh, -, hS, hg⟩
  have hp1 := S1.out.lt.2
  have S2 := Lib.hid hS; have M2 := Lib.hid (((M1.out.draw hg (by omega)).slice (Sl_of_owns oh rfl) (owns_sl_apart oh hp1)).slice (Sl_of_owns ol rfl) (owns_sl_apart ol hp1))
  have HT := Lib.hid hT; have HR := Lib.hid (reach_small hT.1 hst hre hln)
  obtain ⟨la, ln, lc, rfl⟩ := sl_slice (Sl_of_owns ol rfl); obtain ⟨ha, hn, hc, rfl⟩ := sl_slice (Sl_of_owns oh rfl)
  clear hg hS S1 M1 hp1 ol oh hT hst hre hln
  go_wp2_with fail
  (with_reducible refine (box_any w.heap.size w2 w.heap.size 60 40 S2.out (by omega) (by omega) (by omega) (by omega)).mono ?_)
  rintro e w3 ⟨x0, y0, z0, x1, y1, z1, rfl, hB, hS, hg⟩
  have HB := Lib.hid hB; clear hB
  have S3 := Lib.hid hS; have M3 := Lib.hid (M2.out.draw hg (by omega)); clear hg hS S2 M2
  go_wp2_with fail
  (with_reducible refine (place_any w.heap.size w3 w.heap.size 60 S3.out (by omega) (by omega)).mono ?_)
  rintro e w4 ⟨px, py, pz, rfl, hP, hS, hg⟩
  have HP := Lib.hid hP; clear hP
  have S4 := Lib.hid hS; have M4 := Lib.hid (M3.out.draw hg (by omega)); clear hg hS S3 M3
  go_wp2_with fail
  refine calls_name (fun w5 hw => ?_)
  have hp := S4.out.lt.2
  have M5 := Lib.hid (show Mem w (w.heap.size) _ _ w5 from by rw [hw]; exact (((M4.out).alloc' (w4.heap.size) #[.int .i64 step, .slice la ln lc, .slice ha hn hc] 24 (by first | omega | (simp; done) | (simp <;> omega)) (by first | rfl | simp)).alloc' (w4.heap.size + 1) #[.int .i64 x0, .int .i64 y0, .int .i64 z0, .int .i64 x1, .int .i64 y1, .int .i64 z1] 28 (by first | omega | (simp; done) | (simp <;> omega)) (by first | rfl | simp)).alloc' (w4.heap.size + 1 + 1) #[.int .i64 px, .int .i64 py, .int .i64 pz] 26 (by first | omega | (simp; done) | (simp <;> omega)) (by first | rfl | simp))
  have S5 := Lib.hid (show Src w.heap.size w5 w.heap.size from by rw [hw]; exact S4.out.later (row := none) (gb_alloc (gb_alloc (gb_alloc (gb_refl _ _) _) _) _) (by simp))
  clear hw S4 M4
  have NR := Lib.hid (near_mk HT.out HR.out.1 HB.out HP.out (by omega) (by omega) (by omega))
  obtain ⟨m0_0, m0_1, m0_2⟩ := cells3 (M5.out.at 0 rfl)
  obtain ⟨m1_0, m1_1, m1_2, m1_3, m1_4, m1_5⟩ := six (M5.out.at 1 rfl)
  obtain ⟨m2_0, m2_1, m2_2⟩ := cells3 (M5.out.at 2 rfl)
  clear hp
  (with_reducible refine (binterval_any step _ _ ls hs x0 y0 z0 x1 y1 z1 px py pz w5 (M5.out.sl 0 rfl) (M5.out.sl 1 rfl)).mono ?_)
  rintro e w6 ⟨rfl, hg⟩
  rw [NR.out.val]
  have S6 := Lib.hid (S5.out.later hg (by simp)); clear S5
  have M6 := Lib.hid (M5.out.later hg); clear hg M5 
  clear m0_0 m0_1 m0_2 m1_0 m1_1 m1_2 m1_3 m1_4 m1_5 m2_0 m2_1 m2_2
  have LH : loA step ls (floorI (nearD x0 y0 z0 x1 y1 z1 px py pz)) ≤ hiA step hs (ceilI (farD x0 y0 z0 x1 y1 z1 px py pz)) := by
    obtain ⟨n0, n1, n2⟩ := far_small NR.out.vb NR.out.vp
    exact low_high NR.out.ok n0 n1 (by omega) NR.out.reach
  have PTS := Lib.hid (fun (q r s : Int) h0 h1 h2 => NR.out.point (q := q) (r := r) (s := s) h0 h1 h2)
  have ONE := Lib.hid (fun (q r s : Int) h0 h1 h2 => NR.out.one (q := q) (r := r) (s := s) h0 h1 h2)
  have WIT := Lib.hid (fun (a0 b0 c0 a1 b1 c1 : Int) hw => NR.out.within (a0 := a0) (b0 := b0) (c0 := c0) (a1 := a1) (b1 := b1) (c1 := c1) hw)
  have VB := Lib.hid NR.out.vb
  clear NR
  generalize loA step ls (floorI (nearD x0 y0 z0 x1 y1 z1 px py pz)) = lo at *
  generalize hiA step hs (ceilI (farD x0 y0 z0 x1 y1 z1 px py pz)) = hi at *
  generalize w4.heap.size = n4 at *
  go_wp2_with fail
  go_loopw [10] (fun a wr => ∃ k : Nat, k ≤ 4 ∧ a = .int .i64 k ∧ Src w.heap.size wr w.heap.size ∧ Mem w w.heap.size [(n4 + 1 + 1, .cells #[.int .i64 px, .int .i64 py, .int .i64 pz] 26 (0, 0)), (n4 + 1, .cells #[.int .i64 x0, .int .i64 y0, .int .i64 z0, .int .i64 x1, .int .i64 y1, .int .i64 z1] 28 (0, 0)), (n4, .cells #[.int .i64 step, .slice la ln lc, .slice ha hn hc] 24 (0, 0))] [(.slice la ln lc, ls), (.slice ha hn hc, hs)] wr) (fun a _ => 4 - (intOf a).toNat)
  case atStart => exact ⟨0, by omega, rfl, S6.out, M6.out⟩
  case round =>
    obtain ⟨k, hk, rfl, hS, hM⟩ := hrel
    have SR := Lib.hid hS; have MR := Lib.hid hM; clear hS hM S6 M6
    have hB := HB.out
    unfold boxIn placeIn at hB
    obtain ⟨m1_0, m1_1, m1_2, m1_3, m1_4, m1_5⟩ := six (MR.out.at 1 rfl)
    by_cases hlt : k < 4
    · go_wp2_with fail
      (with_reducible refine (point_any w.heap.size wr w.heap.size x0 y0 z0 x1 y1 z1 SR.out (by omega) (by omega) (by omega)).mono ?_)
      rintro e w8 ⟨qx, qy, qz, rfl, hq, hS, hg⟩
      have hp8 := hS.lt.2
      have M9 := Lib.hid ((MR.out.draw hg (by omega)).alloc' (w8.heap.size) #[.int .i64 qx, .int .i64 qy, .int .i64 qz] 26 hp8 rfl)
      have S9 := Lib.hid (hS.later (row := none) (gb_alloc (gb_refl w8 none) (.cells #[.int .i64 qx, .int .i64 qy, .int .i64 qz] 26)) (by simp))
      have PQ := PTS.out qx qy qz ⟨hq.1, hq.2.1⟩ ⟨hq.2.2.1, hq.2.2.2.1⟩ ⟨hq.2.2.2.2.1, hq.2.2.2.2.2⟩
      have OQ := ONE.out qx qy qz ⟨hq.1, hq.2.1⟩ ⟨hq.2.2.1, hq.2.2.2.1⟩ ⟨hq.2.2.2.2.1, hq.2.2.2.2.2⟩
      clear hg hS MR SR hq hp8 m1_0 m1_1 m1_2 m1_3 m1_4 m1_5 hB
      obtain ⟨-, -, b0, b1, hI⟩ := PQ
      have hO := OQ.val
      rw [(one_near qx qy qz px py pz).1, (one_near qx qy qz px py pz).2] at hO
      clear OQ
      generalize loA step ls (floorI (sqD qx qy qz px py pz)) = tl at *
      generalize hiA step hs (ceilI (sqD qx qy qz px py pz)) = th at *
      have IV := Lib.hid hI; clear hI
      go_wp2_with fail
      generalize w8.alloc (.cells #[.int .i64 qx, .int .i64 qy, .int .i64 qz] 26) = w9 at *
      generalize w8.heap.size = n8 at *
      have BI : Hid (∀ u : World, w9.grownBy u none → Calls Try.prog 23 #[.agg #[.int .i64 step, .slice la ln lc, .slice ha hn hc], .agg #[.int .i64 qx, .int .i64 qy, .int .i64 qz, .int .i64 qx, .int .i64 qy, .int .i64 qz], .agg #[.int .i64 px, .int .i64 py, .int .i64 pz]] u fun e w' => e = .returned (.tuple #[.int .i64 tl, .int .i64 th, .int .i64 0]) ∧ u.grownBy w' none) := Lib.hid (fun u hu => by
        have h := binterval_any step _ _ ls hs qx qy qz qx qy qz px py pz u ((M9.out.later hu).sl 0 rfl) ((M9.out.later hu).sl 1 rfl)
        rwa [hO] at h)
      clear hO
      obtain ⟨m0_0, m0_1, m0_2⟩ := cells3 (M9.out.at 0 rfl)
      obtain ⟨m1_0, m1_1, m1_2⟩ := cells3 (M9.out.at 1 rfl)
      obtain ⟨m3_0, m3_1, m3_2⟩ := cells3 (M9.out.at 3 rfl)
      have u0 := M9.out.up 0 rfl; have u1 := M9.out.up 1 rfl; have u3 := M9.out.up 3 rfl
      (refine wp_region_grown (by kernel_rfl) (by kernel_rfl) ?_; (repeat (go_big_quiet_step (first
        | (go_at_call 35; exact Calls.grown_of (one_any _ _ _ _))
        | (go_at_call 23; exact Calls.grown_of (BI.out _ (ever_up _)))))); refine wpQuiet_nil ?_; intro wq hq)
      have M10 := Lib.hid (M9.out.later hq); have S10 := Lib.hid (S9.out.later hq (by simp))
      clear hq u0 u1 u3 m0_0 m0_1 m0_2 m1_0 m1_1 m1_2 m3_0 m3_1 m3_2 M9 S9 BI
      obtain ⟨m0_0, m0_1, m0_2⟩ := cells3 (M10.out.at 0 rfl)
      obtain ⟨m1_0, m1_1, m1_2⟩ := cells3 (M10.out.at 1 rfl)
      obtain ⟨m3_0, m3_1, m3_2⟩ := cells3 (M10.out.at 3 rfl)
      go_wp2_with fail
      (with_reducible refine (interval_any step _ _ ls hs qx qy qz px py pz _ (M10.out.sl 0 rfl) (M10.out.sl 1 rfl)).mono ?_)
      rintro e w11 ⟨rfl, hg⟩
      rw [IV.out]
      have M11 := Lib.hid ((M10.out.later hg).drop); have S11 := Lib.hid (S10.out.later hg (by simp))
      clear hg m0_0 m0_1 m0_2 m1_0 m1_1 m1_2 m3_0 m3_1 m3_2 M10 S10
      go_wp2_with fail
      go_roundw
      case rel => exact ⟨k + 1, by omega, by go_num, S11.out, M11.out⟩
      case measure => simp [intOf]; omega
    · have HPL := Lib.hid SR.out.lt.2
      clear PTS ONE SR hB
      go_wp2_with fail
      (with_reducible refine (split_any x0 y0 z0 x1 y1 z1 _).mono ?_)
      rintro e w8 ⟨rfl, hg⟩
      have M8 := Lib.hid (MR.out.later hg); have hp8 := Nat.lt_of_lt_of_le HPL.out hg.size
      clear hg m1_0 m1_1 m1_2 m1_3 m1_4 m1_5 MR
      by_cases hpt : 2 ≤ ptsP x0 y0 z0 x1 y1 z1
      · obtain ⟨e0, e1, e2, f0, f1, f2, hsv, hh⟩ := split_halves VB.out hpt
        rw [hsv]
        clear hsv
        have W1 := WIT.out _ _ _ _ _ _ hh.wx; have W2 := WIT.out _ _ _ _ _ _ hh.wy
        clear hh WIT VB HB hpt
        obtain ⟨N1, c0, c1⟩ := W1; obtain ⟨N2, c2, c3⟩ := W2
        have V1 := N1.val; have V2 := N2.val
        clear N1 N2
        generalize loA step ls (floorI (nearD x0 y0 z0 e0 e1 e2 px py pz)) = lo1 at *
        generalize hiA step hs (ceilI (farD x0 y0 z0 e0 e1 e2 px py pz)) = hi1 at *
        generalize loA step ls (floorI (nearD f0 f1 f2 x1 y1 z1 px py pz)) = lo2 at *
        generalize hiA step hs (ceilI (farD f0 f1 f2 x1 y1 z1 px py pz)) = hi2 at *
        have V1 := Lib.hid V1; have V2 := Lib.hid V2
        have M9 := Lib.hid ((M8.out.alloc' w8.heap.size #[.int .i64 x0, .int .i64 y0, .int .i64 z0, .int .i64 e0, .int .i64 e1, .int .i64 e2] 28 hp8 rfl).alloc' (w8.heap.size + 1) #[.int .i64 f0, .int .i64 f1, .int .i64 f2, .int .i64 x1, .int .i64 y1, .int .i64 z1] 28 (by simp; omega) (by simp))
        clear M8
        obtain ⟨m1_0, m1_1, m1_2, m1_3, m1_4, m1_5⟩ := six (M9.out.at 1 rfl)
        obtain ⟨m2_0, m2_1, m2_2⟩ := cells3 (M9.out.at 2 rfl)
        obtain ⟨m4_0, m4_1, m4_2⟩ := cells3 (M9.out.at 4 rfl)
        go_wp2_with fail
        generalize (w8.alloc (.cells #[.int .i64 x0, .int .i64 y0, .int .i64 z0, .int .i64 e0, .int .i64 e1, .int .i64 e2] 28)).alloc (.cells #[.int .i64 f0, .int .i64 f1, .int .i64 f2, .int .i64 x1, .int .i64 y1, .int .i64 z1] 28) = w9 at *
        (with_reducible refine (binterval_any step _ _ ls hs _ _ _ _ _ _ _ _ _ _ (M9.out.sl 0 rfl) (M9.out.sl 1 rfl)).mono ?_)
        rintro e w10 ⟨rfl, hg⟩
        rw [V1.out]
        have M10 := Lib.hid (M9.out.later hg)
        clear hg m1_0 m1_1 m1_2 m1_3 m1_4 m1_5 m2_0 m2_1 m2_2 m4_0 m4_1 m4_2 M9
        obtain ⟨m0_0, m0_1, m0_2, m0_3, m0_4, m0_5⟩ := six (M10.out.at 0 rfl)
        obtain ⟨m2_0, m2_1, m2_2⟩ := cells3 (M10.out.at 2 rfl)
        obtain ⟨m4_0, m4_1, m4_2⟩ := cells3 (M10.out.at 4 rfl)
        go_wp2_with fail
        (with_reducible refine (binterval_any step _ _ ls hs _ _ _ _ _ _ _ _ _ _ (M10.out.sl 0 rfl) (M10.out.sl 1 rfl)).mono ?_)
        rintro e w11 ⟨rfl, hg⟩
        rw [V2.out]
        have M11 := Lib.hid (M10.out.later hg)
        clear hg m0_0 m0_1 m0_2 m0_3 m0_4 m0_5 m2_0 m2_1 m2_2 m4_0 m4_1 m4_2 M10
        go_wp2_with fail
        (with_reducible refine (awake26_any _).mono ?_)
        rintro e w12 ⟨rfl, hg⟩
        have HGE := Lib.hid (gb_trans M11.out.gr hg)
        go_wp2_with fail
        go_ret
        exact ⟨rfl, gb_end HGE.out⟩
      · have hsv : splV (splOk x0 y0 z0 x1 y1 z1) (axis (x1 - x0) (y1 - y0) (z1 - z0)) x0 y0 z0 x1 y1 z1 = .tuple #[.agg #[.int .i64 0, .int .i64 0, .int .i64 0, .int .i64 0, .int .i64 0, .int .i64 0], .agg #[.int .i64 0, .int .i64 0, .int .i64 0, .int .i64 0, .int .i64 0, .int .i64 0], .bool false] := by
          have e : splOk x0 y0 z0 x1 y1 z1 = false := by simp [splOk]; omega
          rw [e]; simp [splV, keepI, spE, spB]
        rw [hsv]
        go_wp2_with fail
        (with_reducible refine (awake26_any _).mono ?_)
        rintro e w12 ⟨rfl, hg⟩
        have HGE := Lib.hid (gb_trans (gb_alloc (gb_alloc M8.out.gr _) _) hg)
        go_wp2_with fail
        go_ret
        exact ⟨rfl, gb_end HGE.out⟩
end Go.Proofs.Ytkckcaijfedijaa
