/- The walk of MisfitBound. Written by gen_law27a.py. -/
import Derived.Test.YtkckcaijfedijaaAwake27
import Derived.Test.YtkckcaijfedijaaMisP
import Derived.Test.YtkckcaijfedijaaAll24
import Derived.Test.YtkckcaijfedijaaOne
import Derived.Test.YtkckcaijfedijaaGeoQ
import Derived.Test.YtkckcaijfedijaaProb
namespace Go.Proofs.Ytkckcaijfedijaa
set_option linter.all false
open Go.RowKit Rg

set_option maxRecDepth 100000 in
set_option maxHeartbeats 4000000 in
theorem misfitBound_walk (w : World) (v : Value) (xs : List Int) (hs : Sl w v xs) (_hx : ∀ x ∈ xs, -9223372036854775808 ≤ x ∧ x ≤ 9223372036854775807) :
    Calls Try.prog 13 #[v] w fun e w' => e = .returned (.bool true) ∧ Below w.heap.size w w' := by
  go_enter Try.func13, Try.ntmps13
  go_wp2_with fail
  (with_reducible refine (new_any w v xs hs).mono ?_)
  rintro e w1 ⟨rfl, hS, hg⟩
  have S1 := Lib.hid hS; have M1 := Lib.hid (Mem.nil (p := w.heap.size) hg); clear hg hs hS
  go_wp2_with fail
  (with_reducible refine (problem_any w.heap.size w1 w.heap.size 4 5 S1.out (by omega) (by omega) (by omega) (by omega)).mono ?_)
  rintro e w2 ⟨P, vl, vh, vp, he, hB, hT, hre, -, hcap, hlen, hph, hin, -, hS, hg⟩
  have M2 := Lib.hid (M1.out.draw hg (by omega)); have hp2 := hS.lt.2
  have gd := good_mk hB (by omega) hT hre.1 hcap hlen.1 (by omega) hph
  clear hg hS S1 M1 hT hre hcap hlen hph
  obtain ⟨pa, pc, rfl⟩ := hin.p.slice
  obtain ⟨la, ln, lc, rfl⟩ := sl_slice hin.l
  obtain ⟨ha, hn, hc, rfl⟩ := sl_slice hin.h
  have BDC := Lib.hid (fun b0 b1 b2 b3 b4 b5 u hw hi => gd.bound (vl := .slice la ln lc) (vh := .slice ha hn hc) (vp := .slice pa P.phs.length pc) rfl b0 b1 b2 b3 b4 b5 u hw hi)
  have ATC := Lib.hid (fun x y z u hw hi => gd.at (vl := .slice la ln lc) (vh := .slice ha hn hc) (vp := .slice pa P.phs.length pc) rfl x y z u hw hi)
  have MON : Hid (∀ b0 b1 b2 b3 b4 b5 c0 c1 c2 c3 c4 c5 : Int, wiP b0 b1 b2 b3 b4 b5 P.x0 P.y0 P.z0 P.x1 P.y1 P.z1 = true → wiP c0 c1 c2 c3 c4 c5 b0 b1 b2 b3 b4 b5 = true → mm P b0 b1 b2 b3 b4 b5 ≤ mm P c0 c1 c2 c3 c4 c5) := Lib.hid (fun b0 b1 b2 b3 b4 b5 c0 c1 c2 c3 c4 c5 hw hc => gd.wider hw hc)
  have HVB := Lib.hid gd.sound.vb; have HI2 := Lib.hid hin; have HB := Lib.hid hB
  clear gd hin hB
  generalize mm P = m at *
  generalize tt P = tm at *
  obtain ⟨x0, y0, z0, x1, y1, z1, step, ls, hs, phs, cap⟩ := P
  simp only [Prob.val] at BDC ATC MON HVB HI2 HB he
  subst he
  go_wp2_with fail
  refine calls_name (fun w3 hw => ?_)
  have M3 := Lib.hid (show Mem w (w.heap.size) _ _ w3 from by rw [hw]; exact (M2.out).alloc' (w2.heap.size) #[.int .i64 x0, .int .i64 y0, .int .i64 z0, .int .i64 x1, .int .i64 y1, .int .i64 z1, .int .i64 step, .slice la ln lc, .slice ha hn hc, .slice pa phs.length pc, .int .i64 cap] 68 hp2 rfl)
  have HI3 := Lib.hid (show ProbIn _ _ _ _ w3 from HI2.out.after (by rw [hw]; exact gb_alloc (gb_refl _ _) _))
  have hp3 : w.heap.size < w3.heap.size := by rw [hw]; simp; omega
  clear hw hp2 M2 HI2
  generalize w2.heap.size = n2 at *
  (with_reducible refine (BDC.out x0 y0 z0 x1 y1 z1 _ (wiP_refl HVB.out) HI3.out).mono ?_)
  rintro e w4 ⟨rfl, hg⟩
  have M4 := Lib.hid (M3.out.later hg); have HI4 := Lib.hid (HI3.out.after hg); have hp4 := Nat.lt_of_lt_of_le hp3 hg.size
  clear hg M3 HI3 hp3
  have hB := HB.out
  unfold boxIn placeIn at hB
  obtain ⟨nx, hnx⟩ : ∃ n : Nat, x1 = x0 + n - 1 := ⟨(x1 - x0 + 1).toNat, by omega⟩
  obtain ⟨ny, hny⟩ : ∃ n : Nat, y1 = y0 + n - 1 := ⟨(y1 - y0 + 1).toNat, by omega⟩
  obtain ⟨nz, hnz⟩ : ∃ n : Nat, z1 = z0 + n - 1 := ⟨(z1 - z0 + 1).toNat, by omega⟩
  have ALL := Lib.hid (fun u => all_any x0 y0 z0 x1 y1 z1 nx ny nz u hnx hny hnz (by omega) (by omega) (by omega) (by omega) (by omega) (by omega))
  have HMEM : Hid (∀ q ∈ preX x0 y0 z0 ny nz nx, wiP q.1 q.2.1 q.2.2 q.1 q.2.1 q.2.2 x0 y0 z0 x1 y1 z1 = true) := Lib.hid (by
    intro q hq
    have hm := mem_preX.1 hq
    exact wiP_point HVB.out (by omega) (by omega) (by omega))
  have HLEN : Hid ((preX x0 y0 z0 ny nz nx).length ≤ 1000 ∧ 0 < (preX x0 y0 z0 ny nz nx).length) := Lib.hid (by
    rw [preX_length]
    have e1 : ny * nz ≤ 5 * 5 := Nat.mul_le_mul (by omega) (by omega)
    have e2 : nx * (ny * nz) ≤ 5 * (5 * 5) := Nat.mul_le_mul (by omega) e1
    exact ⟨by omega, Nat.mul_pos (by omega) (Nat.mul_pos (by omega) (by omega))⟩)
  clear hnx hny hnz hB HB
  generalize hlo : m x0 y0 z0 x1 y1 z1 = lo at *
  have HLO := Lib.hid hlo; clear hlo
  have T4 := Lib.hid (M4.out.at 0 rfl)
  have e0_ := cell_of T4.out 0 _ rfl; have e1_ := cell_of T4.out 1 _ rfl; have e2_ := cell_of T4.out 2 _ rfl; have e3_ := cell_of T4.out 3 _ rfl; have e4_ := cell_of T4.out 4 _ rfl; have e5_ := cell_of T4.out 5 _ rfl; have e6_ := cell_of T4.out 6 _ rfl; have e7_ := cell_of T4.out 7 _ rfl; have e8_ := cell_of T4.out 8 _ rfl; have e9_ := cell_of T4.out 9 _ rfl; have e10_ := cell_of T4.out 10 _ rfl
  go_wp2_with fail
  (with_reducible refine (ALL.out _).mono ?_)
  rintro e w5 ⟨lv, rfl, hown, -, hg⟩
  clear e0_ e1_ e2_ e3_ e4_ e5_ e6_ e7_ e8_ e9_ e10_
  have M5 := Lib.hid (M4.out.later hg); have HI5 := Lib.hid (HI4.out.after hg); have hp5 := Nat.lt_of_lt_of_le hp4 hg.size
  obtain ⟨la', lc', rfl⟩ := owns_slice hown
  obtain ⟨g, cap', hv, hgB, hgl⟩ := hown.form HLEN.out.2
  simp only [Value.slice.injEq, true_and] at hv
  obtain ⟨rfl, rfl⟩ := hv
  have HOWN := Lib.hid hown
  clear hg hown ALL M4 HI4 hp4 hgB hgl T4
  generalize preX x0 y0 z0 ny nz nx = L at *
  have hll := HLEN.out.1
  go_wp2_with fail
  go_loopw [38] (fun d wr => ∃ i : Nat, i ≤ L.length ∧ d = .int .i64 i ∧ w5.grownBy wr none) (fun d _ => L.length - (intOf d).toNat)
  case atStart => exact ⟨0, by omega, rfl, gb_refl _ _⟩
  case round =>
    obtain ⟨i, hi, rfl, hgr⟩ := hrel
    by_cases hlt : i < L.length
    · have hown2 := owns_keep HOWN.out hgr
      have cadd : ∀ j, (⟨g, 0, none⟩ : Addr).add j = ⟨g, j, none⟩ := by intro j; unfold Addr.add; split <;> simp_all
      obtain ⟨f1, f2, f3⟩ := flat3_at L i hlt
      have c0 := hown2.cells (g := g) rfl _ _ f1; have c1 := hown2.cells (g := g) rfl _ _ f2; have c2 := hown2.cells (g := g) rfl _ _ f3
      rw [cadd] at c0 c1 c2
      clear f1 f2 f3 cadd hown2
      have hmq := HMEM.out L[i] (List.getElem_mem hlt)
      generalize hq : L[i] = q at *
      obtain ⟨qx, qy, qz⟩ := q
      clear hq
      replace hmq : wiP qx qy qz qx qy qz x0 y0 z0 x1 y1 z1 = true := hmq
      have HW := Lib.hid hmq; clear hmq
      have zg := World.block_lt_of_cell? wr _ c0
      have hpr := Nat.lt_of_lt_of_le hp5 hgr.size
      have MR := Lib.hid ((M5.out.later hgr).alloc' wr.heap.size #[.int .i64 qx, .int .i64 qy, .int .i64 qz] 26 hpr rfl)
      have HIR := Lib.hid ((HI5.out.after hgr).after (gb_alloc (gb_refl _ _) (.cells #[.int .i64 qx, .int .i64 qy, .int .i64 qz] 26)))
      have HGR := Lib.hid (gb_alloc hgr (.cells #[.int .i64 qx, .int .i64 qy, .int .i64 qz] 26))
      have AT1 := Lib.hid (fun u hi => ATC.out qx qy qz u HW.out hi); have BD1 := Lib.hid (fun u hi => BDC.out qx qy qz qx qy qz u HW.out hi)
      have MO1 := MON.out x0 y0 z0 x1 y1 z1 qx qy qz qx qy qz (wiP_refl HVB.out) HW.out
      rw [HLO.out] at MO1
      generalize m qx qy qz qx qy qz = mq at *
      generalize tm qx qy qz = tq at *
      clear hgr HW
      have TR := Lib.hid (MR.out.at 1 rfl)
      obtain ⟨m0_0, m0_1, m0_2⟩ := cells3 (MR.out.at 0 rfl)
      have e0_ := cell_of TR.out 0 _ rfl; have e1_ := cell_of TR.out 1 _ rfl; have e2_ := cell_of TR.out 2 _ rfl; have e3_ := cell_of TR.out 3 _ rfl; have e4_ := cell_of TR.out 4 _ rfl; have e5_ := cell_of TR.out 5 _ rfl; have e6_ := cell_of TR.out 6 _ rfl; have e7_ := cell_of TR.out 7 _ rfl; have e8_ := cell_of TR.out 8 _ rfl; have e9_ := cell_of TR.out 9 _ rfl; have e10_ := cell_of TR.out 10 _ rfl
      go_wp2_with fail
      (with_reducible refine (AT1.out _ HIR.out).mono ?_)
      rintro e w8 ⟨rfl, hg8⟩
      clear e0_ e1_ e2_ e3_ e4_ e5_ e6_ e7_ e8_ e9_ e10_
      have M8 := Lib.hid (MR.out.later hg8); have HI8 := Lib.hid (HIR.out.after hg8); have HG8 := Lib.hid (gb_trans HGR.out hg8)
      clear hg8 m0_0 m0_1 m0_2 c0 c1 c2 TR MR HIR HGR hpr
      generalize wr.heap.size = nr at *
      have T8 := Lib.hid (M8.out.at 1 rfl)
      obtain ⟨m0_0, m0_1, m0_2⟩ := cells3 (M8.out.at 0 rfl)
      have e0_ := cell_of T8.out 0 _ rfl; have e1_ := cell_of T8.out 1 _ rfl; have e2_ := cell_of T8.out 2 _ rfl; have e3_ := cell_of T8.out 3 _ rfl; have e4_ := cell_of T8.out 4 _ rfl; have e5_ := cell_of T8.out 5 _ rfl; have e6_ := cell_of T8.out 6 _ rfl; have e7_ := cell_of T8.out 7 _ rfl; have e8_ := cell_of T8.out 8 _ rfl; have e9_ := cell_of T8.out 9 _ rfl; have e10_ := cell_of T8.out 10 _ rfl
      have u0 := M8.out.up 0 rfl; have u1 := M8.out.up 1 rfl
      go_wp2_with fail
      (refine wp_region_grown (by kernel_rfl) (by kernel_rfl) ?_; (repeat (go_big_quiet_step (first
        | (go_at_call 35; exact Calls.grown_of (one_any _ _ _ _))
        | (go_at_call 56; exact Calls.grown_of (BD1.out _ (HI8.out.after (ever_up _))))))); refine wpQuiet_nil ?_; intro wq hq)
      have HG9 := Lib.hid (gb_trans HG8.out hq)
      clear hq u0 u1 m0_0 m0_1 m0_2 M8 HI8 HG8
      clear e0_ e1_ e2_ e3_ e4_ e5_ e6_ e7_ e8_ e9_ e10_
      go_wp2_with fail
      go_roundw
      case rel => exact ⟨i + 1, by omega, by go_num, HG9.out⟩
      case measure => simp [intOf]; omega
    · obtain rfl : i = L.length := by omega
      have MR := Lib.hid (M5.out.later hgr); have HIR := Lib.hid (HI5.out.after hgr); have hpr := Nat.lt_of_lt_of_le hp5 hgr.size
      clear hgr M5 HI5 hp5 HMEM HOWN ATC
      have TR := Lib.hid (MR.out.at 0 rfl)
      have e0_ := cell_of TR.out 0 _ rfl; have e1_ := cell_of TR.out 1 _ rfl; have e2_ := cell_of TR.out 2 _ rfl; have e3_ := cell_of TR.out 3 _ rfl; have e4_ := cell_of TR.out 4 _ rfl; have e5_ := cell_of TR.out 5 _ rfl; have e6_ := cell_of TR.out 6 _ rfl; have e7_ := cell_of TR.out 7 _ rfl; have e8_ := cell_of TR.out 8 _ rfl; have e9_ := cell_of TR.out 9 _ rfl; have e10_ := cell_of TR.out 10 _ rfl
      go_wp2_with fail
      (with_reducible refine (split_any x0 y0 z0 x1 y1 z1 _).mono ?_)
      rintro e w8 ⟨rfl, hg⟩
      clear e0_ e1_ e2_ e3_ e4_ e5_ e6_ e7_ e8_ e9_ e10_
      have M8 := Lib.hid (MR.out.later hg); have HI8 := Lib.hid (HIR.out.after hg); have hp8 := Nat.lt_of_lt_of_le hpr hg.size
      clear hg MR HIR hpr TR
      by_cases hpt : 2 ≤ ptsP x0 y0 z0 x1 y1 z1
      · obtain ⟨e0, e1, e2, f0, f1, f2, hsv, hh⟩ := split_halves HVB.out hpt
        rw [hsv]
        clear hsv
        have BD1 := Lib.hid (fun u hi => BDC.out _ _ _ _ _ _ u hh.wx hi); have BD2 := Lib.hid (fun u hi => BDC.out _ _ _ _ _ _ u hh.wy hi)
        have MO1 := MON.out _ _ _ _ _ _ _ _ _ _ _ _ (wiP_refl HVB.out) hh.wx; have MO2 := MON.out _ _ _ _ _ _ _ _ _ _ _ _ (wiP_refl HVB.out) hh.wy
        rw [HLO.out] at MO1 MO2
        generalize m x0 y0 z0 e0 e1 e2 = ma at *
        generalize m f0 f1 f2 x1 y1 z1 = mb at *
        clear hh hpt MON BDC
        have M9 := Lib.hid ((M8.out.alloc' w8.heap.size #[.int .i64 x0, .int .i64 y0, .int .i64 z0, .int .i64 e0, .int .i64 e1, .int .i64 e2] 28 hp8 rfl).alloc' (w8.heap.size + 1) #[.int .i64 f0, .int .i64 f1, .int .i64 f2, .int .i64 x1, .int .i64 y1, .int .i64 z1] 28 (by simp; omega) (by simp))
        have HI9 := Lib.hid (HI8.out.after (gb_alloc (gb_alloc (gb_refl _ _) (.cells #[.int .i64 x0, .int .i64 y0, .int .i64 z0, .int .i64 e0, .int .i64 e1, .int .i64 e2] 28)) (.cells #[.int .i64 f0, .int .i64 f1, .int .i64 f2, .int .i64 x1, .int .i64 y1, .int .i64 z1] 28)))
        clear M8 HI8 hp8
        have T9 := Lib.hid (M9.out.at 2 rfl)
        obtain ⟨m1_0, m1_1, m1_2, m1_3, m1_4, m1_5⟩ := six (M9.out.at 1 rfl)
        have e0_ := cell_of T9.out 0 _ rfl; have e1_ := cell_of T9.out 1 _ rfl; have e2_ := cell_of T9.out 2 _ rfl; have e3_ := cell_of T9.out 3 _ rfl; have e4_ := cell_of T9.out 4 _ rfl; have e5_ := cell_of T9.out 5 _ rfl; have e6_ := cell_of T9.out 6 _ rfl; have e7_ := cell_of T9.out 7 _ rfl; have e8_ := cell_of T9.out 8 _ rfl; have e9_ := cell_of T9.out 9 _ rfl; have e10_ := cell_of T9.out 10 _ rfl
        go_wp2_with fail
        generalize (w8.alloc (.cells #[.int .i64 x0, .int .i64 y0, .int .i64 z0, .int .i64 e0, .int .i64 e1, .int .i64 e2] 28)).alloc (.cells #[.int .i64 f0, .int .i64 f1, .int .i64 f2, .int .i64 x1, .int .i64 y1, .int .i64 z1] 28) = w9 at *
        (with_reducible refine (BD1.out _ HI9.out).mono ?_)
        rintro e w10 ⟨rfl, hg⟩
        clear e0_ e1_ e2_ e3_ e4_ e5_ e6_ e7_ e8_ e9_ e10_
        have M10 := Lib.hid (M9.out.later hg); have HI10 := Lib.hid (HI9.out.after hg)
        clear hg m1_0 m1_1 m1_2 m1_3 m1_4 m1_5 M9 HI9 T9
        have T10 := Lib.hid (M10.out.at 2 rfl)
        obtain ⟨m0_0, m0_1, m0_2, m0_3, m0_4, m0_5⟩ := six (M10.out.at 0 rfl)
        have e0_ := cell_of T10.out 0 _ rfl; have e1_ := cell_of T10.out 1 _ rfl; have e2_ := cell_of T10.out 2 _ rfl; have e3_ := cell_of T10.out 3 _ rfl; have e4_ := cell_of T10.out 4 _ rfl; have e5_ := cell_of T10.out 5 _ rfl; have e6_ := cell_of T10.out 6 _ rfl; have e7_ := cell_of T10.out 7 _ rfl; have e8_ := cell_of T10.out 8 _ rfl; have e9_ := cell_of T10.out 9 _ rfl; have e10_ := cell_of T10.out 10 _ rfl
        go_wp2_with fail
        (with_reducible refine (BD2.out _ HI10.out).mono ?_)
        rintro e w11 ⟨rfl, hg⟩
        clear e0_ e1_ e2_ e3_ e4_ e5_ e6_ e7_ e8_ e9_ e10_
        have M11 := Lib.hid (M10.out.later hg)
        clear hg m0_0 m0_1 m0_2 m0_3 m0_4 m0_5 M10 T10
        go_wp2_with fail
        (with_reducible refine (awake27_any _).mono ?_)
        rintro e w12 ⟨rfl, hg⟩
        have HGE := Lib.hid (gb_trans M11.out.gr hg)
        go_wp2_with fail
        go_ret
        exact ⟨rfl, gb_end HGE.out⟩
      · have hsv : splV (splOk x0 y0 z0 x1 y1 z1) (axis (x1 - x0) (y1 - y0) (z1 - z0)) x0 y0 z0 x1 y1 z1 = .tuple #[.agg #[.int .i64 0, .int .i64 0, .int .i64 0, .int .i64 0, .int .i64 0, .int .i64 0], .agg #[.int .i64 0, .int .i64 0, .int .i64 0, .int .i64 0, .int .i64 0, .int .i64 0], .bool false] := by
          have e : splOk x0 y0 z0 x1 y1 z1 = false := by simp [splOk]; omega
          rw [e]; simp [splV, keepI, spE, spB]
        rw [hsv]
        go_wp2_with fail
        (with_reducible refine (awake27_any _).mono ?_)
        rintro e w12 ⟨rfl, hg⟩
        have HGE := Lib.hid (gb_trans (gb_alloc (gb_alloc M8.out.gr _) _) hg)
        go_wp2_with fail
        go_ret
        exact ⟨rfl, gb_end HGE.out⟩
end Go.Proofs.Ytkckcaijfedijaa
