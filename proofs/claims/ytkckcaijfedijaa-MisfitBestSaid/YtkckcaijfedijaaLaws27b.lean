/- The walk of MisfitZero. -/
import Derived.Test.YtkckcaijfedijaaAwake27
import Derived.Test.YtkckcaijfedijaaMisP
import Derived.Test.YtkckcaijfedijaaMem
import Derived.Test.YtkckcaijfedijaaRgPos
import Derived.Test.YtkckcaijfedijaaProb
namespace Go.Proofs.Ytkckcaijfedijaa
set_option linter.all false
open Go.RowKit Rg

theorem Good.time {P : Prob} (h : Good P) {x y z : Int} (hw : wiP x y z x y z P.x0 P.y0 P.z0 P.x1 P.y1 P.z1 = true) : -4000000000000 ≤ tt P x y z ∧ tt P x y z ≤ 4000000000000 := by
  obtain ⟨-, hm, -⟩ := best_spec (cap := P.cap) (phs := P.phs) (zs := zonesL P x y z x y z) (by rw [zonesL_length]; exact h.sound.some.1)
  obtain ⟨q, hq, e⟩ := mem_timesOf.1 hm
  unfold zonesL at hq
  obtain ⟨a, ha, rfl⟩ := List.mem_map.1 hq
  have hN := ((h.near a ha).within hw).1
  obtain ⟨-, e1, e2⟩ := hN.zE (h.ph a ha).ok
  obtain ⟨n0, n1, n2⟩ := far_small hN.vb hN.vp
  have tb := time_bounds hN.ok n0 (by omega) (Int.le_trans (ceilI_mono n0 n1) hN.reach)
  have tb2 := time_bounds hN.ok (by omega : 0 ≤ farD x y z x y z a.x a.y a.z) (by omega) hN.reach
  have hg := h.ph a ha
  have hg1 := hg.2.1; have hg2 := hg.2.2.1; have hg3 := hg.2.2.2.1
  unfold tt
  rcases e with e | e
  · rw [e]; show _ ≤ znF _ _ _ _ _ _ _ _ _ _ _ _ _ _ _ ∧ znF _ _ _ _ _ _ _ _ _ _ _ _ _ _ _ ≤ _; rw [e1]; omega
  · rw [e]; show _ ≤ znT _ _ _ _ _ _ _ _ _ _ _ _ _ _ _ ∧ znT _ _ _ _ _ _ _ _ _ _ _ _ _ _ _ ≤ _; rw [e2]; omega
/-- What Zones answers. -/
def ZnAt (zs : List Zn) (v : Value) (u : World) : Prop := ∃ s, v = .tuple #[s, .int .i64 0] ∧ SlC 2 u s zs.length (flatZ zs)
theorem ZnAt.after {zs : List Zn} (v : Value) (u u' : World) (h : ZnAt zs v u) (hg : u.grownBy u' none) : ZnAt zs v u' := by
  obtain ⟨s, e, h⟩ := h; exact ⟨s, e, h.after hg⟩
theorem Good.zonesC {P : Prob} (h : Good P) {vl vh vp : Value} {cs : Array Value} (hcs : cs = P.val vl vh vp) (b0 b1 b2 b3 b4 b5 : Int) (u : World) (hw : wiP b0 b1 b2 b3 b4 b5 P.x0 P.y0 P.z0 P.x1 P.y1 P.z1 = true) (hi : ProbIn P vl vh vp u) :
    Calls Try.prog 50 #[.agg cs, .agg #[.int .i64 b0, .int .i64 b1, .int .i64 b2, .int .i64 b3, .int .i64 b4, .int .i64 b5]] u fun e w' => ∃ v, e = .returned v ∧ ZnAt (zonesL P b0 b1 b2 b3 b4 b5) v w' ∧ u.grownBy w' none := by
  have hb := Zones_any P vl vh vp b0 b1 b2 b3 b4 b5 u hi (by have := h.sound.some; omega)
  rw [hcs]
  refine hb.mono ?_
  rintro e w' (⟨-, v, rfl, h1, -, h2⟩ | ⟨h0, -, -⟩)
  · exact ⟨_, rfl, ⟨v, rfl, h1⟩, h2⟩
  · exact absurd (h.zones hw) h0
theorem Good.resC {P : Prob} (h : Good P) {vl vh vp : Value} {cs : Array Value} (hcs : cs = P.val vl vh vp) (x y z : Int) (u : World) (hw : wiP x y z x y z P.x0 P.y0 P.z0 P.x1 P.y1 P.z1 = true) (hi : ProbIn P vl vh vp u) :
    Calls Try.prog 51 #[.agg cs, .agg #[.int .i64 x, .int .i64 y, .int .i64 z], .int .i64 (tt P x y z)] u fun e w' => ∃ v, e = .returned (.tuple #[v, .int .i64 0]) ∧ Sl w' v (resL (zonesL P x y z x y z) (tt P x y z)) ∧ u.grownBy w' none := by
  rw [hcs]
  have := h.time hw
  exact residuals_any P vl vh vp x y z _ u hi (by have := h.sound.some; omega) (h.zones hw) (by omega) (by omega)

set_option maxRecDepth 100000 in
set_option maxHeartbeats 4000000 in
theorem misfitZero_walk (w : World) (v : Value) (xs : List Int) (hs : Sl w v xs) (_hx : ∀ x ∈ xs, -9223372036854775808 ≤ x ∧ x ≤ 9223372036854775807) :
    Calls Try.prog 11 #[v] w fun e w' => e = .returned (.bool true) ∧ Below w.heap.size w w' := by
  go_enter Try.func11, Try.ntmps11
  go_wp2_with fail
  (with_reducible refine (new_any w v xs hs).mono ?_)
  rintro e w1 ⟨rfl, hS, hg⟩
  have S1 := Lib.hid hS; have M1 := Lib.hid (Mem.nil (p := w.heap.size) hg); clear hg hs hS
  go_wp2_with fail
  (with_reducible refine (problem_any w.heap.size w1 w.heap.size 20 5 S1.out (by omega) (by omega) (by omega) (by omega)).mono ?_)
  rintro e w2 ⟨P, vl, vh, vp, he, hB, hT, hre, -, hcap, hlen, hph, hin, hap, hS, hg⟩
  have M2 := Lib.hid (M1.out.draw hg (by omega)); have hp2 := hS.lt.2
  have gd := good_mk hB (by omega) hT hre.1 hcap hlen.1 (by omega) hph
  have hw1 := S1.out.lt.2
  have IND : Hid (∀ u u', ProbIn P vl vh vp u → u.grownBy u' (some w.heap.size) → ProbIn P vl vh vp u') := Lib.hid (fun u u' hi hg =>
    ⟨hi.l.later hg (fun b off len cap e _ => by have := hap vl (.inl rfl) b off len cap e; simp; omega), hi.h.later hg (fun b off len cap e _ => by have := hap vh (.inr (.inl rfl)) b off len cap e; simp; omega), hi.p.draw hg (fun b off len cap e _ => by have := hap vp (.inr (.inr rfl)) b off len cap e; omega)⟩)
  have S2 := Lib.hid hS
  clear hg hS S1 M1 hT hre hcap hph hap hw1
  obtain ⟨pa, pc, rfl⟩ := hin.p.slice
  obtain ⟨la, ln, lc, rfl⟩ := sl_slice hin.l
  obtain ⟨ha, hn, hc, rfl⟩ := sl_slice hin.h
  have ATC := Lib.hid (fun x y z u hw hi => gd.at (vl := .slice la ln lc) (vh := .slice ha hn hc) (vp := .slice pa P.phs.length pc) rfl x y z u hw hi)
  have ZNC := Lib.hid (fun b0 b1 b2 b3 b4 b5 u hw hi => gd.zonesC (vl := .slice la ln lc) (vh := .slice ha hn hc) (vp := .slice pa P.phs.length pc) rfl b0 b1 b2 b3 b4 b5 u hw hi)
  have RSC := Lib.hid (fun x y z u hw hi => gd.resC (vl := .slice la ln lc) (vh := .slice ha hn hc) (vp := .slice pa P.phs.length pc) rfl x y z u hw hi)
  have HZP : Hid (∀ x y z : Int, wiP x y z x y z P.x0 P.y0 P.z0 P.x1 P.y1 P.z1 = true → (mm P x y z x y z = 0 ↔ latest (zonesL P x y z x y z) P.phs.length ≤ earliest (zonesL P x y z x y z) P.phs.length) ∧ mm P x y z x y z = costN P.cap P.phs (zonesL P x y z x y z) (tt P x y z) P.phs.length ∧ Fair P.cap P.phs (zonesL P x y z x y z) ∧ (zonesL P x y z x y z).length = P.phs.length) := Lib.hid (fun x y z hw => by
    have hz := zonesL_length P x y z x y z
    have h0 := gd.sound.some.1
    have hp := zero_plain (cap := P.cap) (by rw [hz]; exact h0) hz (gd.even hw) (gd.sound.fair x y z x y z) gd.sound.cap.1 (fun i hi => by
      rw [show P.phs[i]?.getD default = P.phs[i] by simp [hi]]; exact (gd.ph _ (List.getElem_mem hi)).2.2.2.2.1)
    rw [hz] at hp
    exact ⟨hp, (best_spec (by rw [hz]; exact h0)).1, gd.sound.fair x y z x y z, hz⟩)
  have HVB := Lib.hid gd.sound.vb; have HI2 := Lib.hid hin; have HB := Lib.hid hB
  clear gd hin hB
  generalize mm P = m at *
  generalize tt P = tm at *
  generalize zonesL P = zl at *
  obtain ⟨x0, y0, z0, x1, y1, z1, step, ls, hs, phs, cap⟩ := P
  simp only [Prob.val] at ATC ZNC RSC HZP HVB HI2 HB IND he hlen
  subst he
  go_wp2_with fail
  refine calls_name (fun w3 hw => ?_)
  have M3 := Lib.hid (show Mem w (w.heap.size) _ _ w3 from by rw [hw]; exact (M2.out).alloc' (w2.heap.size) #[.int .i64 x0, .int .i64 y0, .int .i64 z0, .int .i64 x1, .int .i64 y1, .int .i64 z1, .int .i64 step, .slice la ln lc, .slice ha hn hc, .slice pa phs.length pc, .int .i64 cap] 68 hp2 rfl)
  have HI3 := Lib.hid (show ProbIn _ _ _ _ w3 from HI2.out.after (by rw [hw]; exact gb_alloc (gb_refl _ _) _))
  have S3 := Lib.hid (show Src w.heap.size w3 w.heap.size from by rw [hw]; exact S2.out.later (row := none) (gb_alloc (gb_refl _ _) _) (by simp))
  clear hw hp2 M2 HI2 S2
  generalize w2.heap.size = n2 at *
  have hB := HB.out
  unfold boxIn placeIn at hB
  (with_reducible refine (point_any w.heap.size w3 w.heap.size x0 y0 z0 x1 y1 z1 S3.out (by omega) (by omega) (by omega)).mono ?_)
  rintro r w4 ⟨qx, qy, qz, rfl, hq, hS, hg⟩
  have hp4 := hS.lt.2
  have M5 := Lib.hid ((M3.out.draw hg (by omega)).alloc' w4.heap.size #[.int .i64 qx, .int .i64 qy, .int .i64 qz] 26 hp4 rfl)
  have HI5 := Lib.hid ((IND.out _ _ HI3.out hg).after (gb_alloc (gb_refl w4 none) (.cells #[.int .i64 qx, .int .i64 qy, .int .i64 qz] 26)))
  have HW : wiP qx qy qz qx qy qz x0 y0 z0 x1 y1 z1 = true := wiP_point HVB.out ⟨hq.1, hq.2.1⟩ ⟨hq.2.2.1, hq.2.2.2.1⟩ ⟨hq.2.2.2.2.1, hq.2.2.2.2.2⟩
  have AT1 := Lib.hid (fun u hi => ATC.out qx qy qz u HW hi); have ZN1 := Lib.hid (fun u hi => ZNC.out qx qy qz qx qy qz u HW hi); have RS1 := Lib.hid (fun u hi => RSC.out qx qy qz u HW hi)
  have HZ1 := Lib.hid (HZP.out qx qy qz HW)
  clear hS hg M3 HI3 S3 hB HB HVB HW hq ATC ZNC RSC HZP IND
  generalize m qx qy qz qx qy qz = mq at *
  generalize tm qx qy qz = tq at *
  generalize zl qx qy qz qx qy qz = zs at *
  have T5 := Lib.hid (M5.out.at 1 rfl)
  obtain ⟨m0_0, m0_1, m0_2⟩ := cells3 (M5.out.at 0 rfl)
  have e0_ := cell_of T5.out 0 _ rfl; have e1_ := cell_of T5.out 1 _ rfl; have e2_ := cell_of T5.out 2 _ rfl; have e3_ := cell_of T5.out 3 _ rfl; have e4_ := cell_of T5.out 4 _ rfl; have e5_ := cell_of T5.out 5 _ rfl; have e6_ := cell_of T5.out 6 _ rfl; have e7_ := cell_of T5.out 7 _ rfl; have e8_ := cell_of T5.out 8 _ rfl; have e9_ := cell_of T5.out 9 _ rfl; have e10_ := cell_of T5.out 10 _ rfl
  go_wp2_with fail
  generalize w4.alloc (.cells #[.int .i64 qx, .int .i64 qy, .int .i64 qz] 26) = w5 at *
  generalize w4.heap.size = n4 at *
  (with_reducible refine (AT1.out _ HI5.out).mono ?_)
  rintro r w6 ⟨rfl, hg⟩
  clear e0_ e1_ e2_ e3_ e4_ e5_ e6_ e7_ e8_ e9_ e10_
  have M6 := Lib.hid (M5.out.later hg); have HI6 := Lib.hid (HI5.out.after hg)
  clear hg m0_0 m0_1 m0_2 T5 M5 HI5 hp4
  have T6 := Lib.hid (M6.out.at 1 rfl)
  obtain ⟨m0_0, m0_1, m0_2⟩ := cells3 (M6.out.at 0 rfl)
  have e0_ := cell_of T6.out 0 _ rfl; have e1_ := cell_of T6.out 1 _ rfl; have e2_ := cell_of T6.out 2 _ rfl; have e3_ := cell_of T6.out 3 _ rfl; have e4_ := cell_of T6.out 4 _ rfl; have e5_ := cell_of T6.out 5 _ rfl; have e6_ := cell_of T6.out 6 _ rfl; have e7_ := cell_of T6.out 7 _ rfl; have e8_ := cell_of T6.out 8 _ rfl; have e9_ := cell_of T6.out 9 _ rfl; have e10_ := cell_of T6.out 10 _ rfl
  have u0 := M6.out.made 0 rfl; have u1 := M6.out.made 1 rfl
  go_wp2_with fail
  refine Rg.region (Made w6) Makes (fun k => if k = 2 then some (isV (.agg #[.int .i64 qx, .int .i64 qy, .int .i64 qz, .int .i64 qx, .int .i64 qy, .int .i64 qz])) else if k = 3 then some (isF (ZnAt zs)) else none)
    (fun _ => false) 0 9 (by kernel_rfl) (by kernel_rfl) (by kernel_rfl) (by kernel_rfl) (by kernel_rfl) (by kernel_rfl) (by kernel_rfl) Makes.size (Made.start w6) (fun hne => ?_)
  (repeat (refine rLexL_quiet (by rfl) (by rfl) (by rfl) (by rfl) ?_; go_big_quiet_step (fail); refine wpQuiet_nil ?_))
  refine rg_fix (.agg #[.int .i64 qx, .int .i64 qy, .int .i64 qz, .int .i64 qx, .int .i64 qy, .int .i64 qz]) 35 #[.agg #[.int .i64 qx, .int .i64 qy, .int .i64 qz]] rfl rfl rfl (fun _ => by go_simp) (fun u hu => one_any _ _ _ u) ?_
  simp only [Act.put, List.setIfInBounds_toArray, List.set_cons_zero, List.set_cons_succ]
  refine rg_fixF (ZnAt zs) 50 #[.agg #[.int .i64 x0, .int .i64 y0, .int .i64 z0, .int .i64 x1, .int .i64 y1, .int .i64 z1, .int .i64 step, .slice la ln lc, .slice ha hn hc, .slice pa phs.length pc, .int .i64 cap], .agg #[.int .i64 qx, .int .i64 qy, .int .i64 qz, .int .i64 qx, .int .i64 qy, .int .i64 qz]] rfl rfl rfl ZnAt.after (fun _ => by go_simp) (fun u hu => ZN1.out u (HI6.out.after hu)) (fun zv zu hzv => ?_)
  obtain ⟨zsl, rfl, hsl⟩ := hzv
  rw [HZ1.out.2.2.2] at hsl
  obtain ⟨zb, zoff, zcap, rfl, -⟩ := hsl.block hlen.1
  clear hsl zu
  simp only [Act.put, List.setIfInBounds_toArray, List.set_cons_zero, List.set_cons_succ]
  (repeat (refine rLexL_quiet (by rfl) (by rfl) (by rfl) (by rfl) ?_; go_big_quiet_step (fail); refine wpQuiet_nil ?_))
  rintro wq hq hf hD
  refine wpList_nil ?_
  have hz3 : ZnAt zs (.tuple #[.slice (some ⟨zb, zoff, none⟩) phs.length zcap, .int .i64 0]) wq := hf 3
  have HSL : Hid (SlC 2 wq (.slice (some ⟨zb, zoff, none⟩) phs.length zcap) phs.length (flatZ zs)) := Lib.hid (by
    obtain ⟨s, e, h⟩ := hz3
    simp only [Value.tuple.injEq, Array.mk.injEq, List.cons.injEq, and_true] at e
    rw [← e, HZ1.out.2.2.2] at h; exact h)
  have M7 := Lib.hid (M6.out.later hq); have HI7 := Lib.hid (HI6.out.after hq)
  generalize wq = w7 at *
  clear hf hD hz3 hq hne u0 u1 m0_0 m0_1 m0_2 M6 HI6 T6 ZN1 AT1
  clear e0_ e1_ e2_ e3_ e4_ e5_ e6_ e7_ e8_ e9_ e10_
  have T7 := Lib.hid (M7.out.at 1 rfl)
  obtain ⟨m0_0, m0_1, m0_2⟩ := cells3 (M7.out.at 0 rfl)
  have e0_ := cell_of T7.out 0 _ rfl; have e1_ := cell_of T7.out 1 _ rfl; have e2_ := cell_of T7.out 2 _ rfl; have e3_ := cell_of T7.out 3 _ rfl; have e4_ := cell_of T7.out 4 _ rfl; have e5_ := cell_of T7.out 5 _ rfl; have e6_ := cell_of T7.out 6 _ rfl; have e7_ := cell_of T7.out 7 _ rfl; have e8_ := cell_of T7.out 8 _ rfl; have e9_ := cell_of T7.out 9 _ rfl; have e10_ := cell_of T7.out 10 _ rfl
  go_wp2_with fail
  (with_reducible refine (RS1.out _ HI7.out).mono ?_)
  rintro r w8 ⟨rv, rfl, hrs, hg⟩
  clear e0_ e1_ e2_ e3_ e4_ e5_ e6_ e7_ e8_ e9_ e10_
  have M8 := Lib.hid (M7.out.later hg); have HI8 := Lib.hid (HI7.out.after hg); have HSL8 := Lib.hid (HSL.out.after hg)
  clear hg m0_0 m0_1 m0_2 M7 HI7 T7 HSL RS1
  have hzl := HZ1.out.2.2.2
  have hrl : (resL zs tq).length = phs.length := by rw [← hzl]; simp [resL]
  obtain ⟨rb, roff, rcap, hrv, -⟩ := hrs.block (by omega)
  rw [hrl] at hrv
  subst hrv
  have HRS := Lib.hid hrs; clear hrs
  obtain ⟨pb, poff, pcap, hpv, -⟩ := HI8.out.p.block hlen.1
  simp only [Value.slice.injEq, true_and] at hpv
  obtain ⟨rfl, rfl⟩ := hpv
  have T8 := Lib.hid (M8.out.at 1 rfl)
  have e0_ := cell_of T8.out 0 _ rfl; have e1_ := cell_of T8.out 1 _ rfl; have e2_ := cell_of T8.out 2 _ rfl; have e3_ := cell_of T8.out 3 _ rfl; have e4_ := cell_of T8.out 4 _ rfl; have e5_ := cell_of T8.out 5 _ rfl; have e6_ := cell_of T8.out 6 _ rfl; have e7_ := cell_of T8.out 7 _ rfl; have e8_ := cell_of T8.out 8 _ rfl; have e9_ := cell_of T8.out 9 _ rfl; have e10_ := cell_of T8.out 10 _ rfl
  have hlen5 := hlen.2
  have hlen0 := hlen.1
  clear hlen
  have hnn : ((phs.length : Int) == (phs.length : Int)) = true := by simp
  have HTE := Lib.hid T8.out
  go_wp2_with fail
  clear e0_ e1_ e2_ e3_ e4_ e5_ e6_ e7_ e8_ e9_ e10_
  go_loopw [13, 14, 15, 73] (fun a b c d wr => ∃ k : Nat, k ≤ phs.length ∧ d = .int .i64 k ∧ a = .int .i64 (latest zs k) ∧ b = .int .i64 (earliest zs k) ∧ c = .int .i64 (costN cap phs zs tq k) ∧ w8.grownBy wr none) (fun _ _ _ d _ => phs.length - (intOf d).toNat)
  case atStart => exact ⟨0, by omega, rfl, rfl, rfl, rfl, gb_refl _ _⟩
  case round =>
    obtain ⟨k, hk, rfl, rfl, rfl, rfl, hgr⟩ := hrel
    have HF := Lib.hid HZ1.out.2.2.1
    by_cases hlt : k < phs.length
    · have hzk : k < zs.length := by omega
      obtain ⟨pb', poff', pcap', hpv, hpb, -, -, hpcell⟩ := (HI8.out.p.after hgr).block hlen0
      simp only [Value.slice.injEq, Option.some.injEq, Addr.mk.injEq, true_and, and_true] at hpv
      obtain ⟨⟨rfl, rfl⟩, rfl⟩ := hpv
      obtain ⟨-, -, -, -, -, c5⟩ := SlC.ph hpcell k hlt
      obtain ⟨zb', zoff', zcap', hzv, hzb, -, -, hzcell⟩ := (HSL8.out.after hgr).block hlen0
      simp only [Value.slice.injEq, Option.some.injEq, Addr.mk.injEq, true_and, and_true] at hzv
      obtain ⟨⟨rfl, rfl⟩, rfl⟩ := hzv
      obtain ⟨d0, d1⟩ := SlC.zn hzcell k hzk
      obtain ⟨rb', roff', rcap', hrv, hrb, -, -, hrcell⟩ := (HRS.out.after hgr).block (by omega)
      simp only [Value.slice.injEq, Option.some.injEq, Addr.mk.injEq, true_and, and_true] at hrv
      obtain ⟨⟨rfl, rfl⟩, -, rfl⟩ := hrv
      have r0 := hrcell k (by omega)
      have hra : at0 (resL zs tq) k = resid zs[k] tq := by unfold at0 resL; simp [hzk]
      rw [hra] at r0
      clear hpcell hzcell hrcell hra
      have hin := HF.out.costN_in tq k hk
      have htm := HF.out.term_in tq hlt
      have hcs : Hid (costN cap phs zs tq (k + 1) = costN cap phs zs tq k + term cap phs zs tq k) := Lib.hid rfl
      have HTM : term cap phs zs tq k = phs[k].n * min cap (resid zs[k] tq) := by
        unfold term; rw [if_pos hzk, show phs[k]?.getD default = phs[k] by simp [hlt], show zs[k]?.getD default = zs[k] by simp [hzk]]
      have LS := Lib.hid (latest_succ zs k hzk); have ES := Lib.hid (earliest_succ zs k hzk)
      have T9 := Lib.hid (block_kept hgr HTE.out rfl)
      have e10 := cell_of T9.out 10 _ rfl; have e9 := cell_of T9.out 9 _ rfl
      generalize resid zs[k] tq = rs at *
      generalize zs[k] = zk at *
      generalize phs[k].n = an at *
      obtain ⟨zf, zt⟩ := zk
      simp only [] at d0 d1 LS ES
      generalize costN cap phs zs tq k = cs at *
      generalize term cap phs zs tq k = tm at *
      generalize latest zs k = la at *
      generalize earliest zs k = ea at *
      have WM : Hid (wrap64 (an * min cap rs) = tm) := Lib.hid (by rw [← HTM]; exact IntWalk.wrap64_in _ (by omega))
      clear HTM
      have u1 := fun (x : Up wr) (c : Nat) => ever_cell x (b := pb) (o := c) hpb
      have u2 := fun (x : Up wr) (c : Nat) => ever_cell x (b := zb) (o := c) hzb
      have u3 := fun (x : Up wr) (c : Nat) => ever_cell x (b := rb) (o := c) hrb
      have u4 := fun (x : Up wr) (c : Nat) => ever_cell x (b := n2) (o := c) (block_lt' T9.out)
      go_wp2_with fail
      (refine wp_region_grown (by kernel_rfl) (by kernel_rfl) ?_; (repeat (go_big_quiet_step (fail))); refine wpQuiet_nil ?_; intro wq hq)
      clear u1 u2 u3 u4
      have HG9 := Lib.hid (gb_trans hgr hq)
      have c5 := (gb_cell hq hpb (by simp)).trans c5
      have r0 := (gb_cell hq hrb (by simp)).trans r0
      have T10 := Lib.hid (block_kept hq T9.out rfl)
      have hpb := Nat.lt_of_lt_of_le hpb hq.size; have hrb := Nat.lt_of_lt_of_le hrb hq.size
      clear d0 d1 e9 e10 T9 hzb hq hgr
      generalize wq = w9 at *
      have e10 := cell_of T10.out 10 _ rfl; have e9 := cell_of T10.out 9 _ rfl
      have u1 := fun (x : Up w9) (c : Nat) => ever_cell x (b := pb) (o := c) hpb
      have u3 := fun (x : Up w9) (c : Nat) => ever_cell x (b := rb) (o := c) hrb
      have u4 := fun (x : Up w9) (c : Nat) => ever_cell x (b := n2) (o := c) (block_lt' T10.out)
      go_wp2_with fail
      (refine wp_region_grown (by kernel_rfl) (by kernel_rfl) ?_; (repeat (go_big_quiet_step (fail))); refine wpQuiet_nil ?_; intro wq hq)
      have HGN := Lib.hid (gb_trans HG9.out hq)
      clear u1 u3 u4 c5 r0 e9 e10
      go_wp2_with fail
      go_roundw
      case rel => exact ⟨k + 1, by omega, by go_num, by rw [LS.out], by rw [ES.out], congrArg (Value.int .i64) (by rw [hcs.out, WM.out]; exact IntWalk.wrap64_in _ (by omega)), HGN.out⟩
      case measure => simp [intOf]; omega
    · obtain rfl : k = phs.length := by omega
      have M9 := Lib.hid (M8.out.later hgr)
      have hz := HZ1.out.1
      have D3 : (costN cap phs zs tq phs.length == mq) = true := by rw [← HZ1.out.2.1]; simp
      clear hgr HI8 HSL8 HRS M8 HZ1 HF
      generalize latest zs phs.length = lt' at *
      generalize earliest zs phs.length = ea' at *
      generalize costN cap phs zs tq phs.length = sm at *
      obtain rfl : sm = mq := by simpa using D3
      clear D3
      by_cases hm : sm = 0
      · have D1 : (sm == 0) = true := by simp [hm]
        have D2 : decide (lt' ≤ ea') = true := by simpa using hz.1 hm
        go_wp2_with fail
        (with_reducible refine (awake27_any _).mono ?_)
        rintro e w12 ⟨rfl, hg⟩
        have HGE := Lib.hid (gb_trans M9.out.gr hg)
        go_wp2_with fail
        go_ret
        exact ⟨rfl, gb_end HGE.out⟩
      · have D1 : (sm == 0) = false := by simp [hm]
        have D2 : decide (lt' ≤ ea') = false := by simpa using fun h => hm (hz.2 h)
        go_wp2_with fail
        (with_reducible refine (awake27_any _).mono ?_)
        rintro e w12 ⟨rfl, hg⟩
        have HGE := Lib.hid (gb_trans M9.out.gr hg)
        go_wp2_with fail
        go_ret
        exact ⟨rfl, gb_end HGE.out⟩
end Go.Proofs.Ytkckcaijfedijaa
