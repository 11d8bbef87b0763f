/- The walk of MisfitShift. -/
import Derived.Test.YtkckcaijfedijaaAwake27
import Derived.Test.YtkckcaijfedijaaReP
import Derived.Test.YtkckcaijfedijaaRgPos
import Derived.Test.YtkckcaijfedijaaProb
import Derived.Test.YtkckcaijfedijaaLaws27b
namespace Go.Proofs.Ytkckcaijfedijaa
set_option linter.all false
open Go.RowKit Rg

set_option maxRecDepth 100000 in
set_option maxHeartbeats 4000000 in
theorem misfitShift_walk (w : World) (v : Value) (xs : List Int) (hs : Sl w v xs) (_hx : ∀ x ∈ xs, -9223372036854775808 ≤ x ∧ x ≤ 9223372036854775807) (n : Int) (h : -9223372036854775808 ≤ n) (h' : n ≤ 9223372036854775807) :
    Calls Try.prog 10 #[v, .int .i64 n] w fun e w' => e = .returned (.bool true) ∧ Below w.heap.size w w' := by
  go_enter Try.func10, Try.ntmps10
  go_wp2_with fail
  (with_reducible refine (new_any w v xs hs).mono ?_)
  rintro e w1 ⟨rfl, hS, hg⟩
  have S1 := Lib.hid hS; have M1 := Lib.hid (Mem.nil (p := w.heap.size) hg); clear hg hs hS
  go_wp2_with fail
  (with_reducible refine (problem_any w.heap.size w1 w.heap.size 20 6 S1.out (by omega) (by omega) (by omega) (by omega)).mono ?_)
  rintro e w2 ⟨P, vl, vh, vp, he, hB, hT, hre, -, hcap, hlen, hph, hin, hap, hS, hg⟩
  have M2 := Lib.hid (M1.out.draw hg (by omega)); have hp2 := hS.lt.2
  have gd := good_mk hB (by omega) hT hre.1 hcap hlen.1 (by omega) hph
  have hw1 := S1.out.lt.2
  have IND : Hid (∀ u u', ProbIn P vl vh vp u → u.grownBy u' (some w.heap.size) → ProbIn P vl vh vp u') := Lib.hid (fun u u' hi hg =>
    ⟨hi.l.later hg (fun b off len cap e _ => by have := hap vl (.inl rfl) b off len cap e; simp; omega), hi.h.later hg (fun b off len cap e _ => by have := hap vh (.inr (.inl rfl)) b off len cap e; simp; omega), hi.p.draw hg (fun b off len cap e _ => by have := hap vp (.inr (.inr rfl)) b off len cap e; omega)⟩)
  have S2 := Lib.hid hS
  clear hg hS S1 M1 hT hre hcap hph hap hw1
  obtain ⟨pa, pc, rfl⟩ := hin.p.slice
  obtain ⟨la, ln, lc, rfl⟩ := sl_slice hin.l
  obtain ⟨ha, hn, hc, rfl⟩ := sl_slice hin.h
  have ATC := Lib.hid (fun x y z u hw hi => gd.at (vl := .slice la ln lc) (vh := .slice ha hn hc) (vp := .slice pa P.phs.length pc) rfl x y z u hw hi)
  have SHC := Lib.hid (fun (s : Int) (h0 : 0 ≤ s) (h1 : s ≤ 1099511627776) (x y z : Int) (u : World) hw (vq : Value) hi => gd.atMoved h0 h1 (vl := .slice la ln lc) (vh := .slice ha hn hc) (vp := vq) (cs := (P.moved s).val (.slice la ln lc) (.slice ha hn hc) vq) rfl x y z u hw hi)
  have TMC := Lib.hid (fun x y z hw => gd.time (x := x) (y := y) (z := z) hw)
  have PHC := Lib.hid gd.ph
  have HVB := Lib.hid gd.sound.vb; have HI2 := Lib.hid hin; have HB := Lib.hid hB
  clear gd hin hB
  generalize mm P = m at *
  generalize tt P = tm at *
  obtain ⟨x0, y0, z0, x1, y1, z1, step, ls, hs, phs, cap⟩ := P
  simp only [Prob.val] at ATC HVB HI2 HB IND he hlen
  simp only [Prob.val, Prob.moved] at SHC TMC PHC
  subst he
  go_wp2_with fail
  refine calls_name (fun w3 hw => ?_)
  have M3 := Lib.hid (show Mem w (w.heap.size) _ _ w3 from by rw [hw]; exact (M2.out).alloc' (w2.heap.size) #[.int .i64 x0, .int .i64 y0, .int .i64 z0, .int .i64 x1, .int .i64 y1, .int .i64 z1, .int .i64 step, .slice la ln lc, .slice ha hn hc, .slice pa phs.length pc, .int .i64 cap] 68 hp2 rfl)
  have HI3 := Lib.hid (show ProbIn _ _ _ _ w3 from HI2.out.after (by rw [hw]; exact gb_alloc (gb_refl _ _) _))
  have S3 := Lib.hid (show Src w.heap.size w3 w.heap.size from by rw [hw]; exact S2.out.later (row := none) (gb_alloc (gb_refl _ _) _) (by simp))
  clear hw hp2 M2 HI2 S2
  generalize w2.heap.size = n2 at *
  have hB := HB.out
  unfold boxIn placeIn at hB
  (with_reducible refine (point_any w.heap.size w3 w.heap.size x0 y0 z0 x1 y1 z1 S3.out (by omega) (by omega) (by omega)).mono ?_)
  rintro r w4 ⟨qx, qy, qz, rfl, hq, hS, hg⟩
  have hp4 := hS.lt.2
  have M5 := Lib.hid ((M3.out.draw hg (by omega)).alloc' w4.heap.size #[.int .i64 qx, .int .i64 qy, .int .i64 qz] 26 hp4 rfl)
  have HI5 := Lib.hid ((IND.out _ _ HI3.out hg).after (gb_alloc (gb_refl w4 none) (.cells #[.int .i64 qx, .int .i64 qy, .int .i64 qz] 26)))
  have HW : wiP qx qy qz qx qy qz x0 y0 z0 x1 y1 z1 = true := wiP_point HVB.out ⟨hq.1, hq.2.1⟩ ⟨hq.2.2.1, hq.2.2.2.1⟩ ⟨hq.2.2.2.2.1, hq.2.2.2.2.2⟩
  have AT1 := Lib.hid (fun u hi => ATC.out qx qy qz u HW hi); have SH1 := Lib.hid (fun s h0 h1 u vq hi => SHC.out s h0 h1 qx qy qz u HW vq hi); have TM1 := Lib.hid (TMC.out qx qy qz HW)
  clear hS hg M3 HI3 S3 hB HB HVB HW hq ATC SHC TMC IND
  generalize m qx qy qz qx qy qz = mq at *
  generalize tm qx qy qz = tq at *
  go_wp2_with fail
  generalize w4.alloc (.cells #[.int .i64 qx, .int .i64 qy, .int .i64 qz] 26) = w5 at *
  generalize w4.heap.size = n4 at *
  (with_reducible refine (mod_any n 1099511627776 _ (by omega) (by omega)).mono ?_)
  rintro r w6 ⟨rfl, rfl⟩
  have hs0 : 0 ≤ n % 1099511627776 ∧ n % 1099511627776 < 1099511627776 := by omega
  generalize n % 1099511627776 = s at *
  have T5 := Lib.hid (M5.out.at 1 rfl)
  have e0_ := cell_of T5.out 0 _ rfl; have e1_ := cell_of T5.out 1 _ rfl; have e2_ := cell_of T5.out 2 _ rfl; have e3_ := cell_of T5.out 3 _ rfl; have e4_ := cell_of T5.out 4 _ rfl; have e5_ := cell_of T5.out 5 _ rfl; have e6_ := cell_of T5.out 6 _ rfl; have e7_ := cell_of T5.out 7 _ rfl; have e8_ := cell_of T5.out 8 _ rfl; have e9_ := cell_of T5.out 9 _ rfl; have e10_ := cell_of T5.out 10 _ rfl
  have hn2 := M5.out.lt 1 rfl
  have hph := hlen.1; have hph6 := hlen.2
  have HSZ := Lib.hid (heap_alloc_new w5 (.cells #[.int .i64 x0, .int .i64 y0, .int .i64 z0, .int .i64 x1, .int .i64 y1, .int .i64 z1, .int .i64 step, .slice la ln lc, .slice ha hn hc, .slice none 0 0, .int .i64 cap] 68))
  have R0 : Hid (PrRe w5 w5.heap.size x0 y0 z0 x1 y1 z1 step (.slice la ln lc) (.slice ha hn hc) cap [] (.slice none 0 0) (w5.alloc (.cells #[.int .i64 x0, .int .i64 y0, .int .i64 z0, .int .i64 x1, .int .i64 y1, .int .i64 z1, .int .i64 step, .slice la ln lc, .slice ha hn hc, .slice none 0 0, .int .i64 cap] 68))) := Lib.hid ⟨HSZ.out, World.ownsRow_nil _ _ _ _, gb_alloc (gb_refl _ _) _, Nat.le_refl _⟩
  clear HSZ
  go_wp2_with fail
  clear e0_ e1_ e2_ e3_ e4_ e5_ e6_ e7_ e8_ e9_ e10_
  generalize hQ : w5.heap.size = Q at *
  go_loopw [9] (fun k wr => ∃ (i : Int) (l : List Ph) (vq : Value), k = .int .i64 i ∧ -1 ≤ i ∧ i < phs.length ∧ l = (phs.drop (i + 1).toNat).reverse.map (movP s) ∧ PrRe w5 Q x0 y0 z0 x1 y1 z1 step (.slice la ln lc) (.slice ha hn hc) cap l vq wr) (fun k _ => (intOf k + 1).toNat)
  case atStart => exact ⟨(phs.length : Int) - 1, [], .slice none 0 0, rfl, by omega, by omega, by simp, R0.out⟩
  case round =>
    obtain ⟨i, l, vq, rfl, hi0, hi1, hl, hM⟩ := hrel
    have MR := Lib.hid hM; have M6 := Lib.hid (M5.out.later hM.gr); have HI6 := Lib.hid (HI5.out.after hM.gr)
    obtain ⟨oa, oc, rfl⟩ := owns_slice hM.own
    clear hM R0
    by_cases hm : 0 ≤ i
    · obtain ⟨j, rfl⟩ : ∃ j : Nat, i = j := ⟨i.toNat, by omega⟩
      have hj : j < phs.length := by omega
      have hll : (l.length : Int) ≤ 6 := by rw [hl]; simp; omega
      have HL : Hid (l ++ [movP s phs[j]] = (phs.drop ((j : Int) - 1 + 1).toNat).reverse.map (movP s)) := Lib.hid (by
        rw [hl, show ((j : Int) - 1 + 1).toNat = j by omega, show ((j : Int) + 1).toNat = j + 1 by omega, List.drop_eq_getElem_cons hj, List.reverse_cons, List.map_append]; rfl)
      clear hl
      obtain ⟨pb, poff, pcap, hpv, hpb, hpc, hpm, hpcell⟩ := HI6.out.p.block hph
      simp only [Value.slice.injEq, true_and] at hpv
      obtain ⟨rfl, rfl⟩ := hpv
      obtain ⟨c0, c1, c2, c3, c4, c5⟩ := SlC.ph hpcell j hj
      have hgp := PHC.out _ (List.getElem_mem hj)
      unfold goodPh at hgp
      clear hpcell
      generalize phs[j] = a at *
      obtain ⟨ax, ay, az, ae, al, an⟩ := a
      simp only [] at c0 c1 c2 c3 c4 c5 hgp
      have we : IntKind.i64.wrap (ae + s) = ae + s := by rw [IntKind.wrap_i64]; omega
      have wl : IntKind.i64.wrap (al + s) = al + s := by rw [IntKind.wrap_i64]; omega
      have hn2 := M6.out.lt 1 rfl; have hn4 := M6.out.lt 0 rfl
      have T6 := Lib.hid (M6.out.at 1 rfl)
      have e9_ := cell_of T6.out 9 _ rfl
      have PQ := MR.out.prob
      have q9_ := cell_of PQ 9 _ rfl
      have hQl := MR.out.lt
      have R1 := Lib.hid (MR.out.later (gb_alloc (gb_alloc (gb_refl wr none) (.cells #[.int .i64 ax, .int .i64 ay, .int .i64 az, .int .i64 (ae + s), .int .i64 (al + s), .int .i64 an] 30)) (.cells #[.int .i64 ax, .int .i64 ay, .int .i64 az, .int .i64 (ae + s), .int .i64 (al + s), .int .i64 an] 30)))
      have HNEW : Hid (((wr.alloc (.cells #[.int .i64 ax, .int .i64 ay, .int .i64 az, .int .i64 (ae + s), .int .i64 (al + s), .int .i64 an] 30)).alloc (.cells #[.int .i64 ax, .int .i64 ay, .int .i64 az, .int .i64 (ae + s), .int .i64 (al + s), .int .i64 an] 30)).heap[wr.heap.size + 1]? = some (.cells #[.int .i64 ax, .int .i64 ay, .int .i64 az, .int .i64 (ae + s), .int .i64 (al + s), .int .i64 an] 30 (0, 0))) := Lib.hid (by simpa using heap_alloc_new (wr.alloc _) _)
      go_wp2_with (at_builtin; refine wpList_push rfl _ _ 50 rfl (Q + 1) 30 (.agg #[.int .i64 0, .int .i64 0, .int .i64 0, .int .i64 0, .int .i64 0, .int .i64 0]) 6 48 Try.underlying50 Try.infoPhaseT rfl (by decide) (by decide) _ _ _ rfl R1.out.own (wr.heap.size + 1) 1 [.int .i64 ax, .int .i64 ay, .int .i64 az, .int .i64 (ae + s), .int .i64 (al + s), .int .i64 an] 30 rfl HNEW.out rfl (by simp [Value.oneCell']) (by omega) (by have := R1.out.lt; omega) ?_; intro v' w9 hown' hg'; obtain ⟨na, nc, rfl⟩ := owns_slice hown'; have HN := Lib.hid (R1.out.push (a := ⟨ax, ay, az, ae + s, al + s, an⟩) hg' hown'); have hqf := R1.out.fro hg' (o := 9); have hqc := R1.out.nine hg'; clear hown' hg')
      go_roundw
      case rel => exact ⟨(j : Int) - 1, _, _, by go_num, by omega, by omega, HL.out, HN.out⟩
      case measure => simp [intOf] <;> omega
    · obtain rfl : i = -1 := by omega
      have hl' : l = phs.reverse.map (movP s) := by simpa using hl
      clear hl
      subst hl'
      rw [show (phs.reverse.map (movP s)).length = phs.length by simp] at MR
      have HIQ := Lib.hid (MR.out.inn (P := ⟨x0, y0, z0, x1, y1, z1, step, ls, hs, phs.reverse.map (movP s), cap⟩) HI6.out (gb_refl _ _) rfl rfl)
      obtain ⟨m0_0, m0_1, m0_2⟩ := cells3 (M6.out.at 0 rfl)
      have T6 := Lib.hid (M6.out.at 1 rfl)
      have e0_ := cell_of T6.out 0 _ rfl; have e1_ := cell_of T6.out 1 _ rfl; have e2_ := cell_of T6.out 2 _ rfl; have e3_ := cell_of T6.out 3 _ rfl; have e4_ := cell_of T6.out 4 _ rfl; have e5_ := cell_of T6.out 5 _ rfl; have e6_ := cell_of T6.out 6 _ rfl; have e7_ := cell_of T6.out 7 _ rfl; have e8_ := cell_of T6.out 8 _ rfl; have e9_ := cell_of T6.out 9 _ rfl; have e10_ := cell_of T6.out 10 _ rfl
      have hn2 := M6.out.lt 1 rfl; have hn4 := M6.out.lt 0 rfl
      go_wp2_with fail
      (with_reducible refine (AT1.out _ HI6.out).mono ?_)
      rintro r w6 ⟨rfl, hg⟩
      clear e0_ e1_ e2_ e3_ e4_ e5_ e6_ e7_ e8_ e9_ e10_
      have M7 := Lib.hid (M6.out.later hg); have MR7 := Lib.hid (MR.out.later hg); have HIQ7 := Lib.hid (HIQ.out.after hg)
      clear hg m0_0 m0_1 m0_2 T6 M6 HI6 MR HIQ hp4
      obtain ⟨m0_0, m0_1, m0_2⟩ := cells3 (M7.out.at 0 rfl)
      have T7 := Lib.hid MR7.out.prob
      have e0_ := cell_of T7.out 0 _ rfl; have e1_ := cell_of T7.out 1 _ rfl; have e2_ := cell_of T7.out 2 _ rfl; have e3_ := cell_of T7.out 3 _ rfl; have e4_ := cell_of T7.out 4 _ rfl; have e5_ := cell_of T7.out 5 _ rfl; have e6_ := cell_of T7.out 6 _ rfl; have e7_ := cell_of T7.out 7 _ rfl; have e8_ := cell_of T7.out 8 _ rfl; have e9_ := cell_of T7.out 9 _ rfl; have e10_ := cell_of T7.out 10 _ rfl
      go_wp2_with fail
      (with_reducible refine (SH1.out s hs0.1 (by omega) _ _ HIQ7.out).mono ?_)
      rintro r w7 ⟨rfl, hg⟩
      clear e0_ e1_ e2_ e3_ e4_ e5_ e6_ e7_ e8_ e9_ e10_
      have HG7 := Lib.hid (gb_trans M7.out.gr hg)
      clear hg m0_0 m0_1 m0_2 T7 M7 HIQ7 MR7
      have htm := TM1.out
      have wts : IntKind.i64.wrap (tq + s) = tq + s := by rw [IntKind.wrap_i64]; omega
      go_wp2_with fail
      (with_reducible refine (awake27_any _).mono ?_)
      rintro r w8 ⟨rfl, hg⟩
      have HGE := Lib.hid (gb_trans HG7.out hg)
      go_wp2_with fail
      go_ret
      exact ⟨rfl, gb_end HGE.out⟩
end Go.Proofs.Ytkckcaijfedijaa
