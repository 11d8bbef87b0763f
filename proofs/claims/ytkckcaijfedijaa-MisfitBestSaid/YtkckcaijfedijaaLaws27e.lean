/- The walk of MisfitBest. -/
import Derived.Test.YtkckcaijfedijaaAwake27
import Derived.Test.YtkckcaijfedijaaRef27
import Derived.Test.YtkckcaijfedijaaRgApp
import Derived.Test.YtkckcaijfedijaaRgPos
import Derived.Test.YtkckcaijfedijaaProb
import Derived.Test.YtkckcaijfedijaaLaws27b
namespace Go.Proofs.Ytkckcaijfedijaa
set_option linter.all false
open Go.RowKit Rg

/-- The zones of a drawn problem lie within 4000000000000. -/
theorem Good.zbound {P : Prob} (h : Good P) {b0 b1 b2 b3 b4 b5 : Int} (hw : wiP b0 b1 b2 b3 b4 b5 P.x0 P.y0 P.z0 P.x1 P.y1 P.z1 = true) (t : Int) (ht : t ∈ timesOf (zonesL P b0 b1 b2 b3 b4 b5)) : -4000000000000 ≤ t ∧ t ≤ 4000000000000 := by
  obtain ⟨q, hq, e⟩ := mem_timesOf.1 ht
  unfold zonesL at hq
  obtain ⟨a, ha, rfl⟩ := List.mem_map.1 hq
  have hN := ((h.near a ha).within hw).1
  obtain ⟨-, e1, e2⟩ := hN.zE (h.ph a ha).ok
  obtain ⟨n0, n1, n2⟩ := far_small hN.vb hN.vp
  have tb := time_bounds hN.ok n0 (by omega) (Int.le_trans (ceilI_mono n0 n1) hN.reach)
  have tb2 := time_bounds hN.ok (by omega : 0 ≤ farD b0 b1 b2 b3 b4 b5 a.x a.y a.z) (by omega) hN.reach
  have hg := h.ph a ha
  have hg1 := hg.2.1; have hg2 := hg.2.2.1; have hg3 := hg.2.2.2.1
  rcases e with e | e
  · rw [e]; show _ ≤ znF _ _ _ _ _ _ _ _ _ _ _ _ _ _ _ ∧ znF _ _ _ _ _ _ _ _ _ _ _ _ _ _ _ ≤ _; rw [e1]; omega
  · rw [e]; show _ ≤ znT _ _ _ _ _ _ _ _ _ _ _ _ _ _ _ ∧ znT _ _ _ _ _ _ _ _ _ _ _ _ _ _ _ ≤ _; rw [e2]; omega
theorem Good.rzonesC {P : Prob} (h : Good P) {vl vh vp : Value} {cs : Array Value} (hcs : cs = P.val vl vh vp) (b0 b1 b2 b3 b4 b5 : Int) (u : World) (hw : wiP b0 b1 b2 b3 b4 b5 P.x0 P.y0 P.z0 P.x1 P.y1 P.z1 = true) (hi : ProbIn P vl vh vp u) :
    Calls Try.prog 40 #[.agg cs, .agg #[.int .i64 b0, .int .i64 b1, .int .i64 b2, .int .i64 b3, .int .i64 b4, .int .i64 b5]] u fun e w' => ∃ v, e = .returned (.tuple #[v, .int .i64 0]) ∧ SlC 2 w' v (zonesL P b0 b1 b2 b3 b4 b5).length (flatZ (zonesL P b0 b1 b2 b3 b4 b5)) ∧ (∀ b off len cap, v = .slice (some ⟨b, off, none⟩) len cap → u.heap.size ≤ b) ∧ u.grownBy w' none := by
  have hb := rZones_any P vl vh vp b0 b1 b2 b3 b4 b5 u hi (by have := h.sound.some; omega)
  rw [hcs]
  refine hb.mono ?_
  rintro e w' (⟨-, v, rfl, h1, h3, h2⟩ | ⟨h0, -, -⟩)
  · exact ⟨_, rfl, h1, h3, h2⟩
  · exact absurd (h.zones hw) h0
theorem Pulled.grown {w : World} {B p : Nat} (u u' : World) (h : Pulled w B p u) (hg : u.grownBy u' none) : Pulled w B p u' := ⟨gb_trans h.1 (gb_none hg), h.2.later (row := none) hg (by simp)⟩
theorem Pull.none {p k : Nat} (u u' : World) (hg : u.grownBy u' none) : Pull p k u u' := gb_none hg
/-- Is t an end of one of the first k zones? -/
def endB (zs : List Zn) (t : Int) (k : Nat) : Bool := (zs.take k).any fun z => t == z.f || t == z.t
theorem endB_succ (zs : List Zn) (t : Int) (k : Nat) (h : k < zs.length) : endB zs t (k + 1) = (endB zs t k || (t == zs[k].f || t == zs[k].t)) := by
  unfold endB; rw [List.take_succ_eq_append_getElem h, List.any_append]; simp
theorem endB_all (zs : List Zn) (t : Int) (h : t ∈ timesOf zs) : endB zs t zs.length = true := by
  obtain ⟨z, hz, e⟩ := mem_timesOf.1 h
  unfold endB; rw [List.take_length]
  exact List.any_eq_true.2 ⟨z, hz, by rcases e with e | e <;> simp [e]⟩

set_option maxRecDepth 100000 in
set_option maxHeartbeats 4000000 in
theorem misfitBest_walk (w : World) (v : Value) (xs : List Int) (hs : Sl w v xs) (_hx : ∀ x ∈ xs, -9223372036854775808 ≤ x ∧ x ≤ 9223372036854775807) (n : Int) (h : -9223372036854775808 ≤ n) (h' : n ≤ 9223372036854775807) :
    Calls Try.prog 8 #[v, .int .i64 n] w fun e w' => e = .returned (.bool true) ∧ Below w.heap.size w w' := by
  go_enter Try.func8, Try.ntmps8
  go_wp2_with fail
  (with_reducible refine (new_any w v xs hs).mono ?_)
  rintro e w1 ⟨rfl, hS, hg⟩
  have S1 := Lib.hid hS; have M1 := Lib.hid (Mem.nil (p := w.heap.size) hg); clear hg hs hS
  go_wp2_with fail
  (with_reducible refine (problem_any w.heap.size w1 w.heap.size 30 7 S1.out (by omega) (by omega) (by omega) (by omega)).mono ?_)
  rintro e w2 ⟨P, vl, vh, vp, he, hB, hT, hre, -, hcap, hlen, hph, hin, hap, hS, hg⟩
  have M2 := Lib.hid (M1.out.draw hg (by omega)); have hp2 := hS.lt.2
  have gd := good_mk hB (by omega) hT hre.1 hcap hlen.1 (by omega) hph
  have hw1 := S1.out.lt.2
  have IND : Hid (∀ u u', ProbIn P vl vh vp u → u.grownBy u' (some w.heap.size) → ProbIn P vl vh vp u') := Lib.hid (fun u u' hi hg =>
    ⟨hi.l.later hg (fun b off len cap e _ => by have := hap vl (.inl rfl) b off len cap e; simp; omega), hi.h.later hg (fun b off len cap e _ => by have := hap vh (.inr (.inl rfl)) b off len cap e; simp; omega), hi.p.draw hg (fun b off len cap e _ => by have := hap vp (.inr (.inr rfl)) b off len cap e; omega)⟩)
  have S2 := Lib.hid hS
  have HCP : Hid (1 ≤ P.cap ∧ P.cap ≤ 1000) := Lib.hid (by simp only [List.mem_cons, List.not_mem_nil, or_false] at hcap; omega)
  clear hg hS S1 M1 hT hre hcap hph hap hw1
  obtain ⟨pa, pc, rfl⟩ := hin.p.slice
  obtain ⟨la, ln, lc, rfl⟩ := sl_slice hin.l
  obtain ⟨ha, hn, hc, rfl⟩ := sl_slice hin.h
  have HWR := wiP_refl gd.sound.vb
  have hzl := zonesL_length P P.x0 P.y0 P.z0 P.x1 P.y1 P.z1
  have RZC := Lib.hid (fun u hi => gd.rzonesC (vl := .slice la ln lc) (vh := .slice ha hn hc) (vp := .slice pa P.phs.length pc) rfl P.x0 P.y0 P.z0 P.x1 P.y1 P.z1 u HWR hi)
  have HFA := Lib.hid (gd.sound.fair P.x0 P.y0 P.z0 P.x1 P.y1 P.z1)
  have HBO := Lib.hid (gd.zbound HWR)
  have HSP := Lib.hid (best_spec (cap := P.cap) (phs := P.phs) (zs := zonesL P P.x0 P.y0 P.z0 P.x1 P.y1 P.z1) (by rw [hzl]; exact gd.sound.some.1))
  have HAL := Lib.hid (best_all (cap := P.cap) (phs := P.phs) (zs := zonesL P P.x0 P.y0 P.z0 P.x1 P.y1 P.z1) (by rw [hzl]; exact gd.sound.some.1) (gd.even HWR))
  have HB := Lib.hid hB; have HI2 := Lib.hid hin
  clear gd hin hB HWR
  generalize zonesL P P.x0 P.y0 P.z0 P.x1 P.y1 P.z1 = zs at *
  have hlz : 0 < zs.length ∧ zs.length ≤ 7 := by omega
  have BES := Lib.hid (fun (u : World) (vz : Value) (hp : SlC 6 u (.slice pa P.phs.length pc) P.phs.length (flatP P.phs)) (hz : SlC 2 u vz zs.length (flatZ zs)) => best_any P (.slice la ln lc) (.slice ha hn hc) (.slice pa P.phs.length pc) vz zs u hp hz HFA.out (by omega) hlz.1 rfl rfl)
  have RBE := Lib.hid (fun (u : World) (vz : Value) (hp : SlC 6 u (.slice pa P.phs.length pc) P.phs.length (flatP P.phs)) (hz : SlC 2 u vz zs.length (flatZ zs)) => rbest_any P (.slice la ln lc) (.slice ha hn hc) (.slice pa P.phs.length pc) vz zs u hp hz HFA.out hzl hlz.1 rfl rfl)
  have COS := Lib.hid (fun (t : Int) (ht : -72057594037927936 ≤ t ∧ t ≤ 72057594037927936) (u : World) (vz : Value) (hp : SlC 6 u (.slice pa P.phs.length pc) P.phs.length (flatP P.phs)) (hz : SlC 2 u vz zs.length (flatZ zs)) => cost_any P (.slice la ln lc) (.slice ha hn hc) (.slice pa P.phs.length pc) vz zs t u hp hz HFA.out ht (by omega))
  have RCO := Lib.hid (fun (t : Int) (ht : -72057594037927936 ≤ t ∧ t ≤ 72057594037927936) (u : World) (vz : Value) (hp : SlC 6 u (.slice pa P.phs.length pc) P.phs.length (flatP P.phs)) (hz : SlC 2 u vz zs.length (flatZ zs)) => rcost_any P (.slice la ln lc) (.slice ha hn hc) (.slice pa P.phs.length pc) vz zs t u hp hz HFA.out ht hzl)
  obtain ⟨x0, y0, z0, x1, y1, z1, step, ls, hs, phs, cap⟩ := P
  simp only [Prob.val] at RZC HFA HSP HAL BES RBE COS RCO HI2 HB HCP IND he hlen hzl
  subst he
  have HZL := Lib.hid hzl; clear hzl
  have hcp := HCP.out
  go_wp2_with fail
  refine calls_name (fun w3 hw => ?_)
  have M3 := Lib.hid (show Mem w (w.heap.size) _ _ w3 from by rw [hw]; exact (M2.out).alloc' (w2.heap.size) #[.int .i64 x0, .int .i64 y0, .int .i64 z0, .int .i64 x1, .int .i64 y1, .int .i64 z1, .int .i64 step, .slice la ln lc, .slice ha hn hc, .slice pa phs.length pc, .int .i64 cap] 68 hp2 rfl)
  have HI3 := Lib.hid (show ProbIn _ _ _ _ w3 from HI2.out.after (by rw [hw]; exact gb_alloc (gb_refl _ _) _))
  have S3 := Lib.hid (show Src w.heap.size w3 w.heap.size from by rw [hw]; exact S2.out.later (row := none) (gb_alloc (gb_refl _ _) _) (by simp))
  clear hw hp2 M2 HI2 S2
  generalize w2.heap.size = n2 at *
  (with_reducible refine (RZC.out w3 HI3.out).mono ?_)
  rintro r w4 ⟨zv, rfl, hsl, hfr, hg⟩
  have hp3 := S3.out.lt.2
  obtain ⟨zb, zoff, zcap, rfl, -⟩ := hsl.block hlz.1
  have hzb := hfr _ _ _ _ rfl
  have M4 := Lib.hid (M3.out.later hg); have HI4 := Lib.hid (HI3.out.after hg); have S4 := Lib.hid (S3.out.later (row := none) hg (by simp)); have ZS4 := Lib.hid hsl
  have hzp : zb ≠ w.heap.size := by omega
  clear hg hsl hfr M3 HI3 S3 RZC
  have T4 := Lib.hid (M4.out.at 0 rfl)
  have e0_ := cell_of T4.out 0 _ rfl; have e1_ := cell_of T4.out 1 _ rfl; have e2_ := cell_of T4.out 2 _ rfl; have e3_ := cell_of T4.out 3 _ rfl; have e4_ := cell_of T4.out 4 _ rfl; have e5_ := cell_of T4.out 5 _ rfl; have e6_ := cell_of T4.out 6 _ rfl; have e7_ := cell_of T4.out 7 _ rfl; have e8_ := cell_of T4.out 8 _ rfl; have e9_ := cell_of T4.out 9 _ rfl; have e10_ := cell_of T4.out 10 _ rfl
  go_wp2_with fail
  (with_reducible refine (BES.out w4 _ HI4.out.p ZS4.out).mono ?_)
  rintro r w5 ⟨rfl, hg⟩
  clear e0_ e1_ e2_ e3_ e4_ e5_ e6_ e7_ e8_ e9_ e10_
  have M5 := Lib.hid (M4.out.later hg); have HI5 := Lib.hid (HI4.out.after hg); have S5 := Lib.hid (S4.out.later (row := none) hg (by simp)); have ZS5 := Lib.hid (ZS4.out.after hg)
  clear hg M4 HI4 S4 ZS4 T4 BES
  have T5 := Lib.hid (M5.out.at 0 rfl)
  have e0_ := cell_of T5.out 0 _ rfl; have e1_ := cell_of T5.out 1 _ rfl; have e2_ := cell_of T5.out 2 _ rfl; have e3_ := cell_of T5.out 3 _ rfl; have e4_ := cell_of T5.out 4 _ rfl; have e5_ := cell_of T5.out 5 _ rfl; have e6_ := cell_of T5.out 6 _ rfl; have e7_ := cell_of T5.out 7 _ rfl; have e8_ := cell_of T5.out 8 _ rfl; have e9_ := cell_of T5.out 9 _ rfl; have e10_ := cell_of T5.out 10 _ rfl
  go_wp2_with fail
  (with_reducible refine (RBE.out w5 _ HI5.out.p ZS5.out).mono ?_)
  rintro r w6 ⟨rfl, hg⟩
  clear e0_ e1_ e2_ e3_ e4_ e5_ e6_ e7_ e8_ e9_ e10_
  have M6 := Lib.hid (M5.out.later hg); have HI6 := Lib.hid (HI5.out.after hg); have S6 := Lib.hid (S5.out.later (row := none) hg (by simp)); have ZS6 := Lib.hid (ZS5.out.after hg)
  clear hg M5 HI5 S5 ZS5 T5 RBE
  have hbt := HBO.out _ HSP.out.2.1
  have hbc := HSP.out.1
  have HEA := Lib.hid (endB_all zs _ HSP.out.2.1)
  have hfz := HFA.out.costN_in (best cap phs zs).1 phs.length (Nat.le_refl _)
  have HCO : Hid (cost cap phs zs (best cap phs zs).1 = (best cap phs zs).2) := Lib.hid hbc.symm
  clear HSP hfz hbc
  generalize (best cap phs zs).1 = bt at *
  generalize (best cap phs zs).2 = bc at *
  have T6 := Lib.hid (M6.out.at 0 rfl)
  have e0_ := cell_of T6.out 0 _ rfl; have e1_ := cell_of T6.out 1 _ rfl; have e2_ := cell_of T6.out 2 _ rfl; have e3_ := cell_of T6.out 3 _ rfl; have e4_ := cell_of T6.out 4 _ rfl; have e5_ := cell_of T6.out 5 _ rfl; have e6_ := cell_of T6.out 6 _ rfl; have e7_ := cell_of T6.out 7 _ rfl; have e8_ := cell_of T6.out 8 _ rfl; have e9_ := cell_of T6.out 9 _ rfl; have e10_ := cell_of T6.out 10 _ rfl
  have CB := Lib.hid (COS.out bt (by omega) w6 _ HI6.out.p ZS6.out)
  rw [HCO.out] at CB
  go_wp2_with fail
  (with_reducible refine CB.out.mono ?_)
  rintro r w7 ⟨rfl, hg⟩
  clear e0_ e1_ e2_ e3_ e4_ e5_ e6_ e7_ e8_ e9_ e10_
  have M7 := Lib.hid (M6.out.later hg); have HI7 := Lib.hid (HI6.out.after hg); have S7 := Lib.hid (S6.out.later (row := none) hg (by simp)); have ZS7 := Lib.hid (ZS6.out.after hg)
  clear hg M6 HI6 S6 ZS6 T6 CB
  go_wp2_with fail
  go_loopw [13, 62] (fun b i wr => ∃ k : Nat, k ≤ zs.length ∧ i = .int .i64 k ∧ b = .bool (endB zs bt k) ∧ w7 = wr) (fun _ i _ => zs.length - (intOf i).toNat)
  case atStart => exact ⟨0, by omega, rfl, rfl, rfl⟩
  case round =>
    obtain ⟨k, hk, rfl, rfl, rfl⟩ := hrel
    by_cases hlt : k < zs.length
    · obtain ⟨zb', zoff', zcap', hzv, hzb', -, -, hzcell⟩ := ZS7.out.block hlz.1
      simp only [Value.slice.injEq, Option.some.injEq, Addr.mk.injEq, true_and, and_true] at hzv
      obtain ⟨⟨rfl, rfl⟩, rfl⟩ := hzv
      obtain ⟨d0, d1⟩ := SlC.zn hzcell k hlt
      have HES := Lib.hid (endB_succ zs bt k hlt)
      clear hzcell
      generalize zs[k] = zk at *
      obtain ⟨zf, zt⟩ := zk
      simp only [] at d0 d1 HES
      cases he : endB zs bt k
      · by_cases h1 : bt = zf
        · have c1 : (bt == zf) = true := by simpa using h1
          clear h1
          go_wp2_with fail
          go_roundw
          case rel => exact ⟨k + 1, by omega, by go_num, congrArg Value.bool (by rw [HES.out, c1]; simp), trivial⟩
          case measure => simp [intOf]; omega
        · have c1 : (bt == zf) = false := by simpa using h1
          clear h1
          by_cases h2 : bt = zt
          · have c2 : (bt == zt) = true := by simpa using h2
            clear h2
            go_wp2_with fail
            go_roundw
            case rel => exact ⟨k + 1, by omega, by go_num, congrArg Value.bool (by rw [HES.out, c2]; simp), trivial⟩
            case measure => simp [intOf]; omega
          · have c2 : (bt == zt) = false := by simpa using h2
            clear h2
            go_wp2_with fail
            go_roundw
            case rel => exact ⟨k + 1, by omega, by go_num, congrArg Value.bool (by rw [HES.out, c1, c2, he]; simp), trivial⟩
            case measure => simp [intOf]; omega
      · go_wp2_with fail
        go_roundw
        case rel => exact ⟨k + 1, by omega, by go_num, congrArg Value.bool (by rw [HES.out, he]; simp), trivial⟩
        case measure => simp [intOf]; omega
    · obtain rfl : k = zs.length := by omega
      rw [HEA.out]
      obtain ⟨zb', zoff', zcap', hzv, hzb7, -, -, hzcell⟩ := ZS7.out.block hlz.1
      simp only [Value.slice.injEq, Option.some.injEq, Addr.mk.injEq, true_and, and_true] at hzv
      obtain ⟨⟨rfl, rfl⟩, rfl⟩ := hzv
      obtain ⟨d0, d1⟩ := SlC.zn hzcell 0 hlz.1
      rw [Nat.zero_mul, Nat.add_zero] at d0 d1
      have hb0 := HBO.out zs[0].f (mem_timesOf.2 ⟨zs[0], List.getElem_mem hlz.1, .inl rfl⟩)
      have hb1 := HBO.out zs[0].t (mem_timesOf.2 ⟨zs[0], List.getElem_mem hlz.1, .inr rfl⟩)
      clear hzcell
      generalize zs[0].f = zf0 at *
      generalize zs[0].t = zt0 at *
      have HMD := Lib.hid (fun u => mod_any n 6000 u (by omega) (by omega))
      have hmd : 0 ≤ n % 6000 ∧ n % 6000 < 6000 := by omega
      generalize n % 6000 = md at *
      have q0 := Pulled.cell (B := w.heap.size) (p := w.heap.size) d0 hzb7 hzp
      have q1 := Pulled.cell (B := w.heap.size) (p := w.heap.size) d1 hzb7 hzp
      have T7 := Lib.hid (M7.out.at 0 rfl)
      have e10 := cell_of T7.out 10 _ rfl
      have q10 := Pulled.cell (B := w.heap.size) (p := w.heap.size) e10 (M7.out.lt 0 rfl) (M7.out.blk _ (List.mem_singleton.2 rfl)).2
      have w0 : IntKind.i64.wrap (md - 1000) = md - 1000 := by rw [IntKind.wrap_i64]; omega
      have w1' : IntKind.i64.wrap (bt - 1) = bt - 1 := by rw [IntKind.wrap_i64]; omega
      have w2' : IntKind.i64.wrap (bt + 1) = bt + 1 := by rw [IntKind.wrap_i64]; omega
      have w5' : IntKind.i64.wrap (zt0 + cap) = zt0 + cap := by rw [IntKind.wrap_i64]; omega
      have w6' : IntKind.i64.wrap (zf0 - cap) = zf0 - cap := by rw [IntKind.wrap_i64]; omega
      have hp7 := S7.out.lt.2
      have hn0 : zs.length ≠ 0 := by omega
      go_wp2_with fail
      refine Rg.region (Pulled w7 w.heap.size w.heap.size) (Pull w.heap.size) (fun k => if k = 1 then some (isV (.int .i64 md)) else if k = 9 then some (isInt fun x => 0 ≤ x ∧ x < 500) else if k = 13 then some (isInt fun x => 0 ≤ x ∧ x < 500) else if k = 29 then some (isBlk w7 7 3) else none) (fun _ => false) 0 32 (by kernel_rfl) (by kernel_rfl) (by kernel_rfl) (by kernel_rfl) (by kernel_rfl) (by kernel_rfl) (by kernel_rfl) Pull.size (Pulled.start S7.out) (fun hne => ?_)
      (repeat (refine rLexL_quiet (by rfl) (by rfl) (by rfl) (by rfl) ?_; go_big_quiet_step (fail); refine wpQuiet_nil ?_))
      refine rg_fixG Pulled.grown Pull.none (.int .i64 md) 44 #[.int .i64 n, .int .i64 6000] rfl rfl rfl (fun _ => by go_simp) (fun u hu => same_grown (HMD.out u)) ?_
      simp only [Act.put, List.setIfInBounds_toArray, List.set_cons_zero, List.set_cons_succ]
      (repeat (refine rLexL_quiet (by rfl) (by rfl) (by rfl) (by rfl) ?_; go_big_quiet_step (fail); refine wpQuiet_nil ?_))
      refine rg_draw (fun x => 0 ≤ x ∧ x < 500) 30 #[.pointer (some ⟨w.heap.size, 0, none⟩), .int .i64 500] rfl rfl (fun _ => by go_simp) (fun u hu _ => n_any w.heap.size u w.heap.size _ hu.2 (by omega) (by omega)) (fun n1 hn1 => ?_)
      simp only [Act.put, List.setIfInBounds_toArray, List.set_cons_zero, List.set_cons_succ]
      have w3' : IntKind.i64.wrap (bt - n1) = bt - n1 := by rw [IntKind.wrap_i64]; omega
      (repeat (refine rLexL_quiet (by rfl) (by rfl) (by rfl) (by rfl) ?_; go_big_quiet_step (fail); refine wpQuiet_nil ?_))
      refine rg_draw (fun x => 0 ≤ x ∧ x < 500) 30 #[.pointer (some ⟨w.heap.size, 0, none⟩), .int .i64 500] rfl rfl (fun _ => by go_simp) (fun u hu _ => n_any w.heap.size u w.heap.size _ hu.2 (by omega) (by omega)) (fun n2' hn2 => ?_)
      simp only [Act.put, List.setIfInBounds_toArray, List.set_cons_zero, List.set_cons_succ]
      have w4' : IntKind.i64.wrap (bt + n2') = bt + n2' := by rw [IntKind.wrap_i64]; omega
      (repeat (refine rLexL_quiet (by rfl) (by rfl) (by rfl) (by rfl) ?_; go_big_quiet_step (fail); refine wpQuiet_nil ?_))
      refine rg_litB 7 #[.int .i64 (md - 1000), .int .i64 (bt - 1), .int .i64 (bt + 1), .int .i64 (bt - n1), .int .i64 (bt + n2'), .int .i64 (zt0 + cap), .int .i64 (zf0 - cap)] 3 rfl rfl rfl (fun _ => by go_simp) hp7 (fun nb hnb => ?_)
      simp only [Act.put, List.setIfInBounds_toArray, List.set_cons_zero, List.set_cons_succ]
      refine rLexL_val (.int .i64 7) (by rfl) (by rfl) (by rfl) (by rfl) (fun _ => by go_simp) ?_
      simp only [Act.put, List.setIfInBounds_toArray, List.set_cons_zero, List.set_cons_succ]
      (repeat (refine rLexL_quiet (by rfl) (by rfl) (by rfl) (by rfl) ?_; go_big_quiet_step (fail); refine wpQuiet_nil ?_))
      rintro wq ⟨hq, hqs⟩ hf -
      have HB8 : Hid (wq.heap[nb]? = some (.cells ([md - 1000, bt - 1, bt + 1, bt - n1, bt + n2', zt0 + cap, zf0 - cap].map (Value.int .i64)).toArray 3 (0, 0))) := Lib.hid (hf 29)
      have M8 := Lib.hid (M7.out.draw hq (Nat.le_refl _)); have HI8 := Lib.hid (IND.out _ _ HI7.out hq); have ZS8 := Lib.hid (ZS7.out.draw hq (fun b off len cap e _ => by simp only [Value.slice.injEq, Option.some.injEq, Addr.mk.injEq] at e; omega))
      have HLB : Hid (∀ o ∈ [md - 1000, bt - 1, bt + 1, bt - n1, bt + n2', zt0 + cap, zf0 - cap], -72057594037927936 ≤ o ∧ o ≤ 72057594037927936) := Lib.hid (by
        intro o ho
        simp only [List.mem_cons, List.not_mem_nil, or_false] at ho
        omega)
      clear hf hq hqs hne q0 q1 q10 e10 d0 d1 w0 w1' w2' w3' w4' w5' w6' M7 HI7 S7 ZS7 T7 HMD hzb7
      refine wpList_nil ?_
      obtain ⟨LL, hLL, hL7⟩ : ∃ LL : List Int, LL = [md - 1000, bt - 1, bt + 1, bt - n1, bt + n2', zt0 + cap, zf0 - cap] ∧ LL.length = 7 := ⟨_, rfl, rfl⟩
      rw [← hLL] at HB8 HLB
      go_wp2_with fail
      clear hLL
      go_loopw [116] (fun i wr => ∃ k : Nat, k ≤ 7 ∧ i = .int .i64 k ∧ wq.grownBy wr none) (fun i _ => 7 - (intOf i).toNat)
      case atStart => exact ⟨0, by omega, rfl, gb_refl _ _⟩
      case round =>
        obtain ⟨k, hk, rfl, hgr⟩ := hrel
        by_cases hlt : k < 7
        · have ck := row1 (block_kept hgr HB8.out rfl) k (by omega)
          have ho := HLB.out (LL[k]?.getD 0) (by rw [show LL[k]?.getD 0 = LL[k]'(by omega) by simp [hL7, hlt]]; exact List.getElem_mem _)
          generalize LL[k]?.getD 0 = o at *
          have M9 := Lib.hid (M8.out.later hgr); have HI9 := Lib.hid (HI8.out.after hgr); have ZS9 := Lib.hid (ZS8.out.after hgr); have HGR := Lib.hid hgr
          have CC := Lib.hid (COS.out o ho wr _ HI9.out.p ZS9.out)
          have RR := Lib.hid (fun u (hu : wr.grownBy u none) => RCO.out o ho u _ (HI9.out.p.after hu) (ZS9.out.after hu))
          have hal := HAL.out o
          generalize cost cap phs zs o = c at *
          have T9 := Lib.hid (M9.out.at 0 rfl)
          have e0_ := cell_of T9.out 0 _ rfl; have e1_ := cell_of T9.out 1 _ rfl; have e2_ := cell_of T9.out 2 _ rfl; have e3_ := cell_of T9.out 3 _ rfl; have e4_ := cell_of T9.out 4 _ rfl; have e5_ := cell_of T9.out 5 _ rfl; have e6_ := cell_of T9.out 6 _ rfl; have e7_ := cell_of T9.out 7 _ rfl; have e8_ := cell_of T9.out 8 _ rfl; have e9_ := cell_of T9.out 9 _ rfl; have e10_ := cell_of T9.out 10 _ rfl
          clear hgr
          go_wp2_with fail
          (with_reducible refine CC.out.mono ?_)
          rintro r wa ⟨rfl, hga⟩
          clear e0_ e1_ e2_ e3_ e4_ e5_ e6_ e7_ e8_ e9_ e10_
          have T10 := Lib.hid (block_kept hga T9.out rfl)
          have e0_ := cell_of T10.out 0 _ rfl; have e1_ := cell_of T10.out 1 _ rfl; have e2_ := cell_of T10.out 2 _ rfl; have e3_ := cell_of T10.out 3 _ rfl; have e4_ := cell_of T10.out 4 _ rfl; have e5_ := cell_of T10.out 5 _ rfl; have e6_ := cell_of T10.out 6 _ rfl; have e7_ := cell_of T10.out 7 _ rfl; have e8_ := cell_of T10.out 8 _ rfl; have e9_ := cell_of T10.out 9 _ rfl; have e10_ := cell_of T10.out 10 _ rfl
          have HGA := Lib.hid (gb_trans HGR.out hga)
          clear CC ck
          go_wp2_with fail
          (with_reducible refine (RR.out wa hga).mono ?_)
          rintro r wb ⟨rfl, hgb⟩
          clear e0_ e1_ e2_ e3_ e4_ e5_ e6_ e7_ e8_ e9_ e10_
          have HGB := Lib.hid (gb_trans HGA.out hgb)
          have ZSB := Lib.hid (ZS8.out.after HGB.out)
          clear RR hga hgb T9 T10
          go_wp2_with fail
          go_loopw [137] (fun i wr => ∃ j : Nat, j ≤ zs.length ∧ i = .int .i64 j ∧ wb.grownBy wr none) (fun i _ => zs.length - (intOf i).toNat)
          case atStart => exact ⟨0, by omega, rfl, gb_refl _ _⟩
          case round =>
            obtain ⟨j, hj, rfl, hgr⟩ := hrel
            by_cases hlj : j < zs.length
            · obtain ⟨zb', zoff', zcap', hzv, hzbj, -, -, hzcell⟩ := (ZSB.out.after hgr).block hlz.1
              simp only [Value.slice.injEq, Option.some.injEq, Addr.mk.injEq, true_and, and_true] at hzv
              obtain ⟨⟨rfl, rfl⟩, rfl⟩ := hzv
              obtain ⟨d0, d1⟩ := SlC.zn hzcell j hlj
              obtain ⟨t1, t2⟩ := HFA.out.tame j hlj
              rw [show zs[j]?.getD default = zs[j] by simp [hlj]] at t1 t2
              clear hzcell
              generalize zs[j] = zk at *
              have RA := Lib.hid (fun u => residual_any zk o u t1 t2 ho)
              have RB := Lib.hid (fun u => rresidual_any zk o u t1 t2 ho)
              generalize resid zk o = rs at *
              obtain ⟨zf, zt⟩ := zk
              simp only [] at d0 d1 RA RB
              have u1 := fun (x : Up wr) (c : Nat) => ever_cell x (b := zb) (o := c) hzbj
              have HGJ := Lib.hid hgr
              clear t1 t2 hgr
              go_wp2_with fail
              (refine wp_region_grown (by kernel_rfl) (by kernel_rfl) ?_; (repeat (go_big_quiet_step (first
                | (go_at_call 46; exact Calls.grown_of (RA.out _))
                | (go_at_call 47; exact Calls.grown_of (RB.out _))))); refine wpQuiet_nil ?_; intro wq hq)
              have HGN := Lib.hid (gb_trans HGJ.out hq)
              clear u1 d0 d1 hq
              go_wp2_with fail
              go_roundw
              case rel => exact ⟨j + 1, by omega, by go_num, HGN.out⟩
              case measure => simp [intOf]; omega
            · obtain rfl : j = zs.length := by omega
              have HGN := Lib.hid (gb_trans HGB.out hgr)
              go_wp2_with fail
              go_roundw
              case rel => exact ⟨k + 1, by omega, by go_num, HGN.out⟩
              case measure => simp [intOf]; omega
        · obtain rfl : k = 7 := by omega
          have HG9 := Lib.hid (gb_trans M8.out.gr hgr)
          go_wp2_with fail
          (with_reducible refine (awake27_any _).mono ?_)
          rintro r w8 ⟨rfl, hg⟩
          have HGE := Lib.hid (gb_trans HG9.out hg)
          go_wp2_with fail
          go_ret
          exact ⟨rfl, gb_end HGE.out⟩
end Go.Proofs.Ytkckcaijfedijaa
