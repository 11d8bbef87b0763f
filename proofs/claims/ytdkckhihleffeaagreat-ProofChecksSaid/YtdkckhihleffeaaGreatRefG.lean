/- The reference of chapter 27: Bound, At. -/
import Derived.Test.YtdkckhihleffeaaGreatRef27
import Derived.Test.YtdkckhihleffeaaGreatLit
namespace Go.Proofs.YtdkckhihleffeaaGreat
set_option linter.all false
open Go.RowKit Rg

/-- What Zones answers where nothing is wrong. -/
def ZnOk (zs : List Zn) (v : Value) (u : World) : Prop := ∃ s, v = .tuple #[s, .int .i64 0] ∧ SlC 2 u s zs.length (flatZ zs)
theorem ZnOk.after {zs : List Zn} (v : Value) (u u' : World) (h : ZnOk zs v u) (hg : u.grownBy u' none) : ZnOk zs v u' := by
  obtain ⟨s, e, h⟩ := h; exact ⟨s, e, h.after hg⟩
theorem ZnOk.out {zs : List Zn} {s : Value} {u : World} (h : ZnOk zs (.tuple #[s, .int .i64 0]) u) : SlC 2 u s zs.length (flatZ zs) := by
  obtain ⟨s', e, h⟩ := h
  simp only [Value.tuple.injEq, Array.mk.injEq, List.cons.injEq, and_true] at e
  rw [e]; exact h
theorem Zoned.ok {w : World} {E : Int} {zs : List Zn} {e : Ending} {w' : World} (h : Zoned w E zs e w') (hE : E = 0) : ∃ v, e = .returned v ∧ ZnOk zs v w' ∧ w.grownBy w' none := by
  rcases h with ⟨-, v, rfl, h1, -, h2⟩ | ⟨h0, -, -⟩
  · exact ⟨_, rfl, ⟨v, rfl, h1⟩, h2⟩
  · exact absurd hE h0
theorem Zoned.bad {w : World} {E : Int} {zs : List Zn} {e : Ending} {w' : World} (h : Zoned w E zs e w') (hE : E ≠ 0) : e = .returned (.tuple #[.slice none 0 0, .int .i64 E]) ∧ w.grownBy w' none := by
  rcases h with ⟨h0, -⟩ | ⟨-, rfl, h2⟩
  · exact absurd h0 hE
  · exact ⟨rfl, h2⟩

set_option maxRecDepth 100000 in
set_option maxHeartbeats 2000000 in
theorem rbound_any (P : Prob) (vl vh vp : Value) (b0 b1 b2 b3 b4 b5 : Int) (w : World) (hi : ProbIn P vl vh vp w) (hbig : P.phs.length ≤ 1000000000) :
    Calls Tryz.prog 43 #[.agg (P.val vl vh vp), .agg #[.int .i64 b0, .int .i64 b1, .int .i64 b2, .int .i64 b3, .int .i64 b4, .int .i64 b5]] w fun e w' => e = .returned (bdV P b0 b1 b2 b3 b4 b5) ∧ w.grownBy w' none := by
  have hg0 := gb_alloc (gb_alloc (gb_refl w none) (.cells (P.val vl vh vp) 36)) (.cells #[.int .i64 b0, .int .i64 b1, .int .i64 b2, .int .i64 b3, .int .i64 b4, .int .i64 b5] 25)
  have hT : ((w.alloc (.cells (P.val vl vh vp) 36)).alloc (.cells #[.int .i64 b0, .int .i64 b1, .int .i64 b2, .int .i64 b3, .int .i64 b4, .int .i64 b5] 25)).heap[w.heap.size]? = some (.cells (P.val vl vh vp) 36 (0, 0)) := by rw [heap_alloc_old _ _ (by simp), heap_alloc_new]
  have HI := Lib.hid (hi.after hg0); have HG0 := Lib.hid hg0; have HT := Lib.hid hT
  obtain ⟨pa, pc, rfl⟩ := hi.p.slice
  obtain ⟨la, ln, lc, rfl⟩ := sl_slice hi.l
  obtain ⟨ha, hn, hc, rfl⟩ := sl_slice hi.h
  clear hi hg0 hT
  have HZ := Lib.hid (fun (u : World) hu => rZones_any P (.slice la ln lc) (.slice ha hn hc) (.slice pa P.phs.length pc) b0 b1 b2 b3 b4 b5 u hu hbig)
  have HA : Hid (zonesE P b0 b1 b2 b3 b4 b5 = 0 → bdV P b0 b1 b2 b3 b4 b5 = .tuple #[.int .i64 (best P.cap P.phs (zonesL P b0 b1 b2 b3 b4 b5)).2, .int .i64 0]) := Lib.hid (fun h => if_pos h)
  have HA' : Hid (zonesE P b0 b1 b2 b3 b4 b5 ≠ 0 → bdV P b0 b1 b2 b3 b4 b5 = .tuple #[.int .i64 0, .int .i64 (zonesE P b0 b1 b2 b3 b4 b5)]) := Lib.hid (fun h => if_neg h)
  have HSO := Lib.hid (fun h => zonesE_sound (P := P) (b0 := b0) (b1 := b1) (b2 := b2) (b3 := b3) (b4 := b4) (b5 := b5) h)
  have HBE := Lib.hid (fun (u : World) (v : Value) (hS : Sound P) (h1 : SlC 6 u (.slice pa P.phs.length pc) P.phs.length (flatP P.phs)) (h2 : SlC 2 u v (zonesL P b0 b1 b2 b3 b4 b5).length (flatZ (zonesL P b0 b1 b2 b3 b4 b5))) => rbest_any P (.slice la ln lc) (.slice ha hn hc) (.slice pa P.phs.length pc) v (zonesL P b0 b1 b2 b3 b4 b5) u h1 h2 (hS.fair _ _ _ _ _ _) (zonesL_length P b0 b1 b2 b3 b4 b5) (by have := hS.some; simp [zonesL]; omega) rfl rfl)
  generalize zonesE P b0 b1 b2 b3 b4 b5 = zE at *
  generalize zonesL P b0 b1 b2 b3 b4 b5 = zL at *
  generalize bdV P b0 b1 b2 b3 b4 b5 = av at *
  obtain ⟨x0, y0, z0, x1, y1, z1, step, ls, hs, phs, cap⟩ := P
  simp only [Prob.val] at *
  generalize best cap phs zL = bb at *
  go_enter Tryz.func43, Tryz.ntmps43
  have e0_ := cell_of HT.out 0 _ rfl; have e1_ := cell_of HT.out 1 _ rfl; have e2_ := cell_of HT.out 2 _ rfl; have e3_ := cell_of HT.out 3 _ rfl; have e4_ := cell_of HT.out 4 _ rfl; have e5_ := cell_of HT.out 5 _ rfl; have e6_ := cell_of HT.out 6 _ rfl; have e7_ := cell_of HT.out 7 _ rfl; have e8_ := cell_of HT.out 8 _ rfl; have e9_ := cell_of HT.out 9 _ rfl; have e10_ := cell_of HT.out 10 _ rfl
  go_wp2_with fail
  generalize hw1 : (w.alloc (.cells #[.int .i64 x0, .int .i64 y0, .int .i64 z0, .int .i64 x1, .int .i64 y1, .int .i64 z1, .int .i64 step, .slice la ln lc, .slice ha hn hc, .slice pa phs.length pc, .int .i64 cap] 36)).alloc (.cells #[.int .i64 b0, .int .i64 b1, .int .i64 b2, .int .i64 b3, .int .i64 b4, .int .i64 b5] 25) = w1 at *
  clear hw1
  (with_reducible refine (HZ.out _ HI.out).mono ?_)
  rintro e w2 hZ
  clear e0_ e1_ e2_ e3_ e4_ e5_ e6_ e7_ e8_ e9_ e10_
  rcases hZ with ⟨h0, v, rfl, hsl, -, hg2⟩ | ⟨h0, rfl, hg2⟩
  · have HSL := Lib.hid hsl
    obtain ⟨va, vc, rfl⟩ := hsl.slice
    have HT2 := Lib.hid (block_kept hg2 HT.out rfl); have HG2 := Lib.hid (gb_trans HG0.out hg2); have HP2 := Lib.hid (HI.out.p.after hg2)
    clear hg2 hsl HT HI
    have e0_ := cell_of HT2.out 0 _ rfl; have e1_ := cell_of HT2.out 1 _ rfl; have e2_ := cell_of HT2.out 2 _ rfl; have e3_ := cell_of HT2.out 3 _ rfl; have e4_ := cell_of HT2.out 4 _ rfl; have e5_ := cell_of HT2.out 5 _ rfl; have e6_ := cell_of HT2.out 6 _ rfl; have e7_ := cell_of HT2.out 7 _ rfl; have e8_ := cell_of HT2.out 8 _ rfl; have e9_ := cell_of HT2.out 9 _ rfl; have e10_ := cell_of HT2.out 10 _ rfl
    go_wp2_with fail
    (with_reducible refine (HBE.out _ _ (HSO.out h0) HP2.out HSL.out).mono ?_)
    rintro e w3 ⟨rfl, hg3⟩
    have HG3 := Lib.hid (gb_trans HG2.out hg3)
    clear e0_ e1_ e2_ e3_ e4_ e5_ e6_ e7_ e8_ e9_ e10_
    go_wp2_with fail
    exact bodyPost_ret (v := .tuple #[.int .i64 bb.2, .int .i64 0]) (by simp [results, Tryz.results43, go_sem]) rfl ⟨by rw [HA.out h0], HG3.out⟩
  · have HG2 := Lib.hid (gb_trans HG0.out hg2)
    clear hg2
    go_wp2_with fail
    exact bodyPost_ret (v := .tuple #[.int .i64 0, .int .i64 zE]) (by simp [results, Tryz.results43, go_sem]) rfl ⟨by rw [HA'.out h0], HG2.out⟩
set_option maxRecDepth 100000 in
set_option maxHeartbeats 2000000 in
theorem rat_any (P : Prob) (vl vh vp : Value) (x y z : Int) (w : World) (hi : ProbIn P vl vh vp w) (hbig : P.phs.length ≤ 1000000000) :
    Calls Tryz.prog 33 #[.agg (P.val vl vh vp), .agg #[.int .i64 x, .int .i64 y, .int .i64 z]] w fun e w' => e = .returned (atV P x y z) ∧ w.grownBy w' none := by
  have hg0 := gb_alloc (gb_alloc (gb_refl w none) (.cells (P.val vl vh vp) 36)) (.cells #[.int .i64 x, .int .i64 y, .int .i64 z] 23)
  have hT : ((w.alloc (.cells (P.val vl vh vp) 36)).alloc (.cells #[.int .i64 x, .int .i64 y, .int .i64 z] 23)).heap[w.heap.size]? = some (.cells (P.val vl vh vp) 36 (0, 0)) := by rw [heap_alloc_old _ _ (by simp), heap_alloc_new]
  have HX0 : Hid (((w.alloc (.cells (P.val vl vh vp) 36)).alloc (.cells #[.int .i64 x, .int .i64 y, .int .i64 z] 23)).heap[w.heap.size + 1]? = some (.cells #[.int .i64 x, .int .i64 y, .int .i64 z] 23 (0, 0))) := Lib.hid (by simpa using heap_alloc_new (w.alloc _) _)
  have HI := Lib.hid (hi.after hg0); have HG0 := Lib.hid hg0; have HT := Lib.hid hT
  obtain ⟨pa, pc, rfl⟩ := hi.p.slice
  obtain ⟨la, ln, lc, rfl⟩ := sl_slice hi.l
  obtain ⟨ha, hn, hc, rfl⟩ := sl_slice hi.h
  clear hi hg0 hT
  have HZ := Lib.hid (fun (u : World) hu => rZones_any P (.slice la ln lc) (.slice ha hn hc) (.slice pa P.phs.length pc) x y z x y z u hu hbig)
  have HA : Hid (zonesE P x y z x y z = 0 → atV P x y z = .tuple #[.int .i64 (best P.cap P.phs (zonesL P x y z x y z)).1, .int .i64 (best P.cap P.phs (zonesL P x y z x y z)).2, .int .i64 0]) := Lib.hid (fun h => if_pos h)
  have HA' : Hid (zonesE P x y z x y z ≠ 0 → atV P x y z = .tuple #[.int .i64 0, .int .i64 0, .int .i64 (zonesE P x y z x y z)]) := Lib.hid (fun h => if_neg h)
  have HSO := Lib.hid (fun h => zonesE_sound (P := P) (b0 := x) (b1 := y) (b2 := z) (b3 := x) (b4 := y) (b5 := z) h)
  have HBE := Lib.hid (fun (u : World) (v : Value) (hS : Sound P) (h1 : SlC 6 u (.slice pa P.phs.length pc) P.phs.length (flatP P.phs)) (h2 : SlC 2 u v (zonesL P x y z x y z).length (flatZ (zonesL P x y z x y z))) => rbest_any P (.slice la ln lc) (.slice ha hn hc) (.slice pa P.phs.length pc) v (zonesL P x y z x y z) u h1 h2 (hS.fair _ _ _ _ _ _) (zonesL_length P x y z x y z) (by have := hS.some; simp [zonesL]; omega) rfl rfl)
  generalize zonesE P x y z x y z = zE at *
  generalize zonesL P x y z x y z = zL at *
  generalize atV P x y z = av at *
  obtain ⟨x0, y0, z0, x1, y1, z1, step, ls, hs, phs, cap⟩ := P
  simp only [Prob.val] at *
  generalize best cap phs zL = bb at *
  go_enter Tryz.func33, Tryz.ntmps33
  have e0_ := cell_of HT.out 0 _ rfl; have e1_ := cell_of HT.out 1 _ rfl; have e2_ := cell_of HT.out 2 _ rfl; have e3_ := cell_of HT.out 3 _ rfl; have e4_ := cell_of HT.out 4 _ rfl; have e5_ := cell_of HT.out 5 _ rfl; have e6_ := cell_of HT.out 6 _ rfl; have e7_ := cell_of HT.out 7 _ rfl; have e8_ := cell_of HT.out 8 _ rfl; have e9_ := cell_of HT.out 9 _ rfl; have e10_ := cell_of HT.out 10 _ rfl
  go_wp2_with fail
  generalize hw1 : (w.alloc (.cells #[.int .i64 x0, .int .i64 y0, .int .i64 z0, .int .i64 x1, .int .i64 y1, .int .i64 z1, .int .i64 step, .slice la ln lc, .slice ha hn hc, .slice pa phs.length pc, .int .i64 cap] 36)).alloc (.cells #[.int .i64 x, .int .i64 y, .int .i64 z] 23) = w1 at *
  clear hw1
  have HX : w1.heap[w.heap.size + 1]? = some (.cells #[.int .i64 x, .int .i64 y, .int .i64 z] 23 (0, 0)) := HX0.out
  obtain ⟨m0_, m1_, m2_⟩ := cells3 HX
  have u1 := Made.cells (block_lt' HT.out); have u2 := Made.cells (block_lt' HX)
  by_cases h0 : zE = 0
  · subst h0
    refine Rg.region (Made w1) Makes (fun k => if k = 2 then some (isV (.agg #[.int .i64 x, .int .i64 y, .int .i64 z, .int .i64 x, .int .i64 y, .int .i64 z])) else if k = 3 then some (isF (ZnOk zL)) else none) (fun _ => false) 0 9 (by kernel_rfl) (by kernel_rfl) (by kernel_rfl) (by kernel_rfl) (by kernel_rfl) (by kernel_rfl) (by kernel_rfl) Makes.size (Made.start w1) (fun hne => ?_)
    (repeat (refine rLexL_quiet (by rfl) (by rfl) (by rfl) (by rfl) ?_; go_big_quiet_step (fail); refine wpQuiet_nil ?_))
    refine rg_fix (.agg #[.int .i64 x, .int .i64 y, .int .i64 z, .int .i64 x, .int .i64 y, .int .i64 z]) 52 #[.agg #[.int .i64 x, .int .i64 y, .int .i64 z]] rfl rfl rfl (fun _ => by go_simp) (fun u hu => one_any _ _ _ u) ?_
    simp only [Act.put, List.setIfInBounds_toArray, List.set_cons_zero, List.set_cons_succ]
    refine rg_fixF (ZnOk zL) 51 #[.agg #[.int .i64 x0, .int .i64 y0, .int .i64 z0, .int .i64 x1, .int .i64 y1, .int .i64 z1, .int .i64 step, .slice la ln lc, .slice ha hn hc, .slice pa phs.length pc, .int .i64 cap], .agg #[.int .i64 x, .int .i64 y, .int .i64 z, .int .i64 x, .int .i64 y, .int .i64 z]] rfl rfl rfl ZnOk.after (fun _ => by go_simp) (fun u hu => (HZ.out u (HI.out.after hu)).mono fun e w' h => h.ok rfl) (fun zv zu hzv => ?_)
    obtain ⟨zsl, rfl, hsl⟩ := hzv
    obtain ⟨va, vc, rfl⟩ := hsl.slice
    clear hsl zu
    simp only [Act.put, List.setIfInBounds_toArray, List.set_cons_zero, List.set_cons_succ]
    (repeat (refine rLexL_quiet (by rfl) (by rfl) (by rfl) (by rfl) ?_; go_big_quiet_step (fail); refine wpQuiet_nil ?_))
    rintro wq hq hf -
    refine wpList_nil ?_
    have HSL := Lib.hid (ZnOk.out (hf 3))
    have HT2 := Lib.hid (block_kept hq HT.out rfl); have HG2 := Lib.hid (gb_trans HG0.out hq); have HP2 := Lib.hid (HI.out.p.after hq)
    clear hf hq hne u1 u2 m0_ m1_ m2_ HT HI
    clear e0_ e1_ e2_ e3_ e4_ e5_ e6_ e7_ e8_ e9_ e10_
    have e0_ := cell_of HT2.out 0 _ rfl; have e1_ := cell_of HT2.out 1 _ rfl; have e2_ := cell_of HT2.out 2 _ rfl; have e3_ := cell_of HT2.out 3 _ rfl; have e4_ := cell_of HT2.out 4 _ rfl; have e5_ := cell_of HT2.out 5 _ rfl; have e6_ := cell_of HT2.out 6 _ rfl; have e7_ := cell_of HT2.out 7 _ rfl; have e8_ := cell_of HT2.out 8 _ rfl; have e9_ := cell_of HT2.out 9 _ rfl; have e10_ := cell_of HT2.out 10 _ rfl
    go_wp2_with fail
    (with_reducible refine (HBE.out _ _ (HSO.out trivial) HP2.out HSL.out).mono ?_)
    rintro e w3 ⟨rfl, hg3⟩
    have HG3 := Lib.hid (gb_trans HG2.out hg3)
    clear e0_ e1_ e2_ e3_ e4_ e5_ e6_ e7_ e8_ e9_ e10_
    go_wp2_with fail
    exact bodyPost_ret (v := .tuple #[.int .i64 bb.1, .int .i64 bb.2, .int .i64 0]) (by simp [results, Tryz.results33, go_sem]) rfl ⟨by rw [HA.out trivial], HG3.out⟩
  · refine Rg.region (Made w1) Makes (fun k => if k = 2 then some (isV (.agg #[.int .i64 x, .int .i64 y, .int .i64 z, .int .i64 x, .int .i64 y, .int .i64 z])) else if k = 3 then some (isV (.tuple #[.slice none 0 0, .int .i64 zE])) else none) (fun _ => false) 0 9 (by kernel_rfl) (by kernel_rfl) (by kernel_rfl) (by kernel_rfl) (by kernel_rfl) (by kernel_rfl) (by kernel_rfl) Makes.size (Made.start w1) (fun hne => ?_)
    (repeat (refine rLexL_quiet (by rfl) (by rfl) (by rfl) (by rfl) ?_; go_big_quiet_step (fail); refine wpQuiet_nil ?_))
    refine rg_fix (.agg #[.int .i64 x, .int .i64 y, .int .i64 z, .int .i64 x, .int .i64 y, .int .i64 z]) 52 #[.agg #[.int .i64 x, .int .i64 y, .int .i64 z]] rfl rfl rfl (fun _ => by go_simp) (fun u hu => one_any _ _ _ u) ?_
    simp only [Act.put, List.setIfInBounds_toArray, List.set_cons_zero, List.set_cons_succ]
    refine rg_fix (.tuple #[.slice none 0 0, .int .i64 zE]) 51 #[.agg #[.int .i64 x0, .int .i64 y0, .int .i64 z0, .int .i64 x1, .int .i64 y1, .int .i64 z1, .int .i64 step, .slice la ln lc, .slice ha hn hc, .slice pa phs.length pc, .int .i64 cap], .agg #[.int .i64 x, .int .i64 y, .int .i64 z, .int .i64 x, .int .i64 y, .int .i64 z]] rfl rfl rfl (fun _ => by go_simp) (fun u hu => (HZ.out u (HI.out.after hu)).mono fun e w' h => h.bad h0) ?_
    simp only [Act.put, List.setIfInBounds_toArray, List.set_cons_zero, List.set_cons_succ]
    (repeat (refine rLexL_quiet (by rfl) (by rfl) (by rfl) (by rfl) ?_; go_big_quiet_step (fail); refine wpQuiet_nil ?_))
    rintro wq hq - -
    refine wpList_nil ?_
    have HG2 := Lib.hid (gb_trans HG0.out hq)
    clear hq hne u1 u2 m0_ m1_ m2_
    clear e0_ e1_ e2_ e3_ e4_ e5_ e6_ e7_ e8_ e9_ e10_
    go_wp2_with fail
    exact bodyPost_ret (v := .tuple #[.int .i64 0, .int .i64 0, .int .i64 zE]) (by simp [results, Tryz.results33, go_sem]) rfl ⟨by rw [HA'.out h0], HG2.out⟩

set_option maxRecDepth 100000 in
set_option maxHeartbeats 1000000 in
/-- Two rows of the same numbers. -/
theorem ints_same (v1 v2 : Value) (xs : List Int) (w : World) (h1 : Sl w v1 xs) (h2 : Sl w v2 xs) (hl : xs.length ≤ 1000000) :
    Calls Tryz.prog 15 #[v1, v2] w fun e w' => e = .returned (.bool true) ∧ w.grownBy w' none := by
  have H1 := Lib.hid h1; have H2 := Lib.hid h2
  obtain ⟨a1, c1, rfl⟩ := h1.shape; obtain ⟨a2, c2, rfl⟩ := h2.shape
  clear h1 h2
  go_enter Tryz.func15, Tryz.ntmps15
  go_wp2_with fail
  go_loopw [13] (fun i wr => ∃ k : Nat, k ≤ xs.length ∧ i = .int .i64 k ∧ w.grownBy wr none) (fun i _ => xs.length - (intOf i).toNat)
  case atStart => exact ⟨0, by omega, rfl, gb_refl _ _⟩
  case round =>
    obtain ⟨k, hk, rfl, hgr⟩ := hrel
    by_cases hlt : k < xs.length
    · have hkd : decide ((k : Int) < (xs.length : Int)) = true := decide_eq_true (by omega)
      obtain ⟨b1, o1, d1, e1, hb1, -, -, hc1⟩ := (H1.out.after hgr).block (by omega)
      obtain ⟨b2, o2, d2, e2, hb2, -, -, hc2⟩ := (H2.out.after hgr).block (by omega)
      simp only [Value.slice.injEq, true_and] at e1 e2
      obtain ⟨rfl, rfl⟩ := e1; obtain ⟨rfl, rfl⟩ := e2
      have x1 := hc1 k hlt; have x2 := hc2 k hlt
      have u1 := fun (x : Up wr) (c : Nat) => ever_cell x (b := b1) (o := c) hb1
      have u2 := fun (x : Up wr) (c : Nat) => ever_cell x (b := b2) (o := c) hb2
      have HGR := Lib.hid hgr
      clear hc1 hc2 hgr
      generalize at0 xs k = y at *
      go_wp2_with fail
      (refine wp_region_grown (by kernel_rfl) (by kernel_rfl) ?_; (repeat (go_big_quiet_step (fail))); refine wpQuiet_nil ?_; intro wq hq)
      have HGN := Lib.hid (gb_trans HGR.out hq)
      clear hq u1 u2 x1 x2
      go_wp2_with fail
      go_roundw
      case rel => exact ⟨k + 1, by omega, by go_num, HGN.out⟩
      case measure => simp [intOf]; omega
    · obtain rfl : k = xs.length := by omega
      have HGE := Lib.hid hgr
      go_wp2
      go_ret
      exact ⟨rfl, HGE.out⟩

end Go.Proofs.YtdkckhihleffeaaGreat
