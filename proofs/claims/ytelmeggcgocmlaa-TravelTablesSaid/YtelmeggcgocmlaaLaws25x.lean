/- The walk of TravelTables. Written by gen_law25x.py. -/
import Derived.Test.YtelmeggcgocmlaaAwake25
import Derived.Test.YtelmeggcgocmlaaRInt
import Derived.Test.YtelmeggcgocmlaaRDistW
import Derived.Test.YtelmeggcgocmlaaLit
namespace Go.Proofs.Ytelmeggcgocmlaa
set_option linter.all false
open Go.RowKit Rg

theorem intV_is (step : Int) (ls hs : List Int) (x0 y0 z0 x1 y1 z1 : Int) : ∃ a b c, intV step ls hs x0 y0 z0 x1 y1 z1 = .tuple #[.int .i64 a, .int .i64 b, .int .i64 c] := by
  unfold intV btw; split
  · split <;> exact ⟨_, _, _, rfl⟩
  · exact ⟨_, _, _, rfl⟩
theorem dV_is (step : Int) (ls hs : List Int) (t : Int) : ∃ a b c, dV step ls hs t = .tuple #[.int .i64 a, .int .i64 b, .int .i64 c] := by
  unfold dV; split <;> exact ⟨_, _, _, rfl⟩

set_option maxRecDepth 100000 in
set_option maxHeartbeats 16000000 in
theorem travelTables_walk (w : World) (rst : Int) (rvl rvh : Value) (rls rhs : List Int) (hr1 : Sl w rvl rls) (hr2 : Sl w rvh rhs) (nr : Int) (_hn1 : -9223372036854775808 ≤ nr) (_hn2 : nr ≤ 9223372036854775807) (fr : Int) (_hf1 : -9223372036854775808 ≤ fr) (hf2 : fr ≤ 9223372036854775807) (ti : Int) (_ht1 : -9223372036854775808 ≤ ti) (_ht2 : ti ≤ 9223372036854775807) (a0 a1 a2 b0 b1 b2 : Int) (v : Value) (xs : List Int) (hs : Sl w v xs) (_hx : ∀ x ∈ xs, -9223372036854775808 ≤ x ∧ x ≤ 9223372036854775807) :
    Calls Try.prog 4 #[.agg #[.int .i64 rst, rvl, rvh], .int .i64 nr, .int .i64 fr, .int .i64 ti, .agg #[.int .i64 a0, .int .i64 a1, .int .i64 a2], .agg #[.int .i64 b0, .int .i64 b1, .int .i64 b2], v] w fun e w' => e = .returned (.bool true) ∧ Below w.heap.size w w' := by
  obtain ⟨ra, rn, rc, rfl⟩ := sl_slice hr1; obtain ⟨sa, sn, sc, rfl⟩ := sl_slice hr2
  have hv : v.oneCell' = true := by obtain ⟨va, vn, vc, rfl⟩ := sl_slice hs; rfl
  have HFR := Lib.hid hf2; clear hf2
  go_enter Try.func4, Try.ntmps4
  have k0_0 : (w.alloc (.cells #[.int .i64 rst, .slice ra rn rc, .slice sa sn sc] 46)).heap[w.heap.size]? = some (.cells #[.int .i64 rst, .slice ra rn rc, .slice sa sn sc] 46 (0, 0)) := by exact heap_alloc_new _ _
  have k0_1 := block_kept (gb_alloc (gb_refl (w.alloc (.cells #[.int .i64 rst, .slice ra rn rc, .slice sa sn sc] 46)) none) (.cells #[.int .i64 a0, .int .i64 a1, .int .i64 a2] 23)) k0_0 rfl
  have k1_1 : ((w.alloc (.cells #[.int .i64 rst, .slice ra rn rc, .slice sa sn sc] 46)).alloc (.cells #[.int .i64 a0, .int .i64 a1, .int .i64 a2] 23)).heap[w.heap.size + 1]? = some (.cells #[.int .i64 a0, .int .i64 a1, .int .i64 a2] 23 (0, 0)) := by simpa using heap_alloc_new (w.alloc (.cells #[.int .i64 rst, .slice ra rn rc, .slice sa sn sc] 46)) (.cells #[.int .i64 a0, .int .i64 a1, .int .i64 a2] 23)
  clear k0_0
  have k0_2 := block_kept (gb_alloc (gb_refl ((w.alloc (.cells #[.int .i64 rst, .slice ra rn rc, .slice sa sn sc] 46)).alloc (.cells #[.int .i64 a0, .int .i64 a1, .int .i64 a2] 23)) none) (.cells #[.int .i64 b0, .int .i64 b1, .int .i64 b2] 23)) k0_1 rfl
  have k1_2 := block_kept (gb_alloc (gb_refl ((w.alloc (.cells #[.int .i64 rst, .slice ra rn rc, .slice sa sn sc] 46)).alloc (.cells #[.int .i64 a0, .int .i64 a1, .int .i64 a2] 23)) none) (.cells #[.int .i64 b0, .int .i64 b1, .int .i64 b2] 23)) k1_1 rfl
  have k2_2 : (((w.alloc (.cells #[.int .i64 rst, .slice ra rn rc, .slice sa sn sc] 46)).alloc (.cells #[.int .i64 a0, .int .i64 a1, .int .i64 a2] 23)).alloc (.cells #[.int .i64 b0, .int .i64 b1, .int .i64 b2] 23)).heap[w.heap.size + 1 + 1]? = some (.cells #[.int .i64 b0, .int .i64 b1, .int .i64 b2] 23 (0, 0)) := by simpa using heap_alloc_new ((w.alloc (.cells #[.int .i64 rst, .slice ra rn rc, .slice sa sn sc] 46)).alloc (.cells #[.int .i64 a0, .int .i64 a1, .int .i64 a2] 23)) (.cells #[.int .i64 b0, .int .i64 b1, .int .i64 b2] 23)
  clear k0_1 k1_1
  have hgw : w.grownBy (((w.alloc (.cells #[.int .i64 rst, .slice ra rn rc, .slice sa sn sc] 46)).alloc (.cells #[.int .i64 a0, .int .i64 a1, .int .i64 a2] 23)).alloc (.cells #[.int .i64 b0, .int .i64 b1, .int .i64 b2] 23)) none := gb_alloc (gb_alloc (gb_alloc (gb_refl w none) _) _) _
  have K0 := Lib.hid k0_2
  have K1 := Lib.hid k1_2
  have K2 := Lib.hid k2_2
  clear k0_2 k1_2 k2_2
  have HR1 := Lib.hid (hr1.after hgw); have HR2 := Lib.hid (hr2.after hgw); have HV := Lib.hid (hs.after hgw); have GW := Lib.hid hgw
  clear hr1 hr2 hs hgw
  obtain ⟨e0_, e1_, e2_⟩ := cells3 K0.out
  go_wp2_with fail
  refine calls_name (fun w1 hw => ?_)
  clear e0_ e1_ e2_
  have K0 := Lib.hid (show w1.heap[w.heap.size]? = some (.cells #[.int .i64 rst, .slice ra rn rc, .slice sa sn sc] 46 (0, 0)) from by rw [hw]; exact K0.out)
  have K1 := Lib.hid (show w1.heap[w.heap.size + 1]? = some (.cells #[.int .i64 a0, .int .i64 a1, .int .i64 a2] 23 (0, 0)) from by rw [hw]; exact K1.out)
  have K2 := Lib.hid (show w1.heap[w.heap.size + 1 + 1]? = some (.cells #[.int .i64 b0, .int .i64 b1, .int .i64 b2] 23 (0, 0)) from by rw [hw]; exact K2.out)
  have HR1 := Lib.hid (show Sl w1 _ _ from by rw [hw]; exact HR1.out); have HR2 := Lib.hid (show Sl w1 _ _ from by rw [hw]; exact HR2.out); have HV := Lib.hid (show Sl w1 _ _ from by rw [hw]; exact HV.out); have GW := Lib.hid (show w.grownBy w1 none from by rw [hw]; exact GW.out)
  clear hw
  (with_reducible refine (smallTable_any _ _ _ rls rhs w1 HR1.out HR2.out).mono ?_)
  rintro r w2 ⟨rfl, hg⟩
  have K0 := Lib.hid (block_kept hg K0.out rfl)
  have K1 := Lib.hid (block_kept hg K1.out rfl)
  have K2 := Lib.hid (block_kept hg K2.out rfl)
  have HR1 := Lib.hid (HR1.out.after hg); have HR2 := Lib.hid (HR2.out.after hg); have HV := Lib.hid (HV.out.after hg); have GW := Lib.hid (gb_trans GW.out hg)
  clear hg
  cases hsm : (decide (rls.length ≤ 300) && decide (rhs.length ≤ 300))
  · go_wp2_with fail
    (with_reducible refine (awake25_any _).mono ?_)
    rintro r w3 ⟨rfl, hg⟩
    have HGE := Lib.hid (gb_trans GW.out hg)
    go_wp2_with fail
    go_ret
    exact ⟨rfl, gb_end HGE.out⟩
  clear hsm
  go_wp2_with fail
  (with_reducible refine (new_any w2 v xs HV.out).mono ?_)
  rintro e w3 ⟨rfl, hS, hg⟩
  have hlt := block_lt' K2.out
  have S3 := Lib.hid hS
  have M3 := Lib.hid (((((Mem.nil (w0 := w2) (p := w2.heap.size) hg).more (block_kept hg K0.out rfl) (by have := block_lt' K0.out; omega)).more (block_kept hg K1.out rfl) (by have := block_lt' K1.out; omega)).more (block_kept hg K2.out rfl) (by have := block_lt' K2.out; omega)))
  have A1 : Apart w2.heap.size (.slice ra rn rc) := HR1.out.apart_lt (Nat.le_refl _)
  have A2 : Apart w2.heap.size (.slice sa sn sc) := HR2.out.apart_lt (Nat.le_refl _)
  have TB3 := Lib.hid (TbIn.mk (HR1.out.after hg) (HR2.out.after hg) A1 A2 : TbIn w2.heap.size w3 ⟨rst, .slice ra rn rc, .slice sa sn sc⟩)
  clear hg hS A1 A2 HR1 HR2 HV K0 K1 K2 hlt
  go_wp2_with fail
  generalize hq : w2.heap.size = q at *
  have hq2 : w2.heap.size ≤ q := by omega
  clear hq
  (with_reducible refine (table_any q w3 q S3.out).mono ?_)
  rintro e w4 ⟨tst, tvl, tvh, tls, ths, rfl, hT, -, -, htn, ol, oh, -, hS, hg⟩
  have hp3 := S3.out.lt.2
  have M4 := Lib.hid (M3.out.draw hg hq2); have S4 := Lib.hid (hS); have TB4 := Lib.hid (TB3.out.draw hg)
  clear hg hS M3 S3 TB3
  have TT4 : Hid (TbOf q w4 ⟨tst, tvl, tvh⟩ tls ths) := Lib.hid ⟨Sl_of_owns ol rfl, Sl_of_owns oh rfl, owns_sl_apart ol hp3, owns_sl_apart oh hp3⟩
  have HL := Lib.hid (Sl_of_owns ol rfl : Sl w4 tvl tls); have HH := Lib.hid (Sl_of_owns oh rfl : Sl w4 tvh ths)
  have hlen : 2 ≤ tls.length ∧ tls.length = ths.length ∧ tls.length ≤ 300 := ⟨hT.2.2.2.1, hT.2.2.1, by omega⟩
  have HLEN := Lib.hid hlen
  obtain ⟨ta, tn, tc, rfl⟩ := sl_slice HL.out; obtain ⟨ua, un, uc, rfl⟩ := sl_slice HH.out
  clear ol oh hT htn HL HH hlen hp3
  have hp_ := S4.out.lt.2
  have ha_ : w4.grownBy (w4.alloc (.cells #[.int .i64 tst, .slice ta tn tc, .slice ua un uc] 46)) none := gb_alloc (gb_refl _ _) _
  have hb_ := heap_alloc_new w4 (.cells #[.int .i64 tst, .slice ta tn tc, .slice ua un uc] 46)
  have M5 := Lib.hid (M4.out.later ha_); have S5 := Lib.hid (S4.out.later (row := none) ha_ (by simp)); have TB5 := Lib.hid (TB4.out.draw (gb_none ha_)); have TT5 := Lib.hid (TT4.out.draw (gb_none ha_))
  have M5 := Lib.hid (M5.out.more hb_ (by omega))
  clear hp_ ha_ hb_ M4 S4 TB4 TT4
  go_wp2_with fail
  generalize w4.alloc (.cells #[.int .i64 tst, .slice ta tn tc, .slice ua un uc] 46) = w5 at *
  generalize w4.heap.size = goodb at *
  obtain ⟨raw0_, raw1_, raw2_⟩ := cells3 (M5.out.at 3 rfl)
  obtain ⟨good0_, good1_, good2_⟩ := cells3 (M5.out.at 0 rfl)
  have uraw_ := M5.out.pulled (B := q) 3 rfl
  have ugood_ := M5.out.pulled (B := q) 0 rfl
  have hp_ := S5.out.lt.2
  refine Rg.region (Pulled w5 q q) (Pull q) (fun k => if k = 4 then some (fun _ v u => BentV q 0 v u) else if k = 5 then some (isBlk w5 3 46) else none) (fun _ => false) 0 8 (by kernel_rfl) (by kernel_rfl) (by kernel_rfl) (by kernel_rfl) (by kernel_rfl) (by kernel_rfl) (by kernel_rfl) Pull.size (Pulled.start S5.out) (fun hne => ?_)
  (repeat (refine rLexL_quiet (by rfl) (by rfl) (by rfl) (by rfl) ?_; go_big_quiet_step (fail); refine wpQuiet_nil ?_))
  refine rg_drawM (BentV q 0) 32 #[.pointer (some ⟨q, 0, none⟩), .agg #[.int .i64 tst, .slice ta tn tc, .slice ua un uc]] rfl rfl (fun v u u' h hg => by obtain ⟨t, e, h⟩ := h; exact ⟨t, e, h.draw hg⟩) (fun _ => by go_simp) (fun u hu => (bentTable_any q u q tst _ _ tls ths hu.2 (TT5.out.draw hu.1).1 (TT5.out.draw hu.1).2.1 HLEN.out.1 HLEN.out.2.1 HLEN.out.2.2).mono fun e w' h => h.draw hu.2.lt.2) (fun vb ub hvb => ?_)
  obtain ⟨⟨bst, bvl, bvh⟩, rfl, bls, bhs, f1, f2, -, -⟩ := hvb
  obtain ⟨ba, bn, bc, rfl⟩ := sl_slice f1; obtain ⟨ca, cn, cc, rfl⟩ := sl_slice f2
  clear f1 f2 ub
  simp only [Act.put, List.setIfInBounds_toArray, List.set_cons_zero, List.set_cons_succ]
  (repeat (refine rLexL_quiet (by rfl) (by rfl) (by rfl) (by rfl) ?_; go_big_quiet_step (fail); refine wpQuiet_nil ?_))
  refine rg_litB 3 #[.int .i64 rst, .slice ra rn rc, .slice sa sn sc, .int .i64 tst, .slice ta tn tc, .slice ua un uc, .int .i64 bst, .slice ba bn bc, .slice ca cn cc] 46 rfl rfl rfl (fun _ => by go_simp) hp_ (fun nb nbh => ?_)
  simp only [Act.put, List.setIfInBounds_toArray, List.set_cons_zero, List.set_cons_succ]
  (repeat (refine rLexL_quiet (by rfl) (by rfl) (by rfl) (by rfl) ?_; go_big_quiet_step (fail); refine wpQuiet_nil ?_))
  refine rLexL_val (.int .i64 3) (by rfl) (by rfl) (by rfl) (by rfl) (fun _ => by go_simp) ?_
  simp only [Act.put, List.setIfInBounds_toArray, List.set_cons_zero, List.set_cons_succ]
  (repeat (refine rLexL_quiet (by rfl) (by rfl) (by rfl) (by rfl) ?_; go_big_quiet_step (fail); refine wpQuiet_nil ?_))
  rintro wq ⟨hgq, hqs⟩ hf -
  have h4 : BentV q 0 (.agg #[.int .i64 bst, .slice ba bn bc, .slice ca cn cc]) wq := hf 4
  have HLnb : Hid (∀ t ∈ ([⟨rst, .slice ra rn rc, .slice sa sn sc⟩, ⟨tst, .slice ta tn tc, .slice ua un uc⟩, ⟨bst, .slice ba bn bc, .slice ca cn cc⟩] : List Tb), TbIn q wq t) := Lib.hid (by
    intro t ht
    simp only [List.mem_cons, List.not_mem_nil, or_false] at ht
    rcases ht with rfl | rfl | rfl
    · exact TB5.out.draw hgq
    · exact (TT5.out.draw hgq).in
    · exact h4.out)
  clear h4
  have HBnb : Hid (wq.heap[nb]? = some (.cells (flatT [⟨rst, .slice ra rn rc, .slice sa sn sc⟩, ⟨tst, .slice ta tn tc, .slice ua un uc⟩, ⟨bst, .slice ba bn bc, .slice ca cn cc⟩]).toArray 46 (0, 0))) := Lib.hid (hf 5)
  have hnnb : nb ≠ q := by omega
  generalize wq = w6 at *
  have M6 := Lib.hid (M5.out.draw hgq hq2); have S6 := Lib.hid (hqs); have TB6 := Lib.hid (TB5.out.draw hgq); have TT6 := Lib.hid (TT5.out.draw hgq)
  clear hf hgq hqs hne hp_ nbh M5 S5 TB5 TT5 raw0_ raw1_ raw2_ good0_ good1_ good2_ uraw_ ugood_
  refine wpList_nil ?_
  obtain ⟨Lnb, hL, hLnb⟩ : ∃ Lnb : List Tb, Lnb = [⟨rst, .slice ra rn rc, .slice sa sn sc⟩, ⟨tst, .slice ta tn tc, .slice ua un uc⟩, ⟨bst, .slice ba bn bc, .slice ca cn cc⟩] ∧ Lnb.length = 3 := ⟨_, rfl, rfl⟩
  rw [← hL] at HBnb
  rw [← hL] at HLnb
  clear hL
  go_wp2_with fail
  go_loopw [58] (fun i wr => ∃ k : Nat, k ≤ 3 ∧ i = .int .i64 k ∧ Src q wr q ∧ w6.grownBy wr (some q)) (fun i _ => 3 - (intOf i).toNat)
  case atStart => exact ⟨0, by omega, rfl, S6.out, gb_refl _ _⟩
  case round =>
    obtain ⟨knb, hknb, rfl, hS, hgr⟩ := hrel
    by_cases hltnb : knb < 3
    · have hkLnb : knb < Lnb.length := by omega
      have hkdnb : decide ((knb : Int) < 3) = true := decide_eq_true (by omega)
      obtain ⟨r0_, r1_, r2_⟩ := rowT (block_keptp hgr HBnb.out hnnb) knb hkLnb
      generalize wr = w100 at *
      have Gnb_6 := Lib.hid (gb_refl w6 (some q))
      have M100 := Lib.hid (M6.out.draw hgr hq2); have S100 := Lib.hid (hS); have TB100 := Lib.hid (TB6.out.draw hgr); have TT100 := Lib.hid (TT6.out.draw hgr); have Gnb_100 := Lib.hid (gb_trans Gnb_6.out hgr)
      clear hgr hS
      have hin := (HLnb.out _ (List.getElem_mem hkLnb)).draw Gnb_100.out
      generalize Lnb[knb] = tp at *
      obtain ⟨est, evl, evh⟩ := tp
      obtain ⟨els, ehs, hin⟩ := hin
      obtain ⟨ea, en, ec, he⟩ := sl_slice hin.1; obtain ⟨fa, fn, fc, he'⟩ := sl_slice hin.2.1
      simp only [] at r0_ r1_ r2_ he he'
      subst he; subst he'
      have TE100 := Lib.hid hin; clear hin
      clear TB100 TT100
      have VA := Lib.hid (fun (u : World) (h : TbOf q u ⟨est, .slice ea en ec, .slice fa fn fc⟩ els ehs) => validate_any est _ _ els ehs u h.1 h.2.1); have VB := Lib.hid (fun (u : World) (h : TbOf q u ⟨est, .slice ea en ec, .slice fa fn fc⟩ els ehs) => rvalidate_any est _ _ els ehs u h.1 h.2.1)
      have RA := Lib.hid (fun (u : World) (h : TbOf q u ⟨est, .slice ea en ec, .slice fa fn fc⟩ els ehs) => Reach_any est _ _ els ehs u h.1 h.2.1); have RB := Lib.hid (fun (u : World) (h : TbOf q u ⟨est, .slice ea en ec, .slice fa fn fc⟩ els ehs) => rReach_any est _ _ els ehs u h.1 h.2.1)
      have BA := Lib.hid (fun (x y : Int) (hy : y ≤ 9223372036854775807) (u : World) (h : TbOf q u ⟨est, .slice ea en ec, .slice fa fn fc⟩ els ehs) => between_any est x y _ _ els ehs u h.1 h.2.1 hy); have BB := Lib.hid (fun (x y : Int) (hy : y ≤ 9223372036854775807) (u : World) (h : TbOf q u ⟨est, .slice ea en ec, .slice fa fn fc⟩ els ehs) => rbetween_any est x y _ _ els ehs u h.1 h.2.1 hy)
      have IA := Lib.hid (fun (c0 c1 c2 d0 d1 d2 : Int) (u : World) (h : TbOf q u ⟨est, .slice ea en ec, .slice fa fn fc⟩ els ehs) => interval_any est _ _ els ehs c0 c1 c2 d0 d1 d2 u h.1 h.2.1); have IB := Lib.hid (fun (c0 c1 c2 d0 d1 d2 : Int) (u : World) (h : TbOf q u ⟨est, .slice ea en ec, .slice fa fn fc⟩ els ehs) => rinterval_any est _ _ els ehs c0 c1 c2 d0 d1 d2 u h.1 h.2.1)
      have II := Lib.hid (fun (c0 c1 c2 d0 d1 d2 : Int) => intV_is est els ehs c0 c1 c2 d0 d1 d2)
      have DA := Lib.hid (fun (t : Int) (u : World) (h : TbOf q u ⟨est, .slice ea en ec, .slice fa fn fc⟩ els ehs) => distances_any est t _ _ els ehs u h.1 h.2.1); have DB := Lib.hid (fun (t : Int) (u : World) (h : TbOf q u ⟨est, .slice ea en ec, .slice fa fn fc⟩ els ehs) => rdistances_any est t _ _ els ehs u h.1 h.2.1)
      have DI := Lib.hid (fun (t : Int) => dV_is est els ehs t)
      generalize tE est els ehs = vE at *
      generalize reachV est els ehs = rV at *
      generalize intV est els ehs = iV at *
      generalize dV est els ehs = dW at *
      simp only [btw] at BA BB
      generalize btwA est els ehs = tA at *
      generalize btwB est els ehs = tB at *
      generalize btwE est els ehs = tX at *
      have hp_ := S100.out.lt.2
      have ha_ : w100.grownBy (w100.alloc (.cells #[.int .i64 est, .slice ea en ec, .slice fa fn fc] 46)) none := gb_alloc (gb_refl _ _) _
      have hb_ := heap_alloc_new w100 (.cells #[.int .i64 est, .slice ea en ec, .slice fa fn fc] 46)
      have M101 := Lib.hid (M100.out.later ha_); have S101 := Lib.hid (S100.out.later (row := none) ha_ (by simp)); have Gnb_101 := Lib.hid (gb_trans Gnb_100.out (gb_none ha_)); have TE101 := Lib.hid (TE100.out.draw (gb_none ha_))
      have M101 := Lib.hid (M101.out.more hb_ (by omega))
      clear hp_ ha_ hb_ M100 S100 Gnb_100 TE100
      go_wp2_with fail
      generalize w100.alloc (.cells #[.int .i64 est, .slice ea en ec, .slice fa fn fc] 46) = w101 at *
      generalize w100.heap.size = tbb at *
      clear r0_ r1_ r2_
      obtain ⟨tb0_, tb1_, tb2_⟩ := cells3 (M101.out.at 0 rfl)
      have utb_ := M101.out.made 0 rfl
      refine Rg.region (Made w101) Makes (fun k => if k = 1 then some (isV (.int .i64 vE)) else if k = 3 then some (isV (.int .i64 vE)) else if k = 7 then some (isV (.int .i64 rV)) else if k = 9 then some (isV (.int .i64 rV)) else none) (fun _ => false) 0 12 (by kernel_rfl) (by kernel_rfl) (by kernel_rfl) (by kernel_rfl) (by kernel_rfl) (by kernel_rfl) (by kernel_rfl) Makes.size (Made.start w101) (fun hne => ?_)
      (repeat (refine rLexL_quiet (by rfl) (by rfl) (by rfl) (by rfl) ?_; go_big_quiet_step (fail); refine wpQuiet_nil ?_))
      refine rg_fix (.int .i64 vE) 33 #[.agg #[.int .i64 est, .slice ea en ec, .slice fa fn fc]] rfl rfl rfl (fun _ => by go_simp) (fun u hu => VA.out u (TE101.out.draw (gb_none hu))) ?_
      simp only [Act.put, List.setIfInBounds_toArray, List.set_cons_zero, List.set_cons_succ]
      (repeat (refine rLexL_quiet (by rfl) (by rfl) (by rfl) (by rfl) ?_; go_big_quiet_step (fail); refine wpQuiet_nil ?_))
      refine rg_fix (.int .i64 vE) 34 #[.agg #[.int .i64 est, .slice ea en ec, .slice fa fn fc]] rfl rfl rfl (fun _ => by go_simp) (fun u hu => VB.out u (TE101.out.draw (gb_none hu))) ?_
      simp only [Act.put, List.setIfInBounds_toArray, List.set_cons_zero, List.set_cons_succ]
      (repeat (refine rLexL_quiet (by rfl) (by rfl) (by rfl) (by rfl) ?_; go_big_quiet_step (fail); refine wpQuiet_nil ?_))
      refine rg_fix (.int .i64 rV) 35 #[.agg #[.int .i64 est, .slice ea en ec, .slice fa fn fc]] rfl rfl rfl (fun _ => by go_simp) (fun u hu => RA.out u (TE101.out.draw (gb_none hu))) ?_
      simp only [Act.put, List.setIfInBounds_toArray, List.set_cons_zero, List.set_cons_succ]
      (repeat (refine rLexL_quiet (by rfl) (by rfl) (by rfl) (by rfl) ?_; go_big_quiet_step (fail); refine wpQuiet_nil ?_))
      refine rg_fix (.int .i64 rV) 36 #[.agg #[.int .i64 est, .slice ea en ec, .slice fa fn fc]] rfl rfl rfl (fun _ => by go_simp) (fun u hu => RB.out u (TE101.out.draw (gb_none hu))) ?_
      simp only [Act.put, List.setIfInBounds_toArray, List.set_cons_zero, List.set_cons_succ]
      (repeat (refine rLexL_quiet (by rfl) (by rfl) (by rfl) (by rfl) ?_; go_big_quiet_step (fail); refine wpQuiet_nil ?_))
      rintro wq hq_ - -
      refine wpList_nil ?_
      generalize wq = w102 at *
      clear hne tb0_ tb1_ tb2_ utb_ VA VB RA RB
      have M102 := Lib.hid (M101.out.later hq_); have S102 := Lib.hid (S101.out.later (row := none) hq_ (by simp)); have Gnb_102 := Lib.hid (gb_trans Gnb_101.out (gb_none hq_)); have TE102 := Lib.hid (TE101.out.draw (gb_none hq_))
      clear hq_ M101 S101 Gnb_101 TE101
      go_wp2_with fail
      (with_reducible refine (n_any q w102 q 9000 S102.out (by omega) (by omega)).mono ?_)
      rintro r w103 ⟨n1, rfl, hn1, hS, hg⟩
      have M103 := Lib.hid (M102.out.draw hg hq2); have S103 := Lib.hid (hS); have Gnb_103 := Lib.hid (gb_trans Gnb_102.out hg); have TE103 := Lib.hid (TE102.out.draw hg)
      clear hg hS M102 S102 Gnb_102 TE102
      go_wp2_with fail
      (with_reducible refine (n_any q w103 q 170000 S103.out (by omega) (by omega)).mono ?_)
      rintro r w104 ⟨n2, rfl, hn2, hS, hg⟩
      have M104 := Lib.hid (M103.out.draw hg hq2); have S104 := Lib.hid (hS); have Gnb_104 := Lib.hid (gb_trans Gnb_103.out hg); have TE104 := Lib.hid (TE103.out.draw hg)
      clear hg hS M103 S103 Gnb_103 TE103
      have hp_ := S104.out.lt.2
      have ha_ : w104.grownBy (w104.alloc (.cells #[.int .i64 nr, .int .i64 fr, .int .i64 n1, .int .i64 n2, .int .i64 (-1), .int .i64 5, .int .i64 100, .int .i64 99] 54)) none := gb_alloc (gb_refl _ _) _
      have HBnr_ : Hid ((w104.alloc (.cells #[.int .i64 nr, .int .i64 fr, .int .i64 n1, .int .i64 n2, .int .i64 (-1), .int .i64 5, .int .i64 100, .int .i64 99] 54)).heap[w104.heap.size]? = some (.cells (flatZ [⟨nr, fr⟩, ⟨n1, n2⟩, ⟨-1, 5⟩, ⟨100, 99⟩]).toArray 54 (0, 0))) := Lib.hid (heap_alloc_new _ _)
      have hnnr_ : w104.heap.size ≠ q := by omega
      have M105 := Lib.hid (M104.out.later ha_); have S105 := Lib.hid (S104.out.later (row := none) ha_ (by simp)); have Gnb_105 := Lib.hid (gb_trans Gnb_104.out (gb_none ha_)); have TE105 := Lib.hid (TE104.out.draw (gb_none ha_))
      clear ha_ M104 S104 Gnb_104 TE104
      go_wp2_with fail
      generalize w104.alloc (.cells #[.int .i64 nr, .int .i64 fr, .int .i64 n1, .int .i64 n2, .int .i64 (-1), .int .i64 5, .int .i64 100, .int .i64 99] 54) = w105 at *
      generalize w104.heap.size = nr_ at *
      obtain ⟨Lnr_, hL, hLnr_⟩ : ∃ Lnr_ : List Zn, Lnr_ = [⟨nr, fr⟩, ⟨n1, n2⟩, ⟨-1, 5⟩, ⟨100, 99⟩] ∧ Lnr_.length = 4 := ⟨_, rfl, rfl⟩
      have HXnr_ : Hid (∀ z ∈ ([⟨nr, fr⟩, ⟨n1, n2⟩, ⟨-1, 5⟩, ⟨100, 99⟩] : List Zn), z.t ≤ 9223372036854775807) := Lib.hid (by
          intro z hz
          have := HFR.out
          simp only [List.mem_cons, List.not_mem_nil, or_false] at hz
          rcases hz with rfl | rfl | rfl | rfl <;> simp only [] <;> omega)
      rw [← hL] at HBnr_ HXnr_
      clear hL hp_
      go_loopw [86] (fun i wr => ∃ k : Nat, k ≤ 4 ∧ i = .int .i64 k ∧ Src q wr q ∧ w105.grownBy wr (some q)) (fun i _ => 4 - (intOf i).toNat)
      case atStart => exact ⟨0, by omega, rfl, S105.out, gb_refl _ _⟩
      case round =>
        obtain ⟨knr_, hknr_, rfl, hS, hgr⟩ := hrel
        by_cases hltnr_ : knr_ < 4
        · have hkLnr_ : knr_ < Lnr_.length := by omega
          have hkdnr_ : decide ((knr_ : Int) < 4) = true := decide_eq_true (by omega)
          obtain ⟨r0_, r1_⟩ := rowZ (block_keptp hgr HBnr_.out hnnr_) knr_ hkLnr_
          generalize wr = w200 at *
          have Gnr__105 := Lib.hid (gb_refl w105 (some q))
          have M200 := Lib.hid (M105.out.draw hgr hq2); have S200 := Lib.hid (hS); have Gnb_200 := Lib.hid (gb_trans Gnb_105.out hgr); have TE200 := Lib.hid (TE105.out.draw hgr); have Gnr__200 := Lib.hid (gb_trans Gnr__105.out hgr)
          clear hgr hS
          have hy := HXnr_.out _ (List.getElem_mem hkLnr_)
          generalize Lnr_[knr_] = tb at *
          obtain ⟨x, y⟩ := tb
          simp only [] at r0_ r1_ hy
          have BA := Lib.hid (BA.out x y hy); have BB := Lib.hid (BB.out x y hy)
          generalize tA x y = ta_ at *
          generalize tB x y = tb_ at *
          generalize tX x y = tx_ at *
          clear hy
          have hp_ := S200.out.lt.2
          have ha_ : w200.grownBy (w200.alloc (.cells #[.int .i64 x, .int .i64 y] 54)) none := gb_alloc (gb_refl _ _) _
          have hb_ := heap_alloc_new w200 (.cells #[.int .i64 x, .int .i64 y] 54)
          have M201 := Lib.hid (M200.out.later ha_); have S201 := Lib.hid (S200.out.later (row := none) ha_ (by simp)); have Gnb_201 := Lib.hid (gb_trans Gnb_200.out (gb_none ha_)); have TE201 := Lib.hid (TE200.out.draw (gb_none ha_)); have Gnr__201 := Lib.hid (gb_trans Gnr__200.out (gb_none ha_))
          have M201 := Lib.hid (M201.out.more hb_ (by omega))
          clear hp_ ha_ hb_ M200 S200 Gnb_200 TE200 Gnr__200
          obtain ⟨tb0_, tb1_, tb2_⟩ := cells3 (M201.out.at 1 rfl)
          obtain ⟨rg0_, rg1_⟩ := cells2 (M201.out.at 0 rfl)
          go_wp2_with fail
          generalize w200.alloc (.cells #[.int .i64 x, .int .i64 y] 54) = w201 at *
          generalize w200.heap.size = rgb at *
          clear r0_ r1_
          (with_reducible refine (BA.out w201 TE201.out).mono ?_)
          rintro r w202 ⟨rfl, hg⟩
          clear tb0_ tb1_ tb2_ rg0_ rg1_
          have M202 := Lib.hid (M201.out.later hg); have S202 := Lib.hid (S201.out.later (row := none) hg (by simp)); have Gnb_202 := Lib.hid (gb_trans Gnb_201.out (gb_none hg)); have TE202 := Lib.hid (TE201.out.draw (gb_none hg)); have Gnr__202 := Lib.hid (gb_trans Gnr__201.out (gb_none hg))
          clear hg M201 S201 Gnb_201 TE201 Gnr__201
          obtain ⟨tb0_, tb1_, tb2_⟩ := cells3 (M202.out.at 1 rfl)
          obtain ⟨rg0_, rg1_⟩ := cells2 (M202.out.at 0 rfl)
          go_wp2_with fail
          (with_reducible refine (BB.out w202 TE202.out).mono ?_)
          rintro r w203 ⟨rfl, hg⟩
          clear tb0_ tb1_ tb2_ rg0_ rg1_
          have M203 := Lib.hid (M202.out.later hg); have S203 := Lib.hid (S202.out.later (row := none) hg (by simp)); have Gnb_203 := Lib.hid (gb_trans Gnb_202.out (gb_none hg)); have TE203 := Lib.hid (TE202.out.draw (gb_none hg)); have Gnr__203 := Lib.hid (gb_trans Gnr__202.out (gb_none hg))
          clear hg M202 S202 Gnb_202 TE202 Gnr__202
          have HGN := Gnr__203; have HSN := S203
          go_wp2_with fail
          go_roundw
          case rel => exact ⟨knr_ + 1, by omega, by go_num, HSN.out, HGN.out⟩
          case measure => simp [intOf]; omega
        · have hkdnr_ : decide ((knr_ : Int) < 4) = false := decide_eq_false (by omega)
          generalize wr = w300 at *
          have M300 := Lib.hid (M105.out.draw hgr hq2); have S300 := Lib.hid (hS); have Gnb_300 := Lib.hid (gb_trans Gnb_105.out hgr); have TE300 := Lib.hid (TE105.out.draw hgr)
          clear hgr hS M105 S105 Gnb_105 TE105 HBnr_ BA BB
          go_wp2_with fail
          obtain ⟨pa0_, pa1_, pa2_⟩ := cells3 (M300.out.at 3 rfl)
          obtain ⟨pb0_, pb1_, pb2_⟩ := cells3 (M300.out.at 2 rfl)
          have upa_ := M300.out.pulled (B := q) 3 rfl
          have upb_ := M300.out.pulled (B := q) 2 rfl
          have hp_ := S300.out.lt.2
          refine Rg.region (Pulled w300 q q) (Pull q) (fun k => if k = 4 then some (isSome' (fun v => ∃ x y z, v = .agg #[.int .i64 x, .int .i64 y, .int .i64 z] ∧ vP x y z = true)) else if k = 6 then some (isSome' (fun v => ∃ x y z, v = .agg #[.int .i64 x, .int .i64 y, .int .i64 z] ∧ vP x y z = true)) else if k = 8 then some (isBlk w300 2 59) else none) (fun _ => false) 0 11 (by kernel_rfl) (by kernel_rfl) (by kernel_rfl) (by kernel_rfl) (by kernel_rfl) (by kernel_rfl) (by kernel_rfl) Pull.size (Pulled.start S300.out) (fun hne => ?_)
          (repeat (refine rLexL_quiet (by rfl) (by rfl) (by rfl) (by rfl) ?_; go_big_quiet_step (fail); refine wpQuiet_nil ?_))
          refine rg_drawF (fun v => ∃ x y z, v = .agg #[.int .i64 x, .int .i64 y, .int .i64 z] ∧ vP x y z = true) 17 #[.pointer (some ⟨q, 0, none⟩), .int .i64 150] rfl rfl (fun _ => by go_simp) (fun u hu _ => (posn_any q u q 150 hu.2 (by omega) (by omega)).mono fun e w' h => h.draw) (fun vb hvb => ?_)
          obtain ⟨h0, h1, h2, rfl, -⟩ := hvb
          simp only [Act.put, List.setIfInBounds_toArray, List.set_cons_zero, List.set_cons_succ]
          (repeat (refine rLexL_quiet (by rfl) (by rfl) (by rfl) (by rfl) ?_; go_big_quiet_step (fail); refine wpQuiet_nil ?_))
          refine rg_drawF (fun v => ∃ x y z, v = .agg #[.int .i64 x, .int .i64 y, .int .i64 z] ∧ vP x y z = true) 17 #[.pointer (some ⟨q, 0, none⟩), .int .i64 150] rfl rfl (fun _ => by go_simp) (fun u hu _ => (posn_any q u q 150 hu.2 (by omega) (by omega)).mono fun e w' h => h.draw) (fun vb hvb => ?_)
          obtain ⟨h3, h4, h5, rfl, -⟩ := hvb
          simp only [Act.put, List.setIfInBounds_toArray, List.set_cons_zero, List.set_cons_succ]
          (repeat (refine rLexL_quiet (by rfl) (by rfl) (by rfl) (by rfl) ?_; go_big_quiet_step (fail); refine wpQuiet_nil ?_))
          refine rg_litB 2 #[.int .i64 a0, .int .i64 a1, .int .i64 a2, .int .i64 b0, .int .i64 b1, .int .i64 b2, .int .i64 h0, .int .i64 h1, .int .i64 h2, .int .i64 h3, .int .i64 h4, .int .i64 h5] 59 rfl rfl rfl (fun _ => by go_simp) hp_ (fun np nph => ?_)
          simp only [Act.put, List.setIfInBounds_toArray, List.set_cons_zero, List.set_cons_succ]
          (repeat (refine rLexL_quiet (by rfl) (by rfl) (by rfl) (by rfl) ?_; go_big_quiet_step (fail); refine wpQuiet_nil ?_))
          refine rLexL_val (.int .i64 2) (by rfl) (by rfl) (by rfl) (by rfl) (fun _ => by go_simp) ?_
          simp only [Act.put, List.setIfInBounds_toArray, List.set_cons_zero, List.set_cons_succ]
          (repeat (refine rLexL_quiet (by rfl) (by rfl) (by rfl) (by rfl) ?_; go_big_quiet_step (fail); refine wpQuiet_nil ?_))
          rintro wq ⟨hgq, hqs⟩ hf -
          have HBnp : Hid (wq.heap[np]? = some (.cells (flatP [⟨a0, a1, a2, b0, b1, b2⟩, ⟨h0, h1, h2, h3, h4, h5⟩]).toArray 59 (0, 0))) := Lib.hid (hf 8)
          have hnnp : np ≠ q := by omega
          generalize wq = w301 at *
          have M301 := Lib.hid (M300.out.draw hgq hq2); have S301 := Lib.hid (hqs); have Gnb_301 := Lib.hid (gb_trans Gnb_300.out hgq); have TE301 := Lib.hid (TE300.out.draw hgq)
          clear hf hgq hqs hne hp_ nph M300 S300 Gnb_300 TE300 pa0_ pa1_ pa2_ pb0_ pb1_ pb2_ upa_ upb_
          refine wpList_nil ?_
          obtain ⟨Lnp, hL, hLnp⟩ : ∃ Lnp : List Ph, Lnp = [⟨a0, a1, a2, b0, b1, b2⟩, ⟨h0, h1, h2, h3, h4, h5⟩] ∧ Lnp.length = 2 := ⟨_, rfl, rfl⟩
          rw [← hL] at HBnp
          clear hL
          go_wp2_with fail
          go_loopw [134] (fun i wr => ∃ k : Nat, k ≤ 2 ∧ i = .int .i64 k ∧ Src q wr q ∧ w301.grownBy wr (some q)) (fun i _ => 2 - (intOf i).toNat)
          case atStart => exact ⟨0, by omega, rfl, S301.out, gb_refl _ _⟩
          case round =>
            obtain ⟨knp, hknp, rfl, hS, hgr⟩ := hrel
            by_cases hltnp : knp < 2
            · have hkLnp : knp < Lnp.length := by omega
              have hkdnp : decide ((knp : Int) < 2) = true := decide_eq_true (by omega)
              obtain ⟨r0_, r1_, r2_, r3_, r4_, r5_⟩ := rowP (block_keptp hgr HBnp.out hnnp) knp hkLnp
              generalize wr = w400 at *
              have Gnp_301 := Lib.hid (gb_refl w301 (some q))
              have M400 := Lib.hid (M301.out.draw hgr hq2); have S400 := Lib.hid (hS); have Gnb_400 := Lib.hid (gb_trans Gnb_301.out hgr); have TE400 := Lib.hid (TE301.out.draw hgr); have Gnp_400 := Lib.hid (gb_trans Gnp_301.out hgr)
              clear hgr hS
              generalize Lnp[knp] = tb at *
              obtain ⟨d0, d1, d2, d3, d4, d5⟩ := tb
              simp only [] at r0_ r1_ r2_ r3_ r4_ r5_
              have IA := Lib.hid (IA.out d0 d1 d2 d3 d4 d5); have IB := Lib.hid (IB.out d0 d1 d2 d3 d4 d5)
              obtain ⟨ta_, tb_, tx_, hiv⟩ := II.out d0 d1 d2 d3 d4 d5
              rw [hiv] at IA IB
              clear hiv
              have hp_ := S400.out.lt.2
              have ha_ : w400.grownBy (w400.alloc (.cells #[.int .i64 d0, .int .i64 d1, .int .i64 d2, .int .i64 d3, .int .i64 d4, .int .i64 d5] 59)) none := gb_alloc (gb_refl _ _) _
              have hb_ := heap_alloc_new w400 (.cells #[.int .i64 d0, .int .i64 d1, .int .i64 d2, .int .i64 d3, .int .i64 d4, .int .i64 d5] 59)
              have M401 := Lib.hid (M400.out.later ha_); have S401 := Lib.hid (S400.out.later (row := none) ha_ (by simp)); have Gnb_401 := Lib.hid (gb_trans Gnb_400.out (gb_none ha_)); have TE401 := Lib.hid (TE400.out.draw (gb_none ha_)); have Gnp_401 := Lib.hid (gb_trans Gnp_400.out (gb_none ha_))
              have M401 := Lib.hid (M401.out.more hb_ (by omega))
              clear hp_ ha_ hb_ M400 S400 Gnb_400 TE400 Gnp_400
              obtain ⟨tb0_, tb1_, tb2_⟩ := cells3 (M401.out.at 1 rfl)
              obtain ⟨pp0_, pp1_, pp2_, pp3_, pp4_, pp5_⟩ := six (M401.out.at 0 rfl)
              go_wp2_with fail
              generalize w400.alloc (.cells #[.int .i64 d0, .int .i64 d1, .int .i64 d2, .int .i64 d3, .int .i64 d4, .int .i64 d5] 59) = w401 at *
              generalize w400.heap.size = ppb at *
              clear r0_ r1_ r2_ r3_ r4_ r5_
              (with_reducible refine (IA.out w401 TE401.out).mono ?_)
              rintro r w402 ⟨rfl, hg⟩
              clear tb0_ tb1_ tb2_ pp0_ pp1_ pp2_ pp3_ pp4_ pp5_
              have M402 := Lib.hid (M401.out.later hg); have S402 := Lib.hid (S401.out.later (row := none) hg (by simp)); have Gnb_402 := Lib.hid (gb_trans Gnb_401.out (gb_none hg)); have TE402 := Lib.hid (TE401.out.draw (gb_none hg)); have Gnp_402 := Lib.hid (gb_trans Gnp_401.out (gb_none hg))
              clear hg M401 S401 Gnb_401 TE401 Gnp_401
              obtain ⟨tb0_, tb1_, tb2_⟩ := cells3 (M402.out.at 1 rfl)
              obtain ⟨pp0_, pp1_, pp2_, pp3_, pp4_, pp5_⟩ := six (M402.out.at 0 rfl)
              go_wp2_with fail
              (with_reducible refine (IB.out w402 TE402.out).mono ?_)
              rintro r w403 ⟨rfl, hg⟩
              clear tb0_ tb1_ tb2_ pp0_ pp1_ pp2_ pp3_ pp4_ pp5_
              have M403 := Lib.hid (M402.out.later hg); have S403 := Lib.hid (S402.out.later (row := none) hg (by simp)); have Gnb_403 := Lib.hid (gb_trans Gnb_402.out (gb_none hg)); have TE403 := Lib.hid (TE402.out.draw (gb_none hg)); have Gnp_403 := Lib.hid (gb_trans Gnp_402.out (gb_none hg))
              clear hg M402 S402 Gnb_402 TE402 Gnp_402
              have HGN := Gnp_403; have HSN := S403
              go_wp2_with fail
              go_roundw
              case rel => exact ⟨knp + 1, by omega, by go_num, HSN.out, HGN.out⟩
              case measure => simp [intOf]; omega
            · have hkdnp : decide ((knp : Int) < 2) = false := decide_eq_false (by omega)
              generalize wr = w500 at *
              have M500 := Lib.hid (M301.out.draw hgr hq2); have S500 := Lib.hid (hS); have Gnb_500 := Lib.hid (gb_trans Gnb_301.out hgr); have TE500 := Lib.hid (TE301.out.draw hgr)
              clear hgr hS M301 S301 Gnb_301 TE301 HBnp IA IB II
              go_wp2_with fail
              (with_reducible refine (n_any q w500 q 800 S500.out (by omega) (by omega)).mono ?_)
              rintro r w501 ⟨n3, rfl, -, hS, hg⟩
              have M501 := Lib.hid (M500.out.draw hg hq2); have S501 := Lib.hid (hS); have Gnb_501 := Lib.hid (gb_trans Gnb_500.out hg); have TE501 := Lib.hid (TE500.out.draw hg)
              clear hg hS M500 S500 Gnb_500 TE500
              have hp_ := S501.out.lt.2
              have ha_ : w501.grownBy (w501.alloc (.cells #[.int .i64 ti, .int .i64 n3, .int .i64 (-1)] 3)) none := gb_alloc (gb_refl _ _) _
              have HBnt : Hid ((w501.alloc (.cells #[.int .i64 ti, .int .i64 n3, .int .i64 (-1)] 3)).heap[w501.heap.size]? = some (.cells (([ti, n3, -1] : List Int).map (Value.int .i64)).toArray 3 (0, 0))) := Lib.hid (heap_alloc_new _ _)
              have hnnt : w501.heap.size ≠ q := by omega
              have M502 := Lib.hid (M501.out.later ha_); have S502 := Lib.hid (S501.out.later (row := none) ha_ (by simp)); have Gnb_502 := Lib.hid (gb_trans Gnb_501.out (gb_none ha_)); have TE502 := Lib.hid (TE501.out.draw (gb_none ha_))
              clear ha_ M501 S501 Gnb_501 TE501
              go_wp2_with fail
              generalize w501.alloc (.cells #[.int .i64 ti, .int .i64 n3, .int .i64 (-1)] 3) = w502 at *
              generalize w501.heap.size = nt at *
              obtain ⟨Lnt, hL, hLnt⟩ : ∃ Lnt : List Int, Lnt = [ti, n3, -1] ∧ Lnt.length = 3 := ⟨_, rfl, rfl⟩
              rw [← hL] at HBnt
              clear hL hp_
              go_loopw [177] (fun i wr => ∃ k : Nat, k ≤ 3 ∧ i = .int .i64 k ∧ Src q wr q ∧ w502.grownBy wr (some q)) (fun i _ => 3 - (intOf i).toNat)
              case atStart => exact ⟨0, by omega, rfl, S502.out, gb_refl _ _⟩
              case round =>
                obtain ⟨knt, hknt, rfl, hS, hgr⟩ := hrel
                by_cases hltnt : knt < 3
                · have hkLnt : knt < Lnt.length := by omega
                  have hkdnt : decide ((knt : Int) < 3) = true := decide_eq_true (by omega)
                  have r0_ := row1 (block_keptp hgr HBnt.out hnnt) knt hkLnt
                  generalize wr = w600 at *
                  have Gnt_502 := Lib.hid (gb_refl w502 (some q))
                  have M600 := Lib.hid (M502.out.draw hgr hq2); have S600 := Lib.hid (hS); have Gnb_600 := Lib.hid (gb_trans Gnb_502.out hgr); have TE600 := Lib.hid (TE502.out.draw hgr); have Gnt_600 := Lib.hid (gb_trans Gnt_502.out hgr)
                  clear hgr hS
                  generalize Lnt[knt]?.getD 0 = o at *
                  have DA := Lib.hid (DA.out o); have DB := Lib.hid (DB.out o)
                  obtain ⟨ta_, tb_, tx_, hiv⟩ := DI.out o
                  rw [hiv] at DA DB
                  clear hiv
                  obtain ⟨tb0_, tb1_, tb2_⟩ := cells3 (M600.out.at 0 rfl)
                  go_wp2_with fail
                  (with_reducible refine (DA.out w600 TE600.out).mono ?_)
                  rintro r w601 ⟨rfl, hg⟩
                  clear tb0_ tb1_ tb2_
                  have M601 := Lib.hid (M600.out.later hg); have S601 := Lib.hid (S600.out.later (row := none) hg (by simp)); have Gnb_601 := Lib.hid (gb_trans Gnb_600.out (gb_none hg)); have TE601 := Lib.hid (TE600.out.draw (gb_none hg)); have Gnt_601 := Lib.hid (gb_trans Gnt_600.out (gb_none hg))
                  clear hg M600 S600 Gnb_600 TE600 Gnt_600
                  obtain ⟨tb0_, tb1_, tb2_⟩ := cells3 (M601.out.at 0 rfl)
                  go_wp2_with fail
                  (with_reducible refine (DB.out w601 TE601.out).mono ?_)
                  rintro r w602 ⟨rfl, hg⟩
                  clear tb0_ tb1_ tb2_ r0_
                  have M602 := Lib.hid (M601.out.later hg); have S602 := Lib.hid (S601.out.later (row := none) hg (by simp)); have Gnb_602 := Lib.hid (gb_trans Gnb_601.out (gb_none hg)); have TE602 := Lib.hid (TE601.out.draw (gb_none hg)); have Gnt_602 := Lib.hid (gb_trans Gnt_601.out (gb_none hg))
                  clear hg M601 S601 Gnb_601 TE601 Gnt_601
                  have HGN := Gnt_602; have HSN := S602
                  go_wp2_with fail
                  go_roundw
                  case rel => exact ⟨knt + 1, by omega, by go_num, HSN.out, HGN.out⟩
                  case measure => simp [intOf]; omega
                · have hkdnt : decide ((knt : Int) < 3) = false := decide_eq_false (by omega)
                  generalize wr = w700 at *
                  have M700 := Lib.hid (M502.out.draw hgr hq2); have S700 := Lib.hid (hS); have Gnb_700 := Lib.hid (gb_trans Gnb_502.out hgr); have TE700 := Lib.hid (TE502.out.draw hgr)
                  clear hgr hS M502 S502 Gnb_502 TE502 HBnt DA DB DI
                  have HGN := Gnb_700; have HSN := S700
                  go_wp2_with fail
                  go_roundw
                  case rel => exact ⟨knb + 1, by omega, by go_num, HSN.out, HGN.out⟩
                  case measure => simp [intOf]; omega
    · have hkdnb : decide ((knb : Int) < 3) = false := decide_eq_false (by omega)
      generalize wr = w800 at *
      have M800 := Lib.hid (M6.out.draw hgr hq2); have S800 := Lib.hid (hS); have TB800 := Lib.hid (TB6.out.draw hgr); have TT800 := Lib.hid (TT6.out.draw hgr)
      clear hgr hS M6 S6 TB6 TT6 HBnb
      have HGM := Lib.hid (gb_trans GW.out M800.out.gr)
      go_wp2_with fail
      (with_reducible refine (awake25_any _).mono ?_)
      rintro r w8 ⟨rfl, hg⟩
      have HGE := Lib.hid (gb_trans HGM.out hg)
      go_wp2_with fail
      go_ret
      exact ⟨rfl, gb_end HGE.out⟩
end Go.Proofs.Ytelmeggcgocmlaa
