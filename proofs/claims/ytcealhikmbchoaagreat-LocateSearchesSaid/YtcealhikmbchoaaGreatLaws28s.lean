/- The walk of LocateSearches. Written by gen_law28s.py. -/
import Derived.Test.YtcealhikmbchoaaGreatAwake28
import Derived.Test.YtcealhikmbchoaaGreatSrP
import Derived.Test.YtcealhikmbchoaaGreatSrchL
import Derived.Test.YtcealhikmbchoaaGreatLit27
import Derived.Test.YtcealhikmbchoaaGreatProb
namespace Go.Proofs.YtcealhikmbchoaaGreat
set_option linter.all false
open Go.RowKit Rg

theorem run_neq12s (c0 c1 c2 c3 c4 c5 c6 c7 c8 c9 c10 c11 : Int) (w : World) :
    (binOp .neq 27 (.agg #[.int .i64 c0, .int .i64 c1, .int .i64 c2, .int .i64 c3, .int .i64 c4, .int .i64 c5, .int .i64 c6, .int .i64 c7, .int .i64 c8, .int .i64 c9, .int .i64 c10, .int .i64 c11]) (.agg #[.int .i64 c0, .int .i64 c1, .int .i64 c2, .int .i64 c3, .int .i64 c4, .int .i64 c5, .int .i64 c6, .int .i64 c7, .int .i64 c8, .int .i64 c9, .int .i64 c10, .int .i64 c11])).run Tryz.prog w = .ok (.bool false) w := by
  simp [go_sem]
set_option maxRecDepth 100000 in
set_option maxHeartbeats 4000000 in
theorem rboxes_any (P : Prob) (vl vh vp : Value) (tol : Int) (w : World) (hi : ProbIn P vl vh vp w) (hbig : P.phs.length ≤ 1000000000) :
    Calls Tryz.prog 25 #[.agg (P.val vl vh vp), .int .i64 tol] w fun e w' => e = .returned (.tuple #[.int .i64 (srch P tol).2.1, .int .i64 (srch P tol).2.2]) ∧ w.grownBy w' none := by
  have SE := Lib.hid (fun (u : World) (h : w.grownBy u none) => rsearch_any P vl vh vp tol u (hi.after h) hbig)
  obtain ⟨pa, pc, rfl⟩ := hi.p.slice
  obtain ⟨la, ln, lc, rfl⟩ := sl_slice hi.l
  obtain ⟨ha, hn, hc, rfl⟩ := sl_slice hi.h
  clear hi hbig
  generalize srch P tol = pr at *
  obtain ⟨fx, tk, er⟩ := pr
  obtain ⟨x0, y0, z0, x1, y1, z1, step, ls, hs, phs, cap⟩ := P
  generalize hpn : phs.length = pn at *
  have hPV : Prob.val ⟨x0, y0, z0, x1, y1, z1, step, ls, hs, phs, cap⟩ (.slice la ln lc) (.slice ha hn hc) (.slice pa pn pc) = #[.int .i64 x0, .int .i64 y0, .int .i64 z0, .int .i64 x1, .int .i64 y1, .int .i64 z1, .int .i64 step, .slice la ln lc, .slice ha hn hc, .slice pa pn pc, .int .i64 cap] := rfl
  have hFX : Loc.val fx = #[.int .i64 fx.px, .int .i64 fx.py, .int .i64 fx.pz, .int .i64 fx.t, .int .i64 fx.m, .int .i64 fx.l, .int .i64 fx.a0, .int .i64 fx.a1, .int .i64 fx.a2, .int .i64 fx.a3, .int .i64 fx.a4, .int .i64 fx.a5] := rfl
  dsimp only at SE
  rw [hPV, hFX] at SE
  rw [hPV]
  have B0 := Lib.hid (heap_alloc_new w (.cells #[.int .i64 x0, .int .i64 y0, .int .i64 z0, .int .i64 x1, .int .i64 y1, .int .i64 z1, .int .i64 step, .slice la ln lc, .slice ha hn hc, .slice pa pn pc, .int .i64 cap] 36))
  have G0 : Hid (w.grownBy (w.alloc (.cells #[.int .i64 x0, .int .i64 y0, .int .i64 z0, .int .i64 x1, .int .i64 y1, .int .i64 z1, .int .i64 step, .slice la ln lc, .slice ha hn hc, .slice pa pn pc, .int .i64 cap] 36)) none) := Lib.hid (gb_alloc (gb_refl _ _) _)
  obtain ⟨e0_, e1_, e2_, e3_, e4_, e5_, e6_, e7_, e8_, e9_, e10_⟩ := cells11 B0.out
  go_enter Tryz.func25, Tryz.ntmps25
  go_wp2_with fail
  generalize w.alloc (.cells #[.int .i64 x0, .int .i64 y0, .int .i64 z0, .int .i64 x1, .int .i64 y1, .int .i64 z1, .int .i64 step, .slice la ln lc, .slice ha hn hc, .slice pa pn pc, .int .i64 cap] 36) = w1 at *
  (with_reducible refine (SE.out w1 G0.out).mono ?_)
  rintro r w2 ⟨rfl, hg⟩
  clear e0_ e1_ e2_ e3_ e4_ e5_ e6_ e7_ e8_ e9_ e10_
  have G3 := Lib.hid (gb_trans (gb_trans G0.out hg) (gb_alloc (gb_refl w2 none) (.cells #[.int .i64 fx.px, .int .i64 fx.py, .int .i64 fx.pz, .int .i64 fx.t, .int .i64 fx.m, .int .i64 fx.l, .int .i64 fx.a0, .int .i64 fx.a1, .int .i64 fx.a2, .int .i64 fx.a3, .int .i64 fx.a4, .int .i64 fx.a5] 27)))
  clear hg B0 G0 SE
  go_wp2_with fail
  exact bodyPost_ret (v := .tuple #[.int .i64 tk, .int .i64 er]) (by simp [results, Tryz.results25, go_sem]) rfl ⟨rfl, G3.out⟩
attribute [local go_sem high] run_neq12s

set_option maxRecDepth 100000 in
set_option maxHeartbeats 16000000 in
theorem locateSearches_walk (w : World) (P0 : Prob) (rvl rvh rvp : Value) (hi : ProbIn P0 rvl rvh rvp w) (t : Int) (_ht1 : -9223372036854775808 ≤ t) (_ht2 : t ≤ 9223372036854775807) (v : Value) (xs : List Int) (hs : Sl w v xs) (_hx : ∀ x ∈ xs, -9223372036854775808 ≤ x ∧ x ≤ 9223372036854775807) :
    Calls Tryz.prog 4 #[.agg (P0.val rvl rvh rvp), .int .i64 t, v] w fun e w' => e = .returned (.bool true) ∧ Below w.heap.size w w' := by
  obtain ⟨ka, kc, rfl⟩ := hi.p.slice
  obtain ⟨ra, rn, rc, rfl⟩ := sl_slice hi.l; obtain ⟨sa, sn, sc, rfl⟩ := sl_slice hi.h
  have hv : v.oneCell' = true := by obtain ⟨va, vn, vc, rfl⟩ := sl_slice hs; rfl
  have SP := Lib.hid (fun (u : World) (hu : ProbIn P0 (.slice ra rn rc) (.slice sa sn sc) (.slice ka P0.phs.length kc) u) => smallProblem_any P0 _ _ _ u hu)
  obtain ⟨rx0, ry0, rz0, rx1, ry1, rz1, rst, rls, rhs, rphs, rcap⟩ := P0
  simp only [Prob.val] at *
  generalize hkn : rphs.length = kn at *
  go_enter Tryz.func4, Tryz.ntmps4
  have hgw : w.grownBy (w.alloc (.cells #[.int .i64 rx0, .int .i64 ry0, .int .i64 rz0, .int .i64 rx1, .int .i64 ry1, .int .i64 rz1, .int .i64 rst, .slice ra rn rc, .slice sa sn sc, .slice ka kn kc, .int .i64 rcap] 36)) none := gb_alloc (gb_refl w none) _
  have K0 := Lib.hid (heap_alloc_new w (.cells #[.int .i64 rx0, .int .i64 ry0, .int .i64 rz0, .int .i64 rx1, .int .i64 ry1, .int .i64 rz1, .int .i64 rst, .slice ra rn rc, .slice sa sn sc, .slice ka kn kc, .int .i64 rcap] 36))
  have HI := Lib.hid (hi.after hgw); have HV := Lib.hid (hs.after hgw); have GW := Lib.hid hgw
  clear hi hs hgw
  obtain ⟨e0_, e1_, e2_, e3_, e4_, e5_, e6_, e7_, e8_, e9_, e10_⟩ := cells11 K0.out
  go_wp2_with fail
  generalize (w.alloc (.cells #[.int .i64 rx0, .int .i64 ry0, .int .i64 rz0, .int .i64 rx1, .int .i64 ry1, .int .i64 rz1, .int .i64 rst, .slice ra rn rc, .slice sa sn sc, .slice ka kn kc, .int .i64 rcap] 36)) = w1 at *
  generalize w.heap.size = rawb0 at K0 HI HV GW ⊢
  clear e0_ e1_ e2_ e3_ e4_ e5_ e6_ e7_ e8_ e9_ e10_
  (with_reducible refine (SP.out w1 HI.out).mono ?_)
  rintro r w2 ⟨rfl, hg⟩
  have K0 := Lib.hid (block_kept hg K0.out rfl)
  have HI := Lib.hid (HI.out.after hg); have HV := Lib.hid (HV.out.after hg); have GW := Lib.hid (gb_trans GW.out hg)
  clear hg SP
  have RPT := Lib.hid (fun u => rpoints_any rx0 ry0 rz0 rx1 ry1 rz1 u)
  obtain ⟨e0_, e1_, e2_, e3_, e4_, e5_, e6_, e7_, e8_, e9_, e10_⟩ := cells11 K0.out
  cases hsm : (decide (rls.length ≤ 300) && decide (rhs.length ≤ 300) && decide (kn ≤ 80))
  · go_wp2_with fail
    (with_reducible refine (awake28_any _).mono ?_)
    rintro r w3 ⟨rfl, hg⟩
    have HGE := Lib.hid (gb_trans GW.out hg)
    go_wp2_with fail
    go_ret
    exact ⟨rfl, gb_end HGE.out⟩
  have hk80 : kn ≤ 80 := by simp at hsm; omega
  clear hsm
  go_wp2_with fail
  clear e0_ e1_ e2_ e3_ e4_ e5_ e6_ e7_ e8_ e9_ e10_
  (with_reducible refine (RPT.out w2).mono ?_)
  rintro r w3 ⟨rfl, hg⟩
  have K0 := Lib.hid (block_kept hg K0.out rfl)
  have HI := Lib.hid (HI.out.after hg); have HV := Lib.hid (HV.out.after hg); have GW := Lib.hid (gb_trans GW.out hg)
  clear hg RPT
  generalize ptsP rx0 ry0 rz0 rx1 ry1 rz1 = rpt at *
  by_cases hrp : rpt > 500
  · have hrd : decide (rpt > 500) = true := decide_eq_true hrp
    go_wp2_with fail
    (with_reducible refine (awake28_any _).mono ?_)
    rintro r w4 ⟨rfl, hg⟩
    have HGE := Lib.hid (gb_trans GW.out hg)
    go_wp2_with fail
    go_ret
    exact ⟨rfl, gb_end HGE.out⟩
  have hrd : decide (rpt > 500) = false := decide_eq_false hrp
  clear hrp
  go_wp2_with fail
  clear hrd
  (with_reducible refine (new_any w3 v xs HV.out).mono ?_)
  rintro e w4 ⟨rfl, hS, hg⟩
  have hlt := block_lt' K0.out
  have S4 := Lib.hid hS
  have M4 := Lib.hid ((Mem.nil (w0 := w3) (p := w3.heap.size) hg).more (block_kept hg K0.out rfl) (by have := block_lt' K0.out; omega))
  have RI4 := Lib.hid (show PrIn w3.heap.size w4 ⟨⟨rx0, ry0, rz0, rx1, ry1, rz1, rst, rls, rhs, rphs, rcap⟩, .slice ra rn rc, .slice sa sn sc, .slice ka kn kc⟩ from ⟨HI.out.after hg, HI.out.l.apart_lt (Nat.le_refl _), HI.out.h.apart_lt (Nat.le_refl _), HI.out.p.apart_lt (Nat.le_refl _), by simp only [hkn]; omega⟩)
  clear hg hS HI HV K0 hlt
  go_wp2_with fail
  generalize hq : w3.heap.size = q at *
  have hq2 : w3.heap.size ≤ q := by omega
  clear hq
  (with_reducible refine (problem_any q w4 q 5 6 S4.out (by omega) (by omega) (by omega) (by omega)).mono ?_)
  rintro e w5 ⟨G, gvl, gvh, gvp, rfl, hB, hT, -, hln, -, hpl, -, hin, hap, hS, hg⟩
  have hq3 := S4.out.lt.2
  have M5 := Lib.hid (M4.out.draw hg hq2); have S5 := Lib.hid (hS); have RI5 := Lib.hid (RI4.out.draw hg)
  clear hg hS M4 S4 RI4
  have GI5 := Lib.hid (show PrIn q w5 ⟨G, gvl, gvh, gvp⟩ from ⟨hin, fun b off len cap e _ => by have := hap gvl (.inl rfl) b off len cap e; omega, fun b off len cap e _ => by have := hap gvh (.inr (.inl rfl)) b off len cap e; omega, fun b off len cap e _ => by have := hap gvp (.inr (.inr rfl)) b off len cap e; omega, by have := hpl.2; simp only []; omega⟩)
  obtain ⟨pa, pc, rfl⟩ := hin.p.slice
  obtain ⟨la, ln, lc, rfl⟩ := sl_slice hin.l; obtain ⟨ha, hn, hc, rfl⟩ := sl_slice hin.h
  have HL := Lib.hid (⟨hT.2.2.2.1, hT.2.2.1, by omega⟩ : 2 ≤ G.ls.length ∧ G.ls.length = G.hs.length ∧ G.ls.length ≤ 300)
  have HLP := Lib.hid (⟨hpl.1, by omega⟩ : 0 < G.phs.length ∧ G.phs.length ≤ 64)
  clear hB hT hln hpl hin hap hq3
  have BPC_ := Lib.hid (fun (u : World) (hS : Src q u q) (h : PrIn q u ⟨G, .slice la ln lc, .slice ha hn hc, .slice pa G.phs.length pc⟩) => bentProblem_any q u q G _ _ _ hS h.1 h.2.1 h.2.2.1 HL.out.1 HL.out.2.1 HL.out.2.2 HLP.out.1 HLP.out.2)
  obtain ⟨x0, y0, z0, x1, y1, z1, step, ls, hs, phs, cap⟩ := G
  simp only [Prob.val] at BPC_ GI5 ⊢
  have hp_ := S5.out.lt.2
  have ha_ : w5.grownBy (w5.alloc (.cells #[.int .i64 x0, .int .i64 y0, .int .i64 z0, .int .i64 x1, .int .i64 y1, .int .i64 z1, .int .i64 step, .slice la ln lc, .slice ha hn hc, .slice pa phs.length pc, .int .i64 cap] 36)) none := gb_alloc (gb_refl _ _) _
  have hb_ := heap_alloc_new w5 (.cells #[.int .i64 x0, .int .i64 y0, .int .i64 z0, .int .i64 x1, .int .i64 y1, .int .i64 z1, .int .i64 step, .slice la ln lc, .slice ha hn hc, .slice pa phs.length pc, .int .i64 cap] 36)
  have M6 := Lib.hid (M5.out.later ha_); have S6 := Lib.hid (S5.out.later (row := none) ha_ (by simp)); have RI6 := Lib.hid (RI5.out.draw (gb_none ha_)); have GI6 := Lib.hid (GI5.out.draw (gb_none ha_))
  have M6 := Lib.hid (M6.out.more hb_ (by omega))
  clear hp_ ha_ hb_ M5 S5 RI5 GI5
  go_wp2_with fail
  generalize w5.alloc (.cells #[.int .i64 x0, .int .i64 y0, .int .i64 z0, .int .i64 x1, .int .i64 y1, .int .i64 z1, .int .i64 step, .slice la ln lc, .slice ha hn hc, .slice pa phs.length pc, .int .i64 cap] 36) = w6 at *
  generalize w5.heap.size = goodb at *
  obtain ⟨raw0_, raw1_, raw2_, raw3_, raw4_, raw5_, raw6_, raw7_, raw8_, raw9_, raw10_⟩ := cells11 (M6.out.at 1 rfl)
  obtain ⟨good0_, good1_, good2_, good3_, good4_, good5_, good6_, good7_, good8_, good9_, good10_⟩ := cells11 (M6.out.at 0 rfl)
  have uraw_ := M6.out.pulled (B := q) 1 rfl
  have ugood_ := M6.out.pulled (B := q) 0 rfl
  have hp_ := S6.out.lt.2
  refine Rg.region (Pulled w6 q q) (Pull q) (fun k => if k = 4 then some (fun _ v u => BentPV q v u) else if k = 5 then some (isBlk w6 3 36) else none) (fun _ => false) 0 8 (by kernel_rfl) (by kernel_rfl) (by kernel_rfl) (by kernel_rfl) (by kernel_rfl) (by kernel_rfl) (by kernel_rfl) Pull.size (Pulled.start S6.out) (fun hne => ?_)
  (repeat (refine rLexL_quiet (by rfl) (by rfl) (by rfl) (by rfl) ?_; go_big_quiet_step (fail); refine wpQuiet_nil ?_))
  refine rg_drawM (BentPV q) 14 #[.pointer (some ⟨q, 0, none⟩), .agg #[.int .i64 x0, .int .i64 y0, .int .i64 z0, .int .i64 x1, .int .i64 y1, .int .i64 z1, .int .i64 step, .slice la ln lc, .slice ha hn hc, .slice pa phs.length pc, .int .i64 cap]] rfl rfl (fun v u u' h hg => h.draw hg) (fun _ => by go_simp) (fun u hu => (BPC_.out u hu.2 (GI6.out.draw hu.1)).mono fun e w' h => h.draw) (fun vb ub hvb => ?_)
  obtain ⟨⟨⟨v0, v1, v2, v3, v4, v5, bst, bls, bhs, bph, bcap⟩, bvl, bvh, bvp⟩, rfl, fin⟩ := hvb
  obtain ⟨⟨da, dc, rfl⟩, ⟨ba, bn, bc, rfl⟩, ⟨ca, cn, cc, rfl⟩, -⟩ := fin.sl
  clear fin ub
  simp only [Pv.cells]
  generalize bph.length = dn
  simp only [Act.put, List.setIfInBounds_toArray, List.set_cons_zero, List.set_cons_succ]
  (repeat (refine rLexL_quiet (by rfl) (by rfl) (by rfl) (by rfl) ?_; go_big_quiet_step (fail); refine wpQuiet_nil ?_))
  refine rg_litB 3 #[.int .i64 rx0, .int .i64 ry0, .int .i64 rz0, .int .i64 rx1, .int .i64 ry1, .int .i64 rz1, .int .i64 rst, .slice ra rn rc, .slice sa sn sc, .slice ka kn kc, .int .i64 rcap, .int .i64 x0, .int .i64 y0, .int .i64 z0, .int .i64 x1, .int .i64 y1, .int .i64 z1, .int .i64 step, .slice la ln lc, .slice ha hn hc, .slice pa phs.length pc, .int .i64 cap, .int .i64 v0, .int .i64 v1, .int .i64 v2, .int .i64 v3, .int .i64 v4, .int .i64 v5, .int .i64 bst, .slice ba bn bc, .slice ca cn cc, .slice da dn dc, .int .i64 bcap] 36 rfl rfl rfl (fun _ => by go_simp) hp_ (fun nb nbh => ?_)
  simp only [Act.put, List.setIfInBounds_toArray, List.set_cons_zero, List.set_cons_succ]
  (repeat (refine rLexL_quiet (by rfl) (by rfl) (by rfl) (by rfl) ?_; go_big_quiet_step (fail); refine wpQuiet_nil ?_))
  refine rLexL_val (.int .i64 3) (by rfl) (by rfl) (by rfl) (by rfl) (fun _ => by go_simp) ?_
  simp only [Act.put, List.setIfInBounds_toArray, List.set_cons_zero, List.set_cons_succ]
  (repeat (refine rLexL_quiet (by rfl) (by rfl) (by rfl) (by rfl) ?_; go_big_quiet_step (fail); refine wpQuiet_nil ?_))
  rintro wq ⟨hgq, hqs⟩ hf -
  obtain ⟨bls', bhs', bph', h4⟩ := BentPV.out (hf 4)
  have HLnb : Hid (∀ t ∈ ([⟨⟨rx0, ry0, rz0, rx1, ry1, rz1, rst, rls, rhs, rphs, rcap⟩, .slice ra rn rc, .slice sa sn sc, .slice ka kn kc⟩, ⟨⟨x0, y0, z0, x1, y1, z1, step, ls, hs, phs, cap⟩, .slice la ln lc, .slice ha hn hc, .slice pa phs.length pc⟩, ⟨⟨v0, v1, v2, v3, v4, v5, bst, bls', bhs', bph', bcap⟩, .slice ba bn bc, .slice ca cn cc, .slice da dn dc⟩] : List Pv), PrIn q wq t) := Lib.hid (by
    intro t ht
    simp only [List.mem_cons, List.not_mem_nil, or_false] at ht
    rcases ht with rfl | rfl | rfl
    · exact RI6.out.draw hgq
    · exact GI6.out.draw hgq
    · exact h4)
  clear h4
  have HBnb : Hid (wq.heap[nb]? = some (.cells (flatPr [⟨⟨rx0, ry0, rz0, rx1, ry1, rz1, rst, rls, rhs, rphs, rcap⟩, .slice ra rn rc, .slice sa sn sc, .slice ka kn kc⟩, ⟨⟨x0, y0, z0, x1, y1, z1, step, ls, hs, phs, cap⟩, .slice la ln lc, .slice ha hn hc, .slice pa phs.length pc⟩, ⟨⟨v0, v1, v2, v3, v4, v5, bst, bls', bhs', bph', bcap⟩, .slice ba bn bc, .slice ca cn cc, .slice da dn dc⟩]).toArray 36 (0, 0))) := Lib.hid (hf 5)
  have hnnb : nb ≠ q := by omega
  generalize wq = w7 at *
  have M7 := Lib.hid (M6.out.draw hgq hq2); have S7 := Lib.hid (hqs); have RI7 := Lib.hid (RI6.out.draw hgq); have GI7 := Lib.hid (GI6.out.draw hgq)
  clear hf hgq hqs hne hp_ nbh M6 S6 RI6 GI6 raw0_ raw1_ raw2_ raw3_ raw4_ raw5_ raw6_ raw7_ raw8_ raw9_ raw10_ good0_ good1_ good2_ good3_ good4_ good5_ good6_ good7_ good8_ good9_ good10_ uraw_ ugood_
  refine wpList_nil ?_
  obtain ⟨Lnb, hL, hLnb⟩ : ∃ Lnb : List Pv, Lnb = [⟨⟨rx0, ry0, rz0, rx1, ry1, rz1, rst, rls, rhs, rphs, rcap⟩, .slice ra rn rc, .slice sa sn sc, .slice ka kn kc⟩, ⟨⟨x0, y0, z0, x1, y1, z1, step, ls, hs, phs, cap⟩, .slice la ln lc, .slice ha hn hc, .slice pa phs.length pc⟩, ⟨⟨v0, v1, v2, v3, v4, v5, bst, bls', bhs', bph', bcap⟩, .slice ba bn bc, .slice ca cn cc, .slice da dn dc⟩] ∧ Lnb.length = 3 := ⟨_, rfl, rfl⟩
  rw [← hL] at HBnb
  rw [← hL] at HLnb
  clear hL
  go_wp2_with fail
  go_loopw [42] (fun i wr => ∃ k : Nat, k ≤ 3 ∧ i = .int .i64 k ∧ Src q wr q ∧ w7.grownBy wr (some q)) (fun i _ => 3 - (intOf i).toNat)
  case atStart => exact ⟨0, by omega, rfl, S7.out, gb_refl _ _⟩
  case round =>
    obtain ⟨knb, hknb, rfl, hS, hgr⟩ := hrel
    by_cases hltnb : knb < 3
    · have hkLnb : knb < Lnb.length := by omega
      have hkdnb : decide ((knb : Int) < 3) = true := decide_eq_true (by omega)
      obtain ⟨r0_, r1_, r2_, r3_, r4_, r5_, r6_, r7_, r8_, r9_, r10_⟩ := rowPr (block_keptp hgr HBnb.out hnnb) knb hkLnb
      generalize wr = w100 at *
      have Gnb_7 := Lib.hid (gb_refl w7 (some q))
      have M100 := Lib.hid (M7.out.draw hgr hq2); have S100 := Lib.hid (hS); have RI100 := Lib.hid (RI7.out.draw hgr); have GI100 := Lib.hid (GI7.out.draw hgr); have Gnb_100 := Lib.hid (gb_trans Gnb_7.out hgr)
      clear hgr hS
      have hin := (HLnb.out _ (List.getElem_mem hkLnb)).draw Gnb_100.out
      generalize Lnb[knb] = tp at *
      obtain ⟨P, pvl, pvh, pvp⟩ := tp
      simp only [] at r0_ r1_ r2_ r3_ r4_ r5_ r6_ r7_ r8_ r9_ r10_ hin
      obtain ⟨⟨qa, qc, rfl⟩, ⟨ma, mn, mc, rfl⟩, ⟨na, nn, nc, rfl⟩, hp100⟩ := hin.sl
      have PI100 := Lib.hid hin; clear hin
      have hpb : P.phs.length ≤ 1000000000 := by omega
      have LA := Lib.hid (fun (tol : Int) (u : World) (h : PrIn q u ⟨P, .slice ma mn mc, .slice na nn nc, .slice qa P.phs.length qc⟩) => by have := locate_any P _ _ _ tol u h.1 hpb; rw [(loc_srch P tol).1] at this; exact this)
      have LB := Lib.hid (fun (tol : Int) (u : World) (h : PrIn q u ⟨P, .slice ma mn mc, .slice na nn nc, .slice qa P.phs.length qc⟩) => rlocate_any P _ _ _ tol u h.1 hpb)
      have BA := Lib.hid (fun (tol : Int) (u : World) (h : PrIn q u ⟨P, .slice ma mn mc, .slice na nn nc, .slice qa P.phs.length qc⟩) => by have := boxes_any P _ _ _ tol u h.1 hpb; rw [(loc_srch P tol).2] at this; exact this)
      have BB := Lib.hid (fun (tol : Int) (u : World) (h : PrIn q u ⟨P, .slice ma mn mc, .slice na nn nc, .slice qa P.phs.length qc⟩) => rboxes_any P _ _ _ tol u h.1 hpb)
      clear hpb hp100
      generalize srch P = sr at *
      obtain ⟨m0, m1, m2, m3, m4, m5, mst, mls, mhs, mph, mcap⟩ := P
      simp only [Prob.val] at LA LB BA BB r0_ r1_ r2_ r3_ r4_ r5_ r6_ r10_
      generalize mph.length = ml at *
      have RPT := Lib.hid (fun u => rpoints_any m0 m1 m2 m3 m4 m5 u)
      have hp_ := S100.out.lt.2
      have ha_ : w100.grownBy (w100.alloc (.cells #[.int .i64 m0, .int .i64 m1, .int .i64 m2, .int .i64 m3, .int .i64 m4, .int .i64 m5, .int .i64 mst, .slice ma mn mc, .slice na nn nc, .slice qa ml qc, .int .i64 mcap] 36)) none := gb_alloc (gb_refl _ _) _
      have hb_ := heap_alloc_new w100 (.cells #[.int .i64 m0, .int .i64 m1, .int .i64 m2, .int .i64 m3, .int .i64 m4, .int .i64 m5, .int .i64 mst, .slice ma mn mc, .slice na nn nc, .slice qa ml qc, .int .i64 mcap] 36)
      have M101 := Lib.hid (M100.out.later ha_); have S101 := Lib.hid (S100.out.later (row := none) ha_ (by simp)); have RI101 := Lib.hid (RI100.out.draw (gb_none ha_)); have GI101 := Lib.hid (GI100.out.draw (gb_none ha_)); have Gnb_101 := Lib.hid (gb_trans Gnb_100.out (gb_none ha_)); have PI101 := Lib.hid (PI100.out.draw (gb_none ha_))
      have M101 := Lib.hid (M101.out.more hb_ (by omega))
      clear hp_ ha_ hb_ M100 S100 RI100 GI100 Gnb_100 PI100
      obtain ⟨pr0_, pr1_, pr2_, pr3_, pr4_, pr5_, pr6_, pr7_, pr8_, pr9_, pr10_⟩ := cells11 (M101.out.at 0 rfl)
      go_wp2_with fail
      generalize w100.alloc (.cells #[.int .i64 m0, .int .i64 m1, .int .i64 m2, .int .i64 m3, .int .i64 m4, .int .i64 m5, .int .i64 mst, .slice ma mn mc, .slice na nn nc, .slice qa ml qc, .int .i64 mcap] 36) = w101 at *
      generalize w100.heap.size = prb at *
      clear r0_ r1_ r2_ r3_ r4_ r5_ r6_ r7_ r8_ r9_ r10_
      (with_reducible refine (RPT.out w101).mono ?_)
      rintro r w102 ⟨rfl, hg⟩
      clear pr0_ pr1_ pr2_ pr3_ pr4_ pr5_ pr6_ pr7_ pr8_ pr9_ pr10_ RPT
      have M102 := Lib.hid (M101.out.later hg); have S102 := Lib.hid (S101.out.later (row := none) hg (by simp)); have RI102 := Lib.hid (RI101.out.draw (gb_none hg)); have GI102 := Lib.hid (GI101.out.draw (gb_none hg)); have Gnb_102 := Lib.hid (gb_trans Gnb_101.out (gb_none hg)); have PI102 := Lib.hid (PI101.out.draw (gb_none hg))
      clear hg M101 S101 RI101 GI101 Gnb_101 PI101
      generalize ptsP m0 m1 m2 m3 m4 m5 = mpt at *
      by_cases hmp : mpt > 500
      · have hmd : decide (mpt > 500) = true := decide_eq_true hmp
        have HGN := Gnb_102; have HSN := S102
        go_wp2_with fail
        go_roundw
        case rel => exact ⟨knb + 1, by omega, by go_num, HSN.out, HGN.out⟩
        case measure => simp [intOf]; omega
      have hmd : decide (mpt > 500) = false := decide_eq_false hmp
      clear hmp
      go_wp2_with fail
      (with_reducible refine (n_any q w102 q 30 S102.out (by omega) (by omega)).mono ?_)
      rintro r w103 ⟨nn3, rfl, hnn3, hS, hg⟩
      clear hmd hnn3
      have M103 := Lib.hid (M102.out.draw hg hq2); have S103 := Lib.hid (hS); have RI103 := Lib.hid (RI102.out.draw hg); have GI103 := Lib.hid (GI102.out.draw hg); have Gnb_103 := Lib.hid (gb_trans Gnb_102.out hg); have PI103 := Lib.hid (PI102.out.draw hg)
      clear hg hS M102 S102 RI102 GI102 Gnb_102 PI102
      have hp_ := S103.out.lt.2
      have ha_ : w103.grownBy (w103.alloc (.cells #[.int .i64 t, .int .i64 0, .int .i64 nn3] 3)) none := gb_alloc (gb_refl _ _) _
      have hb_ := heap_alloc_new w103 (.cells #[.int .i64 t, .int .i64 0, .int .i64 nn3] 3)
      have M104 := Lib.hid (M103.out.later ha_); have S104 := Lib.hid (S103.out.later (row := none) ha_ (by simp)); have RI104 := Lib.hid (RI103.out.draw (gb_none ha_)); have GI104 := Lib.hid (GI103.out.draw (gb_none ha_)); have Gnb_104 := Lib.hid (gb_trans Gnb_103.out (gb_none ha_)); have PI104 := Lib.hid (PI103.out.draw (gb_none ha_))
      have M104 := Lib.hid (M104.out.more hb_ (by omega))
      clear hp_ ha_ hb_ M103 S103 RI103 GI103 Gnb_103 PI103
      go_wp2_with fail
      generalize w103.alloc (.cells #[.int .i64 t, .int .i64 0, .int .i64 nn3] 3) = w104 at *
      generalize w103.heap.size = ntb at *
      have HBnt : Hid (w104.heap[ntb]? = some (.cells ([t, 0, nn3].map (Value.int .i64)).toArray 3 (0, 0))) := Lib.hid (M104.out.at 0 rfl)
      have hnt0 := (M104.out.blk _ (List.mem_cons_self ..)).2
      have hnnt : ntb ≠ q := hnt0
      clear hnt0
      obtain ⟨Lnt, hL, hLnt⟩ : ∃ Lnt : List Int, Lnt = [t, 0, nn3] ∧ Lnt.length = 3 := ⟨_, rfl, rfl⟩
      rw [← hL] at HBnt
      clear hL
      go_loopw [55] (fun i wr => ∃ k : Nat, k ≤ 3 ∧ i = .int .i64 k ∧ Src q wr q ∧ w104.grownBy wr (some q)) (fun i _ => 3 - (intOf i).toNat)
      case atStart => exact ⟨0, by omega, rfl, S104.out, gb_refl _ _⟩
      case round =>
        obtain ⟨knt, hknt, rfl, hS, hgr⟩ := hrel
        by_cases hltnt : knt < 3
        · have hkLnt : knt < Lnt.length := by omega
          have hkdnt : decide ((knt : Int) < 3) = true := decide_eq_true (by omega)
          have r0_ := row1 (block_keptp hgr HBnt.out hnnt) knt hkLnt
          generalize wr = w200 at *
          have Gnt_104 := Lib.hid (gb_refl w104 (some q))
          have M200 := Lib.hid (M104.out.draw hgr hq2); have S200 := Lib.hid (hS); have RI200 := Lib.hid (RI104.out.draw hgr); have GI200 := Lib.hid (GI104.out.draw hgr); have Gnb_200 := Lib.hid (gb_trans Gnb_104.out hgr); have PI200 := Lib.hid (PI104.out.draw hgr); have Gnt_200 := Lib.hid (gb_trans Gnt_104.out hgr)
          clear hgr hS
          generalize Lnt[knt]?.getD 0 = o at *
          have LA := Lib.hid (LA.out o); have LB := Lib.hid (LB.out o); have BA := Lib.hid (BA.out o); have BB := Lib.hid (BB.out o)
          generalize sr o = so at *
          obtain ⟨⟨l0, l1, l2, l3, l4, l5, l6, l7, l8, l9, l10, l11⟩, tk, er⟩ := so
          simp only [Loc.val] at LA LB BA BB
          obtain ⟨pr0_, pr1_, pr2_, pr3_, pr4_, pr5_, pr6_, pr7_, pr8_, pr9_, pr10_⟩ := cells11 (M200.out.at 1 rfl)
          go_wp2_with fail
          (with_reducible refine (LA.out w200 PI200.out).mono ?_)
          rintro r w201 ⟨rfl, hg⟩
          clear pr0_ pr1_ pr2_ pr3_ pr4_ pr5_ pr6_ pr7_ pr8_ pr9_ pr10_ r0_ LA
          have M201 := Lib.hid (M200.out.later hg); have S201 := Lib.hid (S200.out.later (row := none) hg (by simp)); have RI201 := Lib.hid (RI200.out.draw (gb_none hg)); have GI201 := Lib.hid (GI200.out.draw (gb_none hg)); have Gnb_201 := Lib.hid (gb_trans Gnb_200.out (gb_none hg)); have PI201 := Lib.hid (PI200.out.draw (gb_none hg)); have Gnt_201 := Lib.hid (gb_trans Gnt_200.out (gb_none hg))
          clear hg M200 S200 RI200 GI200 Gnb_200 PI200 Gnt_200
          have hp_ := S201.out.lt.2
          have ha_ : w201.grownBy (w201.alloc (.cells #[.int .i64 l0, .int .i64 l1, .int .i64 l2, .int .i64 l3, .int .i64 l4, .int .i64 l5, .int .i64 l6, .int .i64 l7, .int .i64 l8, .int .i64 l9, .int .i64 l10, .int .i64 l11] 27)) none := gb_alloc (gb_refl _ _) _
          have hb_ := heap_alloc_new w201 (.cells #[.int .i64 l0, .int .i64 l1, .int .i64 l2, .int .i64 l3, .int .i64 l4, .int .i64 l5, .int .i64 l6, .int .i64 l7, .int .i64 l8, .int .i64 l9, .int .i64 l10, .int .i64 l11] 27)
          have M202 := Lib.hid (M201.out.later ha_); have S202 := Lib.hid (S201.out.later (row := none) ha_ (by simp)); have RI202 := Lib.hid (RI201.out.draw (gb_none ha_)); have GI202 := Lib.hid (GI201.out.draw (gb_none ha_)); have Gnb_202 := Lib.hid (gb_trans Gnb_201.out (gb_none ha_)); have PI202 := Lib.hid (PI201.out.draw (gb_none ha_)); have Gnt_202 := Lib.hid (gb_trans Gnt_201.out (gb_none ha_))
          have M202 := Lib.hid (M202.out.more hb_ (by omega))
          clear hp_ ha_ hb_ M201 S201 RI201 GI201 Gnb_201 PI201 Gnt_201
          obtain ⟨pr0_, pr1_, pr2_, pr3_, pr4_, pr5_, pr6_, pr7_, pr8_, pr9_, pr10_⟩ := cells11 (M202.out.at 2 rfl)
          go_wp2_with fail
          generalize w201.alloc (.cells #[.int .i64 l0, .int .i64 l1, .int .i64 l2, .int .i64 l3, .int .i64 l4, .int .i64 l5, .int .i64 l6, .int .i64 l7, .int .i64 l8, .int .i64 l9, .int .i64 l10, .int .i64 l11] 27) = w202 at *
          generalize w201.heap.size = lab at *
          (with_reducible refine (LB.out w202 PI202.out).mono ?_)
          rintro r w203 ⟨rfl, hg⟩
          clear pr0_ pr1_ pr2_ pr3_ pr4_ pr5_ pr6_ pr7_ pr8_ pr9_ pr10_ LB
          have M203 := Lib.hid (M202.out.later hg); have S203 := Lib.hid (S202.out.later (row := none) hg (by simp)); have RI203 := Lib.hid (RI202.out.draw (gb_none hg)); have GI203 := Lib.hid (GI202.out.draw (gb_none hg)); have Gnb_203 := Lib.hid (gb_trans Gnb_202.out (gb_none hg)); have PI203 := Lib.hid (PI202.out.draw (gb_none hg)); have Gnt_203 := Lib.hid (gb_trans Gnt_202.out (gb_none hg))
          clear hg M202 S202 RI202 GI202 Gnb_202 PI202 Gnt_202
          have hp_ := S203.out.lt.2
          have ha_ : w203.grownBy (w203.alloc (.cells #[.int .i64 l0, .int .i64 l1, .int .i64 l2, .int .i64 l3, .int .i64 l4, .int .i64 l5, .int .i64 l6, .int .i64 l7, .int .i64 l8, .int .i64 l9, .int .i64 l10, .int .i64 l11] 27)) none := gb_alloc (gb_refl _ _) _
          have hb_ := heap_alloc_new w203 (.cells #[.int .i64 l0, .int .i64 l1, .int .i64 l2, .int .i64 l3, .int .i64 l4, .int .i64 l5, .int .i64 l6, .int .i64 l7, .int .i64 l8, .int .i64 l9, .int .i64 l10, .int .i64 l11] 27)
          have M204 := Lib.hid (M203.out.later ha_); have S204 := Lib.hid (S203.out.later (row := none) ha_ (by simp)); have RI204 := Lib.hid (RI203.out.draw (gb_none ha_)); have GI204 := Lib.hid (GI203.out.draw (gb_none ha_)); have Gnb_204 := Lib.hid (gb_trans Gnb_203.out (gb_none ha_)); have PI204 := Lib.hid (PI203.out.draw (gb_none ha_)); have Gnt_204 := Lib.hid (gb_trans Gnt_203.out (gb_none ha_))
          have M204 := Lib.hid (M204.out.more hb_ (by omega))
          clear hp_ ha_ hb_ M203 S203 RI203 GI203 Gnb_203 PI203 Gnt_203
          obtain ⟨pr0_, pr1_, pr2_, pr3_, pr4_, pr5_, pr6_, pr7_, pr8_, pr9_, pr10_⟩ := cells11 (M204.out.at 3 rfl)
          go_wp2_with fail
          generalize w203.alloc (.cells #[.int .i64 l0, .int .i64 l1, .int .i64 l2, .int .i64 l3, .int .i64 l4, .int .i64 l5, .int .i64 l6, .int .i64 l7, .int .i64 l8, .int .i64 l9, .int .i64 l10, .int .i64 l11] 27) = w204 at *
          generalize w203.heap.size = lbb at *
          (with_reducible refine (BA.out w204 PI204.out).mono ?_)
          rintro r w205 ⟨rfl, hg⟩
          clear pr0_ pr1_ pr2_ pr3_ pr4_ pr5_ pr6_ pr7_ pr8_ pr9_ pr10_ BA
          have M205 := Lib.hid (M204.out.later hg); have S205 := Lib.hid (S204.out.later (row := none) hg (by simp)); have RI205 := Lib.hid (RI204.out.draw (gb_none hg)); have GI205 := Lib.hid (GI204.out.draw (gb_none hg)); have Gnb_205 := Lib.hid (gb_trans Gnb_204.out (gb_none hg)); have PI205 := Lib.hid (PI204.out.draw (gb_none hg)); have Gnt_205 := Lib.hid (gb_trans Gnt_204.out (gb_none hg))
          clear hg M204 S204 RI204 GI204 Gnb_204 PI204 Gnt_204
          obtain ⟨pr0_, pr1_, pr2_, pr3_, pr4_, pr5_, pr6_, pr7_, pr8_, pr9_, pr10_⟩ := cells11 (M205.out.at 3 rfl)
          go_wp2_with fail
          (with_reducible refine (BB.out w205 PI205.out).mono ?_)
          rintro r w206 ⟨rfl, hg⟩
          clear pr0_ pr1_ pr2_ pr3_ pr4_ pr5_ pr6_ pr7_ pr8_ pr9_ pr10_ BB
          have M206 := Lib.hid (M205.out.later hg); have S206 := Lib.hid (S205.out.later (row := none) hg (by simp)); have RI206 := Lib.hid (RI205.out.draw (gb_none hg)); have GI206 := Lib.hid (GI205.out.draw (gb_none hg)); have Gnb_206 := Lib.hid (gb_trans Gnb_205.out (gb_none hg)); have PI206 := Lib.hid (PI205.out.draw (gb_none hg)); have Gnt_206 := Lib.hid (gb_trans Gnt_205.out (gb_none hg))
          clear hg M205 S205 RI205 GI205 Gnb_205 PI205 Gnt_205
          obtain ⟨la0_, la1_, la2_, la3_, la4_, la5_, la6_, la7_, la8_, la9_, la10_, la11_⟩ := cells12 (M206.out.at 1 rfl)
          obtain ⟨lb0_, lb1_, lb2_, lb3_, lb4_, lb5_, lb6_, lb7_, lb8_, lb9_, lb10_, lb11_⟩ := cells12 (M206.out.at 0 rfl)
          have g1_ : (er != er) = false := by simp
          have g2_ : (tk != tk) = false := by simp
          have HGN := Gnt_206; have HSN := S206
          go_wp2_with fail
          go_roundw
          case rel => exact ⟨knt + 1, by omega, by go_num, HSN.out, HGN.out⟩
          case measure => simp [intOf]; omega
        · have hkdnt : decide ((knt : Int) < 3) = false := decide_eq_false (by omega)
          generalize wr = w300 at *
          have M300 := Lib.hid (M104.out.draw hgr hq2); have S300 := Lib.hid (hS); have RI300 := Lib.hid (RI104.out.draw hgr); have GI300 := Lib.hid (GI104.out.draw hgr); have Gnb_300 := Lib.hid (gb_trans Gnb_104.out hgr); have PI300 := Lib.hid (PI104.out.draw hgr)
          clear hgr hS M104 S104 RI104 GI104 Gnb_104 PI104 HBnt LA LB BA BB
          have HGN := Gnb_300; have HSN := S300
          go_wp2_with fail
          go_roundw
          case rel => exact ⟨knb + 1, by omega, by go_num, HSN.out, HGN.out⟩
          case measure => simp [intOf]; omega
    · have hkdnb : decide ((knb : Int) < 3) = false := decide_eq_false (by omega)
      generalize wr = w400 at *
      have M400 := Lib.hid (M7.out.draw hgr hq2); have S400 := Lib.hid (hS); have RI400 := Lib.hid (RI7.out.draw hgr); have GI400 := Lib.hid (GI7.out.draw hgr)
      clear hgr hS M7 S7 RI7 GI7 HBnb
      have HGM := Lib.hid (gb_trans GW.out M400.out.gr)
      go_wp2_with fail
      (with_reducible refine (awake28_any _).mono ?_)
      rintro r w8 ⟨rfl, hg⟩
      have HGE := Lib.hid (gb_trans HGM.out hg)
      go_wp2_with fail
      go_ret
      exact ⟨rfl, gb_end HGE.out⟩
end Go.Proofs.YtcealhikmbchoaaGreat
