/- The walk of MisfitProblems. Written by gen_law27f.py. -/
import Derived.Test.YtkckcaijfedijaaAwake27
import Derived.Test.YtkckcaijfedijaaLit27
import Derived.Test.YtkckcaijfedijaaProb
namespace Go.Proofs.Ytkckcaijfedijaa
set_option linter.all false
open Go.RowKit Rg

set_option maxRecDepth 100000 in
set_option maxHeartbeats 16000000 in
theorem misfitProblems_walk (w : World) (P0 : Prob) (rvl rvh rvp : Value) (hi : ProbIn P0 rvl rvh rvp w) (b0 b1 b2 b3 b4 b5 p0 p1 p2 t : Int) (_ht1 : -9223372036854775808 ≤ t) (_ht2 : t ≤ 9223372036854775807) (v : Value) (xs : List Int) (hs : Sl w v xs) (_hx : ∀ x ∈ xs, -9223372036854775808 ≤ x ∧ x ≤ 9223372036854775807) :
    Calls Try.prog 12 #[.agg (P0.val rvl rvh rvp), .agg #[.int .i64 b0, .int .i64 b1, .int .i64 b2, .int .i64 b3, .int .i64 b4, .int .i64 b5], .agg #[.int .i64 p0, .int .i64 p1, .int .i64 p2], .int .i64 t, v] w fun e w' => e = .returned (.bool true) ∧ Below w.heap.size w w' := by
  obtain ⟨ka, kc, rfl⟩ := hi.p.slice
  obtain ⟨ra, rn, rc, rfl⟩ := sl_slice hi.l; obtain ⟨sa, sn, sc, rfl⟩ := sl_slice hi.h
  have hv : v.oneCell' = true := by obtain ⟨va, vn, vc, rfl⟩ := sl_slice hs; rfl
  have SP := Lib.hid (fun (u : World) (hu : ProbIn P0 (.slice ra rn rc) (.slice sa sn sc) (.slice ka P0.phs.length kc) u) => smallProblem_any P0 _ _ _ u hu)
  obtain ⟨rx0, ry0, rz0, rx1, ry1, rz1, rst, rls, rhs, rphs, rcap⟩ := P0
  simp only [Prob.val] at *
  generalize hkn : rphs.length = kn at *
  go_enter Try.func12, Try.ntmps12
  have k0_0 : (w.alloc (.cells #[.int .i64 rx0, .int .i64 ry0, .int .i64 rz0, .int .i64 rx1, .int .i64 ry1, .int .i64 rz1, .int .i64 rst, .slice ra rn rc, .slice sa sn sc, .slice ka kn kc, .int .i64 rcap] 68)).heap[w.heap.size]? = some (.cells #[.int .i64 rx0, .int .i64 ry0, .int .i64 rz0, .int .i64 rx1, .int .i64 ry1, .int .i64 rz1, .int .i64 rst, .slice ra rn rc, .slice sa sn sc, .slice ka kn kc, .int .i64 rcap] 68 (0, 0)) := by exact heap_alloc_new _ _
  have k0_1 := block_kept (gb_alloc (gb_refl (w.alloc (.cells #[.int .i64 rx0, .int .i64 ry0, .int .i64 rz0, .int .i64 rx1, .int .i64 ry1, .int .i64 rz1, .int .i64 rst, .slice ra rn rc, .slice sa sn sc, .slice ka kn kc, .int .i64 rcap] 68)) none) (.cells #[.int .i64 b0, .int .i64 b1, .int .i64 b2, .int .i64 b3, .int .i64 b4, .int .i64 b5] 28)) k0_0 rfl
  have k1_1 : ((w.alloc (.cells #[.int .i64 rx0, .int .i64 ry0, .int .i64 rz0, .int .i64 rx1, .int .i64 ry1, .int .i64 rz1, .int .i64 rst, .slice ra rn rc, .slice sa sn sc, .slice ka kn kc, .int .i64 rcap] 68)).alloc (.cells #[.int .i64 b0, .int .i64 b1, .int .i64 b2, .int .i64 b3, .int .i64 b4, .int .i64 b5] 28)).heap[w.heap.size + 1]? = some (.cells #[.int .i64 b0, .int .i64 b1, .int .i64 b2, .int .i64 b3, .int .i64 b4, .int .i64 b5] 28 (0, 0)) := by simpa using heap_alloc_new (w.alloc (.cells #[.int .i64 rx0, .int .i64 ry0, .int .i64 rz0, .int .i64 rx1, .int .i64 ry1, .int .i64 rz1, .int .i64 rst, .slice ra rn rc, .slice sa sn sc, .slice ka kn kc, .int .i64 rcap] 68)) (.cells #[.int .i64 b0, .int .i64 b1, .int .i64 b2, .int .i64 b3, .int .i64 b4, .int .i64 b5] 28)
  clear k0_0
  have k0_2 := block_kept (gb_alloc (gb_refl ((w.alloc (.cells #[.int .i64 rx0, .int .i64 ry0, .int .i64 rz0, .int .i64 rx1, .int .i64 ry1, .int .i64 rz1, .int .i64 rst, .slice ra rn rc, .slice sa sn sc, .slice ka kn kc, .int .i64 rcap] 68)).alloc (.cells #[.int .i64 b0, .int .i64 b1, .int .i64 b2, .int .i64 b3, .int .i64 b4, .int .i64 b5] 28)) none) (.cells #[.int .i64 p0, .int .i64 p1, .int .i64 p2] 26)) k0_1 rfl
  have k1_2 := block_kept (gb_alloc (gb_refl ((w.alloc (.cells #[.int .i64 rx0, .int .i64 ry0, .int .i64 rz0, .int .i64 rx1, .int .i64 ry1, .int .i64 rz1, .int .i64 rst, .slice ra rn rc, .slice sa sn sc, .slice ka kn kc, .int .i64 rcap] 68)).alloc (.cells #[.int .i64 b0, .int .i64 b1, .int .i64 b2, .int .i64 b3, .int .i64 b4, .int .i64 b5] 28)) none) (.cells #[.int .i64 p0, .int .i64 p1, .int .i64 p2] 26)) k1_1 rfl
  have k2_2 : (((w.alloc (.cells #[.int .i64 rx0, .int .i64 ry0, .int .i64 rz0, .int .i64 rx1, .int .i64 ry1, .int .i64 rz1, .int .i64 rst, .slice ra rn rc, .slice sa sn sc, .slice ka kn kc, .int .i64 rcap] 68)).alloc (.cells #[.int .i64 b0, .int .i64 b1, .int .i64 b2, .int .i64 b3, .int .i64 b4, .int .i64 b5] 28)).alloc (.cells #[.int .i64 p0, .int .i64 p1, .int .i64 p2] 26)).heap[w.heap.size + 1 + 1]? = some (.cells #[.int .i64 p0, .int .i64 p1, .int .i64 p2] 26 (0, 0)) := by simpa using heap_alloc_new ((w.alloc (.cells #[.int .i64 rx0, .int .i64 ry0, .int .i64 rz0, .int .i64 rx1, .int .i64 ry1, .int .i64 rz1, .int .i64 rst, .slice ra rn rc, .slice sa sn sc, .slice ka kn kc, .int .i64 rcap] 68)).alloc (.cells #[.int .i64 b0, .int .i64 b1, .int .i64 b2, .int .i64 b3, .int .i64 b4, .int .i64 b5] 28)) (.cells #[.int .i64 p0, .int .i64 p1, .int .i64 p2] 26)
  clear k0_1 k1_1
  have hgw : w.grownBy (((w.alloc (.cells #[.int .i64 rx0, .int .i64 ry0, .int .i64 rz0, .int .i64 rx1, .int .i64 ry1, .int .i64 rz1, .int .i64 rst, .slice ra rn rc, .slice sa sn sc, .slice ka kn kc, .int .i64 rcap] 68)).alloc (.cells #[.int .i64 b0, .int .i64 b1, .int .i64 b2, .int .i64 b3, .int .i64 b4, .int .i64 b5] 28)).alloc (.cells #[.int .i64 p0, .int .i64 p1, .int .i64 p2] 26)) none := gb_alloc (gb_alloc (gb_alloc (gb_refl w none) _) _) _
  have K0 := Lib.hid k0_2
  have K1 := Lib.hid k1_2
  have K2 := Lib.hid k2_2
  clear k0_2 k1_2 k2_2
  have HI := Lib.hid (hi.after hgw); have HV := Lib.hid (hs.after hgw); have GW := Lib.hid hgw
  clear hi hs hgw
  obtain ⟨e0_, e1_, e2_, e3_, e4_, e5_, e6_, e7_, e8_, e9_, e10_⟩ := cells11 K0.out
  go_wp2_with fail
  refine calls_name (fun w1 hw => ?_)
  clear e0_ e1_ e2_ e3_ e4_ e5_ e6_ e7_ e8_ e9_ e10_
  have K0 := Lib.hid (show w1.heap[w.heap.size]? = some (.cells #[.int .i64 rx0, .int .i64 ry0, .int .i64 rz0, .int .i64 rx1, .int .i64 ry1, .int .i64 rz1, .int .i64 rst, .slice ra rn rc, .slice sa sn sc, .slice ka kn kc, .int .i64 rcap] 68 (0, 0)) from by rw [hw]; exact K0.out)
  have K1 := Lib.hid (show w1.heap[w.heap.size + 1]? = some (.cells #[.int .i64 b0, .int .i64 b1, .int .i64 b2, .int .i64 b3, .int .i64 b4, .int .i64 b5] 28 (0, 0)) from by rw [hw]; exact K1.out)
  have K2 := Lib.hid (show w1.heap[w.heap.size + 1 + 1]? = some (.cells #[.int .i64 p0, .int .i64 p1, .int .i64 p2] 26 (0, 0)) from by rw [hw]; exact K2.out)
  have HI := Lib.hid (show ProbIn ⟨rx0, ry0, rz0, rx1, ry1, rz1, rst, rls, rhs, rphs, rcap⟩ (.slice ra rn rc) (.slice sa sn sc) (.slice ka kn kc) w1 from by rw [hw]; exact HI.out); have HV := Lib.hid (show Sl w1 _ _ from by rw [hw]; exact HV.out); have GW := Lib.hid (show w.grownBy w1 none from by rw [hw]; exact GW.out)
  clear hw
  (with_reducible refine (SP.out w1 HI.out).mono ?_)
  rintro r w2 ⟨rfl, hg⟩
  have K0 := Lib.hid (block_kept hg K0.out rfl)
  have K1 := Lib.hid (block_kept hg K1.out rfl)
  have K2 := Lib.hid (block_kept hg K2.out rfl)
  have HI := Lib.hid (HI.out.after hg); have HV := Lib.hid (HV.out.after hg); have GW := Lib.hid (gb_trans GW.out hg)
  clear hg SP
  cases hsm : (decide (rls.length ≤ 300) && decide (rhs.length ≤ 300) && decide (kn ≤ 80))
  · go_wp2_with fail
    (with_reducible refine (awake27_any _).mono ?_)
    rintro r w3 ⟨rfl, hg⟩
    have HGE := Lib.hid (gb_trans GW.out hg)
    go_wp2_with fail
    go_ret
    exact ⟨rfl, gb_end HGE.out⟩
  have hk80 : kn ≤ 80 := by simp at hsm; omega
  clear hsm
  go_wp2_with fail
  (with_reducible refine (new_any w2 v xs HV.out).mono ?_)
  rintro e w3 ⟨rfl, hS, hg⟩
  have hlt := block_lt' K2.out
  have S3 := Lib.hid hS
  have M3 := Lib.hid (((((Mem.nil (w0 := w2) (p := w2.heap.size) hg).more (block_kept hg K0.out rfl) (by have := block_lt' K0.out; omega)).more (block_kept hg K1.out rfl) (by have := block_lt' K1.out; omega)).more (block_kept hg K2.out rfl) (by have := block_lt' K2.out; omega)))
  have RI3 := Lib.hid (show PrIn w2.heap.size w3 ⟨⟨rx0, ry0, rz0, rx1, ry1, rz1, rst, rls, rhs, rphs, rcap⟩, .slice ra rn rc, .slice sa sn sc, .slice ka kn kc⟩ from ⟨HI.out.after hg, HI.out.l.apart_lt (Nat.le_refl _), HI.out.h.apart_lt (Nat.le_refl _), HI.out.p.apart_lt (Nat.le_refl _), by simp only [hkn]; omega⟩)
  clear hg hS HI HV K0 K1 K2 hlt
  go_wp2_with fail
  generalize hq : w2.heap.size = q at *
  have hq2 : w2.heap.size ≤ q := by omega
  clear hq
  (with_reducible refine (problem_any q w3 q 30 6 S3.out (by omega) (by omega) (by omega) (by omega)).mono ?_)
  rintro e w4 ⟨G, gvl, gvh, gvp, rfl, hB, hT, -, hln, -, hpl, -, hin, hap, hS, hg⟩
  have hq3 := S3.out.lt.2
  have M4 := Lib.hid (M3.out.draw hg hq2); have S4 := Lib.hid (hS); have RI4 := Lib.hid (RI3.out.draw hg)
  clear hg hS M3 S3 RI3
  have GI4 := Lib.hid (show PrIn q w4 ⟨G, gvl, gvh, gvp⟩ from ⟨hin, fun b off len cap e _ => by have := hap gvl (.inl rfl) b off len cap e; omega, fun b off len cap e _ => by have := hap gvh (.inr (.inl rfl)) b off len cap e; omega, fun b off len cap e _ => by have := hap gvp (.inr (.inr rfl)) b off len cap e; omega, by have := hpl.2; simp only []; omega⟩)
  have HT := Lib.hid hT; have HB := Lib.hid hB
  obtain ⟨pa, pc, rfl⟩ := hin.p.slice
  obtain ⟨la, ln, lc, rfl⟩ := sl_slice hin.l; obtain ⟨ha, hn, hc, rfl⟩ := sl_slice hin.h
  have HL := Lib.hid (⟨hT.2.2.2.1, hT.2.2.1, by omega⟩ : 2 ≤ G.ls.length ∧ G.ls.length = G.hs.length ∧ G.ls.length ≤ 300)
  have HLP := Lib.hid (⟨hpl.1, by omega⟩ : 0 < G.phs.length ∧ G.phs.length ≤ 64)
  clear hB hT hln hpl hin hap hq3
  have BPC_ := Lib.hid (fun (u : World) (hS : Src q u q) (h : PrIn q u ⟨G, .slice la ln lc, .slice ha hn hc, .slice pa G.phs.length pc⟩) => bentProblem_any q u q G _ _ _ hS h.1 h.2.1 h.2.2.1 HL.out.1 HL.out.2.1 HL.out.2.2 HLP.out.1 HLP.out.2)
  obtain ⟨x0, y0, z0, x1, y1, z1, step, ls, hs, phs, cap⟩ := G
  simp only [Prob.val] at HB BPC_ GI4 ⊢
  have hp_ := S4.out.lt.2
  have ha_ : w4.grownBy (w4.alloc (.cells #[.int .i64 x0, .int .i64 y0, .int .i64 z0, .int .i64 x1, .int .i64 y1, .int .i64 z1, .int .i64 step, .slice la ln lc, .slice ha hn hc, .slice pa phs.length pc, .int .i64 cap] 68)) none := gb_alloc (gb_refl _ _) _
  have hb_ := heap_alloc_new w4 (.cells #[.int .i64 x0, .int .i64 y0, .int .i64 z0, .int .i64 x1, .int .i64 y1, .int .i64 z1, .int .i64 step, .slice la ln lc, .slice ha hn hc, .slice pa phs.length pc, .int .i64 cap] 68)
  have M5 := Lib.hid (M4.out.later ha_); have S5 := Lib.hid (S4.out.later (row := none) ha_ (by simp)); have RI5 := Lib.hid (RI4.out.draw (gb_none ha_)); have GI5 := Lib.hid (GI4.out.draw (gb_none ha_))
  have M5 := Lib.hid (M5.out.more hb_ (by omega))
  clear hp_ ha_ hb_ M4 S4 RI4 GI4
  go_wp2_with fail
  generalize w4.alloc (.cells #[.int .i64 x0, .int .i64 y0, .int .i64 z0, .int .i64 x1, .int .i64 y1, .int .i64 z1, .int .i64 step, .slice la ln lc, .slice ha hn hc, .slice pa phs.length pc, .int .i64 cap] 68) = w5 at *
  generalize w4.heap.size = goodb at *
  obtain ⟨raw0_, raw1_, raw2_, raw3_, raw4_, raw5_, raw6_, raw7_, raw8_, raw9_, raw10_⟩ := cells11 (M5.out.at 3 rfl)
  obtain ⟨good0_, good1_, good2_, good3_, good4_, good5_, good6_, good7_, good8_, good9_, good10_⟩ := cells11 (M5.out.at 0 rfl)
  have uraw_ := M5.out.pulled (B := q) 3 rfl
  have ugood_ := M5.out.pulled (B := q) 0 rfl
  have hp_ := S5.out.lt.2
  refine Rg.region (Pulled w5 q q) (Pull q) (fun k => if k = 4 then some (fun _ v u => BentPV q v u) else if k = 5 then some (isBlk w5 3 68) else none) (fun _ => false) 0 8 (by kernel_rfl) (by kernel_rfl) (by kernel_rfl) (by kernel_rfl) (by kernel_rfl) (by kernel_rfl) (by kernel_rfl) Pull.size (Pulled.start S5.out) (fun hne => ?_)
  (repeat (refine rLexL_quiet (by rfl) (by rfl) (by rfl) (by rfl) ?_; go_big_quiet_step (fail); refine wpQuiet_nil ?_))
  refine rg_drawM (BentPV q) 53 #[.pointer (some ⟨q, 0, none⟩), .agg #[.int .i64 x0, .int .i64 y0, .int .i64 z0, .int .i64 x1, .int .i64 y1, .int .i64 z1, .int .i64 step, .slice la ln lc, .slice ha hn hc, .slice pa phs.length pc, .int .i64 cap]] rfl rfl (fun v u u' h hg => h.draw hg) (fun _ => by go_simp) (fun u hu => (BPC_.out u hu.2 (GI5.out.draw hu.1)).mono fun e w' h => h.draw) (fun vb ub hvb => ?_)
  obtain ⟨⟨⟨v0, v1, v2, v3, v4, v5, bst, bls, bhs, bph, bcap⟩, bvl, bvh, bvp⟩, rfl, fin⟩ := hvb
  obtain ⟨⟨da, dc, rfl⟩, ⟨ba, bn, bc, rfl⟩, ⟨ca, cn, cc, rfl⟩, -⟩ := fin.sl
  clear fin ub
  simp only [Pv.cells]
  generalize bph.length = dn
  simp only [Act.put, List.setIfInBounds_toArray, List.set_cons_zero, List.set_cons_succ]
  (repeat (refine rLexL_quiet (by rfl) (by rfl) (by rfl) (by rfl) ?_; go_big_quiet_step (fail); refine wpQuiet_nil ?_))
  refine rg_litB 3 #[.int .i64 rx0, .int .i64 ry0, .int .i64 rz0, .int .i64 rx1, .int .i64 ry1, .int .i64 rz1, .int .i64 rst, .slice ra rn rc, .slice sa sn sc, .slice ka kn kc, .int .i64 rcap, .int .i64 x0, .int .i64 y0, .int .i64 z0, .int .i64 x1, .int .i64 y1, .int .i64 z1, .int .i64 step, .slice la ln lc, .slice ha hn hc, .slice pa phs.length pc, .int .i64 cap, .int .i64 v0, .int .i64 v1, .int .i64 v2, .int .i64 v3, .int .i64 v4, .int .i64 v5, .int .i64 bst, .slice ba bn bc, .slice ca cn cc, .slice da dn dc, .int .i64 bcap] 68 rfl rfl rfl (fun _ => by go_simp) hp_ (fun nb nbh => ?_)
  simp only [Act.put, List.setIfInBounds_toArray, List.set_cons_zero, List.set_cons_succ]
  (repeat (refine rLexL_quiet (by rfl) (by rfl) (by rfl) (by rfl) ?_; go_big_quiet_step (fail); refine wpQuiet_nil ?_))
  refine rLexL_val (.int .i64 3) (by rfl) (by rfl) (by rfl) (by rfl) (fun _ => by go_simp) ?_
  simp only [Act.put, List.setIfInBounds_toArray, List.set_cons_zero, List.set_cons_succ]
  (repeat (refine rLexL_quiet (by rfl) (by rfl) (by rfl) (by rfl) ?_; go_big_quiet_step (fail); refine wpQuiet_nil ?_))
  rintro wq ⟨hgq, hqs⟩ hf -
  obtain ⟨bls', bhs', bph', h4⟩ := BentPV.out (hf 4)
  have HLnb : Hid (∀ t ∈ ([⟨⟨rx0, ry0, rz0, rx1, ry1, rz1, rst, rls, rhs, rphs, rcap⟩, .slice ra rn rc, .slice sa sn sc, .slice ka kn kc⟩, ⟨⟨x0, y0, z0, x1, y1, z1, step, ls, hs, phs, cap⟩, .slice la ln lc, .slice ha hn hc, .slice pa phs.length pc⟩, ⟨⟨v0, v1, v2, v3, v4, v5, bst, bls', bhs', bph', bcap⟩, .slice ba bn bc, .slice ca cn cc, .slice da dn dc⟩] : List Pv), PrIn q wq t) := Lib.hid (by
    intro t ht
    simp only [List.mem_cons, List.not_mem_nil, or_false] at ht
    rcases ht with rfl | rfl | rfl
    · exact RI5.out.draw hgq
    · exact GI5.out.draw hgq
    · exact h4)
  clear h4
  have HBnb : Hid (wq.heap[nb]? = some (.cells (flatPr [⟨⟨rx0, ry0, rz0, rx1, ry1, rz1, rst, rls, rhs, rphs, rcap⟩, .slice ra rn rc, .slice sa sn sc, .slice ka kn kc⟩, ⟨⟨x0, y0, z0, x1, y1, z1, step, ls, hs, phs, cap⟩, .slice la ln lc, .slice ha hn hc, .slice pa phs.length pc⟩, ⟨⟨v0, v1, v2, v3, v4, v5, bst, bls', bhs', bph', bcap⟩, .slice ba bn bc, .slice ca cn cc, .slice da dn dc⟩]).toArray 68 (0, 0))) := Lib.hid (hf 5)
  have hnnb : nb ≠ q := by omega
  generalize wq = w6 at *
  have M6 := Lib.hid (M5.out.draw hgq hq2); have S6 := Lib.hid (hqs); have RI6 := Lib.hid (RI5.out.draw hgq); have GI6 := Lib.hid (GI5.out.draw hgq)
  clear hf hgq hqs hne hp_ nbh M5 S5 RI5 GI5 raw0_ raw1_ raw2_ raw3_ raw4_ raw5_ raw6_ raw7_ raw8_ raw9_ raw10_ good0_ good1_ good2_ good3_ good4_ good5_ good6_ good7_ good8_ good9_ good10_ uraw_ ugood_
  refine wpList_nil ?_
  obtain ⟨Lnb, hL, hLnb⟩ : ∃ Lnb : List Pv, Lnb = [⟨⟨rx0, ry0, rz0, rx1, ry1, rz1, rst, rls, rhs, rphs, rcap⟩, .slice ra rn rc, .slice sa sn sc, .slice ka kn kc⟩, ⟨⟨x0, y0, z0, x1, y1, z1, step, ls, hs, phs, cap⟩, .slice la ln lc, .slice ha hn hc, .slice pa phs.length pc⟩, ⟨⟨v0, v1, v2, v3, v4, v5, bst, bls', bhs', bph', bcap⟩, .slice ba bn bc, .slice ca cn cc, .slice da dn dc⟩] ∧ Lnb.length = 3 := ⟨_, rfl, rfl⟩
  rw [← hL] at HBnb
  rw [← hL] at HLnb
  clear hL
  go_wp2_with fail
  go_loopw [55] (fun i wr => ∃ k : Nat, k ≤ 3 ∧ i = .int .i64 k ∧ Src q wr q ∧ w6.grownBy wr (some q)) (fun i _ => 3 - (intOf i).toNat)
  case atStart => exact ⟨0, by omega, rfl, S6.out, gb_refl _ _⟩
  case round =>
    obtain ⟨knb, hknb, rfl, hS, hgr⟩ := hrel
    by_cases hltnb : knb < 3
    · have hkLnb : knb < Lnb.length := by omega
      have hkdnb : decide ((knb : Int) < 3) = true := decide_eq_true (by omega)
      obtain ⟨r0_, r1_, r2_, r3_, r4_, r5_, r6_, r7_, r8_, r9_, r10_⟩ := rowPr (block_keptp hgr HBnb.out hnnb) knb hkLnb
      generalize wr = w100 at *
      have Gnb_6 := Lib.hid (gb_refl w6 (some q))
      have M100 := Lib.hid (M6.out.draw hgr hq2); have S100 := Lib.hid (hS); have RI100 := Lib.hid (RI6.out.draw hgr); have GI100 := Lib.hid (GI6.out.draw hgr); have Gnb_100 := Lib.hid (gb_trans Gnb_6.out hgr)
      clear hgr hS
      have hin := (HLnb.out _ (List.getElem_mem hkLnb)).draw Gnb_100.out
      generalize Lnb[knb] = tp at *
      obtain ⟨P, pvl, pvh, pvp⟩ := tp
      simp only [] at r0_ r1_ r2_ r3_ r4_ r5_ r6_ r7_ r8_ r9_ r10_ hin
      obtain ⟨⟨qa, qc, rfl⟩, ⟨ma, mn, mc, rfl⟩, ⟨na, nn, nc, rfl⟩, hp100⟩ := hin.sl
      have PI100 := Lib.hid hin; clear hin
      have hpb : P.phs.length ≤ 1000000000 := by omega
      have VA := Lib.hid (fun (u : World) (h : PrIn q u ⟨P, .slice ma mn mc, .slice na nn nc, .slice qa P.phs.length qc⟩) => mvalidate_any P _ _ _ u h.1 hpb); have VB := Lib.hid (fun (u : World) (h : PrIn q u ⟨P, .slice ma mn mc, .slice na nn nc, .slice qa P.phs.length qc⟩) => rmvalidate_any P _ _ _ u h.1 hpb)
      generalize valE P = vE at *
      have ZA := Lib.hid (fun (c0 c1 c2 c3 c4 c5 : Int) (u : World) (h : PrIn q u ⟨P, .slice ma mn mc, .slice na nn nc, .slice qa P.phs.length qc⟩) => (Zones_any P _ _ _ c0 c1 c2 c3 c4 c5 u h.1 hpb).mono fun e w' h => h.any); have ZB := Lib.hid (fun (c0 c1 c2 c3 c4 c5 : Int) (u : World) (h : PrIn q u ⟨P, .slice ma mn mc, .slice na nn nc, .slice qa P.phs.length qc⟩) => (rZones_any P _ _ _ c0 c1 c2 c3 c4 c5 u h.1 hpb).mono fun e w' h => h.any)
      have ZL := Lib.hid (fun (c0 c1 c2 c3 c4 c5 E : Int) => zsOf_length (E := E) (P := P) (b0 := c0) (b1 := c1) (b2 := c2) (b3 := c3) (b4 := c4) (b5 := c5) hp100)
      have BA := Lib.hid (fun (c0 c1 c2 c3 c4 c5 : Int) (u : World) (h : PrIn q u ⟨P, .slice ma mn mc, .slice na nn nc, .slice qa P.phs.length qc⟩) => bound_any P _ _ _ c0 c1 c2 c3 c4 c5 u h.1 hpb); have BB := Lib.hid (fun (c0 c1 c2 c3 c4 c5 : Int) (u : World) (h : PrIn q u ⟨P, .slice ma mn mc, .slice na nn nc, .slice qa P.phs.length qc⟩) => rbound_any P _ _ _ c0 c1 c2 c3 c4 c5 u h.1 hpb)
      have BI := Lib.hid (fun (c0 c1 c2 c3 c4 c5 : Int) => bdV_is P c0 c1 c2 c3 c4 c5)
      have AA := Lib.hid (fun (x y z : Int) (u : World) (h : PrIn q u ⟨P, .slice ma mn mc, .slice na nn nc, .slice qa P.phs.length qc⟩) => at_any P _ _ _ x y z u h.1 hpb); have AB := Lib.hid (fun (x y z : Int) (u : World) (h : PrIn q u ⟨P, .slice ma mn mc, .slice na nn nc, .slice qa P.phs.length qc⟩) => rat_any P _ _ _ x y z u h.1 hpb)
      have AI := Lib.hid (fun (x y z : Int) => atV_is P x y z)
      have RA := Lib.hid (fun (x y z t : Int) (u : World) (h : PrIn q u ⟨P, .slice ma mn mc, .slice na nn nc, .slice qa P.phs.length qc⟩) => (residuals_all P _ _ _ x y z t u h.1 hpb).mono fun e w' h => h.any); have RB := Lib.hid (fun (x y z t : Int) (u : World) (h : PrIn q u ⟨P, .slice ma mn mc, .slice na nn nc, .slice qa P.phs.length qc⟩) => (rresiduals_all P _ _ _ x y z t u h.1 hpb).mono fun e w' h => h.any)
      have RL := Lib.hid (fun (x y z t E : Int) => resX_length (E := E) (t := t) (P := P) (b0 := x) (b1 := y) (b2 := z) (b3 := x) (b4 := y) (b5 := z) hp100)
      clear hpb hp100
      generalize zonesE P = zE at *
      generalize zonesL P = zL at *
      generalize bdV P = bV at *
      generalize atV P = aV at *
      obtain ⟨m0, m1, m2, m3, m4, m5, mst, mls, mhs, mph, mcap⟩ := P
      simp only [Prob.val] at VA VB ZA ZB BA BB AA AB RA RB r0_ r1_ r2_ r3_ r4_ r5_ r6_ r10_
      generalize mph.length = ml at *
      have hp_ := S100.out.lt.2
      have ha_ : w100.grownBy (w100.alloc (.cells #[.int .i64 m0, .int .i64 m1, .int .i64 m2, .int .i64 m3, .int .i64 m4, .int .i64 m5, .int .i64 mst, .slice ma mn mc, .slice na nn nc, .slice qa ml qc, .int .i64 mcap] 68)) none := gb_alloc (gb_refl _ _) _
      have hb_ := heap_alloc_new w100 (.cells #[.int .i64 m0, .int .i64 m1, .int .i64 m2, .int .i64 m3, .int .i64 m4, .int .i64 m5, .int .i64 mst, .slice ma mn mc, .slice na nn nc, .slice qa ml qc, .int .i64 mcap] 68)
      have M101 := Lib.hid (M100.out.later ha_); have S101 := Lib.hid (S100.out.later (row := none) ha_ (by simp)); have RI101 := Lib.hid (RI100.out.draw (gb_none ha_)); have GI101 := Lib.hid (GI100.out.draw (gb_none ha_)); have Gnb_101 := Lib.hid (gb_trans Gnb_100.out (gb_none ha_)); have PI101 := Lib.hid (PI100.out.draw (gb_none ha_))
      have M101 := Lib.hid (M101.out.more hb_ (by omega))
      clear hp_ ha_ hb_ M100 S100 RI100 GI100 Gnb_100 PI100
      go_wp2_with fail
      generalize w100.alloc (.cells #[.int .i64 m0, .int .i64 m1, .int .i64 m2, .int .i64 m3, .int .i64 m4, .int .i64 m5, .int .i64 mst, .slice ma mn mc, .slice na nn nc, .slice qa ml qc, .int .i64 mcap] 68) = w101 at *
      generalize w100.heap.size = prb at *
      clear r0_ r1_ r2_ r3_ r4_ r5_ r6_ r7_ r8_ r9_ r10_
      obtain ⟨pr0_, pr1_, pr2_, pr3_, pr4_, pr5_, pr6_, pr7_, pr8_, pr9_, pr10_⟩ := cells11 (M101.out.at 0 rfl)
      have upr_ := M101.out.made 0 rfl
      refine Rg.region (Made w101) Makes (fun k => if k = 1 then some (isV (.int .i64 vE)) else if k = 3 then some (isV (.int .i64 vE)) else none) (fun _ => false) 0 5 (by kernel_rfl) (by kernel_rfl) (by kernel_rfl) (by kernel_rfl) (by kernel_rfl) (by kernel_rfl) (by kernel_rfl) Makes.size (Made.start w101) (fun hne => ?_)
      (repeat (refine rLexL_quiet (by rfl) (by rfl) (by rfl) (by rfl) ?_; go_big_quiet_step (fail); refine wpQuiet_nil ?_))
      refine rg_fix (.int .i64 vE) 54 #[.agg #[.int .i64 m0, .int .i64 m1, .int .i64 m2, .int .i64 m3, .int .i64 m4, .int .i64 m5, .int .i64 mst, .slice ma mn mc, .slice na nn nc, .slice qa ml qc, .int .i64 mcap]] rfl rfl rfl (fun _ => by go_simp) (fun u hu => VA.out u (PI101.out.draw (gb_none hu))) ?_
      simp only [Act.put, List.setIfInBounds_toArray, List.set_cons_zero, List.set_cons_succ]
      (repeat (refine rLexL_quiet (by rfl) (by rfl) (by rfl) (by rfl) ?_; go_big_quiet_step (fail); refine wpQuiet_nil ?_))
      refine rg_fix (.int .i64 vE) 55 #[.agg #[.int .i64 m0, .int .i64 m1, .int .i64 m2, .int .i64 m3, .int .i64 m4, .int .i64 m5, .int .i64 mst, .slice ma mn mc, .slice na nn nc, .slice qa ml qc, .int .i64 mcap]] rfl rfl rfl (fun _ => by go_simp) (fun u hu => VB.out u (PI101.out.draw (gb_none hu))) ?_
      simp only [Act.put, List.setIfInBounds_toArray, List.set_cons_zero, List.set_cons_succ]
      (repeat (refine rLexL_quiet (by rfl) (by rfl) (by rfl) (by rfl) ?_; go_big_quiet_step (fail); refine wpQuiet_nil ?_))
      rintro wq hq_ - -
      refine wpList_nil ?_
      generalize wq = w102 at *
      clear hne pr0_ pr1_ pr2_ pr3_ pr4_ pr5_ pr6_ pr7_ pr8_ pr9_ pr10_ upr_ VA VB
      have M102 := Lib.hid (M101.out.later hq_); have S102 := Lib.hid (S101.out.later (row := none) hq_ (by simp)); have RI102 := Lib.hid (RI101.out.draw (gb_none hq_)); have GI102 := Lib.hid (GI101.out.draw (gb_none hq_)); have Gnb_102 := Lib.hid (gb_trans Gnb_101.out (gb_none hq_)); have PI102 := Lib.hid (PI101.out.draw (gb_none hq_))
      clear hq_ M101 S101 RI101 GI101 Gnb_101 PI101
      go_wp2_with fail
      obtain ⟨good0_, good1_, good2_, good3_, good4_, good5_, good6_, good7_, good8_, good9_, good10_⟩ := cells11 (M102.out.at 1 rfl)
      have ugood_ := M102.out.pulled (B := q) 1 rfl
      have hp_ := S102.out.lt.2
      refine Rg.region (Pulled w102 q q) (Pull q) (fun k => if k = 3 then some (isSome' (fun v => ∃ x y z, v = .agg #[.int .i64 x, .int .i64 y, .int .i64 z] ∧ (x0 ≤ x ∧ x ≤ x1 ∧ y0 ≤ y ∧ y ≤ y1 ∧ z0 ≤ z ∧ z ≤ z1))) else if k = 8 then some (isNew w102 #[.int .i64 0, .int .i64 0, .int .i64 0, .int .i64 0, .int .i64 0, .int .i64 0] 28) else none) (fun _ => false) 0 9 (by kernel_rfl) (by kernel_rfl) (by kernel_rfl) (by kernel_rfl) (by kernel_rfl) (by kernel_rfl) (by kernel_rfl) Pull.size (Pulled.start S102.out) (fun hne => ?_)
      (repeat (refine rLexL_quiet (by rfl) (by rfl) (by rfl) (by rfl) ?_; go_big_quiet_step (fail); refine wpQuiet_nil ?_))
      refine rg_drawF (fun v => ∃ x y z, v = .agg #[.int .i64 x, .int .i64 y, .int .i64 z] ∧ (x0 ≤ x ∧ x ≤ x1 ∧ y0 ≤ y ∧ y ≤ y1 ∧ z0 ≤ z ∧ z ≤ z1)) 33 #[.pointer (some ⟨q, 0, none⟩), .agg #[.int .i64 x0, .int .i64 y0, .int .i64 z0, .int .i64 x1, .int .i64 y1, .int .i64 z1]] rfl rfl (fun _ => by go_simp) (fun u hu _ => (point_any q u q x0 y0 z0 x1 y1 z1 hu.2 (by have := HB.out; simp [boxIn, placeIn] at this; omega) (by have := HB.out; simp [boxIn, placeIn] at this; omega) (by have := HB.out; simp [boxIn, placeIn] at this; omega)).mono fun e w' h => h.draw) (fun vb hvb => ?_)
      obtain ⟨i0, i1, i2, rfl, -⟩ := hvb
      simp only [Act.put, List.setIfInBounds_toArray, List.set_cons_zero, List.set_cons_succ]
      (repeat (refine rLexL_quiet (by rfl) (by rfl) (by rfl) (by rfl) ?_; go_big_quiet_step (fail); refine wpQuiet_nil ?_))
      refine rg_newP #[.int .i64 0, .int .i64 0, .int .i64 0, .int .i64 0, .int .i64 0, .int .i64 0] 28 rfl rfl (fun _ => by go_simp) hp_ (fun ib ibh => ?_)
      simp only [Act.put, List.setIfInBounds_toArray, List.set_cons_zero, List.set_cons_succ]
      (repeat (refine rLexL_quiet (by rfl) (by rfl) (by rfl) (by rfl) ?_; go_big_quiet_step (fail); refine wpQuiet_nil ?_))
      rintro wq ⟨hgq, hqs⟩ hf -
      have hr_ := isNew.out (hf 8)
      refine wpList_store_row rfl _ _ _ rfl ib #[.int .i64 i0, .int .i64 i1, .int .i64 i2, .int .i64 x1, .int .i64 y1, .int .i64 z1] rfl rfl _ _ hr_ (by kernel_rfl) rfl (by simp [Value.oneCell']) ?_
      have hb_ := setRow_at (cs := #[.int .i64 i0, .int .i64 i1, .int .i64 i2, .int .i64 x1, .int .i64 y1, .int .i64 z1]) hr_
      have hg_ : w102.grownBy (wq.setRow ib #[.int .i64 i0, .int .i64 i1, .int .i64 i2, .int .i64 x1, .int .i64 y1, .int .i64 z1]) (some q) := gb_setRow hgq (.inl ibh)
      have hs_ : Src q (wq.setRow ib #[.int .i64 i0, .int .i64 i1, .int .i64 i2, .int .i64 x1, .int .i64 y1, .int .i64 z1]) q := hqs.later (gb_setRow (gb_refl _ _) (.inr rfl)) (fun r_ hr_ => by simp at hr_; omega)
      generalize wq.setRow ib #[.int .i64 i0, .int .i64 i1, .int .i64 i2, .int .i64 x1, .int .i64 y1, .int .i64 z1] = w103 at *
      refine wpList_nil ?_
      simp only [Act.put, List.setIfInBounds_toArray, List.set_cons_zero, List.set_cons_succ]
      have M103 := Lib.hid (M102.out.draw hg_ hq2); have S103 := Lib.hid (hs_); have RI103 := Lib.hid (RI102.out.draw hg_); have GI103 := Lib.hid (GI102.out.draw hg_); have Gnb_103 := Lib.hid (gb_trans Gnb_102.out hg_); have PI103 := Lib.hid (PI102.out.draw hg_)
      have M103 := Lib.hid (M103.out.more hb_ (by omega))
      clear hf hgq hqs hne hp_ hr_ hb_ hg_ hs_ M102 S102 RI102 GI102 Gnb_102 PI102 good0_ good1_ good2_ good3_ good4_ good5_ good6_ good7_ good8_ good9_ good10_ ugood_
      go_wp2_with fail
      obtain ⟨bx0_, bx1_, bx2_, bx3_, bx4_, bx5_⟩ := six (M103.out.at 4 rfl)
      obtain ⟨good0_, good1_, good2_, good3_, good4_, good5_, good6_, good7_, good8_, good9_, good10_⟩ := cells11 (M103.out.at 2 rfl)
      obtain ⟨inner0_, inner1_, inner2_, inner3_, inner4_, inner5_⟩ := six (M103.out.at 0 rfl)
      have ubx_ := M103.out.pulled (B := q) 4 rfl
      have ugood_ := M103.out.pulled (B := q) 2 rfl
      have uinner_ := M103.out.pulled (B := q) 0 rfl
      have hp_ := S103.out.lt.2
      refine Rg.region (Pulled w103 q q) (Pull q) (fun k => if k = 7 then some (isSome' (fun v => ∃ x y z a b c, v = .agg #[.int .i64 x, .int .i64 y, .int .i64 z, .int .i64 a, .int .i64 b, .int .i64 c] ∧ True)) else if k = 8 then some (isBlk w103 4 28) else none) (fun _ => false) 0 11 (by kernel_rfl) (by kernel_rfl) (by kernel_rfl) (by kernel_rfl) (by kernel_rfl) (by kernel_rfl) (by kernel_rfl) Pull.size (Pulled.start S103.out) (fun hne => ?_)
      (repeat (refine rLexL_quiet (by rfl) (by rfl) (by rfl) (by rfl) ?_; go_big_quiet_step (fail); refine wpQuiet_nil ?_))
      refine rg_drawF (fun v => ∃ x y z a b c, v = .agg #[.int .i64 x, .int .i64 y, .int .i64 z, .int .i64 a, .int .i64 b, .int .i64 c] ∧ True) 21 #[.pointer (some ⟨q, 0, none⟩), .agg #[.int .i64 x0, .int .i64 y0, .int .i64 z0, .int .i64 x1, .int .i64 y1, .int .i64 z1]] rfl rfl (fun _ => by go_simp) (fun u hu _ => (bent_any q u q x0 y0 z0 x1 y1 z1 hu.2).mono fun e w' h => h.draw) (fun vb hvb => ?_)
      obtain ⟨j0, j1, j2, j3, j4, j5, rfl, -⟩ := hvb
      simp only [Act.put, List.setIfInBounds_toArray, List.set_cons_zero, List.set_cons_succ]
      (repeat (refine rLexL_quiet (by rfl) (by rfl) (by rfl) (by rfl) ?_; go_big_quiet_step (fail); refine wpQuiet_nil ?_))
      refine rg_litB 4 #[.int .i64 b0, .int .i64 b1, .int .i64 b2, .int .i64 b3, .int .i64 b4, .int .i64 b5, .int .i64 x0, .int .i64 y0, .int .i64 z0, .int .i64 x1, .int .i64 y1, .int .i64 z1, .int .i64 i0, .int .i64 i1, .int .i64 i2, .int .i64 x1, .int .i64 y1, .int .i64 z1, .int .i64 j0, .int .i64 j1, .int .i64 j2, .int .i64 j3, .int .i64 j4, .int .i64 j5] 28 rfl rfl rfl (fun _ => by go_simp) hp_ (fun nx nxh => ?_)
      simp only [Act.put, List.setIfInBounds_toArray, List.set_cons_zero, List.set_cons_succ]
      (repeat (refine rLexL_quiet (by rfl) (by rfl) (by rfl) (by rfl) ?_; go_big_quiet_step (fail); refine wpQuiet_nil ?_))
      refine rLexL_val (.int .i64 4) (by rfl) (by rfl) (by rfl) (by rfl) (fun _ => by go_simp) ?_
      simp only [Act.put, List.setIfInBounds_toArray, List.set_cons_zero, List.set_cons_succ]
      (repeat (refine rLexL_quiet (by rfl) (by rfl) (by rfl) (by rfl) ?_; go_big_quiet_step (fail); refine wpQuiet_nil ?_))
      rintro wq ⟨hgq, hqs⟩ hf -
      have HBnx : Hid (wq.heap[nx]? = some (.cells (flatP [⟨b0, b1, b2, b3, b4, b5⟩, ⟨x0, y0, z0, x1, y1, z1⟩, ⟨i0, i1, i2, x1, y1, z1⟩, ⟨j0, j1, j2, j3, j4, j5⟩]).toArray 28 (0, 0))) := Lib.hid (hf 8)
      have hnnx : nx ≠ q := by omega
      generalize wq = w104 at *
      have M104 := Lib.hid (M103.out.draw hgq hq2); have S104 := Lib.hid (hqs); have RI104 := Lib.hid (RI103.out.draw hgq); have GI104 := Lib.hid (GI103.out.draw hgq); have Gnb_104 := Lib.hid (gb_trans Gnb_103.out hgq); have PI104 := Lib.hid (PI103.out.draw hgq)
      clear hf hgq hqs hne hp_ nxh M103 S103 RI103 GI103 Gnb_103 PI103 bx0_ bx1_ bx2_ bx3_ bx4_ bx5_ good0_ good1_ good2_ good3_ good4_ good5_ good6_ good7_ good8_ good9_ good10_ inner0_ inner1_ inner2_ inner3_ inner4_ inner5_ ubx_ ugood_ uinner_
      refine wpList_nil ?_
      obtain ⟨Lnx, hL, hLnx⟩ : ∃ Lnx : List Ph, Lnx = [⟨b0, b1, b2, b3, b4, b5⟩, ⟨x0, y0, z0, x1, y1, z1⟩, ⟨i0, i1, i2, x1, y1, z1⟩, ⟨j0, j1, j2, j3, j4, j5⟩] ∧ Lnx.length = 4 := ⟨_, rfl, rfl⟩
      rw [← hL] at HBnx
      clear hL
      go_wp2_with fail
      go_loopw [82] (fun i wr => ∃ k : Nat, k ≤ 4 ∧ i = .int .i64 k ∧ Src q wr q ∧ w104.grownBy wr (some q)) (fun i _ => 4 - (intOf i).toNat)
      case atStart => exact ⟨0, by omega, rfl, S104.out, gb_refl _ _⟩
      case round =>
        obtain ⟨knx, hknx, rfl, hS, hgr⟩ := hrel
        by_cases hltnx : knx < 4
        · have hkLnx : knx < Lnx.length := by omega
          have hkdnx : decide ((knx : Int) < 4) = true := decide_eq_true (by omega)
          obtain ⟨r0_, r1_, r2_, r3_, r4_, r5_⟩ := rowP (block_keptp hgr HBnx.out hnnx) knx hkLnx
          generalize wr = w200 at *
          have Gnx_104 := Lib.hid (gb_refl w104 (some q))
          have M200 := Lib.hid (M104.out.draw hgr hq2); have S200 := Lib.hid (hS); have RI200 := Lib.hid (RI104.out.draw hgr); have GI200 := Lib.hid (GI104.out.draw hgr); have Gnb_200 := Lib.hid (gb_trans Gnb_104.out hgr); have PI200 := Lib.hid (PI104.out.draw hgr); have Gnx_200 := Lib.hid (gb_trans Gnx_104.out hgr)
          clear hgr hS
          generalize Lnx[knx] = tb at *
          obtain ⟨c0, c1, c2, c3, c4, c5⟩ := tb
          simp only [] at r0_ r1_ r2_ r3_ r4_ r5_
          have ZA := Lib.hid (ZA.out c0 c1 c2 c3 c4 c5); have ZB := Lib.hid (ZB.out c0 c1 c2 c3 c4 c5); have ZL := ZL.out c0 c1 c2 c3 c4 c5 (zE c0 c1 c2 c3 c4 c5); have BA := Lib.hid (BA.out c0 c1 c2 c3 c4 c5); have BB := Lib.hid (BB.out c0 c1 c2 c3 c4 c5)
          obtain ⟨be, bf, hbv⟩ := BI.out c0 c1 c2 c3 c4 c5
          rw [hbv] at BA BB
          generalize zE c0 c1 c2 c3 c4 c5 = ze at *
          generalize zL c0 c1 c2 c3 c4 c5 = zl at *
          generalize zsOf ze zl = zs at *
          clear hbv
          have hp_ := S200.out.lt.2
          have ha_ : w200.grownBy (w200.alloc (.cells #[.int .i64 c0, .int .i64 c1, .int .i64 c2, .int .i64 c3, .int .i64 c4, .int .i64 c5] 28)) none := gb_alloc (gb_refl _ _) _
          have hb_ := heap_alloc_new w200 (.cells #[.int .i64 c0, .int .i64 c1, .int .i64 c2, .int .i64 c3, .int .i64 c4, .int .i64 c5] 28)
          have M201 := Lib.hid (M200.out.later ha_); have S201 := Lib.hid (S200.out.later (row := none) ha_ (by simp)); have RI201 := Lib.hid (RI200.out.draw (gb_none ha_)); have GI201 := Lib.hid (GI200.out.draw (gb_none ha_)); have Gnb_201 := Lib.hid (gb_trans Gnb_200.out (gb_none ha_)); have PI201 := Lib.hid (PI200.out.draw (gb_none ha_)); have Gnx_201 := Lib.hid (gb_trans Gnx_200.out (gb_none ha_))
          have M201 := Lib.hid (M201.out.more hb_ (by omega))
          clear hp_ ha_ hb_ M200 S200 RI200 GI200 Gnb_200 PI200 Gnx_200
          obtain ⟨pr0_, pr1_, pr2_, pr3_, pr4_, pr5_, pr6_, pr7_, pr8_, pr9_, pr10_⟩ := cells11 (M201.out.at 2 rfl)
          obtain ⟨cb0_, cb1_, cb2_, cb3_, cb4_, cb5_⟩ := six (M201.out.at 0 rfl)
          go_wp2_with fail
          generalize w200.alloc (.cells #[.int .i64 c0, .int .i64 c1, .int .i64 c2, .int .i64 c3, .int .i64 c4, .int .i64 c5] 28) = w201 at *
          generalize w200.heap.size = cbb at *
          clear r0_ r1_ r2_ r3_ r4_ r5_
          (with_reducible refine (ZA.out w201 PI201.out).mono ?_)
          rintro r w202 ⟨z1, rfl, hz1, hg⟩
          clear pr0_ pr1_ pr2_ pr3_ pr4_ pr5_ pr6_ pr7_ pr8_ pr9_ pr10_ cb0_ cb1_ cb2_ cb3_ cb4_ cb5_
          have ZX202 := Lib.hid hz1; obtain ⟨za1, zc1, rfl⟩ := hz1.slice; clear hz1
          have M202 := Lib.hid (M201.out.later hg); have S202 := Lib.hid (S201.out.later (row := none) hg (by simp)); have RI202 := Lib.hid (RI201.out.draw (gb_none hg)); have GI202 := Lib.hid (GI201.out.draw (gb_none hg)); have Gnb_202 := Lib.hid (gb_trans Gnb_201.out (gb_none hg)); have PI202 := Lib.hid (PI201.out.draw (gb_none hg)); have Gnx_202 := Lib.hid (gb_trans Gnx_201.out (gb_none hg))
          clear hg M201 S201 RI201 GI201 Gnb_201 PI201 Gnx_201
          obtain ⟨pr0_, pr1_, pr2_, pr3_, pr4_, pr5_, pr6_, pr7_, pr8_, pr9_, pr10_⟩ := cells11 (M202.out.at 2 rfl)
          obtain ⟨cb0_, cb1_, cb2_, cb3_, cb4_, cb5_⟩ := six (M202.out.at 0 rfl)
          go_wp2_with fail
          (with_reducible refine (ZB.out w202 PI202.out).mono ?_)
          rintro r w203 ⟨z2, rfl, hz2, hg⟩
          clear pr0_ pr1_ pr2_ pr3_ pr4_ pr5_ pr6_ pr7_ pr8_ pr9_ pr10_ cb0_ cb1_ cb2_ cb3_ cb4_ cb5_
          have ZY203 := Lib.hid hz2; obtain ⟨za2, zc2, rfl⟩ := hz2.slice; clear hz2
          have M203 := Lib.hid (M202.out.later hg); have S203 := Lib.hid (S202.out.later (row := none) hg (by simp)); have RI203 := Lib.hid (RI202.out.draw (gb_none hg)); have GI203 := Lib.hid (GI202.out.draw (gb_none hg)); have Gnb_203 := Lib.hid (gb_trans Gnb_202.out (gb_none hg)); have PI203 := Lib.hid (PI202.out.draw (gb_none hg)); have Gnx_203 := Lib.hid (gb_trans Gnx_202.out (gb_none hg)); have ZX203 := Lib.hid (ZX202.out.after hg)
          clear hg M202 S202 RI202 GI202 Gnb_202 PI202 Gnx_202 ZX202
          obtain ⟨pr0_, pr1_, pr2_, pr3_, pr4_, pr5_, pr6_, pr7_, pr8_, pr9_, pr10_⟩ := cells11 (M203.out.at 2 rfl)
          obtain ⟨cb0_, cb1_, cb2_, cb3_, cb4_, cb5_⟩ := six (M203.out.at 0 rfl)
          go_wp2_with fail
          (with_reducible refine (BA.out w203 PI203.out).mono ?_)
          rintro r w204 ⟨rfl, hg⟩
          clear pr0_ pr1_ pr2_ pr3_ pr4_ pr5_ pr6_ pr7_ pr8_ pr9_ pr10_ cb0_ cb1_ cb2_ cb3_ cb4_ cb5_
          have M204 := Lib.hid (M203.out.later hg); have S204 := Lib.hid (S203.out.later (row := none) hg (by simp)); have RI204 := Lib.hid (RI203.out.draw (gb_none hg)); have GI204 := Lib.hid (GI203.out.draw (gb_none hg)); have Gnb_204 := Lib.hid (gb_trans Gnb_203.out (gb_none hg)); have PI204 := Lib.hid (PI203.out.draw (gb_none hg)); have Gnx_204 := Lib.hid (gb_trans Gnx_203.out (gb_none hg)); have ZX204 := Lib.hid (ZX203.out.after hg); have ZY204 := Lib.hid (ZY203.out.after hg)
          clear hg M203 S203 RI203 GI203 Gnb_203 PI203 Gnx_203 ZX203 ZY203
          obtain ⟨pr0_, pr1_, pr2_, pr3_, pr4_, pr5_, pr6_, pr7_, pr8_, pr9_, pr10_⟩ := cells11 (M204.out.at 2 rfl)
          obtain ⟨cb0_, cb1_, cb2_, cb3_, cb4_, cb5_⟩ := six (M204.out.at 0 rfl)
          go_wp2_with fail
          (with_reducible refine (BB.out w204 PI204.out).mono ?_)
          rintro r w205 ⟨rfl, hg⟩
          clear pr0_ pr1_ pr2_ pr3_ pr4_ pr5_ pr6_ pr7_ pr8_ pr9_ pr10_ cb0_ cb1_ cb2_ cb3_ cb4_ cb5_
          have M205 := Lib.hid (M204.out.later hg); have S205 := Lib.hid (S204.out.later (row := none) hg (by simp)); have RI205 := Lib.hid (RI204.out.draw (gb_none hg)); have GI205 := Lib.hid (GI204.out.draw (gb_none hg)); have Gnb_205 := Lib.hid (gb_trans Gnb_204.out (gb_none hg)); have PI205 := Lib.hid (PI204.out.draw (gb_none hg)); have Gnx_205 := Lib.hid (gb_trans Gnx_204.out (gb_none hg)); have ZX205 := Lib.hid (ZX204.out.after hg); have ZY205 := Lib.hid (ZY204.out.after hg)
          clear hg M204 S204 RI204 GI204 Gnb_204 PI204 Gnx_204 ZX204 ZY204
          go_wp2_with fail
          (with_reducible refine (zones_same _ _ zs w205 ZX205.out ZY205.out ZL).mono ?_)
          rintro r w206 ⟨rfl, hg⟩
          have M206 := Lib.hid (M205.out.later hg); have S206 := Lib.hid (S205.out.later (row := none) hg (by simp)); have RI206 := Lib.hid (RI205.out.draw (gb_none hg)); have GI206 := Lib.hid (GI205.out.draw (gb_none hg)); have Gnb_206 := Lib.hid (gb_trans Gnb_205.out (gb_none hg)); have PI206 := Lib.hid (PI205.out.draw (gb_none hg)); have Gnx_206 := Lib.hid (gb_trans Gnx_205.out (gb_none hg)); have ZX206 := Lib.hid (ZX205.out.after hg); have ZY206 := Lib.hid (ZY205.out.after hg)
          clear hg M205 S205 RI205 GI205 Gnb_205 PI205 Gnx_205 ZX205 ZY205
          have HGN := Gnx_206; have HSN := S206
          go_wp2_with fail
          go_roundw
          case rel => exact ⟨knx + 1, by omega, by go_num, HSN.out, HGN.out⟩
          case measure => simp [intOf]; omega
        · have hkdnx : decide ((knx : Int) < 4) = false := decide_eq_false (by omega)
          generalize wr = w300 at *
          have M300 := Lib.hid (M104.out.draw hgr hq2); have S300 := Lib.hid (hS); have RI300 := Lib.hid (RI104.out.draw hgr); have GI300 := Lib.hid (GI104.out.draw hgr); have Gnb_300 := Lib.hid (gb_trans Gnb_104.out hgr); have PI300 := Lib.hid (PI104.out.draw hgr)
          clear hgr hS M104 S104 RI104 GI104 Gnb_104 PI104 HBnx ZA ZB ZL BA BB BI
          go_wp2_with fail
          obtain ⟨ps0_, ps1_, ps2_⟩ := cells3 (M300.out.at 3 rfl)
          obtain ⟨good0_, good1_, good2_, good3_, good4_, good5_, good6_, good7_, good8_, good9_, good10_⟩ := cells11 (M300.out.at 2 rfl)
          have ups_ := M300.out.pulled (B := q) 3 rfl
          have ugood_ := M300.out.pulled (B := q) 2 rfl
          have hp_ := S300.out.lt.2
          refine Rg.region (Pulled w300 q q) (Pull q) (fun k => if k = 4 then some (isSome' (fun v => ∃ x y z, v = .agg #[.int .i64 x, .int .i64 y, .int .i64 z] ∧ (x0 ≤ x ∧ x ≤ x1 ∧ y0 ≤ y ∧ y ≤ y1 ∧ z0 ≤ z ∧ z ≤ z1))) else if k = 6 then some (isSome' (fun v => ∃ x y z, v = .agg #[.int .i64 x, .int .i64 y, .int .i64 z] ∧ vP x y z = true)) else if k = 7 then some (isBlk w300 3 26) else none) (fun _ => false) 0 10 (by kernel_rfl) (by kernel_rfl) (by kernel_rfl) (by kernel_rfl) (by kernel_rfl) (by kernel_rfl) (by kernel_rfl) Pull.size (Pulled.start S300.out) (fun hne => ?_)
          (repeat (refine rLexL_quiet (by rfl) (by rfl) (by rfl) (by rfl) ?_; go_big_quiet_step (fail); refine wpQuiet_nil ?_))
          refine rg_drawF (fun v => ∃ x y z, v = .agg #[.int .i64 x, .int .i64 y, .int .i64 z] ∧ (x0 ≤ x ∧ x ≤ x1 ∧ y0 ≤ y ∧ y ≤ y1 ∧ z0 ≤ z ∧ z ≤ z1)) 33 #[.pointer (some ⟨q, 0, none⟩), .agg #[.int .i64 x0, .int .i64 y0, .int .i64 z0, .int .i64 x1, .int .i64 y1, .int .i64 z1]] rfl rfl (fun _ => by go_simp) (fun u hu _ => (point_any q u q x0 y0 z0 x1 y1 z1 hu.2 (by have := HB.out; simp [boxIn, placeIn] at this; omega) (by have := HB.out; simp [boxIn, placeIn] at this; omega) (by have := HB.out; simp [boxIn, placeIn] at this; omega)).mono fun e w' h => h.draw) (fun vb hvb => ?_)
          obtain ⟨h0, h1, h2, rfl, -⟩ := hvb
          simp only [Act.put, List.setIfInBounds_toArray, List.set_cons_zero, List.set_cons_succ]
          (repeat (refine rLexL_quiet (by rfl) (by rfl) (by rfl) (by rfl) ?_; go_big_quiet_step (fail); refine wpQuiet_nil ?_))
          refine rg_drawF (fun v => ∃ x y z, v = .agg #[.int .i64 x, .int .i64 y, .int .i64 z] ∧ vP x y z = true) 22 #[.pointer (some ⟨q, 0, none⟩), .int .i64 40] rfl rfl (fun _ => by go_simp) (fun u hu _ => (posn_any q u q 40 hu.2 (by omega) (by omega)).mono fun e w' h => h.draw) (fun vb hvb => ?_)
          obtain ⟨s0, s1, s2, rfl, -⟩ := hvb
          simp only [Act.put, List.setIfInBounds_toArray, List.set_cons_zero, List.set_cons_succ]
          (repeat (refine rLexL_quiet (by rfl) (by rfl) (by rfl) (by rfl) ?_; go_big_quiet_step (fail); refine wpQuiet_nil ?_))
          refine rg_litB 3 #[.int .i64 p0, .int .i64 p1, .int .i64 p2, .int .i64 h0, .int .i64 h1, .int .i64 h2, .int .i64 s0, .int .i64 s1, .int .i64 s2] 26 rfl rfl rfl (fun _ => by go_simp) hp_ (fun np nph => ?_)
          simp only [Act.put, List.setIfInBounds_toArray, List.set_cons_zero, List.set_cons_succ]
          (repeat (refine rLexL_quiet (by rfl) (by rfl) (by rfl) (by rfl) ?_; go_big_quiet_step (fail); refine wpQuiet_nil ?_))
          refine rLexL_val (.int .i64 3) (by rfl) (by rfl) (by rfl) (by rfl) (fun _ => by go_simp) ?_
          simp only [Act.put, List.setIfInBounds_toArray, List.set_cons_zero, List.set_cons_succ]
          (repeat (refine rLexL_quiet (by rfl) (by rfl) (by rfl) (by rfl) ?_; go_big_quiet_step (fail); refine wpQuiet_nil ?_))
          rintro wq ⟨hgq, hqs⟩ hf -
          have HBnp : Hid (wq.heap[np]? = some (.cells (flat3 [(p0, p1, p2), (h0, h1, h2), (s0, s1, s2)]).toArray 26 (0, 0))) := Lib.hid (hf 7)
          have hnnp : np ≠ q := by omega
          generalize wq = w301 at *
          have M301 := Lib.hid (M300.out.draw hgq hq2); have S301 := Lib.hid (hqs); have RI301 := Lib.hid (RI300.out.draw hgq); have GI301 := Lib.hid (GI300.out.draw hgq); have Gnb_301 := Lib.hid (gb_trans Gnb_300.out hgq); have PI301 := Lib.hid (PI300.out.draw hgq)
          clear hf hgq hqs hne hp_ nph M300 S300 RI300 GI300 Gnb_300 PI300 ps0_ ps1_ ps2_ good0_ good1_ good2_ good3_ good4_ good5_ good6_ good7_ good8_ good9_ good10_ ups_ ugood_
          refine wpList_nil ?_
          obtain ⟨Lnp, hL, hLnp⟩ : ∃ Lnp : List (Int × Int × Int), Lnp = [(p0, p1, p2), (h0, h1, h2), (s0, s1, s2)] ∧ Lnp.length = 3 := ⟨_, rfl, rfl⟩
          rw [← hL] at HBnp
          clear hL
          go_wp2_with fail
          go_loopw [139] (fun i wr => ∃ k : Nat, k ≤ 3 ∧ i = .int .i64 k ∧ Src q wr q ∧ w301.grownBy wr (some q)) (fun i _ => 3 - (intOf i).toNat)
          case atStart => exact ⟨0, by omega, rfl, S301.out, gb_refl _ _⟩
          case round =>
            obtain ⟨knp, hknp, rfl, hS, hgr⟩ := hrel
            by_cases hltnp : knp < 3
            · have hkLnp : knp < Lnp.length := by omega
              have hkdnp : decide ((knp : Int) < 3) = true := decide_eq_true (by omega)
              obtain ⟨r0_, r1_, r2_⟩ := row3 (block_keptp hgr HBnp.out hnnp) knp hkLnp
              generalize wr = w400 at *
              have Gnp_301 := Lib.hid (gb_refl w301 (some q))
              have M400 := Lib.hid (M301.out.draw hgr hq2); have S400 := Lib.hid (hS); have RI400 := Lib.hid (RI301.out.draw hgr); have GI400 := Lib.hid (GI301.out.draw hgr); have Gnb_400 := Lib.hid (gb_trans Gnb_301.out hgr); have PI400 := Lib.hid (PI301.out.draw hgr); have Gnp_400 := Lib.hid (gb_trans Gnp_301.out hgr)
              clear hgr hS
              generalize Lnp[knp] = tb at *
              obtain ⟨d0, d1, d2⟩ := tb
              simp only [] at r0_ r1_ r2_
              have AA := Lib.hid (AA.out d0 d1 d2); have AB := Lib.hid (AB.out d0 d1 d2)
              obtain ⟨at0, am, ae, hav⟩ := AI.out d0 d1 d2
              rw [hav] at AA AB
              have RA := Lib.hid (fun t => RA.out d0 d1 d2 t); have RB := Lib.hid (fun t => RB.out d0 d1 d2 t); have RL := Lib.hid (fun t => RL.out d0 d1 d2 t (zE d0 d1 d2 d0 d1 d2))
              generalize zE d0 d1 d2 d0 d1 d2 = ze at *
              generalize zL d0 d1 d2 d0 d1 d2 = zl at *
              clear hav
              have hp_ := S400.out.lt.2
              have ha_ : w400.grownBy (w400.alloc (.cells #[.int .i64 d0, .int .i64 d1, .int .i64 d2] 26)) none := gb_alloc (gb_refl _ _) _
              have hb_ := heap_alloc_new w400 (.cells #[.int .i64 d0, .int .i64 d1, .int .i64 d2] 26)
              have M401 := Lib.hid (M400.out.later ha_); have S401 := Lib.hid (S400.out.later (row := none) ha_ (by simp)); have RI401 := Lib.hid (RI400.out.draw (gb_none ha_)); have GI401 := Lib.hid (GI400.out.draw (gb_none ha_)); have Gnb_401 := Lib.hid (gb_trans Gnb_400.out (gb_none ha_)); have PI401 := Lib.hid (PI400.out.draw (gb_none ha_)); have Gnp_401 := Lib.hid (gb_trans Gnp_400.out (gb_none ha_))
              have M401 := Lib.hid (M401.out.more hb_ (by omega))
              clear hp_ ha_ hb_ M400 S400 RI400 GI400 Gnb_400 PI400 Gnp_400
              obtain ⟨pr0_, pr1_, pr2_, pr3_, pr4_, pr5_, pr6_, pr7_, pr8_, pr9_, pr10_⟩ := cells11 (M401.out.at 2 rfl)
              obtain ⟨dp0_, dp1_, dp2_⟩ := cells3 (M401.out.at 0 rfl)
              go_wp2_with fail
              generalize w400.alloc (.cells #[.int .i64 d0, .int .i64 d1, .int .i64 d2] 26) = w401 at *
              generalize w400.heap.size = dpb at *
              clear r0_ r1_ r2_
              (with_reducible refine (AA.out w401 PI401.out).mono ?_)
              rintro r w402 ⟨rfl, hg⟩
              clear pr0_ pr1_ pr2_ pr3_ pr4_ pr5_ pr6_ pr7_ pr8_ pr9_ pr10_ dp0_ dp1_ dp2_
              have M402 := Lib.hid (M401.out.later hg); have S402 := Lib.hid (S401.out.later (row := none) hg (by simp)); have RI402 := Lib.hid (RI401.out.draw (gb_none hg)); have GI402 := Lib.hid (GI401.out.draw (gb_none hg)); have Gnb_402 := Lib.hid (gb_trans Gnb_401.out (gb_none hg)); have PI402 := Lib.hid (PI401.out.draw (gb_none hg)); have Gnp_402 := Lib.hid (gb_trans Gnp_401.out (gb_none hg))
              clear hg M401 S401 RI401 GI401 Gnb_401 PI401 Gnp_401
              obtain ⟨pr0_, pr1_, pr2_, pr3_, pr4_, pr5_, pr6_, pr7_, pr8_, pr9_, pr10_⟩ := cells11 (M402.out.at 2 rfl)
              obtain ⟨dp0_, dp1_, dp2_⟩ := cells3 (M402.out.at 0 rfl)
              go_wp2_with fail
              (with_reducible refine (AB.out w402 PI402.out).mono ?_)
              rintro r w403 ⟨rfl, hg⟩
              clear pr0_ pr1_ pr2_ pr3_ pr4_ pr5_ pr6_ pr7_ pr8_ pr9_ pr10_ dp0_ dp1_ dp2_
              have M403 := Lib.hid (M402.out.later hg); have S403 := Lib.hid (S402.out.later (row := none) hg (by simp)); have RI403 := Lib.hid (RI402.out.draw (gb_none hg)); have GI403 := Lib.hid (GI402.out.draw (gb_none hg)); have Gnb_403 := Lib.hid (gb_trans Gnb_402.out (gb_none hg)); have PI403 := Lib.hid (PI402.out.draw (gb_none hg)); have Gnp_403 := Lib.hid (gb_trans Gnp_402.out (gb_none hg))
              clear hg M402 S402 RI402 GI402 Gnb_402 PI402 Gnp_402
              go_wp2_with fail
              (with_reducible refine (n_any q w403 q 3 S403.out (by omega) (by omega)).mono ?_)
              rintro r w404 ⟨nx3, rfl, hnx3, hS, hg⟩
              have M404 := Lib.hid (M403.out.draw hg hq2); have S404 := Lib.hid (hS); have RI404 := Lib.hid (RI403.out.draw hg); have GI404 := Lib.hid (GI403.out.draw hg); have Gnb_404 := Lib.hid (gb_trans Gnb_403.out hg); have PI404 := Lib.hid (PI403.out.draw hg); have Gnp_404 := Lib.hid (gb_trans Gnp_403.out hg)
              clear hg hS M403 S403 RI403 GI403 Gnb_403 PI403 Gnp_403
              have hw1_ : IntKind.i64.wrap (18014398509481984 + nx3) = 18014398509481984 + nx3 := by rw [IntKind.wrap_i64]; omega
              have hw2_ : IntKind.i64.wrap (18014398509481984 + nx3 - 1) = 18014398509481984 + nx3 - 1 := by rw [IntKind.wrap_i64]; omega
              have hp_ := S404.out.lt.2
              have ha_ : w404.grownBy (w404.alloc (.cells #[.int .i64 t, .int .i64 at0, .int .i64 1200, .int .i64 (18014398509481984 + nx3 - 1)] 3)) none := gb_alloc (gb_refl _ _) _
              have HBnt : Hid ((w404.alloc (.cells #[.int .i64 t, .int .i64 at0, .int .i64 1200, .int .i64 (18014398509481984 + nx3 - 1)] 3)).heap[w404.heap.size]? = some (.cells (([t, at0, 1200, 18014398509481984 + nx3 - 1] : List Int).map (Value.int .i64)).toArray 3 (0, 0))) := Lib.hid (heap_alloc_new _ _)
              have hnnt : w404.heap.size ≠ q := by omega
              have M405 := Lib.hid (M404.out.later ha_); have S405 := Lib.hid (S404.out.later (row := none) ha_ (by simp)); have RI405 := Lib.hid (RI404.out.draw (gb_none ha_)); have GI405 := Lib.hid (GI404.out.draw (gb_none ha_)); have Gnb_405 := Lib.hid (gb_trans Gnb_404.out (gb_none ha_)); have PI405 := Lib.hid (PI404.out.draw (gb_none ha_)); have Gnp_405 := Lib.hid (gb_trans Gnp_404.out (gb_none ha_))
              clear ha_ M404 S404 RI404 GI404 Gnb_404 PI404 Gnp_404
              go_wp2_with fail
              generalize w404.alloc (.cells #[.int .i64 t, .int .i64 at0, .int .i64 1200, .int .i64 (18014398509481984 + nx3 - 1)] 3) = w405 at *
              generalize w404.heap.size = nt at *
              obtain ⟨Lnt, hL, hLnt⟩ : ∃ Lnt : List Int, Lnt = [t, at0, 1200, 18014398509481984 + nx3 - 1] ∧ Lnt.length = 4 := ⟨_, rfl, rfl⟩
              rw [← hL] at HBnt
              clear hL hw1_ hw2_ hp_
              go_loopw [178] (fun i wr => ∃ k : Nat, k ≤ 4 ∧ i = .int .i64 k ∧ Src q wr q ∧ w405.grownBy wr (some q)) (fun i _ => 4 - (intOf i).toNat)
              case atStart => exact ⟨0, by omega, rfl, S405.out, gb_refl _ _⟩
              case round =>
                obtain ⟨knt, hknt, rfl, hS, hgr⟩ := hrel
                by_cases hltnt : knt < 4
                · have hkLnt : knt < Lnt.length := by omega
                  have hkdnt : decide ((knt : Int) < 4) = true := decide_eq_true (by omega)
                  have r0_ := row1 (block_keptp hgr HBnt.out hnnt) knt hkLnt
                  generalize wr = w500 at *
                  have Gnt_405 := Lib.hid (gb_refl w405 (some q))
                  have M500 := Lib.hid (M405.out.draw hgr hq2); have S500 := Lib.hid (hS); have RI500 := Lib.hid (RI405.out.draw hgr); have GI500 := Lib.hid (GI405.out.draw hgr); have Gnb_500 := Lib.hid (gb_trans Gnb_405.out hgr); have PI500 := Lib.hid (PI405.out.draw hgr); have Gnp_500 := Lib.hid (gb_trans Gnp_405.out hgr); have Gnt_500 := Lib.hid (gb_trans Gnt_405.out hgr)
                  clear hgr hS
                  generalize Lnt[knt]?.getD 0 = o at *
                  have RA := Lib.hid (RA.out o); have RB := Lib.hid (RB.out o); have RL := RL.out o
                  generalize resX ze o zl = rx at *
                  generalize resE ze o = re at *
                  obtain ⟨pr0_, pr1_, pr2_, pr3_, pr4_, pr5_, pr6_, pr7_, pr8_, pr9_, pr10_⟩ := cells11 (M500.out.at 2 rfl)
                  obtain ⟨dp0_, dp1_, dp2_⟩ := cells3 (M500.out.at 0 rfl)
                  go_wp2_with fail
                  (with_reducible refine (RA.out w500 PI500.out).mono ?_)
                  rintro r w501 ⟨z1, rfl, hz1, hg⟩
                  clear pr0_ pr1_ pr2_ pr3_ pr4_ pr5_ pr6_ pr7_ pr8_ pr9_ pr10_ dp0_ dp1_ dp2_
                  have ZX501 := Lib.hid hz1; obtain ⟨za1, zn1, zc1, rfl⟩ := sl_slice hz1; clear hz1 r0_
                  have M501 := Lib.hid (M500.out.later hg); have S501 := Lib.hid (S500.out.later (row := none) hg (by simp)); have RI501 := Lib.hid (RI500.out.draw (gb_none hg)); have GI501 := Lib.hid (GI500.out.draw (gb_none hg)); have Gnb_501 := Lib.hid (gb_trans Gnb_500.out (gb_none hg)); have PI501 := Lib.hid (PI500.out.draw (gb_none hg)); have Gnp_501 := Lib.hid (gb_trans Gnp_500.out (gb_none hg)); have Gnt_501 := Lib.hid (gb_trans Gnt_500.out (gb_none hg))
                  clear hg M500 S500 RI500 GI500 Gnb_500 PI500 Gnp_500 Gnt_500
                  obtain ⟨pr0_, pr1_, pr2_, pr3_, pr4_, pr5_, pr6_, pr7_, pr8_, pr9_, pr10_⟩ := cells11 (M501.out.at 2 rfl)
                  obtain ⟨dp0_, dp1_, dp2_⟩ := cells3 (M501.out.at 0 rfl)
                  go_wp2_with fail
                  (with_reducible refine (RB.out w501 PI501.out).mono ?_)
                  rintro r w502 ⟨z2, rfl, hz2, hg⟩
                  clear pr0_ pr1_ pr2_ pr3_ pr4_ pr5_ pr6_ pr7_ pr8_ pr9_ pr10_ dp0_ dp1_ dp2_
                  have ZY502 := Lib.hid hz2; obtain ⟨za2, zn2, zc2, rfl⟩ := sl_slice hz2; clear hz2
                  have M502 := Lib.hid (M501.out.later hg); have S502 := Lib.hid (S501.out.later (row := none) hg (by simp)); have RI502 := Lib.hid (RI501.out.draw (gb_none hg)); have GI502 := Lib.hid (GI501.out.draw (gb_none hg)); have Gnb_502 := Lib.hid (gb_trans Gnb_501.out (gb_none hg)); have PI502 := Lib.hid (PI501.out.draw (gb_none hg)); have Gnp_502 := Lib.hid (gb_trans Gnp_501.out (gb_none hg)); have Gnt_502 := Lib.hid (gb_trans Gnt_501.out (gb_none hg)); have ZX502 := Lib.hid (ZX501.out.after hg)
                  clear hg M501 S501 RI501 GI501 Gnb_501 PI501 Gnp_501 Gnt_501 ZX501
                  go_wp2_with fail
                  (with_reducible refine (ints_same _ _ rx w502 ZX502.out ZY502.out RL).mono ?_)
                  rintro r w503 ⟨rfl, hg⟩
                  have M503 := Lib.hid (M502.out.later hg); have S503 := Lib.hid (S502.out.later (row := none) hg (by simp)); have RI503 := Lib.hid (RI502.out.draw (gb_none hg)); have GI503 := Lib.hid (GI502.out.draw (gb_none hg)); have Gnb_503 := Lib.hid (gb_trans Gnb_502.out (gb_none hg)); have PI503 := Lib.hid (PI502.out.draw (gb_none hg)); have Gnp_503 := Lib.hid (gb_trans Gnp_502.out (gb_none hg)); have Gnt_503 := Lib.hid (gb_trans Gnt_502.out (gb_none hg)); have ZX503 := Lib.hid (ZX502.out.after hg); have ZY503 := Lib.hid (ZY502.out.after hg)
                  clear hg M502 S502 RI502 GI502 Gnb_502 PI502 Gnp_502 Gnt_502 ZX502 ZY502
                  have HGN := Gnt_503; have HSN := S503
                  go_wp2_with fail
                  go_roundw
                  case rel => exact ⟨knt + 1, by omega, by go_num, HSN.out, HGN.out⟩
                  case measure => simp [intOf]; omega
                · have hkdnt : decide ((knt : Int) < 4) = false := decide_eq_false (by omega)
                  generalize wr = w600 at *
                  have M600 := Lib.hid (M405.out.draw hgr hq2); have S600 := Lib.hid (hS); have RI600 := Lib.hid (RI405.out.draw hgr); have GI600 := Lib.hid (GI405.out.draw hgr); have Gnb_600 := Lib.hid (gb_trans Gnb_405.out hgr); have PI600 := Lib.hid (PI405.out.draw hgr); have Gnp_600 := Lib.hid (gb_trans Gnp_405.out hgr)
                  clear hgr hS M405 S405 RI405 GI405 Gnb_405 PI405 Gnp_405 HBnt RA RB RL
                  have HGN := Gnp_600; have HSN := S600
                  go_wp2_with fail
                  go_roundw
                  case rel => exact ⟨knp + 1, by omega, by go_num, HSN.out, HGN.out⟩
                  case measure => simp [intOf]; omega
            · have hkdnp : decide ((knp : Int) < 3) = false := decide_eq_false (by omega)
              generalize wr = w700 at *
              have M700 := Lib.hid (M301.out.draw hgr hq2); have S700 := Lib.hid (hS); have RI700 := Lib.hid (RI301.out.draw hgr); have GI700 := Lib.hid (GI301.out.draw hgr); have Gnb_700 := Lib.hid (gb_trans Gnb_301.out hgr); have PI700 := Lib.hid (PI301.out.draw hgr)
              clear hgr hS M301 S301 RI301 GI301 Gnb_301 PI301 HBnp AA AB AI RA RB RL
              have HGN := Gnb_700; have HSN := S700
              go_wp2_with fail
              go_roundw
              case rel => exact ⟨knb + 1, by omega, by go_num, HSN.out, HGN.out⟩
              case measure => simp [intOf]; omega
    · have hkdnb : decide ((knb : Int) < 3) = false := decide_eq_false (by omega)
      generalize wr = w800 at *
      have M800 := Lib.hid (M6.out.draw hgr hq2); have S800 := Lib.hid (hS); have RI800 := Lib.hid (RI6.out.draw hgr); have GI800 := Lib.hid (GI6.out.draw hgr)
      clear hgr hS M6 S6 RI6 GI6 HBnb
      have HGM := Lib.hid (gb_trans GW.out M800.out.gr)
      go_wp2_with fail
      (with_reducible refine (awake27_any _).mono ?_)
      rintro r w8 ⟨rfl, hg⟩
      have HGE := Lib.hid (gb_trans HGM.out hg)
      go_wp2_with fail
      go_ret
      exact ⟨rfl, gb_end HGE.out⟩
end Go.Proofs.Ytkckcaijfedijaa
