import Derived.Test.YtiebljanpnadjaaGreatPgRefG
namespace Go.Proofs.YtiebljanpnadjaaGreat
set_option linter.all false
open Go.RowKit Rg
def Residd (w : World) (E : Int) (zs : List Zn) (t : Int) (e : Ending) (w' : World) : Prop :=
 w.grownBy w' none ∧ ((E ≠ 0 ∧ e = .returned (.tuple #[.slice none 0 0, E])) ∨ (E = 0 ∧ (t < -18014398509481984 ∨ 18014398509481984 < t) ∧ e = .returned (.tuple #[.slice none 0 0, (2:Int)])) ∨
  (E = 0 ∧ (-18014398509481984 ≤ t ∧ t ≤ 18014398509481984) ∧ ∃ v, e = .returned (.tuple #[v, (0:Int)]) ∧ Sl w' v (resL zs t)))
set_option maxRecDepth 100000 in
set_option maxHeartbeats 4000000 in
theorem residuals_all (P : Prob) (vl vh vp : Value) (x y z t : Int) (w : World) (hi : ProbIn P vl vh vp w) (hbig : P.phs.length ≤ 1000000000) :
  Calls Tryz.prog 46 #[.agg (P.val vl vh vp), .agg #[x, y, z], t] w (Residd w (zonesE P x y z x y z) (zonesL P x y z x y z) t) := by
 by_cases h0 : zonesE P x y z x y z = 0
 ·by_cases ht : -18014398509481984 ≤ t ∧ t ≤ 18014398509481984
  ·refine (residuals_any P vl vh vp x y z t w hi hbig h0 ht.1 ht.2).mono ?_
   rintro e w' ⟨v, rfl, h1, h2⟩
   exact ⟨h2, .inr (.inr ⟨h0, ht, v, rfl, h1⟩)⟩
  ·have hT : t < -18014398509481984 ∨ 18014398509481984 < t := by omega
   have hg0 := gb_alloc (gb_alloc (gb_refl w none) (.cells (P.val vl vh vp) 83)) (.cells #[x, y, z] 23)
   have HI := zH (hi.after hg0); have HG0 := zH hg0
   obtain ⟨pa, pc, rfl⟩ := hi.p.slice
   obtain ⟨la, ln, lc, rfl⟩ := sl_slice hi.l
   obtain ⟨ha, hn, hc, rfl⟩ := sl_slice hi.h
   clear hi hg0
   have HZ := zH (fun (u : World) hu => (Zones_any P (.slice la ln lc) (.slice ha hn hc) (.slice pa P.phs.length pc) x y z x y z u hu hbig).mono fun e w' h => h.ok h0)
   have H0 := zH h0; clear h0
   generalize zonesL P x y z x y z = zs at *
   generalize zonesE P x y z x y z = zE at *
   obtain ⟨x0, y0, z0, x1, y1, z1, step, ls, hs, phs, cap⟩ := P
   simp only [Prob.val] at *
   go_enter Tryz.func46, Tryz.ntmps46
   go_wp2_with fail
   generalize (w.alloc (.cells #[x0, y0, z0, x1, y1, z1, step, .slice la ln lc, .slice ha hn hc, .slice pa phs.length pc, cap] 83)).alloc (.cells #[x, y, z] 23) = w1 at *
   (with_reducible refine (HZ.out _ HI.out).mono ?_)
   rintro e w2 ⟨v, rfl, ⟨s, rfl, hsl⟩, hg2⟩
   obtain ⟨va, vc, rfl⟩ := hsl.slice
   have HG2 := zH (gb_trans HG0.out hg2)
   clear hsl hg2
   rcases hT with h | h
   ·go_wp2
    exact bodyPost_ret (v := .tuple #[.slice none 0 0, (2:Int)]) (by simp [results, Tryz.results46, go_sem]) rfl ⟨HG2.out, .inr (.inl ⟨H0.out, .inl h, rfl⟩)⟩
   ·have h' : decide (t < -18014398509481984) = false := decide_eq_false (by omega)
    go_wp2
    exact bodyPost_ret (v := .tuple #[.slice none 0 0, (2:Int)]) (by simp [results, Tryz.results46, go_sem]) rfl ⟨HG2.out, .inr (.inl ⟨H0.out, .inr h, rfl⟩)⟩
 ·have hg0 := gb_alloc (gb_alloc (gb_refl w none) (.cells (P.val vl vh vp) 83)) (.cells #[x, y, z] 23)
  have HI := zH (hi.after hg0); have HG0 := zH hg0
  obtain ⟨pa, pc, rfl⟩ := hi.p.slice
  obtain ⟨la, ln, lc, rfl⟩ := sl_slice hi.l
  obtain ⟨ha, hn, hc, rfl⟩ := sl_slice hi.h
  clear hi hg0
  have HZ := zH (fun (u : World) hu => (Zones_any P (.slice la ln lc) (.slice ha hn hc) (.slice pa P.phs.length pc) x y z x y z u hu hbig).mono fun e w' h => h.bad h0)
  have H0 := zH h0
  generalize zonesL P x y z x y z = zs at *
  generalize zonesE P x y z x y z = zE at *
  obtain ⟨x0, y0, z0, x1, y1, z1, step, ls, hs, phs, cap⟩ := P
  simp only [Prob.val] at *
  go_enter Tryz.func46, Tryz.ntmps46
  go_wp2_with fail
  generalize (w.alloc (.cells #[x0, y0, z0, x1, y1, z1, step, .slice la ln lc, .slice ha hn hc, .slice pa phs.length pc, cap] 83)).alloc (.cells #[x, y, z] 23) = w1 at *
  (with_reducible refine (HZ.out _ HI.out).mono ?_)
  rintro e w2 ⟨rfl, hg2⟩
  have HG2 := zH (gb_trans HG0.out hg2)
  clear hg2
  go_wp2_with fail
  exact bodyPost_ret (v := .tuple #[.slice none 0 0, zE]) (by simp [results, Tryz.results46, go_sem]) rfl ⟨HG2.out, .inl ⟨H0.out, rfl⟩⟩
set_option maxRecDepth 100000 in
set_option maxHeartbeats 4000000 in
theorem rresiduals_all (P : Prob) (vl vh vp : Value) (x y z t : Int) (w : World) (hi : ProbIn P vl vh vp w) (hbig : P.phs.length ≤ 1000000000) :
  Calls Tryz.prog 67 #[.agg (P.val vl vh vp), .agg #[x, y, z], t] w (Residd w (zonesE P x y z x y z) (zonesL P x y z x y z) t) := by
 have hg0 := gb_alloc (gb_alloc (gb_refl w none) (.cells (P.val vl vh vp) 83)) (.cells #[x, y, z] 23)
 have hT : ((w.alloc (.cells (P.val vl vh vp) 83)).alloc (.cells #[x, y, z] 23)).heap[w.heap.size]? = some (.cells (P.val vl vh vp) 83 (0, 0)) := by rw [heap_alloc_old _ _ (by simp), heap_alloc_new]
 have HX0 : Hid (((w.alloc (.cells (P.val vl vh vp) 83)).alloc (.cells #[x, y, z] 23)).heap[w.heap.size + 1]? = some (.cells #[x, y, z] 23 (0, 0))) := zH (by simpa using heap_alloc_new (w.alloc _) _)
 have HI := zH (hi.after hg0); have HG0 := zH hg0; have HT := zH hT
 obtain ⟨pa, pc, rfl⟩ := hi.p.slice
 obtain ⟨la, ln, lc, rfl⟩ := sl_slice hi.l
 obtain ⟨ha, hn, hc, rfl⟩ := sl_slice hi.h
 clear hi hg0 hT
 have HZ := zH (fun (u : World) hu => rZones_any P (.slice la ln lc) (.slice ha hn hc) (.slice pa P.phs.length pc) x y z x y z u hu hbig)
 have HF : Hid (zonesE P x y z x y z = 0 → (∀ i, i < (zonesL P x y z x y z).length → Tame ((zonesL P x y z x y z)[i]?.getD default)) ∧ (zonesL P x y z x y z).length ≤ 64) := zH (fun h => by
  have hS := zonesE_sound h
  exact ⟨(hS.fair x y z x y z).tame, by have := hS.some; simp [zonesL]; omega⟩)
 generalize zonesL P x y z x y z = zs at *
 generalize zonesE P x y z x y z = zE at *
 obtain ⟨x0, y0, z0, x1, y1, z1, step, ls, hs, phs, cap⟩ := P
 simp only [Prob.val] at HZ HX0 HI HG0 HT ⊢
 go_enter Tryz.func67, Tryz.ntmps67
 have e0_ := cell_of HT.out 0 _ rfl; have e1_ := cell_of HT.out 1 _ rfl; have e2_ := cell_of HT.out 2 _ rfl; have e3_ := cell_of HT.out 3 _ rfl; have e4_ := cell_of HT.out 4 _ rfl; have e5_ := cell_of HT.out 5 _ rfl; have e6_ := cell_of HT.out 6 _ rfl; have e7_ := cell_of HT.out 7 _ rfl; have e8_ := cell_of HT.out 8 _ rfl; have e9_ := cell_of HT.out 9 _ rfl; have e10_ := cell_of HT.out 10 _ rfl
 go_wp2_with fail
 generalize (w.alloc (.cells #[x0, y0, z0, x1, y1, z1, step, .slice la ln lc, .slice ha hn hc, .slice pa phs.length pc, cap] 83)).alloc (.cells #[x, y, z] 23) = w1 at *
 obtain ⟨m0_, m1_, m2_⟩ := cells3 HX0.out
 have u1 := Made.cells (block_lt' HT.out); have u2 := Made.cells (block_lt' HX0.out)
 by_cases h0 : zE = 0
 rotate_left
 ·refine Rg.rR (Made w1) Makes (fun k => if k = 2 then some (isV (.agg #[x, y, z, x, y, z])) else if k = 3 then some (isV (.tuple #[.slice none 0 0, zE])) else none) (fun _ => false) 0 9 Makes.size (Made.start w1) (fun hne => ?_)
  (repeat (refine rQ ?_; go_big_quiet_step (fail); refine wpQuiet_nil ?_))
  refine rg_fix (.agg #[x, y, z, x, y, z]) 95 #[.agg #[x, y, z]] rfl rfl rfl (fun _ => by go_simp) (fun u hu => one_any _ _ _ u) ?_
  simp only [zA, zB, zC, zD, zX]
  refine rg_fix (.tuple #[.slice none 0 0, zE]) 94 #[.agg #[x0, y0, z0, x1, y1, z1, step, .slice la ln lc, .slice ha hn hc, .slice pa phs.length pc, cap], .agg #[x, y, z, x, y, z]] rfl rfl rfl (fun _ => by go_simp) (fun u hu => (HZ.out u (HI.out.after hu)).mono fun e w' h => h.bad h0) ?_
  simp only [zA, zB, zC, zD, zX]
  (repeat (refine rQ ?_; go_big_quiet_step (fail); refine wpQuiet_nil ?_))
  rintro wq hq - -
  refine wpList_nil ?_
  have HG2 := zH (gb_trans HG0.out hq); have H0 := zH h0
  clear hq hne u1 u2 m0_ m1_ m2_
  clear e0_ e1_ e2_ e3_ e4_ e5_ e6_ e7_ e8_ e9_ e10_
  go_wp2_with fail
  exact bodyPost_ret (v := .tuple #[.slice none 0 0, zE]) (by simp [results, Tryz.results67, go_sem]) rfl ⟨HG2.out, .inl ⟨H0.out, rfl⟩⟩
 obtain ⟨htame, hlz⟩ := HF.out h0
 have HTAME := zH htame; have H0 := zH h0; clear htame HF
 refine Rg.rR (Made w1) Makes (fun k => if k = 2 then some (isV (.agg #[x, y, z, x, y, z])) else if k = 3 then some (isF (ZnOk zs)) else none) (fun _ => false) 0 9 Makes.size (Made.start w1) (fun hne => ?_)
 (repeat (refine rQ ?_; go_big_quiet_step (fail); refine wpQuiet_nil ?_))
 refine rg_fix (.agg #[x, y, z, x, y, z]) 95 #[.agg #[x, y, z]] rfl rfl rfl (fun _ => by go_simp) (fun u hu => one_any _ _ _ u) ?_
 simp only [zA, zB, zC, zD, zX]
 refine rg_fixF (ZnOk zs) 94 #[.agg #[x0, y0, z0, x1, y1, z1, step, .slice la ln lc, .slice ha hn hc, .slice pa phs.length pc, cap], .agg #[x, y, z, x, y, z]] rfl rfl rfl ZnOk.after (fun _ => by go_simp) (fun u hu => (HZ.out u (HI.out.after hu)).mono fun e w' h => h.ok h0) (fun zv zu hzv => ?_)
 obtain ⟨zsl, rfl, hsl⟩ := hzv
 obtain ⟨va, vc, rfl⟩ := hsl.slice
 clear hsl zu
 simp only [zA, zB, zC, zD, zX]
 (repeat (refine rQ ?_; go_big_quiet_step (fail); refine wpQuiet_nil ?_))
 rintro wq hq hf -
 refine wpList_nil ?_
 have HSL := zH (ZnOk.out (hf 3))
 have HG2 := zH (gb_trans HG0.out hq)
 clear hf hq hne u1 u2 m0_ m1_ m2_ HT HI HX0 HZ h0
 clear e0_ e1_ e2_ e3_ e4_ e5_ e6_ e7_ e8_ e9_ e10_
 generalize wq = w2 at *
 by_cases hT : t < -18014398509481984
 ·go_wp2
  exact bodyPost_ret (v := .tuple #[.slice none 0 0, (2:Int)]) (by simp [results, Tryz.results67, go_sem]) rfl ⟨HG2.out, .inr (.inl ⟨H0.out, .inl hT, rfl⟩)⟩
 have D1 : decide (t < -18014398509481984) = false := decide_eq_false hT
 by_cases hT2 : 18014398509481984 < t
 ·go_wp2
  exact bodyPost_ret (v := .tuple #[.slice none 0 0, (2:Int)]) (by simp [results, Tryz.results67, go_sem]) rfl ⟨HG2.out, .inr (.inl ⟨H0.out, .inr hT2, rfl⟩)⟩
 have D2 : decide (18014398509481984 < t) = false := decide_eq_false hT2
 go_wp2_with fail
 go_loopw [10, 11] (fun v i wr => ∃ k : Nat, k ≤ zs.length ∧ i = .int .i64 k ∧ wr.ownsRow w2.heap.size 3 1 v k ((resL (zs.take k) t).map (Value.int .i64)) ∧ w2.grownBy wr none) (fun _ i _ => zs.length - (intOf i).toNat)
 case atStart => exact ⟨0, by omega, rfl, by simpa [resL] using World.ownsRow_nil _ _ _ _, gb_refl _ _⟩
 case round =>
  obtain ⟨k, hk, rfl, hown, hgr⟩ := hrel
  have HOW := zH hown
  obtain ⟨oa, oc, rfl⟩ := owns_slice hown
  clear hown
  by_cases hlt : k < zs.length
  ·obtain ⟨zb', zoff', zcap', hzv, hzb', hzc, hzm, hzcell⟩ := (HSL.out.after hgr).block (by omega)
   simp only [Value.slice.injEq, true_and] at hzv
   obtain ⟨rfl, rfl⟩ := hzv
   obtain ⟨d0, d1⟩ := SlC.zn hzcell k hlt
   have HTK := zH (resL_take zs t k hlt)
   have hT := HTAME.out k hlt
   rw [show zs[k]?.getD default = zs[k] by simp [hlt]] at hT
   clear hzcell
   generalize hzk : zs[k] = zk at *
   obtain ⟨zf, zt⟩ := zk
   simp only [Tame] at d0 d1 HTK hT
   clear hzk
   have HRES := zH (fun u => rresidual_any ⟨zf, zt⟩ t u hT.1 hT.2 (by omega))
   generalize resid ⟨zf, zt⟩ t = r at *
   have HGR := zH hgr
   clear hT hgr
   go_wp2_with fail
   (with_reducible refine (HRES.out _).mono ?_)
   rintro e w5 ⟨rfl, hg5⟩
   have HOW5 := zH (owns_keep HOW.out hg5); have HG5 := zH (gb_trans HGR.out hg5)
   have hgs := HG5.out.size
   have hlen : (resL (zs.take k) t).length = k := by simp [resL]; omega
   clear hg5 HGR d0 d1 HRES
   have PUSH := zH (fun (v' : Value) (u : World) (h : u.ownsRow w2.heap.size 3 1 v' (k + 1) ((resL (zs.take k) t).map (Value.int .i64) ++ [.int .i64 r])) (hg : (w5.alloc (.cells #[.int .i64 r] 3)).grownBy u (Value.slice oa k oc).ownBlock) =>
    show u.ownsRow w2.heap.size 3 1 v' (k + 1) ((resL (zs.take (k + 1)) t).map (Value.int .i64)) ∧ w2.grownBy u none from
     ⟨by rw [HTK.out, List.map_append]; exact h, gb_new (gb_alloc HG5.out _) hg (fun q hq => (HOW5.out.lt q hq).1)⟩)
   go_wp2_with (at_builtin; refine wpList_push rfl _ _ 26 rfl w2.heap.size 3 (.int .i64 0) 1 8 Tryz.underlying26 Tryz.infoIntT rfl (by decide) (by decide) _ _ _ rfl (HOW5.out.alloc _) w5.heap.size 1 [.int .i64 r] 3 rfl (heap_alloc_new w5 _) rfl (by simp [Value.oneCell']) (by omega) (by simp; omega) ?_; intro v' w6 hown' hg')
   have HN := zH (PUSH.out v' w6 hown' hg')
   clear hown' hg' PUSH HOW5
   go_roundw
   case rel => exact ⟨k + 1, by omega, by go_num, HN.out.1, HN.out.2⟩
   case measure => simp [intOf]; omega
  ·obtain rfl : k = zs.length := by omega
   rw [List.take_length] at HOW
   have HGE := zH (gb_trans HG2.out hgr)
   go_wp2_with fail
   exact bodyPost_ret (v := .tuple #[.slice oa zs.length oc, (0:Int)]) (by simp [results, Tryz.results67, go_sem]) rfl ⟨HGE.out, .inr (.inr ⟨H0.out, ⟨by omega, by omega⟩, _, rfl, Sl_of_owns HOW.out (by simp [resL])⟩)⟩
end Go.Proofs.YtiebljanpnadjaaGreat
