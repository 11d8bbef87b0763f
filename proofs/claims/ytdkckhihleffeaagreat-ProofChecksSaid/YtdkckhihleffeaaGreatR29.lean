/- ref29's leaf and Errors. Written by gen_r29.py. -/
import Derived.Test.YtdkckhihleffeaaGreatRefG
import Derived.Test.YtdkckhihleffeaaGreatPrfA
import Derived.Test.YtdkckhihleffeaaGreatRSplit
namespace Go.Proofs.YtdkckhihleffeaaGreat
set_option linter.all false
open Go.RowKit Rg

/-- A leaf, as the reference has it: it does not look at the error of the bound. -/
def lfB (P : Prob) (x : Loc) (tol b0 b1 b2 b3 b4 b5 : Int) : Bool :=
  decide (IntKind.i64.wrap (x.m - bdC P b0 b1 b2 b3 b4 b5) ≤ tol) && decide (x.l ≤ bdC P b0 b1 b2 b3 b4 b5) && (decide (x.m ≤ bdC P b0 b1 b2 b3 b4 b5) || wiP b0 b1 b2 b3 b4 b5 x.a0 x.a1 x.a2 x.a3 x.a4 x.a5)
def lfV (P : Prob) (x : Loc) (tol : Int) (b : Bx) : Bool := lfB P x tol b.a b.b b.c b.d b.e b.f

set_option maxRecDepth 100000 in
set_option maxHeartbeats 4000000 in
theorem rleaf_any (P : Prob) (vl vh vp : Value) (x : Loc) (tol b0 b1 b2 b3 b4 b5 : Int) (w : World) (hi : ProbIn P vl vh vp w) (hbig : P.phs.length ≤ 1000000000) :
    Calls Tryz.prog 49 #[.agg (P.val vl vh vp), .agg x.val, .int .i64 tol, .agg #[.int .i64 b0, .int .i64 b1, .int .i64 b2, .int .i64 b3, .int .i64 b4, .int .i64 b5]] w fun e w' => e = .returned (.bool (lfB P x tol b0 b1 b2 b3 b4 b5)) ∧ w.grownBy w' none := by
  have BD := Lib.hid (fun (u : World) (h : w.grownBy u none) => rbound_any P vl vh vp b0 b1 b2 b3 b4 b5 u (hi.after h) hbig)
  rw [bdV_eq] at BD
  have WI := Lib.hid (fun u => rwithin_any b0 b1 b2 b3 b4 b5 x.a0 x.a1 x.a2 x.a3 x.a4 x.a5 u)
  obtain ⟨pa, pc, rfl⟩ := hi.p.slice
  obtain ⟨la, ln, lc, rfl⟩ := sl_slice hi.l
  obtain ⟨ha, hn, hc, rfl⟩ := sl_slice hi.h
  generalize hpr : lfB P x tol b0 b1 b2 b3 b4 b5 = pr
  have HP := Lib.hid hpr.symm
  clear hpr
  unfold lfB at HP
  generalize bdC P b0 b1 b2 b3 b4 b5 = c at *
  generalize bdE P b0 b1 b2 b3 b4 b5 = E at *
  generalize wiP b0 b1 b2 b3 b4 b5 x.a0 x.a1 x.a2 x.a3 x.a4 x.a5 = wi at *
  clear hi hbig
  obtain ⟨x0, y0, z0, x1, y1, z1, step, ls, hs, phs, cap⟩ := P
  obtain ⟨px, py, pz, xt, xm, xl, a0, a1, a2, a3, a4, a5⟩ := x
  simp only [Prob.val, Loc.val] at *
  generalize phs.length = pn at *
  have k0_0 : (w.alloc (.cells #[.int .i64 x0, .int .i64 y0, .int .i64 z0, .int .i64 x1, .int .i64 y1, .int .i64 z1, .int .i64 step, .slice la ln lc, .slice ha hn hc, .slice pa pn pc, .int .i64 cap] 36)).heap[w.heap.size]? = some (.cells #[.int .i64 x0, .int .i64 y0, .int .i64 z0, .int .i64 x1, .int .i64 y1, .int .i64 z1, .int .i64 step, .slice la ln lc, .slice ha hn hc, .slice pa pn pc, .int .i64 cap] 36 (0, 0)) := by exact heap_alloc_new _ _
  have k0_1 := block_kept (gb_alloc (gb_refl (w.alloc (.cells #[.int .i64 x0, .int .i64 y0, .int .i64 z0, .int .i64 x1, .int .i64 y1, .int .i64 z1, .int .i64 step, .slice la ln lc, .slice ha hn hc, .slice pa pn pc, .int .i64 cap] 36)) none) (.cells #[.int .i64 px, .int .i64 py, .int .i64 pz, .int .i64 xt, .int .i64 xm, .int .i64 xl, .int .i64 a0, .int .i64 a1, .int .i64 a2, .int .i64 a3, .int .i64 a4, .int .i64 a5] 27)) k0_0 rfl
  have k1_1 : ((w.alloc (.cells #[.int .i64 x0, .int .i64 y0, .int .i64 z0, .int .i64 x1, .int .i64 y1, .int .i64 z1, .int .i64 step, .slice la ln lc, .slice ha hn hc, .slice pa pn pc, .int .i64 cap] 36)).alloc (.cells #[.int .i64 px, .int .i64 py, .int .i64 pz, .int .i64 xt, .int .i64 xm, .int .i64 xl, .int .i64 a0, .int .i64 a1, .int .i64 a2, .int .i64 a3, .int .i64 a4, .int .i64 a5] 27)).heap[w.heap.size + 1]? = some (.cells #[.int .i64 px, .int .i64 py, .int .i64 pz, .int .i64 xt, .int .i64 xm, .int .i64 xl, .int .i64 a0, .int .i64 a1, .int .i64 a2, .int .i64 a3, .int .i64 a4, .int .i64 a5] 27 (0, 0)) := by simpa using heap_alloc_new (w.alloc (.cells #[.int .i64 x0, .int .i64 y0, .int .i64 z0, .int .i64 x1, .int .i64 y1, .int .i64 z1, .int .i64 step, .slice la ln lc, .slice ha hn hc, .slice pa pn pc, .int .i64 cap] 36)) (.cells #[.int .i64 px, .int .i64 py, .int .i64 pz, .int .i64 xt, .int .i64 xm, .int .i64 xl, .int .i64 a0, .int .i64 a1, .int .i64 a2, .int .i64 a3, .int .i64 a4, .int .i64 a5] 27)
  clear k0_0
  have k0_2 := block_kept (gb_alloc (gb_refl ((w.alloc (.cells #[.int .i64 x0, .int .i64 y0, .int .i64 z0, .int .i64 x1, .int .i64 y1, .int .i64 z1, .int .i64 step, .slice la ln lc, .slice ha hn hc, .slice pa pn pc, .int .i64 cap] 36)).alloc (.cells #[.int .i64 px, .int .i64 py, .int .i64 pz, .int .i64 xt, .int .i64 xm, .int .i64 xl, .int .i64 a0, .int .i64 a1, .int .i64 a2, .int .i64 a3, .int .i64 a4, .int .i64 a5] 27)) none) (.cells #[.int .i64 b0, .int .i64 b1, .int .i64 b2, .int .i64 b3, .int .i64 b4, .int .i64 b5] 25)) k0_1 rfl
  have k1_2 := block_kept (gb_alloc (gb_refl ((w.alloc (.cells #[.int .i64 x0, .int .i64 y0, .int .i64 z0, .int .i64 x1, .int .i64 y1, .int .i64 z1, .int .i64 step, .slice la ln lc, .slice ha hn hc, .slice pa pn pc, .int .i64 cap] 36)).alloc (.cells #[.int .i64 px, .int .i64 py, .int .i64 pz, .int .i64 xt, .int .i64 xm, .int .i64 xl, .int .i64 a0, .int .i64 a1, .int .i64 a2, .int .i64 a3, .int .i64 a4, .int .i64 a5] 27)) none) (.cells #[.int .i64 b0, .int .i64 b1, .int .i64 b2, .int .i64 b3, .int .i64 b4, .int .i64 b5] 25)) k1_1 rfl
  have k2_2 : (((w.alloc (.cells #[.int .i64 x0, .int .i64 y0, .int .i64 z0, .int .i64 x1, .int .i64 y1, .int .i64 z1, .int .i64 step, .slice la ln lc, .slice ha hn hc, .slice pa pn pc, .int .i64 cap] 36)).alloc (.cells #[.int .i64 px, .int .i64 py, .int .i64 pz, .int .i64 xt, .int .i64 xm, .int .i64 xl, .int .i64 a0, .int .i64 a1, .int .i64 a2, .int .i64 a3, .int .i64 a4, .int .i64 a5] 27)).alloc (.cells #[.int .i64 b0, .int .i64 b1, .int .i64 b2, .int .i64 b3, .int .i64 b4, .int .i64 b5] 25)).heap[w.heap.size + 1 + 1]? = some (.cells #[.int .i64 b0, .int .i64 b1, .int .i64 b2, .int .i64 b3, .int .i64 b4, .int .i64 b5] 25 (0, 0)) := by simpa using heap_alloc_new ((w.alloc (.cells #[.int .i64 x0, .int .i64 y0, .int .i64 z0, .int .i64 x1, .int .i64 y1, .int .i64 z1, .int .i64 step, .slice la ln lc, .slice ha hn hc, .slice pa pn pc, .int .i64 cap] 36)).alloc (.cells #[.int .i64 px, .int .i64 py, .int .i64 pz, .int .i64 xt, .int .i64 xm, .int .i64 xl, .int .i64 a0, .int .i64 a1, .int .i64 a2, .int .i64 a3, .int .i64 a4, .int .i64 a5] 27)) (.cells #[.int .i64 b0, .int .i64 b1, .int .i64 b2, .int .i64 b3, .int .i64 b4, .int .i64 b5] 25)
  clear k0_1 k1_1
  have G0 : Hid (w.grownBy (((w.alloc (.cells #[.int .i64 x0, .int .i64 y0, .int .i64 z0, .int .i64 x1, .int .i64 y1, .int .i64 z1, .int .i64 step, .slice la ln lc, .slice ha hn hc, .slice pa pn pc, .int .i64 cap] 36)).alloc (.cells #[.int .i64 px, .int .i64 py, .int .i64 pz, .int .i64 xt, .int .i64 xm, .int .i64 xl, .int .i64 a0, .int .i64 a1, .int .i64 a2, .int .i64 a3, .int .i64 a4, .int .i64 a5] 27)).alloc (.cells #[.int .i64 b0, .int .i64 b1, .int .i64 b2, .int .i64 b3, .int .i64 b4, .int .i64 b5] 25)) none) := Lib.hid (gb_alloc (gb_alloc (gb_alloc (gb_refl w none) _) _) _)
  have K0 := Lib.hid k0_2
  have K1 := Lib.hid k1_2
  have K2 := Lib.hid k2_2
  clear k0_2 k1_2 k2_2
  obtain ⟨e0_, e1_, e2_, e3_, e4_, e5_, e6_, e7_, e8_, e9_, e10_⟩ := cells11 K0.out
  obtain ⟨d0_, d1_, d2_, d3_, d4_, d5_, d6_, d7_, d8_, d9_, d10_, d11_⟩ := cells12 K1.out
  obtain ⟨f0_, f1_, f2_, f3_, f4_, f5_⟩ := six K2.out
  go_enter Tryz.func49, Tryz.ntmps49
  go_wp2_with fail
  generalize (((w.alloc (.cells #[.int .i64 x0, .int .i64 y0, .int .i64 z0, .int .i64 x1, .int .i64 y1, .int .i64 z1, .int .i64 step, .slice la ln lc, .slice ha hn hc, .slice pa pn pc, .int .i64 cap] 36)).alloc (.cells #[.int .i64 px, .int .i64 py, .int .i64 pz, .int .i64 xt, .int .i64 xm, .int .i64 xl, .int .i64 a0, .int .i64 a1, .int .i64 a2, .int .i64 a3, .int .i64 a4, .int .i64 a5] 27)).alloc (.cells #[.int .i64 b0, .int .i64 b1, .int .i64 b2, .int .i64 b3, .int .i64 b4, .int .i64 b5] 25)) = w1 at *
  (with_reducible refine (BD.out w1 G0.out).mono ?_)
  rintro r w2 ⟨rfl, hg⟩
  clear e0_ e1_ e2_ e3_ e4_ e5_ e6_ e7_ e8_ e9_ e10_
  clear d0_ d1_ d2_ d3_ d4_ d5_ d6_ d7_ d8_ d9_ d10_ d11_ f0_ f1_ f2_ f3_ f4_ f5_
  have X2 := Lib.hid (block_kept hg K1.out rfl); have B2 := Lib.hid (block_kept hg K2.out rfl); have G2 := Lib.hid (gb_trans G0.out hg)
  clear hg K0 K1 K2 G0 BD
  obtain ⟨d0_, d1_, d2_, d3_, d4_, d5_, d6_, d7_, d8_, d9_, d10_, d11_⟩ := cells12 X2.out
  obtain ⟨f0_, f1_, f2_, f3_, f4_, f5_⟩ := six B2.out
  generalize hwr : IntKind.i64.wrap (xm - c) = wr at *
  cases h1 : decide (wr ≤ tol)
  · have HR := Lib.hid (show pr = false by rw [HP.out, h1]; rfl)
    go_wp2_with fail
    go_ret
    exact ⟨ret_bool HR.out.symm, G2.out⟩
  cases h2 : decide (xl ≤ c)
  · have HR := Lib.hid (show pr = false by rw [HP.out, h1, h2]; rfl)
    go_wp2_with fail
    go_ret
    exact ⟨ret_bool HR.out.symm, G2.out⟩
  cases h3 : decide (xm ≤ c)
  rotate_left
  · have HR := Lib.hid (show pr = true by rw [HP.out, h1, h2, h3]; rfl)
    go_wp2_with fail
    go_ret
    exact ⟨ret_bool HR.out.symm, G2.out⟩
  have HR := Lib.hid (show pr = wi by rw [HP.out, h1, h2, h3]; cases wi <;> rfl)
  go_wp2_with fail
  (with_reducible refine (WI.out w2).mono ?_)
  rintro r w3 ⟨rfl, hg⟩
  have G3 := Lib.hid (gb_trans G2.out hg)
  clear hg
  go_wp2_with fail
  go_ret
  exact ⟨ret_bool HR.out.symm, G3.out⟩

set_option maxRecDepth 100000 in
set_option maxHeartbeats 4000000 in
theorem rerrors_any (P : Prob) (vl vh vp : Value) (x : Loc) (tol : Int) (w : World) (hi : ProbIn P vl vh vp w) (hbig : P.phs.length ≤ 1000000000) :
    Calls Tryz.prog 25 #[.agg (P.val vl vh vp), .agg x.val, .int .i64 tol] w fun e w' => e = .returned (.int .i64 (askE P x tol)) ∧ w.grownBy w' none := by
  have VA := Lib.hid (fun (u : World) (h : w.grownBy u none) => rmvalidate_any P vl vh vp u (hi.after h) hbig)
  have AT := Lib.hid (fun (u : World) (h : w.grownBy u none) => rat_any P vl vh vp x.px x.py x.pz u (hi.after h) hbig)
  rw [atV_eq] at AT
  obtain ⟨pa, pc, rfl⟩ := hi.p.slice
  obtain ⟨la, ln, lc, rfl⟩ := sl_slice hi.l
  obtain ⟨ha, hn, hc, rfl⟩ := sl_slice hi.h
  generalize hpr : askE P x tol = pr
  have HP := Lib.hid hpr.symm
  clear hpr
  unfold askE corB at HP
  generalize bdC P x.px x.py x.pz x.px x.py x.pz = c at *
  generalize bdE P x.px x.py x.pz x.px x.py x.pz = E at *
  generalize atT P x.px x.py x.pz = tt at *
  generalize valE P = V at *
  clear hi hbig
  obtain ⟨x0, y0, z0, x1, y1, z1, step, ls, hs, phs, cap⟩ := P
  obtain ⟨px, py, pz, xt, xm, xl, a0, a1, a2, a3, a4, a5⟩ := x
  simp only [Prob.val, Loc.val] at *
  generalize phs.length = pn at *
  have k0_0 : (w.alloc (.cells #[.int .i64 x0, .int .i64 y0, .int .i64 z0, .int .i64 x1, .int .i64 y1, .int .i64 z1, .int .i64 step, .slice la ln lc, .slice ha hn hc, .slice pa pn pc, .int .i64 cap] 36)).heap[w.heap.size]? = some (.cells #[.int .i64 x0, .int .i64 y0, .int .i64 z0, .int .i64 x1, .int .i64 y1, .int .i64 z1, .int .i64 step, .slice la ln lc, .slice ha hn hc, .slice pa pn pc, .int .i64 cap] 36 (0, 0)) := by exact heap_alloc_new _ _
  have k0_1 := block_kept (gb_alloc (gb_refl (w.alloc (.cells #[.int .i64 x0, .int .i64 y0, .int .i64 z0, .int .i64 x1, .int .i64 y1, .int .i64 z1, .int .i64 step, .slice la ln lc, .slice ha hn hc, .slice pa pn pc, .int .i64 cap] 36)) none) (.cells #[.int .i64 px, .int .i64 py, .int .i64 pz, .int .i64 xt, .int .i64 xm, .int .i64 xl, .int .i64 a0, .int .i64 a1, .int .i64 a2, .int .i64 a3, .int .i64 a4, .int .i64 a5] 27)) k0_0 rfl
  have k1_1 : ((w.alloc (.cells #[.int .i64 x0, .int .i64 y0, .int .i64 z0, .int .i64 x1, .int .i64 y1, .int .i64 z1, .int .i64 step, .slice la ln lc, .slice ha hn hc, .slice pa pn pc, .int .i64 cap] 36)).alloc (.cells #[.int .i64 px, .int .i64 py, .int .i64 pz, .int .i64 xt, .int .i64 xm, .int .i64 xl, .int .i64 a0, .int .i64 a1, .int .i64 a2, .int .i64 a3, .int .i64 a4, .int .i64 a5] 27)).heap[w.heap.size + 1]? = some (.cells #[.int .i64 px, .int .i64 py, .int .i64 pz, .int .i64 xt, .int .i64 xm, .int .i64 xl, .int .i64 a0, .int .i64 a1, .int .i64 a2, .int .i64 a3, .int .i64 a4, .int .i64 a5] 27 (0, 0)) := by simpa using heap_alloc_new (w.alloc (.cells #[.int .i64 x0, .int .i64 y0, .int .i64 z0, .int .i64 x1, .int .i64 y1, .int .i64 z1, .int .i64 step, .slice la ln lc, .slice ha hn hc, .slice pa pn pc, .int .i64 cap] 36)) (.cells #[.int .i64 px, .int .i64 py, .int .i64 pz, .int .i64 xt, .int .i64 xm, .int .i64 xl, .int .i64 a0, .int .i64 a1, .int .i64 a2, .int .i64 a3, .int .i64 a4, .int .i64 a5] 27)
  clear k0_0
  have G0 : Hid (w.grownBy ((w.alloc (.cells #[.int .i64 x0, .int .i64 y0, .int .i64 z0, .int .i64 x1, .int .i64 y1, .int .i64 z1, .int .i64 step, .slice la ln lc, .slice ha hn hc, .slice pa pn pc, .int .i64 cap] 36)).alloc (.cells #[.int .i64 px, .int .i64 py, .int .i64 pz, .int .i64 xt, .int .i64 xm, .int .i64 xl, .int .i64 a0, .int .i64 a1, .int .i64 a2, .int .i64 a3, .int .i64 a4, .int .i64 a5] 27)) none) := Lib.hid (gb_alloc (gb_alloc (gb_refl w none) _) _)
  have K0 := Lib.hid k0_1
  have K1 := Lib.hid k1_1
  clear k0_1 k1_1
  obtain ⟨e0_, e1_, e2_, e3_, e4_, e5_, e6_, e7_, e8_, e9_, e10_⟩ := cells11 K0.out
  go_enter Tryz.func25, Tryz.ntmps25
  go_wp2_with fail
  generalize ((w.alloc (.cells #[.int .i64 x0, .int .i64 y0, .int .i64 z0, .int .i64 x1, .int .i64 y1, .int .i64 z1, .int .i64 step, .slice la ln lc, .slice ha hn hc, .slice pa pn pc, .int .i64 cap] 36)).alloc (.cells #[.int .i64 px, .int .i64 py, .int .i64 pz, .int .i64 xt, .int .i64 xm, .int .i64 xl, .int .i64 a0, .int .i64 a1, .int .i64 a2, .int .i64 a3, .int .i64 a4, .int .i64 a5] 27)) = w1 at *
  generalize w.heap.size = n0 at *
  (with_reducible refine (VA.out w1 G0.out).mono ?_)
  rintro r w2 ⟨rfl, hg⟩
  clear e0_ e1_ e2_ e3_ e4_ e5_ e6_ e7_ e8_ e9_ e10_
  have P2 := Lib.hid (block_kept hg K0.out rfl); have X2 := Lib.hid (block_kept hg K1.out rfl); have G2 := Lib.hid (gb_trans G0.out hg)
  clear hg K0 K1 G0 VA
  by_cases hV : V = 0
  rotate_left
  · have hV' : (V != 0) = true := by simpa using hV
    have HR := Lib.hid (show pr = V by rw [HP.out, if_pos hV])
    clear hV HP
    go_wp2_with fail
    go_ret
    exact ⟨ret_int HR.out.symm, G2.out⟩
  subst hV
  have hV' : ((0 : Int) != 0) = false := by simp
  by_cases ht : tol < 0
  · have ht' : decide (tol < 0) = true := decide_eq_true ht
    have HR := Lib.hid (show pr = 2 by rw [HP.out, if_neg (by simp), if_pos ht])
    clear ht HP
    go_wp2_with fail
    go_ret
    exact ⟨ret_int HR.out.symm, G2.out⟩
  have ht' : decide (tol < 0) = false := decide_eq_false ht
  have HP2 := Lib.hid (show pr = if (decide (E = 0) && decide (tt = xt) && decide (c = xm)) = true then 0 else 10 by rw [HP.out, if_neg (by simp), if_neg ht])
  clear ht HP
  obtain ⟨e0_, e1_, e2_, e3_, e4_, e5_, e6_, e7_, e8_, e9_, e10_⟩ := cells11 P2.out
  obtain ⟨d0_, d1_, d2_, d3_, d4_, d5_, d6_, d7_, d8_, d9_, d10_, d11_⟩ := cells12 X2.out
  go_wp2_with fail
  (with_reducible refine (AT.out w2 G2.out).mono ?_)
  rintro r w3 ⟨rfl, hg⟩
  clear e0_ e1_ e2_ e3_ e4_ e5_ e6_ e7_ e8_ e9_ e10_
  clear d0_ d1_ d2_ d3_ d4_ d5_ d6_ d7_ d8_ d9_ d10_ d11_ ht' hV'
  have X3 := Lib.hid (block_kept hg X2.out rfl); have G3 := Lib.hid (gb_trans G2.out hg)
  clear hg P2 X2 G2 AT
  obtain ⟨d0_, d1_, d2_, d3_, d4_, d5_, d6_, d7_, d8_, d9_, d10_, d11_⟩ := cells12 X3.out
  by_cases hE : E = 0
  rotate_left
  · have hE' : (E != 0) = true := by simpa using hE
    have HR := Lib.hid (show pr = 10 by rw [HP2.out]; simp [hE])
    clear hE HP2
    go_wp2_with fail
    go_ret
    exact ⟨ret_int HR.out.symm, G3.out⟩
  subst hE
  have hE' : ((0 : Int) != 0) = false := by simp
  by_cases h1 : tt = xt
  rotate_left
  · have h1' : (tt != xt) = true := by simpa using h1
    have HR := Lib.hid (show pr = 10 by rw [HP2.out]; simp [h1])
    clear h1 HP2
    go_wp2_with fail
    go_ret
    exact ⟨ret_int HR.out.symm, G3.out⟩
  have h1' : (tt != xt) = false := by simpa using h1
  by_cases h2 : c = xm
  rotate_left
  · have h2' : (c != xm) = true := by simpa using h2
    have HR := Lib.hid (show pr = 10 by rw [HP2.out]; simp [h2])
    clear h1 h2 HP2
    go_wp2_with fail
    go_ret
    exact ⟨ret_int HR.out.symm, G3.out⟩
  have h2' : (c != xm) = false := by simpa using h2
  have HR := Lib.hid (show pr = 0 by rw [HP2.out]; simp [h1, h2])
  clear h1 h2 HP2
  go_wp2_with fail
  go_ret
  exact ⟨ret_int HR.out.symm, G3.out⟩
end Go.Proofs.YtdkckhihleffeaaGreat
