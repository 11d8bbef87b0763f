/- proof: correct, asked. Written by gen_prf2.py. -/
import Derived.Test.YtdkckhihleffeaaGreatPrf
namespace Go.Proofs.YtdkckhihleffeaaGreat
set_option linter.all false
open Go.RowKit Rg

/-- A location is true. -/
def corB (P : Prob) (x : Loc) : Bool := decide (bdE P x.px x.py x.pz x.px x.py x.pz = 0) && decide (atT P x.px x.py x.pz = x.t) && decide (bdC P x.px x.py x.pz x.px x.py x.pz = x.m)
def askE (P : Prob) (x : Loc) (tol : Int) : Int := if valE P ≠ 0 then valE P else if tol < 0 then 2 else if corB P x = true then 0 else 10

set_option maxRecDepth 100000 in
set_option maxHeartbeats 4000000 in
theorem correct_any (P : Prob) (vl vh vp : Value) (x : Loc) (w : World) (hi : ProbIn P vl vh vp w) (hbig : P.phs.length ≤ 1000000000) :
    Calls Tryz.prog 55 #[.agg (P.val vl vh vp), .agg x.val] w fun e w' => e = .returned (.bool (corB P x)) ∧ w.grownBy w' none := by
  have AT := Lib.hid (fun (u : World) (h : w.grownBy u none) => at_any P vl vh vp x.px x.py x.pz u (hi.after h) hbig)
  rw [atV_eq] at AT
  obtain ⟨pa, pc, rfl⟩ := hi.p.slice
  obtain ⟨la, ln, lc, rfl⟩ := sl_slice hi.l
  obtain ⟨ha, hn, hc, rfl⟩ := sl_slice hi.h
  generalize hpr : corB P x = pr
  have HP := Lib.hid hpr.symm
  clear hpr
  unfold corB at HP
  generalize bdC P x.px x.py x.pz x.px x.py x.pz = c at *
  generalize bdE P x.px x.py x.pz x.px x.py x.pz = E at *
  generalize atT P x.px x.py x.pz = tt at *
  clear hi hbig
  obtain ⟨x0, y0, z0, x1, y1, z1, step, ls, hs, phs, cap⟩ := P
  obtain ⟨px, py, pz, xt, xm, xl, a0, a1, a2, a3, a4, a5⟩ := x
  simp only [Prob.val, Loc.val] at *
  generalize phs.length = pn at *
  have k0_0 : (w.alloc (.cells #[.int .i64 x0, .int .i64 y0, .int .i64 z0, .int .i64 x1, .int .i64 y1, .int .i64 z1, .int .i64 step, .slice la ln lc, .slice ha hn hc, .slice pa pn pc, .int .i64 cap] 36)).heap[w.heap.size]? = some (.cells #[.int .i64 x0, .int .i64 y0, .int .i64 z0, .int .i64 x1, .int .i64 y1, .int .i64 z1, .int .i64 step, .slice la ln lc, .slice ha hn hc, .slice pa pn pc, .int .i64 cap] 36 (0, 0)) := by exact heap_alloc_new _ _
  have k0_1 := block_kept (gb_alloc (gb_refl (w.alloc (.cells #[.int .i64 x0, .int .i64 y0, .int .i64 z0, .int .i64 x1, .int .i64 y1, .int .i64 z1, .int .i64 step, .slice la ln lc, .slice ha hn hc, .slice pa pn pc, .int .i64 cap] 36)) none) (.cells #[.int .i64 px, .int .i64 py, .int .i64 pz, .int .i64 xt, .int .i64 xm, .int .i64 xl, .int .i64 a0, .int .i64 a1, .int .i64 a2, .int .i64 a3, .int .i64 a4, .int .i64 a5] 27)) k0_0 rfl
  have k1_1 : ((w.alloc (.cells #[.int .i64 x0, .int .i64 y0, .int .i64 z0, .int .i64 x1, .int .i64 y1, .int .i64 z1, .int .i64 step, .slice la ln lc, .slice ha hn hc, .slice pa pn pc, .int .i64 cap] 36)).alloc (.cells #[.int .i64 px, .int .i64 py, .int .i64 pz, .int .i64 xt, .int .i64 xm, .int .i64 xl, .int .i64 a0, .int .i64 a1, .int .i64 a2, .int .i64 a3, .int .i64 a4, .int .i64 a5] 27)).heap[w.heap.size + 1]? = some (.cells #[.int .i64 px, .int .i64 py, .int .i64 pz, .int .i64 xt, .int .i64 xm, .int .i64 xl, .int .i64 a0, .int .i64 a1, .int .i64 a2, .int .i64 a3, .int .i64 a4, .int .i64 a5] 27 (0, 0)) := by simpa using heap_alloc_new (w.alloc (.cells #[.int .i64 x0, .int .i64 y0, .int .i64 z0, .int .i64 x1, .int .i64 y1, .int .i64 z1, .int .i64 step, .slice la ln lc, .slice ha hn hc, .slice pa pn pc, .int .i64 cap] 36)) (.cells #[.int .i64 px, .int .i64 py, .int .i64 pz, .int .i64 xt, .int .i64 xm, .int .i64 xl, .int .i64 a0, .int .i64 a1, .int .i64 a2, .int .i64 a3, .int .i64 a4, .int .i64 a5] 27)
  clear k0_0
  have G0 := Lib.hid (gb_alloc (gb_alloc (gb_refl w none) _) _ : w.grownBy ((w.alloc (.cells #[.int .i64 x0, .int .i64 y0, .int .i64 z0, .int .i64 x1, .int .i64 y1, .int .i64 z1, .int .i64 step, .slice la ln lc, .slice ha hn hc, .slice pa pn pc, .int .i64 cap] 36)).alloc (.cells #[.int .i64 px, .int .i64 py, .int .i64 pz, .int .i64 xt, .int .i64 xm, .int .i64 xl, .int .i64 a0, .int .i64 a1, .int .i64 a2, .int .i64 a3, .int .i64 a4, .int .i64 a5] 27)) none)
  have K0 := Lib.hid k0_1
  have K1 := Lib.hid k1_1
  clear k0_1 k1_1
  obtain ⟨e0_, e1_, e2_, e3_, e4_, e5_, e6_, e7_, e8_, e9_, e10_⟩ := cells11 K0.out
  obtain ⟨d0_, d1_, d2_, d3_, d4_, d5_, d6_, d7_, d8_, d9_, d10_, d11_⟩ := cells12 K1.out
  go_enter Tryz.func55, Tryz.ntmps55
  go_wp2_with fail
  generalize ((w.alloc (.cells #[.int .i64 x0, .int .i64 y0, .int .i64 z0, .int .i64 x1, .int .i64 y1, .int .i64 z1, .int .i64 step, .slice la ln lc, .slice ha hn hc, .slice pa pn pc, .int .i64 cap] 36)).alloc (.cells #[.int .i64 px, .int .i64 py, .int .i64 pz, .int .i64 xt, .int .i64 xm, .int .i64 xl, .int .i64 a0, .int .i64 a1, .int .i64 a2, .int .i64 a3, .int .i64 a4, .int .i64 a5] 27)) = w1 at *
  (with_reducible refine (AT.out w1 G0.out).mono ?_)
  rintro r w2 ⟨rfl, hg⟩
  clear e0_ e1_ e2_ e3_ e4_ e5_ e6_ e7_ e8_ e9_ e10_
  clear d0_ d1_ d2_ d3_ d4_ d5_ d6_ d7_ d8_ d9_ d10_ d11_
  have X2 := Lib.hid (block_kept hg K1.out rfl); have G2 := Lib.hid (gb_trans G0.out hg)
  clear hg K0 K1 G0 AT
  obtain ⟨d0_, d1_, d2_, d3_, d4_, d5_, d6_, d7_, d8_, d9_, d10_, d11_⟩ := cells12 X2.out
  by_cases hE : E = 0
  rotate_left
  · have hE' : (E == 0) = false := by simpa using hE
    have HR := Lib.hid (show pr = false by rw [HP.out]; simp [hE])
    clear hE
    go_wp2
    go_ret
    exact ⟨ret_bool HR.out.symm, G2.out⟩
  subst hE
  by_cases h1 : tt = xt
  rotate_left
  · have h1' : (tt == xt) = false := by simpa using h1
    have HR := Lib.hid (show pr = false by rw [HP.out]; simp [h1])
    clear h1
    go_wp2
    go_ret
    exact ⟨ret_bool HR.out.symm, G2.out⟩
  have h1' : (tt == xt) = true := by simpa using h1
  by_cases h2 : c = xm
  · have h2' : (c == xm) = true := by simpa using h2
    have HR := Lib.hid (show pr = true by rw [HP.out]; simp [h1, h2])
    clear h1 h2
    go_wp2
    go_ret
    exact ⟨ret_bool HR.out.symm, G2.out⟩
  · have h2' : (c == xm) = false := by simpa using h2
    have HR := Lib.hid (show pr = false by rw [HP.out]; simp [h2])
    clear h1 h2
    go_wp2
    go_ret
    exact ⟨ret_bool HR.out.symm, G2.out⟩

set_option maxRecDepth 100000 in
set_option maxHeartbeats 4000000 in
theorem asked_any (P : Prob) (vl vh vp : Value) (x : Loc) (tol : Int) (w : World) (hi : ProbIn P vl vh vp w) (hbig : P.phs.length ≤ 1000000000) :
    Calls Tryz.prog 34 #[.agg (P.val vl vh vp), .agg x.val, .int .i64 tol] w fun e w' => e = .returned (.int .i64 (askE P x tol)) ∧ w.grownBy w' none := by
  have AT := Lib.hid (fun (u : World) (h : w.grownBy u none) => mvalidate_any P vl vh vp u (hi.after h) hbig)
  have CO := Lib.hid (fun (u : World) (h : w.grownBy u none) => correct_any P vl vh vp x u (hi.after h) hbig)
  obtain ⟨pa, pc, rfl⟩ := hi.p.slice
  obtain ⟨la, ln, lc, rfl⟩ := sl_slice hi.l
  obtain ⟨ha, hn, hc, rfl⟩ := sl_slice hi.h
  generalize hpr : askE P x tol = pr
  have HP := Lib.hid hpr.symm
  clear hpr
  unfold askE at HP
  generalize valE P = E at *
  generalize corB P x = cb at *
  clear hi hbig
  obtain ⟨x0, y0, z0, x1, y1, z1, step, ls, hs, phs, cap⟩ := P
  obtain ⟨px, py, pz, xt, xm, xl, a0, a1, a2, a3, a4, a5⟩ := x
  simp only [Prob.val, Loc.val] at *
  generalize phs.length = pn at *
  have k0_0 : (w.alloc (.cells #[.int .i64 x0, .int .i64 y0, .int .i64 z0, .int .i64 x1, .int .i64 y1, .int .i64 z1, .int .i64 step, .slice la ln lc, .slice ha hn hc, .slice pa pn pc, .int .i64 cap] 36)).heap[w.heap.size]? = some (.cells #[.int .i64 x0, .int .i64 y0, .int .i64 z0, .int .i64 x1, .int .i64 y1, .int .i64 z1, .int .i64 step, .slice la ln lc, .slice ha hn hc, .slice pa pn pc, .int .i64 cap] 36 (0, 0)) := by exact heap_alloc_new _ _
  have k0_1 := block_kept (gb_alloc (gb_refl (w.alloc (.cells #[.int .i64 x0, .int .i64 y0, .int .i64 z0, .int .i64 x1, .int .i64 y1, .int .i64 z1, .int .i64 step, .slice la ln lc, .slice ha hn hc, .slice pa pn pc, .int .i64 cap] 36)) none) (.cells #[.int .i64 px, .int .i64 py, .int .i64 pz, .int .i64 xt, .int .i64 xm, .int .i64 xl, .int .i64 a0, .int .i64 a1, .int .i64 a2, .int .i64 a3, .int .i64 a4, .int .i64 a5] 27)) k0_0 rfl
  have k1_1 : ((w.alloc (.cells #[.int .i64 x0, .int .i64 y0, .int .i64 z0, .int .i64 x1, .int .i64 y1, .int .i64 z1, .int .i64 step, .slice la ln lc, .slice ha hn hc, .slice pa pn pc, .int .i64 cap] 36)).alloc (.cells #[.int .i64 px, .int .i64 py, .int .i64 pz, .int .i64 xt, .int .i64 xm, .int .i64 xl, .int .i64 a0, .int .i64 a1, .int .i64 a2, .int .i64 a3, .int .i64 a4, .int .i64 a5] 27)).heap[w.heap.size + 1]? = some (.cells #[.int .i64 px, .int .i64 py, .int .i64 pz, .int .i64 xt, .int .i64 xm, .int .i64 xl, .int .i64 a0, .int .i64 a1, .int .i64 a2, .int .i64 a3, .int .i64 a4, .int .i64 a5] 27 (0, 0)) := by simpa using heap_alloc_new (w.alloc (.cells #[.int .i64 x0, .int .i64 y0, .int .i64 z0, .int .i64 x1, .int .i64 y1, .int .i64 z1, .int .i64 step, .slice la ln lc, .slice ha hn hc, .slice pa pn pc, .int .i64 cap] 36)) (.cells #[.int .i64 px, .int .i64 py, .int .i64 pz, .int .i64 xt, .int .i64 xm, .int .i64 xl, .int .i64 a0, .int .i64 a1, .int .i64 a2, .int .i64 a3, .int .i64 a4, .int .i64 a5] 27)
  clear k0_0
  have G0 := Lib.hid (gb_alloc (gb_alloc (gb_refl w none) _) _ : w.grownBy ((w.alloc (.cells #[.int .i64 x0, .int .i64 y0, .int .i64 z0, .int .i64 x1, .int .i64 y1, .int .i64 z1, .int .i64 step, .slice la ln lc, .slice ha hn hc, .slice pa pn pc, .int .i64 cap] 36)).alloc (.cells #[.int .i64 px, .int .i64 py, .int .i64 pz, .int .i64 xt, .int .i64 xm, .int .i64 xl, .int .i64 a0, .int .i64 a1, .int .i64 a2, .int .i64 a3, .int .i64 a4, .int .i64 a5] 27)) none)
  have K0 := Lib.hid k0_1
  have K1 := Lib.hid k1_1
  clear k0_1 k1_1
  obtain ⟨e0_, e1_, e2_, e3_, e4_, e5_, e6_, e7_, e8_, e9_, e10_⟩ := cells11 K0.out
  go_enter Tryz.func34, Tryz.ntmps34
  go_wp2_with fail
  generalize ((w.alloc (.cells #[.int .i64 x0, .int .i64 y0, .int .i64 z0, .int .i64 x1, .int .i64 y1, .int .i64 z1, .int .i64 step, .slice la ln lc, .slice ha hn hc, .slice pa pn pc, .int .i64 cap] 36)).alloc (.cells #[.int .i64 px, .int .i64 py, .int .i64 pz, .int .i64 xt, .int .i64 xm, .int .i64 xl, .int .i64 a0, .int .i64 a1, .int .i64 a2, .int .i64 a3, .int .i64 a4, .int .i64 a5] 27)) = w1 at *
  (with_reducible refine (AT.out w1 G0.out).mono ?_)
  rintro r w2 ⟨rfl, hg⟩
  clear e0_ e1_ e2_ e3_ e4_ e5_ e6_ e7_ e8_ e9_ e10_
  have P2 := Lib.hid (block_kept hg K0.out rfl); have X2 := Lib.hid (block_kept hg K1.out rfl); have G2 := Lib.hid (gb_trans G0.out hg)
  clear hg K0 K1 G0 AT
  by_cases hE : E = 0
  rotate_left
  · have hE' : (E == 0) = false := by simpa using hE
    have HR := Lib.hid (show pr = E by rw [HP.out]; simp [hE])
    clear hE
    go_wp2
    go_ret
    exact ⟨ret_int HR.out.symm, G2.out⟩
  subst hE
  by_cases h1 : tol < 0
  · have HR := Lib.hid (show pr = 2 by rw [HP.out]; simp [h1])
    have h1' : decide (tol < 0) = true := decide_eq_true h1
    clear h1
    go_wp2
    go_ret
    exact ⟨ret_int HR.out.symm, G2.out⟩
  have h1' : decide (tol < 0) = false := decide_eq_false h1
  obtain ⟨e0_, e1_, e2_, e3_, e4_, e5_, e6_, e7_, e8_, e9_, e10_⟩ := cells11 P2.out
  obtain ⟨d0_, d1_, d2_, d3_, d4_, d5_, d6_, d7_, d8_, d9_, d10_, d11_⟩ := cells12 X2.out
  go_wp2_with fail
  (with_reducible refine (CO.out w2 G2.out).mono ?_)
  rintro r w3 ⟨rfl, hg⟩
  have G3 := Lib.hid (gb_trans G2.out hg)
  clear hg
  cases cb
  · have HR := Lib.hid (show pr = 10 by rw [HP.out]; simp [h1])
    clear h1
    go_wp2
    go_ret
    exact ⟨ret_int HR.out.symm, G3.out⟩
  · have HR := Lib.hid (show pr = 0 by rw [HP.out]; simp [h1])
    clear h1
    go_wp2
    go_ret
    exact ⟨ret_int HR.out.symm, G3.out⟩
end Go.Proofs.YtdkckhihleffeaaGreat
