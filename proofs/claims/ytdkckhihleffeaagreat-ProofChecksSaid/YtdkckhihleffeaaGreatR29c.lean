/- ref29.Check. Written by gen_r29r.py. -/
import Derived.Test.YtdkckhihleffeaaGreatR29r
namespace Go.Proofs.YtdkckhihleffeaaGreat
set_option linter.all false
open Go.RowKit Rg

/-- What ref29.Check answers. -/
def chkR (P : Prob) (x : Loc) (tol : Int) (lst : List Int) : Int := if askE P x tol ≠ 0 then askE P x tol else if 6001 < lst.length then 8 else if x.m < x.l then 26 else if rd (lfV P x tol) (lst.length + 1) P.reg lst = (true, []) then 0 else 26

set_option maxRecDepth 100000 in
set_option maxHeartbeats 4000000 in
theorem rcheck_any (P : Prob) (vl vh vp : Value) (x : Loc) (tol : Int) (lst : List Int) (vs : Value) (w : World) (hi : ProbIn P vl vh vp w) (hs' : Sl w vs lst) (hbig : P.phs.length ≤ 1000000000) :
    Calls Tryz.prog 17 #[.agg (P.val vl vh vp), .agg x.val, .int .i64 tol, vs] w fun e w' => e = .returned (.int .i64 (chkR P x tol lst)) ∧ w.grownBy w' none := by
  have ER := Lib.hid (fun (u : World) (h : w.grownBy u none) => rerrors_any P vl vh vp x tol u (hi.after h) hbig)
  have RE := Lib.hid (fun (u : World) (h : w.grownBy u none) => rread_any P vl vh vp x tol hbig (lst.length + 1) P.reg lst vs u (hi.after h) (hs'.after h) (by omega))
  obtain ⟨pa, pc, rfl⟩ := hi.p.slice
  obtain ⟨la, ln, lc, rfl⟩ := sl_slice hi.l
  obtain ⟨ha, hn, hc, rfl⟩ := sl_slice hi.h
  obtain ⟨sa, sc, rfl⟩ := hs'.shape
  generalize hpr : chkR P x tol lst = pr
  have HP := Lib.hid hpr.symm
  clear hpr hs'
  unfold chkR at HP
  generalize rd (lfV P x tol) (lst.length + 1) P.reg lst = r1 at *
  obtain ⟨o1, l1⟩ := r1
  generalize askE P x tol = V at *
  generalize lst.length = sn at *
  clear hi hbig
  obtain ⟨x0, y0, z0, x1, y1, z1, step, ls, hs, phs, cap⟩ := P
  obtain ⟨px, py, pz, xt, xm, xl, a0, a1, a2, a3, a4, a5⟩ := x
  simp only [Prob.val, Loc.val] at *
  generalize phs.length = pn at *
  simp only [Prob.reg, Bx.val] at RE
  have k0_0 : (w.alloc (.cells #[.int .i64 x0, .int .i64 y0, .int .i64 z0, .int .i64 x1, .int .i64 y1, .int .i64 z1, .int .i64 step, .slice la ln lc, .slice ha hn hc, .slice pa pn pc, .int .i64 cap] 36)).heap[w.heap.size]? = some (.cells #[.int .i64 x0, .int .i64 y0, .int .i64 z0, .int .i64 x1, .int .i64 y1, .int .i64 z1, .int .i64 step, .slice la ln lc, .slice ha hn hc, .slice pa pn pc, .int .i64 cap] 36 (0, 0)) := by exact heap_alloc_new _ _
  have k0_1 := block_kept (gb_alloc (gb_refl (w.alloc (.cells #[.int .i64 x0, .int .i64 y0, .int .i64 z0, .int .i64 x1, .int .i64 y1, .int .i64 z1, .int .i64 step, .slice la ln lc, .slice ha hn hc, .slice pa pn pc, .int .i64 cap] 36)) none) (.cells #[.int .i64 px, .int .i64 py, .int .i64 pz, .int .i64 xt, .int .i64 xm, .int .i64 xl, .int .i64 a0, .int .i64 a1, .int .i64 a2, .int .i64 a3, .int .i64 a4, .int .i64 a5] 27)) k0_0 rfl
  have k1_1 : ((w.alloc (.cells #[.int .i64 x0, .int .i64 y0, .int .i64 z0, .int .i64 x1, .int .i64 y1, .int .i64 z1, .int .i64 step, .slice la ln lc, .slice ha hn hc, .slice pa pn pc, .int .i64 cap] 36)).alloc (.cells #[.int .i64 px, .int .i64 py, .int .i64 pz, .int .i64 xt, .int .i64 xm, .int .i64 xl, .int .i64 a0, .int .i64 a1, .int .i64 a2, .int .i64 a3, .int .i64 a4, .int .i64 a5] 27)).heap[w.heap.size + 1]? = some (.cells #[.int .i64 px, .int .i64 py, .int .i64 pz, .int .i64 xt, .int .i64 xm, .int .i64 xl, .int .i64 a0, .int .i64 a1, .int .i64 a2, .int .i64 a3, .int .i64 a4, .int .i64 a5] 27 (0, 0)) := by simpa using heap_alloc_new (w.alloc (.cells #[.int .i64 x0, .int .i64 y0, .int .i64 z0, .int .i64 x1, .int .i64 y1, .int .i64 z1, .int .i64 step, .slice la ln lc, .slice ha hn hc, .slice pa pn pc, .int .i64 cap] 36)) (.cells #[.int .i64 px, .int .i64 py, .int .i64 pz, .int .i64 xt, .int .i64 xm, .int .i64 xl, .int .i64 a0, .int .i64 a1, .int .i64 a2, .int .i64 a3, .int .i64 a4, .int .i64 a5] 27)
  clear k0_0
  have G0 : Hid (w.grownBy ((w.alloc (.cells #[.int .i64 x0, .int .i64 y0, .int .i64 z0, .int .i64 x1, .int .i64 y1, .int .i64 z1, .int .i64 step, .slice la ln lc, .slice ha hn hc, .slice pa pn pc, .int .i64 cap] 36)).alloc (.cells #[.int .i64 px, .int .i64 py, .int .i64 pz, .int .i64 xt, .int .i64 xm, .int .i64 xl, .int .i64 a0, .int .i64 a1, .int .i64 a2, .int .i64 a3, .int .i64 a4, .int .i64 a5] 27)) none) := Lib.hid (gb_alloc (gb_alloc (gb_refl w none) _) _)
  have K0 := Lib.hid k0_1
  have K1 := Lib.hid k1_1
  clear k0_1 k1_1
  obtain ⟨e0_, e1_, e2_, e3_, e4_, e5_, e6_, e7_, e8_, e9_, e10_⟩ := cells11 K0.out
  obtain ⟨d0_, d1_, d2_, d3_, d4_, d5_, d6_, d7_, d8_, d9_, d10_, d11_⟩ := cells12 K1.out
  go_enter Tryz.func17, Tryz.ntmps17
  go_wp2_with fail
  generalize ((w.alloc (.cells #[.int .i64 x0, .int .i64 y0, .int .i64 z0, .int .i64 x1, .int .i64 y1, .int .i64 z1, .int .i64 step, .slice la ln lc, .slice ha hn hc, .slice pa pn pc, .int .i64 cap] 36)).alloc (.cells #[.int .i64 px, .int .i64 py, .int .i64 pz, .int .i64 xt, .int .i64 xm, .int .i64 xl, .int .i64 a0, .int .i64 a1, .int .i64 a2, .int .i64 a3, .int .i64 a4, .int .i64 a5] 27)) = w1 at *
  generalize w.heap.size = n0 at *
  (with_reducible refine (ER.out w1 G0.out).mono ?_)
  rintro r w2 ⟨rfl, hg⟩
  clear e0_ e1_ e2_ e3_ e4_ e5_ e6_ e7_ e8_ e9_ e10_
  clear d0_ d1_ d2_ d3_ d4_ d5_ d6_ d7_ d8_ d9_ d10_ d11_
  have P2 := Lib.hid (block_kept hg K0.out rfl); have X2 := Lib.hid (block_kept hg K1.out rfl); have G2 := Lib.hid (gb_trans G0.out hg)
  clear hg K0 K1 G0 ER
  by_cases hV : V = 0
  rotate_left
  · have hV' : (V != 0) = true := by simpa using hV
    have HR := Lib.hid (show pr = V by rw [HP.out, if_pos hV])
    clear hV HP
    go_wp2_with fail
    go_ret
    exact ⟨ret_int HR.out.symm, G2.out⟩
  subst hV
  have hV' : ((0 : Int) != 0) = false := by simp
  by_cases hl : 6001 < sn
  · have hl' : decide ((sn : Int) > 6001) = true := decide_eq_true (by omega)
    have HR := Lib.hid (show pr = 8 by rw [HP.out, if_neg (by simp), if_pos hl])
    clear hl HP
    go_wp2_with fail
    go_ret
    exact ⟨ret_int HR.out.symm, G2.out⟩
  have hl' : decide ((sn : Int) > 6001) = false := decide_eq_false (by omega)
  have HP2 := Lib.hid (show pr = if xm < xl then 26 else if (o1, l1) = (true, []) then 0 else 26 by rw [HP.out, if_neg (by simp), if_neg hl])
  clear hl HP
  obtain ⟨e0_, e1_, e2_, e3_, e4_, e5_, e6_, e7_, e8_, e9_, e10_⟩ := cells11 P2.out
  obtain ⟨d0_, d1_, d2_, d3_, d4_, d5_, d6_, d7_, d8_, d9_, d10_, d11_⟩ := cells12 X2.out
  go_wp2_with fail
  (with_reducible refine (RE.out w2 G2.out).mono ?_)
  rintro r w3 ⟨r, rfl, ⟨s, rfl, hs⟩, hg⟩
  clear e0_ e1_ e2_ e3_ e4_ e5_ e6_ e7_ e8_ e9_ e10_
  clear d0_ d1_ d2_ d3_ d4_ d5_ d6_ d7_ d8_ d9_ d10_ d11_ hl' hV'
  have X3 := Lib.hid (block_kept hg X2.out rfl); have G3 := Lib.hid (gb_trans G2.out hg)
  clear hg P2 X2 G2 RE
  dsimp only at hs
  obtain ⟨d0_, d1_, d2_, d3_, d4_, d5_, d6_, d7_, d8_, d9_, d10_, d11_⟩ := cells12 X3.out
  cases o1
  · have HR := Lib.hid (show pr = 26 by rw [HP2.out]; simp)
    clear hs HP2
    go_wp2_with fail
    go_ret
    exact ⟨ret_int HR.out.symm, G3.out⟩
  have HS := Lib.hid (hs rfl)
  obtain ⟨ta, tc, rfl⟩ := HS.out.shape
  clear hs
  by_cases hl1 : l1.length = 0
  rotate_left
  · have hl1' : decide ((0 : Int) < (l1.length : Int)) = true := decide_eq_true (by omega)
    have hl3' : decide (0 < l1.length) = true := decide_eq_true (by omega)
    have HR := Lib.hid (show pr = 26 by
      rw [HP2.out]
      have : l1 ≠ [] := fun h => hl1 (by rw [h]; rfl)
      simp [this])
    clear hl1 HP2
    go_wp2_with fail
    go_ret
    exact ⟨ret_int HR.out.symm, G3.out⟩
  have hl1' : decide ((0 : Int) < (l1.length : Int)) = false := decide_eq_false (by omega)
  have hl3' : decide (0 < l1.length) = false := decide_eq_false (by omega)
  have hl2 : l1 = [] := List.length_eq_zero_iff.1 hl1
  by_cases hm : xm < xl
  · have hm' : decide (xm < xl) = true := decide_eq_true hm
    have HR := Lib.hid (show pr = 26 by rw [HP2.out, if_pos hm])
    clear hm hl1 hl2 HP2
    go_wp2_with fail
    go_ret
    exact ⟨ret_int HR.out.symm, G3.out⟩
  · have hm' : decide (xm < xl) = false := decide_eq_false hm
    have HR := Lib.hid (show pr = 0 by rw [HP2.out, if_neg hm, hl2]; rfl)
    clear hm hl1 hl2 HP2
    go_wp2_with fail
    go_ret
    exact ⟨ret_int HR.out.symm, G3.out⟩
end Go.Proofs.YtdkckhihleffeaaGreat
