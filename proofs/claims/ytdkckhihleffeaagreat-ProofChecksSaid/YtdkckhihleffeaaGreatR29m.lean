/- ref29.Make. Written by gen_r29w.py. -/
import Derived.Test.YtdkckhihleffeaaGreatR29w
import Derived.Test.YtdkckhihleffeaaGreatChkP
namespace Go.Proofs.YtdkckhihleffeaaGreat
set_option linter.all false
open Go.RowKit Rg

set_option maxRecDepth 100000 in
set_option maxHeartbeats 4000000 in
theorem rmake_any (P : Prob) (vl vh vp : Value) (x : Loc) (tol : Int) (w : World) (hi : ProbIn P vl vh vp w) (hbig : P.phs.length ≤ 1000000000) :
    Calls Tryz.prog 9 #[.agg (P.val vl vh vp), .agg x.val, .int .i64 tol] w fun e w' => ∃ v', e = .returned (.tuple #[v', .int .i64 (mkR P x tol).1]) ∧ w'.ownsRow w.heap.size 3 1 v' (mkR P x tol).2.length ((mkR P x tol).2.map (Value.int .i64)) ∧ w.grownBy w' none := by
  have ER := Lib.hid (fun (u : World) (h : w.grownBy u none) => rerrors_any P vl vh vp x tol u (hi.after h) hbig)
  have WR := Lib.hid (fun (u : World) (h : w.grownBy u none) (hB : w.heap.size ≤ u.heap.size) => rwrite_any P vl vh vp x tol w hi hbig w.heap.size (Nat.le_refl _) 6002 P.reg [] (.slice none 0 0) u h (World.ownsRow_nil _ _ _ _) hB (by simp) (by simp))
  obtain ⟨pa, pc, rfl⟩ := hi.p.slice
  obtain ⟨la, ln, lc, rfl⟩ := sl_slice hi.l
  obtain ⟨ha, hn, hc, rfl⟩ := sl_slice hi.h
  generalize hpr : mkR P x tol = pr
  have HP := Lib.hid hpr.symm
  clear hpr
  unfold mkR at HP
  generalize wrR (lfV P x tol) 6002 P.reg [] = r1 at *
  obtain ⟨c1, l1⟩ := r1
  generalize askE P x tol = V at *
  clear hi hbig
  obtain ⟨x0, y0, z0, x1, y1, z1, step, ls, hs, phs, cap⟩ := P
  obtain ⟨px, py, pz, xt, xm, xl, a0, a1, a2, a3, a4, a5⟩ := x
  simp only [Prob.val, Loc.val] at *
  generalize phs.length = pn at *
  simp only [Prob.reg, Bx.val] at WR
  have k0_0 : (w.alloc (.cells #[.int .i64 x0, .int .i64 y0, .int .i64 z0, .int .i64 x1, .int .i64 y1, .int .i64 z1, .int .i64 step, .slice la ln lc, .slice ha hn hc, .slice pa pn pc, .int .i64 cap] 36)).heap[w.heap.size]? = some (.cells #[.int .i64 x0, .int .i64 y0, .int .i64 z0, .int .i64 x1, .int .i64 y1, .int .i64 z1, .int .i64 step, .slice la ln lc, .slice ha hn hc, .slice pa pn pc, .int .i64 cap] 36 (0, 0)) := by exact heap_alloc_new _ _
  have k0_1 := block_kept (gb_alloc (gb_refl (w.alloc (.cells #[.int .i64 x0, .int .i64 y0, .int .i64 z0, .int .i64 x1, .int .i64 y1, .int .i64 z1, .int .i64 step, .slice la ln lc, .slice ha hn hc, .slice pa pn pc, .int .i64 cap] 36)) none) (.cells #[.int .i64 px, .int .i64 py, .int .i64 pz, .int .i64 xt, .int .i64 xm, .int .i64 xl, .int .i64 a0, .int .i64 a1, .int .i64 a2, .int .i64 a3, .int .i64 a4, .int .i64 a5] 27)) k0_0 rfl
  have k1_1 : ((w.alloc (.cells #[.int .i64 x0, .int .i64 y0, .int .i64 z0, .int .i64 x1, .int .i64 y1, .int .i64 z1, .int .i64 step, .slice la ln lc, .slice ha hn hc, .slice pa pn pc, .int .i64 cap] 36)).alloc (.cells #[.int .i64 px, .int .i64 py, .int .i64 pz, .int .i64 xt, .int .i64 xm, .int .i64 xl, .int .i64 a0, .int .i64 a1, .int .i64 a2, .int .i64 a3, .int .i64 a4, .int .i64 a5] 27)).heap[w.heap.size + 1]? = some (.cells #[.int .i64 px, .int .i64 py, .int .i64 pz, .int .i64 xt, .int .i64 xm, .int .i64 xl, .int .i64 a0, .int .i64 a1, .int .i64 a2, .int .i64 a3, .int .i64 a4, .int .i64 a5] 27 (0, 0)) := by simpa using heap_alloc_new (w.alloc (.cells #[.int .i64 x0, .int .i64 y0, .int .i64 z0, .int .i64 x1, .int .i64 y1, .int .i64 z1, .int .i64 step, .slice la ln lc, .slice ha hn hc, .slice pa pn pc, .int .i64 cap] 36)) (.cells #[.int .i64 px, .int .i64 py, .int .i64 pz, .int .i64 xt, .int .i64 xm, .int .i64 xl, .int .i64 a0, .int .i64 a1, .int .i64 a2, .int .i64 a3, .int .i64 a4, .int .i64 a5] 27)
  clear k0_0
  have G0 : Hid (w.grownBy ((w.alloc (.cells #[.int .i64 x0, .int .i64 y0, .int .i64 z0, .int .i64 x1, .int .i64 y1, .int .i64 z1, .int .i64 step, .slice la ln lc, .slice ha hn hc, .slice pa pn pc, .int .i64 cap] 36)).alloc (.cells #[.int .i64 px, .int .i64 py, .int .i64 pz, .int .i64 xt, .int .i64 xm, .int .i64 xl, .int .i64 a0, .int .i64 a1, .int .i64 a2, .int .i64 a3, .int .i64 a4, .int .i64 a5] 27)) none) := Lib.hid (gb_alloc (gb_alloc (gb_refl w none) _) _)
  have K0 := Lib.hid k0_1
  have K1 := Lib.hid k1_1
  clear k0_1 k1_1
  obtain ⟨e0_, e1_, e2_, e3_, e4_, e5_, e6_, e7_, e8_, e9_, e10_⟩ := cells11 K0.out
  obtain ⟨d0_, d1_, d2_, d3_, d4_, d5_, d6_, d7_, d8_, d9_, d10_, d11_⟩ := cells12 K1.out
  go_enter Tryz.func9, Tryz.ntmps9
  go_wp2_with fail
  generalize ((w.alloc (.cells #[.int .i64 x0, .int .i64 y0, .int .i64 z0, .int .i64 x1, .int .i64 y1, .int .i64 z1, .int .i64 step, .slice la ln lc, .slice ha hn hc, .slice pa pn pc, .int .i64 cap] 36)).alloc (.cells #[.int .i64 px, .int .i64 py, .int .i64 pz, .int .i64 xt, .int .i64 xm, .int .i64 xl, .int .i64 a0, .int .i64 a1, .int .i64 a2, .int .i64 a3, .int .i64 a4, .int .i64 a5] 27)) = w1 at *
  (with_reducible refine (ER.out w1 G0.out).mono ?_)
  rintro r w2 ⟨rfl, hg⟩
  clear e0_ e1_ e2_ e3_ e4_ e5_ e6_ e7_ e8_ e9_ e10_
  clear d0_ d1_ d2_ d3_ d4_ d5_ d6_ d7_ d8_ d9_ d10_ d11_
  have P2 := Lib.hid (block_kept hg K0.out rfl); have X2 := Lib.hid (block_kept hg K1.out rfl); have G2 := Lib.hid (gb_trans G0.out hg)
  clear hg K0 K1 G0 ER
  by_cases hV : V = 0
  rotate_left
  · have hV' : (V != 0) = true := by simpa using hV
    have HR := Lib.hid (show pr = (V, []) by rw [HP.out, if_pos hV])
    clear hV HP
    go_wp2_with fail
    exact bodyPost_ret (v := .tuple #[.slice none 0 0, .int .i64 V]) (by simp [results, Tryz.results9, go_sem]) rfl ⟨_, by rw [HR.out], by rw [HR.out]; exact World.ownsRow_nil _ _ _ _, G2.out⟩
  subst hV
  have hV' : ((0 : Int) != 0) = false := by simp
  obtain ⟨d0_, d1_, d2_, d3_, d4_, d5_, d6_, d7_, d8_, d9_, d10_, d11_⟩ := cells12 X2.out
  by_cases hm : xm < xl
  · have hm' : decide (xm < xl) = true := decide_eq_true hm
    have HR := Lib.hid (show pr = (26, []) by rw [HP.out, if_neg (by simp), if_pos hm])
    clear hm HP
    go_wp2_with fail
    exact bodyPost_ret (v := .tuple #[.slice none 0 0, .int .i64 26]) (by simp [results, Tryz.results9, go_sem]) rfl ⟨_, by rw [HR.out], by rw [HR.out]; exact World.ownsRow_nil _ _ _ _, G2.out⟩
  have hm' : decide (xm < xl) = false := decide_eq_false hm
  have HR := Lib.hid (show pr = (c1, l1) by rw [HP.out, if_neg (by simp), if_neg hm])
  clear hm HP
  obtain ⟨e0_, e1_, e2_, e3_, e4_, e5_, e6_, e7_, e8_, e9_, e10_⟩ := cells11 P2.out
  go_wp2_with fail
  (with_reducible refine (WR.out w2 G2.out G2.out.size).mono ?_)
  rintro r w3 ⟨v3, rfl, o3, f3, -⟩
  dsimp only at o3 ⊢
  have G3 := Lib.hid (f3.all (w0 := w) (fun b e => by simp [Value.ownBlock] at e) G2.out); have O3 := Lib.hid o3
  clear o3 f3
  go_wp2_with fail
  exact bodyPost_ret (v := .tuple #[v3, .int .i64 c1]) (by simp [results, Tryz.results9, go_sem]) rfl ⟨_, by rw [HR.out], by rw [HR.out]; exact O3.out, G3.out⟩
end Go.Proofs.YtdkckhihleffeaaGreat
