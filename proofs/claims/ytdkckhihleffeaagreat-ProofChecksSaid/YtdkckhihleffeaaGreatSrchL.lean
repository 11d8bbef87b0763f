/- ref28.Locate. -/
import Derived.Test.YtdkckhihleffeaaGreatSrch
namespace Go.Proofs.YtdkckhihleffeaaGreat
set_option linter.all false
open Go.RowKit Rg

set_option maxRecDepth 100000 in
set_option maxHeartbeats 4000000 in
theorem rlocate_any (P : Prob) (vl vh vp : Value) (tol : Int) (w : World) (hi : ProbIn P vl vh vp w) (hbig : P.phs.length ≤ 1000000000) :
    Calls Tryz.prog 8 #[.agg (P.val vl vh vp), .int .i64 tol] w fun e w' => e = .returned (.tuple #[.agg (srch P tol).1.val, .int .i64 (srch P tol).2.2]) ∧ w.grownBy w' none := by
  have SE := Lib.hid (fun (u : World) (h : w.grownBy u none) => rsearch_any P vl vh vp tol u (hi.after h) hbig)
  obtain ⟨pa, pc, rfl⟩ := hi.p.slice
  obtain ⟨la, ln, lc, rfl⟩ := sl_slice hi.l
  obtain ⟨ha, hn, hc, rfl⟩ := sl_slice hi.h
  clear hi hbig
  generalize srch P tol = pr at *
  obtain ⟨fx, tk, er⟩ := pr
  obtain ⟨x0, y0, z0, x1, y1, z1, step, ls, hs, phs, cap⟩ := P
  generalize hpn : phs.length = pn at *
  have hPV : Prob.val ⟨x0, y0, z0, x1, y1, z1, step, ls, hs, phs, cap⟩ (.slice la ln lc) (.slice ha hn hc) (.slice pa pn pc) = #[.int .i64 x0, .int .i64 y0, .int .i64 z0, .int .i64 x1, .int .i64 y1, .int .i64 z1, .int .i64 step, .slice la ln lc, .slice ha hn hc, .slice pa pn pc, .int .i64 cap] := rfl
  have hFX : Loc.val fx = #[.int .i64 fx.px, .int .i64 fx.py, .int .i64 fx.pz, .int .i64 fx.t, .int .i64 fx.m, .int .i64 fx.l, .int .i64 fx.a0, .int .i64 fx.a1, .int .i64 fx.a2, .int .i64 fx.a3, .int .i64 fx.a4, .int .i64 fx.a5] := rfl
  dsimp only at SE
  rw [hPV, hFX] at SE
  rw [hPV, hFX]
  have hg0 := gb_alloc (gb_alloc (gb_refl w none) (.cells #[.int .i64 x0, .int .i64 y0, .int .i64 z0, .int .i64 x1, .int .i64 y1, .int .i64 z1, .int .i64 step, .slice la ln lc, .slice ha hn hc, .slice pa pn pc, .int .i64 cap] 36)) (.cells #[.int .i64 0, .int .i64 0, .int .i64 0, .int .i64 0, .int .i64 0, .int .i64 0, .int .i64 0, .int .i64 0, .int .i64 0, .int .i64 0, .int .i64 0, .int .i64 0] 27)
  have K0 : Hid (((w.alloc (.cells #[.int .i64 x0, .int .i64 y0, .int .i64 z0, .int .i64 x1, .int .i64 y1, .int .i64 z1, .int .i64 step, .slice la ln lc, .slice ha hn hc, .slice pa pn pc, .int .i64 cap] 36)).alloc (.cells #[.int .i64 0, .int .i64 0, .int .i64 0, .int .i64 0, .int .i64 0, .int .i64 0, .int .i64 0, .int .i64 0, .int .i64 0, .int .i64 0, .int .i64 0, .int .i64 0] 27)).heap[w.heap.size]? = some (.cells #[.int .i64 x0, .int .i64 y0, .int .i64 z0, .int .i64 x1, .int .i64 y1, .int .i64 z1, .int .i64 step, .slice la ln lc, .slice ha hn hc, .slice pa pn pc, .int .i64 cap] 36 (0, 0))) := Lib.hid (by rw [heap_alloc_old _ _ (by simp), heap_alloc_new])
  have K1 : Hid (((w.alloc (.cells #[.int .i64 x0, .int .i64 y0, .int .i64 z0, .int .i64 x1, .int .i64 y1, .int .i64 z1, .int .i64 step, .slice la ln lc, .slice ha hn hc, .slice pa pn pc, .int .i64 cap] 36)).alloc (.cells #[.int .i64 0, .int .i64 0, .int .i64 0, .int .i64 0, .int .i64 0, .int .i64 0, .int .i64 0, .int .i64 0, .int .i64 0, .int .i64 0, .int .i64 0, .int .i64 0] 27)).heap[w.heap.size + 1]? = some (.cells #[.int .i64 0, .int .i64 0, .int .i64 0, .int .i64 0, .int .i64 0, .int .i64 0, .int .i64 0, .int .i64 0, .int .i64 0, .int .i64 0, .int .i64 0, .int .i64 0] 27 (0, 0))) := Lib.hid (by simpa using heap_alloc_new (w.alloc _) (.cells #[.int .i64 0, .int .i64 0, .int .i64 0, .int .i64 0, .int .i64 0, .int .i64 0, .int .i64 0, .int .i64 0, .int .i64 0, .int .i64 0, .int .i64 0, .int .i64 0] 27))
  have G0 := Lib.hid hg0
  clear hg0
  obtain ⟨e0_, e1_, e2_, e3_, e4_, e5_, e6_, e7_, e8_, e9_, e10_⟩ := cells11 K0.out
  go_enter Tryz.func8, Tryz.ntmps8
  go_wp2_with fail
  generalize ((w.alloc (.cells #[.int .i64 x0, .int .i64 y0, .int .i64 z0, .int .i64 x1, .int .i64 y1, .int .i64 z1, .int .i64 step, .slice la ln lc, .slice ha hn hc, .slice pa pn pc, .int .i64 cap] 36)).alloc (.cells #[.int .i64 0, .int .i64 0, .int .i64 0, .int .i64 0, .int .i64 0, .int .i64 0, .int .i64 0, .int .i64 0, .int .i64 0, .int .i64 0, .int .i64 0, .int .i64 0] 27)) = w1 at *
  (with_reducible refine (SE.out w1 G0.out).mono ?_)
  rintro r w2 ⟨rfl, hg⟩
  clear e0_ e1_ e2_ e3_ e4_ e5_ e6_ e7_ e8_ e9_ e10_
  have R2 := Lib.hid (block_kept hg K1.out rfl); have G2 := Lib.hid (gb_trans G0.out hg)
  clear hg K0 K1 G0 SE
  have hsz2 := block_lt' R2.out
  have hg3 : w2.grownBy (w2.alloc (.cells #[.int .i64 fx.px, .int .i64 fx.py, .int .i64 fx.pz, .int .i64 fx.t, .int .i64 fx.m, .int .i64 fx.l, .int .i64 fx.a0, .int .i64 fx.a1, .int .i64 fx.a2, .int .i64 fx.a3, .int .i64 fx.a4, .int .i64 fx.a5] 27)) none := gb_alloc (gb_refl _ _) _
  have R3 := Lib.hid (block_kept hg3 R2.out rfl); have G3 := Lib.hid (gb_trans G2.out hg3)
  have X3 := Lib.hid (heap_alloc_new w2 (.cells #[.int .i64 fx.px, .int .i64 fx.py, .int .i64 fx.pz, .int .i64 fx.t, .int .i64 fx.m, .int .i64 fx.l, .int .i64 fx.a0, .int .i64 fx.a1, .int .i64 fx.a2, .int .i64 fx.a3, .int .i64 fx.a4, .int .i64 fx.a5] 27))
  obtain ⟨d0_, d1_, d2_, d3_, d4_, d5_, d6_, d7_, d8_, d9_, d10_, d11_⟩ := cells12 X3.out
  clear hg3 R2 G2
  have HN := Lib.hid (setRow_at (cs := #[.int .i64 fx.px, .int .i64 fx.py, .int .i64 fx.pz, .int .i64 fx.t, .int .i64 fx.m, .int .i64 fx.l, .int .i64 fx.a0, .int .i64 fx.a1, .int .i64 fx.a2, .int .i64 fx.a3, .int .i64 fx.a4, .int .i64 fx.a5]) R3.out)
  have HGE := Lib.hid (gb_setRow (cs := #[.int .i64 fx.px, .int .i64 fx.py, .int .i64 fx.pz, .int .i64 fx.t, .int .i64 fx.m, .int .i64 fx.l, .int .i64 fx.a0, .int .i64 fx.a1, .int .i64 fx.a2, .int .i64 fx.a3, .int .i64 fx.a4, .int .i64 fx.a5]) G3.out (g := w.heap.size + 1) (.inl (by omega)))
  go_wp2_with (with_reducible refine wpList_store_row rfl _ _ _ rfl (w.heap.size + 1) #[.int .i64 fx.px, .int .i64 fx.py, .int .i64 fx.pz, .int .i64 fx.t, .int .i64 fx.m, .int .i64 fx.l, .int .i64 fx.a0, .int .i64 fx.a1, .int .i64 fx.a2, .int .i64 fx.a3, .int .i64 fx.a4, .int .i64 fx.a5] rfl rfl _ _ R3.out (by kernel_rfl) rfl (by simp [Value.oneCell']) ?_)
  obtain ⟨k0_, k1_, k2_, k3_, k4_, k5_, k6_, k7_, k8_, k9_, k10_, k11_⟩ := cells12 HN.out
  exact bodyPost_ret (v := .tuple #[.agg #[.int .i64 fx.px, .int .i64 fx.py, .int .i64 fx.pz, .int .i64 fx.t, .int .i64 fx.m, .int .i64 fx.l, .int .i64 fx.a0, .int .i64 fx.a1, .int .i64 fx.a2, .int .i64 fx.a3, .int .i64 fx.a4, .int .i64 fx.a5], .int .i64 er]) (by simp [results, Tryz.results8, go_sem, k0_, k1_, k2_, k3_, k4_, k5_, k6_, k7_, k8_, k9_, k10_, k11_]) rfl ⟨rfl, HGE.out⟩
end Go.Proofs.YtdkckhihleffeaaGreat
