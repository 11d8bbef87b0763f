/- ref29.write. Written by gen_r29w.py. -/
import Derived.Test.YtdkckhihleffeaaGreatR29r
import Derived.Test.YtdkckhihleffeaaGreatRgX
namespace Go.Proofs.YtdkckhihleffeaaGreat
set_option linter.all false
open Go.RowKit Rg

set_option maxRecDepth 100000 in
set_option maxHeartbeats 8000000 in
theorem rwrite_any (P : Prob) (vl vh vp : Value) (x : Loc) (tol : Int) (w0 : World) (hi : ProbIn P vl vh vp w0) (hbig : P.phs.length ≤ 1000000000) (B : Nat) (hB0 : w0.heap.size ≤ B) : ∀ (fuel : Nat) (b : Bx) (l : List Int) (v : Value) (w : World), w0.grownBy w none → w.ownsRow B 3 1 v l.length (l.map (Value.int .i64)) → B ≤ w.heap.size → l.length ≤ 6001 → 6001 - l.length < fuel →
    Calls Tryz.prog 26 #[.agg (P.val vl vh vp), .agg x.val, .int .i64 tol, .agg b.val, v] w fun e w' => ∃ v', e = .returned (.tuple #[v', .int .i64 (wrR (lfV P x tol) fuel b l).1]) ∧ w'.ownsRow B 3 1 v' (wrR (lfV P x tol) fuel b l).2.length ((wrR (lfV P x tol) fuel b l).2.map (Value.int .i64)) ∧ FrN v v' w w' ∧ Pre l.length w w' := by
  intro fuel
  induction fuel with
  | zero => intro b l v w hg ho hB hl hf; omega
  | succ f ih =>
    intro b l v w hg00 ho hB hl6 hf
    have IHf := Lib.hid (ih b.fst); have IHs := Lib.hid (ih b.snd)
    clear ih
    have LF := Lib.hid (fun (u : World) (h : w0.grownBy u none) => rleaf_any P vl vh vp x tol b.a b.b b.c b.d b.e b.f u (hi.after h) hbig)
    have hlf : lfB P x tol b.a b.b b.c b.d b.e b.f = lfV P x tol b := rfl
    rw [hlf] at LF
    clear hlf
    have SPL := Lib.hid b.rsplit
    obtain ⟨pa, pc, rfl⟩ := hi.p.slice
    obtain ⟨la, ln, lc, rfl⟩ := sl_slice hi.l
    obtain ⟨ha, hn, hc, rfl⟩ := sl_slice hi.h
    obtain ⟨oa, oc, rfl⟩ := owns_slice ho
    have hlt := fun bb e => (ho.lt bb e).2
    have hbB := fun bb e => (ho.lt bb e).1
    have HLT := Lib.hid hlt; have HBB := Lib.hid hbB; have HO := Lib.hid ho; have GZ := Lib.hid hg00
    clear hi hbig hlt hbB ho hg00
    have HR := Lib.hid (show wrR (lfV P x tol) (f + 1) b l = if lfV P x tol b = false ∧ b.ok = false then (26, []) else if l.length = 6001 then (8, []) else if lfV P x tol b then (0, l ++ [0]) else if (wrR (lfV P x tol) f b.fst (l ++ [1])).1 = 0 then wrR (lfV P x tol) f b.snd (wrR (lfV P x tol) f b.fst (l ++ [1])).2 else ((wrR (lfV P x tol) f b.fst (l ++ [1])).1, []) from rfl)
    have WL := Lib.hid (fun (bb : Bx) (l' : List Int) h => wrR_len (lfV P x tol) f bb l' h)
    generalize wrR (lfV P x tol) (f + 1) b l = rr at *
    generalize hvb : lfV P x tol b = vb at *
    clear hvb
    generalize lfV P x tol = V at *
    generalize b.fst = bf at *
    generalize b.snd = bs at *
    generalize b.ok = ok at *
    obtain ⟨b0, b1, b2, b3, b4, b5⟩ := b
    obtain ⟨g0, g1, g2, g3, g4, g5⟩ := bf
    obtain ⟨k0, k1, k2, k3, k4, k5⟩ := bs
    obtain ⟨x0, y0, z0, x1, y1, z1, step, ls, hs, phs, cap⟩ := P
    obtain ⟨px, py, pz, xt, xm, xl, a0, a1, a2, a3, a4, a5⟩ := x
    simp only [Prob.val, Loc.val, Bx.val] at IHf IHs LF SPL ⊢
    generalize phs.length = pn at *
    have hN0 : ∀ j : Nat, some (w.heap.size + j) ≠ (Value.slice oa l.length oc).ownBlock := fun j e => by have := HLT.out _ e.symm; omega
    have k0_0 : (w.alloc (.cells #[.int .i64 x0, .int .i64 y0, .int .i64 z0, .int .i64 x1, .int .i64 y1, .int .i64 z1, .int .i64 step, .slice la ln lc, .slice ha hn hc, .slice pa pn pc, .int .i64 cap] 36)).heap[w.heap.size]? = some (.cells #[.int .i64 x0, .int .i64 y0, .int .i64 z0, .int .i64 x1, .int .i64 y1, .int .i64 z1, .int .i64 step, .slice la ln lc, .slice ha hn hc, .slice pa pn pc, .int .i64 cap] 36 (0, 0)) := by exact heap_alloc_new _ _
    have k0_1 := block_kept (gb_alloc (gb_refl (w.alloc (.cells #[.int .i64 x0, .int .i64 y0, .int .i64 z0, .int .i64 x1, .int .i64 y1, .int .i64 z1, .int .i64 step, .slice la ln lc, .slice ha hn hc, .slice pa pn pc, .int .i64 cap] 36)) none) (.cells #[.int .i64 px, .int .i64 py, .int .i64 pz, .int .i64 xt, .int .i64 xm, .int .i64 xl, .int .i64 a0, .int .i64 a1, .int .i64 a2, .int .i64 a3, .int .i64 a4, .int .i64 a5] 27)) k0_0 rfl
    have k1_1 : ((w.alloc (.cells #[.int .i64 x0, .int .i64 y0, .int .i64 z0, .int .i64 x1, .int .i64 y1, .int .i64 z1, .int .i64 step, .slice la ln lc, .slice ha hn hc, .slice pa pn pc, .int .i64 cap] 36)).alloc (.cells #[.int .i64 px, .int .i64 py, .int .i64 pz, .int .i64 xt, .int .i64 xm, .int .i64 xl, .int .i64 a0, .int .i64 a1, .int .i64 a2, .int .i64 a3, .int .i64 a4, .int .i64 a5] 27)).heap[w.heap.size + 1]? = some (.cells #[.int .i64 px, .int .i64 py, .int .i64 pz, .int .i64 xt, .int .i64 xm, .int .i64 xl, .int .i64 a0, .int .i64 a1, .int .i64 a2, .int .i64 a3, .int .i64 a4, .int .i64 a5] 27 (0, 0)) := by simpa using heap_alloc_new (w.alloc (.cells #[.int .i64 x0, .int .i64 y0, .int .i64 z0, .int .i64 x1, .int .i64 y1, .int .i64 z1, .int .i64 step, .slice la ln lc, .slice ha hn hc, .slice pa pn pc, .int .i64 cap] 36)) (.cells #[.int .i64 px, .int .i64 py, .int .i64 pz, .int .i64 xt, .int .i64 xm, .int .i64 xl, .int .i64 a0, .int .i64 a1, .int .i64 a2, .int .i64 a3, .int .i64 a4, .int .i64 a5] 27)
    clear k0_0
    have k0_2 := block_kept (gb_alloc (gb_refl ((w.alloc (.cells #[.int .i64 x0, .int .i64 y0, .int .i64 z0, .int .i64 x1, .int .i64 y1, .int .i64 z1, .int .i64 step, .slice la ln lc, .slice ha hn hc, .slice pa pn pc, .int .i64 cap] 36)).alloc (.cells #[.int .i64 px, .int .i64 py, .int .i64 pz, .int .i64 xt, .int .i64 xm, .int .i64 xl, .int .i64 a0, .int .i64 a1, .int .i64 a2, .int .i64 a3, .int .i64 a4, .int .i64 a5] 27)) none) (.cells #[.int .i64 b0, .int .i64 b1, .int .i64 b2, .int .i64 b3, .int .i64 b4, .int .i64 b5] 25)) k0_1 rfl
    have k1_2 := block_kept (gb_alloc (gb_refl ((w.alloc (.cells #[.int .i64 x0, .int .i64 y0, .int .i64 z0, .int .i64 x1, .int .i64 y1, .int .i64 z1, .int .i64 step, .slice la ln lc, .slice ha hn hc, .slice pa pn pc, .int .i64 cap] 36)).alloc (.cells #[.int .i64 px, .int .i64 py, .int .i64 pz, .int .i64 xt, .int .i64 xm, .int .i64 xl, .int .i64 a0, .int .i64 a1, .int .i64 a2, .int .i64 a3, .int .i64 a4, .int .i64 a5] 27)) none) (.cells #[.int .i64 b0, .int .i64 b1, .int .i64 b2, .int .i64 b3, .int .i64 b4, .int .i64 b5] 25)) k1_1 rfl
    have k2_2 : (((w.alloc (.cells #[.int .i64 x0, .int .i64 y0, .int .i64 z0, .int .i64 x1, .int .i64 y1, .int .i64 z1, .int .i64 step, .slice la ln lc, .slice ha hn hc, .slice pa pn pc, .int .i64 cap] 36)).alloc (.cells #[.int .i64 px, .int .i64 py, .int .i64 pz, .int .i64 xt, .int .i64 xm, .int .i64 xl, .int .i64 a0, .int .i64 a1, .int .i64 a2, .int .i64 a3, .int .i64 a4, .int .i64 a5] 27)).alloc (.cells #[.int .i64 b0, .int .i64 b1, .int .i64 b2, .int .i64 b3, .int .i64 b4, .int .i64 b5] 25)).heap[w.heap.size + 1 + 1]? = some (.cells #[.int .i64 b0, .int .i64 b1, .int .i64 b2, .int .i64 b3, .int .i64 b4, .int .i64 b5] 25 (0, 0)) := by simpa using heap_alloc_new ((w.alloc (.cells #[.int .i64 x0, .int .i64 y0, .int .i64 z0, .int .i64 x1, .int .i64 y1, .int .i64 z1, .int .i64 step, .slice la ln lc, .slice ha hn hc, .slice pa pn pc, .int .i64 cap] 36)).alloc (.cells #[.int .i64 px, .int .i64 py, .int .i64 pz, .int .i64 xt, .int .i64 xm, .int .i64 xl, .int .i64 a0, .int .i64 a1, .int .i64 a2, .int .i64 a3, .int .i64 a4, .int .i64 a5] 27)) (.cells #[.int .i64 b0, .int .i64 b1, .int .i64 b2, .int .i64 b3, .int .i64 b4, .int .i64 b5] 25)
    clear k0_1 k1_1
    have G0 : Hid (w.grownBy (((w.alloc (.cells #[.int .i64 x0, .int .i64 y0, .int .i64 z0, .int .i64 x1, .int .i64 y1, .int .i64 z1, .int .i64 step, .slice la ln lc, .slice ha hn hc, .slice pa pn pc, .int .i64 cap] 36)).alloc (.cells #[.int .i64 px, .int .i64 py, .int .i64 pz, .int .i64 xt, .int .i64 xm, .int .i64 xl, .int .i64 a0, .int .i64 a1, .int .i64 a2, .int .i64 a3, .int .i64 a4, .int .i64 a5] 27)).alloc (.cells #[.int .i64 b0, .int .i64 b1, .int .i64 b2, .int .i64 b3, .int .i64 b4, .int .i64 b5] 25)) none) := Lib.hid (gb_alloc (gb_alloc (gb_alloc (gb_refl w none) _) _) _)
    have K0 := Lib.hid k0_2
    have K1 := Lib.hid k1_2
    have K2 := Lib.hid k2_2
    clear k0_2 k1_2 k2_2
    obtain ⟨f0_, f1_, f2_, f3_, f4_, f5_⟩ := six K2.out
    go_enter Tryz.func26, Tryz.ntmps26
    go_wp2_with fail
    clear f0_ f1_ f2_ f3_ f4_ f5_
    generalize (((w.alloc (.cells #[.int .i64 x0, .int .i64 y0, .int .i64 z0, .int .i64 x1, .int .i64 y1, .int .i64 z1, .int .i64 step, .slice la ln lc, .slice ha hn hc, .slice pa pn pc, .int .i64 cap] 36)).alloc (.cells #[.int .i64 px, .int .i64 py, .int .i64 pz, .int .i64 xt, .int .i64 xm, .int .i64 xl, .int .i64 a0, .int .i64 a1, .int .i64 a2, .int .i64 a3, .int .i64 a4, .int .i64 a5] 27)).alloc (.cells #[.int .i64 b0, .int .i64 b1, .int .i64 b2, .int .i64 b3, .int .i64 b4, .int .i64 b5] 25)) = w1 at *
    (with_reducible refine (SPL.out w1).mono ?_)
    rintro r w2 ⟨rfl, hg⟩
    have hgu := gb_alloc (gb_alloc (gb_refl w2 none) (.cells #[.int .i64 g0, .int .i64 g1, .int .i64 g2, .int .i64 g3, .int .i64 g4, .int .i64 g5] 25)) (.cells #[.int .i64 k0, .int .i64 k1, .int .i64 k2, .int .i64 k3, .int .i64 k4, .int .i64 k5] 25)
    have K0 := Lib.hid (block_kept hgu (block_kept hg K0.out rfl) rfl); have K1 := Lib.hid (block_kept hgu (block_kept hg K1.out rfl) rfl); have K2 := Lib.hid (block_kept hgu (block_kept hg K2.out rfl) rfl); have G2 := Lib.hid (gb_trans (gb_trans G0.out hg) hgu)
    have u_ : ((w2.alloc (.cells #[.int .i64 g0, .int .i64 g1, .int .i64 g2, .int .i64 g3, .int .i64 g4, .int .i64 g5] 25)).alloc (.cells #[.int .i64 k0, .int .i64 k1, .int .i64 k2, .int .i64 k3, .int .i64 k4, .int .i64 k5] 25)).heap[w2.heap.size]? = some (.cells #[.int .i64 g0, .int .i64 g1, .int .i64 g2, .int .i64 g3, .int .i64 g4, .int .i64 g5] 25 (0, 0)) := by rw [heap_alloc_old _ _ (by simp), heap_alloc_new]
    have v_ : ((w2.alloc (.cells #[.int .i64 g0, .int .i64 g1, .int .i64 g2, .int .i64 g3, .int .i64 g4, .int .i64 g5] 25)).alloc (.cells #[.int .i64 k0, .int .i64 k1, .int .i64 k2, .int .i64 k3, .int .i64 k4, .int .i64 k5] 25)).heap[w2.heap.size + 1]? = some (.cells #[.int .i64 k0, .int .i64 k1, .int .i64 k2, .int .i64 k3, .int .i64 k4, .int .i64 k5] 25 (0, 0)) := by simpa using heap_alloc_new (w2.alloc (.cells #[.int .i64 g0, .int .i64 g1, .int .i64 g2, .int .i64 g3, .int .i64 g4, .int .i64 g5] 25)) (.cells #[.int .i64 k0, .int .i64 k1, .int .i64 k2, .int .i64 k3, .int .i64 k4, .int .i64 k5] 25)
    have U_ := Lib.hid u_; have V_ := Lib.hid v_
    have hw2 : w.heap.size ≤ w2.heap.size := Nat.le_trans G0.out.size hg.size
    have hN1 : some w2.heap.size ≠ (Value.slice oa l.length oc).ownBlock := fun e => by have := HLT.out _ e.symm; omega
    have hN2 : some (w2.heap.size + 1) ≠ (Value.slice oa l.length oc).ownBlock := fun e => by have := HLT.out _ e.symm; omega
    clear u_ v_ hgu hg G0 SPL
    obtain ⟨e0_, e1_, e2_, e3_, e4_, e5_, e6_, e7_, e8_, e9_, e10_⟩ := cells11 K0.out
    obtain ⟨d0_, d1_, d2_, d3_, d4_, d5_, d6_, d7_, d8_, d9_, d10_, d11_⟩ := cells12 K1.out
    obtain ⟨f0_, f1_, f2_, f3_, f4_, f5_⟩ := six K2.out
    go_wp2_with fail
    clear e0_ e1_ e2_ e3_ e4_ e5_ e6_ e7_ e8_ e9_ e10_
    clear d0_ d1_ d2_ d3_ d4_ d5_ d6_ d7_ d8_ d9_ d10_ d11_ f0_ f1_ f2_ f3_ f4_ f5_
    generalize ((w2.alloc (.cells #[.int .i64 g0, .int .i64 g1, .int .i64 g2, .int .i64 g3, .int .i64 g4, .int .i64 g5] 25)).alloc (.cells #[.int .i64 k0, .int .i64 k1, .int .i64 k2, .int .i64 k3, .int .i64 k4, .int .i64 k5] 25)) = w3 at *
    generalize hn2 : w2.heap.size = n2 at *
    (with_reducible refine (LF.out w3 (gb_trans GZ.out G2.out)).mono ?_)
    rintro r w4 ⟨rfl, hg⟩
    have K0 := Lib.hid (block_kept hg K0.out rfl); have K1 := Lib.hid (block_kept hg K1.out rfl); have U_ := Lib.hid (block_kept hg U_.out rfl); have V_ := Lib.hid (block_kept hg V_.out rfl)
    have F4 := Lib.hid (FrN.gb (v := .slice oa l.length oc) (gb_trans G2.out hg)); have O4 := Lib.hid (owns_keep (owns_keep HO.out G2.out) hg); have GZ4 := Lib.hid (gb_trans (gb_trans GZ.out G2.out) hg); have P4 := Lib.hid (Pre.gb (n := l.length) (gb_trans G2.out hg))
    have hw4 : w.heap.size ≤ w4.heap.size := Nat.le_trans G2.out.size hg.size
    clear hg G2 K2 LF HO GZ
    cases vb
    rotate_left
    · by_cases hl : l.length = 6001
      · have hl' : ((l.length : Int) == 6001) = true := by simp; omega
        have HE := Lib.hid (show rr = (8, []) by rw [HR.out, if_neg (by simp), if_pos hl])
        clear hl HR
        go_wp2_with fail
        exact bodyPost_ret (v := .tuple #[.slice none 0 0, .int .i64 8]) (by simp [results, Tryz.results26, go_sem]) rfl ⟨_, by rw [HE.out], by rw [HE.out]; exact World.ownsRow_nil _ _ _ _, (F4.out).nil, P4.out⟩
      have hl' : ((l.length : Int) == 6001) = false := by simp; omega
      have HE := Lib.hid (show rr = (0, l ++ [0]) by rw [HR.out, if_neg (by simp), if_neg hl]; rfl)
      clear hl HR
      go_wp2_with (at_builtin; refine wpList_pushK rfl _ _ 28 rfl B 3 (.int .i64 0) 8 Tryz.underlying28 Tryz.infoIntT rfl _ _ _ rfl (O4.out.alloc _) w4.heap.size 1 (.int .i64 0) 3 rfl (heap_alloc_new w4 _) rfl (by omega) (by omega) (by simp; omega) ?_; refine Hid.out ?_)
      refine Lib.hid ?_
      intro v' w6 h1 hg6 hb6 hp6
      have FA := Lib.hid ((FrN.gb (v := .slice oa l.length oc) (gb_alloc (gb_refl w4 none) (.cells #[.int .i64 0] 3))).trans (FrN.push hg6 (fun bb e => by
        rcases hb6 with h | h
        · exact .inl (h ▸ e)
        · exact .inr (by have hsz := Option.some.inj (h.symm.trans e); simp at hsz ⊢; omega))))
      have OA := Lib.hid h1; have PA := Lib.hid ((Pre.gb (n := l.length) (gb_alloc (gb_refl w4 none) (.cells #[.int .i64 0] 3))).trans hp6)
      clear h1 hg6 hb6 hp6
      go_wp2_with fail
      exact bodyPost_ret (v := .tuple #[v', .int .i64 0]) (by simp [results, Tryz.results26, go_sem]) rfl ⟨_, by rw [HE.out], by rw [HE.out]; simpa using OA.out, F4.out.trans FA.out, P4.out.trans PA.out⟩
    cases ok
    · have HE := Lib.hid (show rr = (26, []) by rw [HR.out, if_pos ⟨rfl, rfl⟩])
      clear HR
      go_wp2_with fail
      exact bodyPost_ret (v := .tuple #[.slice none 0 0, .int .i64 26]) (by simp [results, Tryz.results26, go_sem]) rfl ⟨_, by rw [HE.out], by rw [HE.out]; exact World.ownsRow_nil _ _ _ _, (F4.out).nil, P4.out⟩
    by_cases hl : l.length = 6001
    · have hl' : ((l.length : Int) == 6001) = true := by simp; omega
      have HE := Lib.hid (show rr = (8, []) by rw [HR.out, if_neg (by simp), if_pos hl])
      clear hl HR
      go_wp2_with fail
      exact bodyPost_ret (v := .tuple #[.slice none 0 0, .int .i64 8]) (by simp [results, Tryz.results26, go_sem]) rfl ⟨_, by rw [HE.out], by rw [HE.out]; exact World.ownsRow_nil _ _ _ _, (F4.out).nil, P4.out⟩
    have hl' : ((l.length : Int) == 6001) = false := by simp; omega
    have HE0 := Lib.hid (show rr = if (wrR V f ⟨g0, g1, g2, g3, g4, g5⟩ (l ++ [1])).1 = 0 then wrR V f ⟨k0, k1, k2, k3, k4, k5⟩ (wrR V f ⟨g0, g1, g2, g3, g4, g5⟩ (l ++ [1])).2 else ((wrR V f ⟨g0, g1, g2, g3, g4, g5⟩ (l ++ [1])).1, []) by rw [HR.out, if_neg (by simp), if_neg hl]; rfl)
    have hl5 : l.length < 6001 := by omega
    clear hl HR
    go_upto_region 9 with fail
    obtain ⟨e0_, e1_, e2_, e3_, e4_, e5_, e6_, e7_, e8_, e9_, e10_⟩ := cells11 K0.out
    obtain ⟨d0_, d1_, d2_, d3_, d4_, d5_, d6_, d7_, d8_, d9_, d10_, d11_⟩ := cells12 K1.out
    obtain ⟨f0_, f1_, f2_, f3_, f4_, f5_⟩ := six U_.out
    have hb0 := block_lt' K0.out; have hb1 := block_lt' K1.out; have hb2 := block_lt' U_.out
    have hM0 := hN0 0; have hM1 := hN0 1
    have q0_ := GX.cell (B := B) (n := l.length) (xs := l.map (Value.int .i64)) e0_ hb0 hM0; have q1_ := GX.cell (B := B) (n := l.length) (xs := l.map (Value.int .i64)) e1_ hb0 hM0; have q2_ := GX.cell (B := B) (n := l.length) (xs := l.map (Value.int .i64)) e2_ hb0 hM0; have q3_ := GX.cell (B := B) (n := l.length) (xs := l.map (Value.int .i64)) e3_ hb0 hM0; have q4_ := GX.cell (B := B) (n := l.length) (xs := l.map (Value.int .i64)) e4_ hb0 hM0; have q5_ := GX.cell (B := B) (n := l.length) (xs := l.map (Value.int .i64)) e5_ hb0 hM0; have q6_ := GX.cell (B := B) (n := l.length) (xs := l.map (Value.int .i64)) e6_ hb0 hM0; have q7_ := GX.cell (B := B) (n := l.length) (xs := l.map (Value.int .i64)) e7_ hb0 hM0; have q8_ := GX.cell (B := B) (n := l.length) (xs := l.map (Value.int .i64)) e8_ hb0 hM0; have q9_ := GX.cell (B := B) (n := l.length) (xs := l.map (Value.int .i64)) e9_ hb0 hM0; have q10_ := GX.cell (B := B) (n := l.length) (xs := l.map (Value.int .i64)) e10_ hb0 hM0
    have r0_ := GX.cell (B := B) (n := l.length) (xs := l.map (Value.int .i64)) d0_ hb1 hM1; have r1_ := GX.cell (B := B) (n := l.length) (xs := l.map (Value.int .i64)) d1_ hb1 hM1; have r2_ := GX.cell (B := B) (n := l.length) (xs := l.map (Value.int .i64)) d2_ hb1 hM1; have r3_ := GX.cell (B := B) (n := l.length) (xs := l.map (Value.int .i64)) d3_ hb1 hM1; have r4_ := GX.cell (B := B) (n := l.length) (xs := l.map (Value.int .i64)) d4_ hb1 hM1; have r5_ := GX.cell (B := B) (n := l.length) (xs := l.map (Value.int .i64)) d5_ hb1 hM1; have r6_ := GX.cell (B := B) (n := l.length) (xs := l.map (Value.int .i64)) d6_ hb1 hM1; have r7_ := GX.cell (B := B) (n := l.length) (xs := l.map (Value.int .i64)) d7_ hb1 hM1; have r8_ := GX.cell (B := B) (n := l.length) (xs := l.map (Value.int .i64)) d8_ hb1 hM1; have r9_ := GX.cell (B := B) (n := l.length) (xs := l.map (Value.int .i64)) d9_ hb1 hM1; have r10_ := GX.cell (B := B) (n := l.length) (xs := l.map (Value.int .i64)) d10_ hb1 hM1; have r11_ := GX.cell (B := B) (n := l.length) (xs := l.map (Value.int .i64)) d11_ hb1 hM1
    have t0_ := GX.cell (B := B) (n := l.length) (xs := l.map (Value.int .i64)) f0_ hb2 hN1; have t1_ := GX.cell (B := B) (n := l.length) (xs := l.map (Value.int .i64)) f1_ hb2 hN1; have t2_ := GX.cell (B := B) (n := l.length) (xs := l.map (Value.int .i64)) f2_ hb2 hN1; have t3_ := GX.cell (B := B) (n := l.length) (xs := l.map (Value.int .i64)) f3_ hb2 hN1; have t4_ := GX.cell (B := B) (n := l.length) (xs := l.map (Value.int .i64)) f4_ hb2 hN1; have t5_ := GX.cell (B := B) (n := l.length) (xs := l.map (Value.int .i64)) f5_ hb2 hN1
    have hBw : B ≤ w4.heap.size := by omega
    have IH1 := Lib.hid (IHf.out (l ++ [1]))
    have wl := WL.out ⟨g0, g1, g2, g3, g4, g5⟩ (l ++ [1]) (by simp; omega)
    generalize wrR V f ⟨g0, g1, g2, g3, g4, g5⟩ (l ++ [1]) = r1 at *
    obtain ⟨c1, l1⟩ := r1
    dsimp only at IH1 wl HE0
    clear IHf
    refine Rg.region (GX w4 B (.slice oa l.length oc) l.length (l.map (Value.int .i64))) (MakesX (.slice oa l.length oc) l.length 6 7) (fun k => if k = 5 then some (isLitX w4 (.int .i64 1)) else if k = 6 then some (isPushX w4 B (.slice oa l.length oc) (l.length + 1) (l.map (Value.int .i64) ++ [.int .i64 1])) else if k = 7 then some (fun _ r u => isCallX w4 B (.slice oa l.length oc) c1 l1 r u) else none) (fun _ => false) 0 13 (by kernel_rfl) (by kernel_rfl) (by kernel_rfl) (by kernel_rfl) (by kernel_rfl) (by kernel_rfl) (by kernel_rfl) MakesX.size (GX.start O4.out) (fun hne => ?_)
    (repeat (refine rLexL_quiet (by rfl) (by rfl) (by rfl) (by rfl) ?_; go_big_quiet_step (fail); refine wpQuiet_nil ?_))
    refine rgX_lit (fun bb e => by have := HLT.out _ e; omega) (.int .i64 1) ⟨by decide, by decide⟩ rfl rfl (fun _ => by go_simp) (fun b1_ hb1_ => ?_)
    simp only [Act.put, List.setIfInBounds_toArray, List.set_cons_zero, List.set_cons_succ]
    refine rgX_push hBw _ _ 28 Tryz.underlying28 Tryz.infoIntT rfl 5 b1_ (.int .i64 1) rfl rfl rfl rfl rfl rfl ⟨⟨5, .data⟩, by simp, rfl, rfl⟩ rfl (by omega) (fun v6 => ?_)
    simp only [Act.put, List.setIfInBounds_toArray, List.set_cons_zero, List.set_cons_succ]
    refine rgX_call (isCallX w4 B (.slice oa l.length oc) c1 l1) 26 #[.agg #[.int .i64 x0, .int .i64 y0, .int .i64 z0, .int .i64 x1, .int .i64 y1, .int .i64 z1, .int .i64 step, .slice la ln lc, .slice ha hn hc, .slice pa pn pc, .int .i64 cap], .agg #[.int .i64 px, .int .i64 py, .int .i64 pz, .int .i64 xt, .int .i64 xm, .int .i64 xl, .int .i64 a0, .int .i64 a1, .int .i64 a2, .int .i64 a3, .int .i64 a4, .int .i64 a5], .int .i64 tol, .agg #[.int .i64 g0, .int .i64 g1, .int .i64 g2, .int .i64 g3, .int .i64 g4, .int .i64 g5], v6] rfl (by decide) rfl rfl (by kernel_rfl) (fun r u u' h hg => h.keep hg) (fun _ => by go_simp) (fun u hG hd => ?_) (fun r u hr => ?_)
    · obtain ⟨o6, b6⟩ := (show isPushX w4 B (.slice oa l.length oc) (l.length + 1) (l.map (Value.int .i64) ++ [.int .i64 1]) [] v6 u from hd ⟨6, .data⟩ (by simp) rfl)
      have GZu := (FrN.push (v' := .slice oa l.length oc) hG.1 (fun bb e => .inl e)).all (w0 := w0) (fun bb e => by have := HBB.out _ e; omega) GZ4.out
      have hsu := hG.1.size
      refine (IH1.out v6 u GZu (by simpa using o6) (by omega) (by simp; omega) (by simp; omega)).mono ?_
      rintro e u' ⟨v7, rfl, o7, f7, p7⟩
      have hgx : GX w4 B (.slice oa l.length oc) l.length (l.map (Value.int .i64)) u' := hG.call (by simpa using p7) f7.os f7.tape f7.output f7.size f7.block b6
      exact ⟨_, rfl, ⟨v7, rfl, o7, fun bb e => (f7.own bb e).elim (b6 bb) (fun h => .inr (by omega))⟩, hgx, by simpa using p7, f7.size⟩
    obtain ⟨v7, rfl, -, -⟩ := hr
    simp only [Act.put, List.setIfInBounds_toArray, List.set_cons_zero, List.set_cons_succ]
    (repeat (refine rLexL_quiet (by rfl) (by rfl) (by rfl) (by rfl) ?_; go_big_quiet_step (fail); refine wpQuiet_nil ?_))
    rintro wq hGX hfx -
    obtain ⟨v7', e7, o7, b7⟩ := (show isCallX w4 B (.slice oa l.length oc) c1 l1 (.tuple #[v7, .int .i64 c1]) wq from hfx 7)
    obtain rfl : v7 = v7' := by injection e7 with e7; simpa using e7
    have F7 := Lib.hid (FrN.push (v' := v7) hGX.1 b7); have O7 := Lib.hid o7; have P7 := Lib.hid (Pre.push O4.out hGX.2 hGX.1)
    clear hGX hfx hne e7 o7 b7
    clear e0_ e1_ e2_ e3_ e4_ e5_ e6_ e7_ e8_ e9_ e10_
    clear d0_ d1_ d2_ d3_ d4_ d5_ d6_ d7_ d8_ d9_ d10_ d11_ f0_ f1_ f2_ f3_ f4_ f5_ q0_ q1_ q2_ q3_ q4_ q5_ q6_ q7_ q8_ q9_ q10_ r0_ r1_ r2_ r3_ r4_ r5_ r6_ r7_ r8_ r9_ r10_ r11_ t0_ t1_ t2_ t3_ t4_ t5_ O4 IH1
    refine wpList_nil ?_
    generalize wq = w7 at *
    have K0 := Lib.hid (F7.out.kept K0.out hM0); have K1 := Lib.hid (F7.out.kept K1.out hM1); have V_ := Lib.hid (F7.out.kept V_.out hN2)
    have G7 := Lib.hid (F7.out.all (w0 := w0) (fun bb e => by have := HBB.out _ e; omega) GZ4.out)
    have hs7 := F7.out.size
    clear U_
    by_cases hc : c1 = 0
    rotate_left
    · have hc' : (c1 != 0) = true := by simpa using hc
      have HE := Lib.hid (show rr = (c1, []) by rw [HE0.out, if_neg hc])
      clear hc HE0
      go_wp2_with fail
      exact bodyPost_ret (v := .tuple #[.slice none 0 0, .int .i64 c1]) (by simp [results, Tryz.results26, go_sem]) rfl ⟨_, by rw [HE.out], by rw [HE.out]; exact World.ownsRow_nil _ _ _ _, (F4.out.trans F7.out).nil, P4.out.trans P7.out⟩
    subst hc
    have hc' : ((0 : Int) != 0) = false := by simp
    have HE := Lib.hid (show rr = wrR V f ⟨k0, k1, k2, k3, k4, k5⟩ l1 by rw [HE0.out, if_pos rfl])
    have hwl := wl.2 rfl
    have hwl1 := wl.1
    simp only [List.length_append, List.length_singleton] at hwl
    clear HE0 wl
    obtain ⟨e0_, e1_, e2_, e3_, e4_, e5_, e6_, e7_, e8_, e9_, e10_⟩ := cells11 K0.out
    obtain ⟨d0_, d1_, d2_, d3_, d4_, d5_, d6_, d7_, d8_, d9_, d10_, d11_⟩ := cells12 K1.out
    obtain ⟨f0_, f1_, f2_, f3_, f4_, f5_⟩ := six V_.out
    go_wp2_with fail
    (with_reducible refine (IHs.out l1 v7 w7 G7.out O7.out (by omega) hwl1 (by omega)).mono ?_)
    rintro r w8 ⟨v8, rfl, o8, f8, p8⟩
    have F8 := Lib.hid (F4.out.trans (F7.out.trans f8)); have O8 := Lib.hid o8; have P8 := Lib.hid (P4.out.trans (P7.out.trans (p8.mono (by omega))))
    clear o8 f8 p8
    go_wp2_with fail
    exact bodyPost_ret (v := .tuple #[v8, .int .i64 (wrR V f ⟨k0, k1, k2, k3, k4, k5⟩ l1).1]) (by simp [results, Tryz.results26, go_sem]) rfl ⟨_, by rw [HE.out], by rw [HE.out]; exact O8.out, F8.out, P8.out⟩
end Go.Proofs.YtdkckhihleffeaaGreat
