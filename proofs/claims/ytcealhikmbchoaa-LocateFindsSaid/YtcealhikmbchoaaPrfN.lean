/- proof.Make. Written by gen_prfn.py. -/
import Derived.Test.YtcealhikmbchoaaPrfM
import Derived.Test.YtcealhikmbchoaaPrfD
namespace Go.Proofs.Ytcealhikmbchoaa
set_option linter.all false
open Go.RowKit Rg

attribute [local irreducible] wr
def mkE (P : Prob) (x : Loc) (tol : Int) : Int × List Int := if askE P x tol ≠ 0 then (askE P x tol, []) else if x.m < x.l then (26, []) else if (wr (prV P x tol) 6002 P.reg []).1 = 0 then wr (prV P x tol) 6002 P.reg [] else ((wr (prV P x tol) 6002 P.reg []).1, [])

set_option maxRecDepth 100000 in
set_option maxHeartbeats 4000000 in
theorem make_any (P : Prob) (vl vh vp : Value) (x : Loc) (tol : Int) (w : World) (hi : ProbIn P vl vh vp w) (hbig : P.phs.length ≤ 1000000000) :
    Calls Try.prog 15 #[.agg (P.val vl vh vp), .agg x.val, .int .i64 tol] w fun e w' => ∃ v', e = .returned (.tuple #[v', .int .i64 (mkE P x tol).1]) ∧ w'.ownsRow w.heap.size 3 1 v' (mkE P x tol).2.length ((mkE P x tol).2.map (Value.int .i64)) ∧ w.grownBy w' none := by
  have AS := Lib.hid (fun (u : World) (h : w.grownBy u none) => asked_any P vl vh vp x tol u (hi.after h) hbig)
  have HC := Lib.hid (fun (O Pp X T F B : Nat) (u : World) => make1_any P vl vh vp x tol w hi hbig O Pp X T F B 6002 u P.reg [])
  obtain ⟨pa, pc, rfl⟩ := hi.p.slice
  obtain ⟨la, ln, lc, rfl⟩ := sl_slice hi.l
  obtain ⟨ha, hn, hc, rfl⟩ := sl_slice hi.h
  generalize hpr : mkE P x tol = pr
  have HP := Lib.hid hpr.symm
  clear hpr
  unfold mkE at HP
  generalize askE P x tol = E at *
  generalize prV P x tol = V at *
  clear hi hbig
  obtain ⟨x0, y0, z0, x1, y1, z1, step, ls, hs, phs, cap⟩ := P
  obtain ⟨px, py, pz, xt, xm, xl, a0, a1, a2, a3, a4, a5⟩ := x
  simp only [Prob.reg] at *
  generalize hpn : phs.length = pn at *
  have hPV : Prob.val ⟨x0, y0, z0, x1, y1, z1, step, ls, hs, phs, cap⟩ (.slice la ln lc) (.slice ha hn hc) (.slice pa pn pc) = #[.int .i64 x0, .int .i64 y0, .int .i64 z0, .int .i64 x1, .int .i64 y1, .int .i64 z1, .int .i64 step, .slice la ln lc, .slice ha hn hc, .slice pa pn pc, .int .i64 cap] := rfl
  have hXV : Loc.val ⟨px, py, pz, xt, xm, xl, a0, a1, a2, a3, a4, a5⟩ = #[.int .i64 px, .int .i64 py, .int .i64 pz, .int .i64 xt, .int .i64 xm, .int .i64 xl, .int .i64 a0, .int .i64 a1, .int .i64 a2, .int .i64 a3, .int .i64 a4, .int .i64 a5] := rfl
  rw [hPV, hXV] at AS ⊢
  have k0_0 : (w.alloc (.cells #[.int .i64 x0, .int .i64 y0, .int .i64 z0, .int .i64 x1, .int .i64 y1, .int .i64 z1, .int .i64 step, .slice la ln lc, .slice ha hn hc, .slice pa pn pc, .int .i64 cap] 36)).heap[w.heap.size]? = some (.cells #[.int .i64 x0, .int .i64 y0, .int .i64 z0, .int .i64 x1, .int .i64 y1, .int .i64 z1, .int .i64 step, .slice la ln lc, .slice ha hn hc, .slice pa pn pc, .int .i64 cap] 36 (0, 0)) := by exact heap_alloc_new _ _
  have k0_1 := block_kept (gb_alloc (gb_refl (w.alloc (.cells #[.int .i64 x0, .int .i64 y0, .int .i64 z0, .int .i64 x1, .int .i64 y1, .int .i64 z1, .int .i64 step, .slice la ln lc, .slice ha hn hc, .slice pa pn pc, .int .i64 cap] 36)) none) (.cells #[.int .i64 px, .int .i64 py, .int .i64 pz, .int .i64 xt, .int .i64 xm, .int .i64 xl, .int .i64 a0, .int .i64 a1, .int .i64 a2, .int .i64 a3, .int .i64 a4, .int .i64 a5] 28)) k0_0 rfl
  have k1_1 : ((w.alloc (.cells #[.int .i64 x0, .int .i64 y0, .int .i64 z0, .int .i64 x1, .int .i64 y1, .int .i64 z1, .int .i64 step, .slice la ln lc, .slice ha hn hc, .slice pa pn pc, .int .i64 cap] 36)).alloc (.cells #[.int .i64 px, .int .i64 py, .int .i64 pz, .int .i64 xt, .int .i64 xm, .int .i64 xl, .int .i64 a0, .int .i64 a1, .int .i64 a2, .int .i64 a3, .int .i64 a4, .int .i64 a5] 28)).heap[w.heap.size + 1]? = some (.cells #[.int .i64 px, .int .i64 py, .int .i64 pz, .int .i64 xt, .int .i64 xm, .int .i64 xl, .int .i64 a0, .int .i64 a1, .int .i64 a2, .int .i64 a3, .int .i64 a4, .int .i64 a5] 28 (0, 0)) := by simpa using heap_alloc_new (w.alloc (.cells #[.int .i64 x0, .int .i64 y0, .int .i64 z0, .int .i64 x1, .int .i64 y1, .int .i64 z1, .int .i64 step, .slice la ln lc, .slice ha hn hc, .slice pa pn pc, .int .i64 cap] 36)) (.cells #[.int .i64 px, .int .i64 py, .int .i64 pz, .int .i64 xt, .int .i64 xm, .int .i64 xl, .int .i64 a0, .int .i64 a1, .int .i64 a2, .int .i64 a3, .int .i64 a4, .int .i64 a5] 28)
  clear k0_0
  have k0_2 := block_kept (gb_alloc (gb_refl ((w.alloc (.cells #[.int .i64 x0, .int .i64 y0, .int .i64 z0, .int .i64 x1, .int .i64 y1, .int .i64 z1, .int .i64 step, .slice la ln lc, .slice ha hn hc, .slice pa pn pc, .int .i64 cap] 36)).alloc (.cells #[.int .i64 px, .int .i64 py, .int .i64 pz, .int .i64 xt, .int .i64 xm, .int .i64 xl, .int .i64 a0, .int .i64 a1, .int .i64 a2, .int .i64 a3, .int .i64 a4, .int .i64 a5] 28)) none) (.cells #[.int .i64 tol] 3)) k0_1 rfl
  have k1_2 := block_kept (gb_alloc (gb_refl ((w.alloc (.cells #[.int .i64 x0, .int .i64 y0, .int .i64 z0, .int .i64 x1, .int .i64 y1, .int .i64 z1, .int .i64 step, .slice la ln lc, .slice ha hn hc, .slice pa pn pc, .int .i64 cap] 36)).alloc (.cells #[.int .i64 px, .int .i64 py, .int .i64 pz, .int .i64 xt, .int .i64 xm, .int .i64 xl, .int .i64 a0, .int .i64 a1, .int .i64 a2, .int .i64 a3, .int .i64 a4, .int .i64 a5] 28)) none) (.cells #[.int .i64 tol] 3)) k1_1 rfl
  have k2_2 : (((w.alloc (.cells #[.int .i64 x0, .int .i64 y0, .int .i64 z0, .int .i64 x1, .int .i64 y1, .int .i64 z1, .int .i64 step, .slice la ln lc, .slice ha hn hc, .slice pa pn pc, .int .i64 cap] 36)).alloc (.cells #[.int .i64 px, .int .i64 py, .int .i64 pz, .int .i64 xt, .int .i64 xm, .int .i64 xl, .int .i64 a0, .int .i64 a1, .int .i64 a2, .int .i64 a3, .int .i64 a4, .int .i64 a5] 28)).alloc (.cells #[.int .i64 tol] 3)).heap[w.heap.size + 1 + 1]? = some (.cells #[.int .i64 tol] 3 (0, 0)) := by simpa using heap_alloc_new ((w.alloc (.cells #[.int .i64 x0, .int .i64 y0, .int .i64 z0, .int .i64 x1, .int .i64 y1, .int .i64 z1, .int .i64 step, .slice la ln lc, .slice ha hn hc, .slice pa pn pc, .int .i64 cap] 36)).alloc (.cells #[.int .i64 px, .int .i64 py, .int .i64 pz, .int .i64 xt, .int .i64 xm, .int .i64 xl, .int .i64 a0, .int .i64 a1, .int .i64 a2, .int .i64 a3, .int .i64 a4, .int .i64 a5] 28)) (.cells #[.int .i64 tol] 3)
  clear k0_1 k1_1
  have G0 := Lib.hid (gb_alloc (gb_alloc (gb_alloc (gb_refl w none) _) _) _ : w.grownBy (((w.alloc (.cells #[.int .i64 x0, .int .i64 y0, .int .i64 z0, .int .i64 x1, .int .i64 y1, .int .i64 z1, .int .i64 step, .slice la ln lc, .slice ha hn hc, .slice pa pn pc, .int .i64 cap] 36)).alloc (.cells #[.int .i64 px, .int .i64 py, .int .i64 pz, .int .i64 xt, .int .i64 xm, .int .i64 xl, .int .i64 a0, .int .i64 a1, .int .i64 a2, .int .i64 a3, .int .i64 a4, .int .i64 a5] 28)).alloc (.cells #[.int .i64 tol] 3)) none)
  have K0 := Lib.hid k0_2
  have K1 := Lib.hid k1_2
  have K2 := Lib.hid k2_2
  clear k0_2 k1_2 k2_2
  obtain ⟨e0_, e1_, e2_, e3_, e4_, e5_, e6_, e7_, e8_, e9_, e10_⟩ := cells11 K0.out
  obtain ⟨d0_, d1_, d2_, d3_, d4_, d5_, d6_, d7_, d8_, d9_, d10_, d11_⟩ := cells12 K1.out
  go_enter Try.func15, Try.ntmps15
  have t_ := cell_of K2.out 0 _ rfl
  go_wp2_with fail
  generalize (((w.alloc (.cells #[.int .i64 x0, .int .i64 y0, .int .i64 z0, .int .i64 x1, .int .i64 y1, .int .i64 z1, .int .i64 step, .slice la ln lc, .slice ha hn hc, .slice pa pn pc, .int .i64 cap] 36)).alloc (.cells #[.int .i64 px, .int .i64 py, .int .i64 pz, .int .i64 xt, .int .i64 xm, .int .i64 xl, .int .i64 a0, .int .i64 a1, .int .i64 a2, .int .i64 a3, .int .i64 a4, .int .i64 a5] 28)).alloc (.cells #[.int .i64 tol] 3)) = w1 at *
  (with_reducible refine (AS.out w1 G0.out).mono ?_)
  rintro r w2 ⟨rfl, hg⟩
  clear t_
  clear e0_ e1_ e2_ e3_ e4_ e5_ e6_ e7_ e8_ e9_ e10_
  clear d0_ d1_ d2_ d3_ d4_ d5_ d6_ d7_ d8_ d9_ d10_ d11_
  have P2 := Lib.hid (block_kept hg K0.out rfl); have X2 := Lib.hid (block_kept hg K1.out rfl); have T2 := Lib.hid (block_kept hg K2.out rfl); have G2 := Lib.hid (gb_trans G0.out hg)
  have hsz2 := block_lt' T2.out
  clear hg K0 K1 K2 G0 AS
  by_cases hE : E = 0
  rotate_left
  · have hE' : (E == 0) = false := by simpa using hE
    have HR := Lib.hid (show pr = (E, []) by rw [HP.out]; simp [hE])
    clear hE
    go_wp2
    exact bodyPost_ret (v := .tuple #[.slice none 0 0, .int .i64 E]) (by simp [results, Try.results15, go_sem]) rfl ⟨.slice none 0 0, by simp [HR.out], by rw [HR.out]; exact World.ownsRow_nil _ _ _ _, G2.out⟩
  subst hE
  obtain ⟨d0_, d1_, d2_, d3_, d4_, d5_, d6_, d7_, d8_, d9_, d10_, d11_⟩ := cells12 X2.out
  by_cases hml : xm < xl
  · have hml' : decide (xl > xm) = true := decide_eq_true hml
    have HR := Lib.hid (show pr = (26, []) by rw [HP.out]; simp [hml])
    clear hml
    go_wp2
    exact bodyPost_ret (v := .tuple #[.slice none 0 0, .int .i64 26]) (by simp [results, Try.results15, go_sem]) rfl ⟨.slice none 0 0, by simp [HR.out], by rw [HR.out]; exact World.ownsRow_nil _ _ _ _, G2.out⟩
  have hml' : decide (xl > xm) = false := decide_eq_false hml
  have hg3 : w2.grownBy ((w2.alloc (.cells #[.slice none 0 0] 22)).alloc (.cells #[.func (.func 42) #[] #[.pointer (some ⟨w2.heap.size, 0, none⟩), .pointer (some ⟨w.heap.size, 0, none⟩), .pointer (some ⟨w.heap.size + 1, 0, none⟩), .pointer (some ⟨w.heap.size + 1 + 1, 0, none⟩), .pointer (some ⟨w2.heap.size + 1, 0, none⟩)]] 77)) none := gb_alloc (gb_alloc (gb_refl _ _) _) _
  have A3 : Hid (((w2.alloc (.cells #[.slice none 0 0] 22)).alloc (.cells #[.func (.func 42) #[] #[.pointer (some ⟨w2.heap.size, 0, none⟩), .pointer (some ⟨w.heap.size, 0, none⟩), .pointer (some ⟨w.heap.size + 1, 0, none⟩), .pointer (some ⟨w.heap.size + 1 + 1, 0, none⟩), .pointer (some ⟨w2.heap.size + 1, 0, none⟩)]] 77)).heap[w2.heap.size]? = some (.cells #[.slice none 0 0] 22 (0, 0))) := Lib.hid (by rw [heap_alloc_old _ _ (by simp), heap_alloc_new])
  have F3 : Hid (((w2.alloc (.cells #[.slice none 0 0] 22)).alloc (.cells #[.func (.func 42) #[] #[.pointer (some ⟨w2.heap.size, 0, none⟩), .pointer (some ⟨w.heap.size, 0, none⟩), .pointer (some ⟨w.heap.size + 1, 0, none⟩), .pointer (some ⟨w.heap.size + 1 + 1, 0, none⟩), .pointer (some ⟨w2.heap.size + 1, 0, none⟩)]] 77)).heap[w2.heap.size + 1]? = some (.cells #[.func (.func 42) #[] #[.pointer (some ⟨w2.heap.size, 0, none⟩), .pointer (some ⟨w.heap.size, 0, none⟩), .pointer (some ⟨w.heap.size + 1, 0, none⟩), .pointer (some ⟨w.heap.size + 1 + 1, 0, none⟩), .pointer (some ⟨w2.heap.size + 1, 0, none⟩)]] 77 (0, 0))) := Lib.hid (by simpa using heap_alloc_new (w2.alloc _) (.cells #[.func (.func 42) #[] #[.pointer (some ⟨w2.heap.size, 0, none⟩), .pointer (some ⟨w.heap.size, 0, none⟩), .pointer (some ⟨w.heap.size + 1, 0, none⟩), .pointer (some ⟨w.heap.size + 1 + 1, 0, none⟩), .pointer (some ⟨w2.heap.size + 1, 0, none⟩)]] 77))
  have G3 := Lib.hid (gb_trans G2.out hg3)
  have f_ := cell_of F3.out 0 _ rfl
  obtain ⟨e0_, e1_, e2_, e3_, e4_, e5_, e6_, e7_, e8_, e9_, e10_⟩ := cells11 (block_kept hg3 P2.out rfl)
  have C3 : Hid (MkAt ⟨x0, y0, z0, x1, y1, z1, step, ls, hs, phs, cap⟩ (.slice la ln lc) (.slice ha hn hc) (.slice pa pn pc) ⟨px, py, pz, xt, xm, xl, a0, a1, a2, a3, a4, a5⟩ tol w w2.heap.size w.heap.size (w.heap.size + 1) (w.heap.size + 1 + 1) (w2.heap.size + 1) (w2.heap.size + 1 + 1) ((w2.alloc (.cells #[.slice none 0 0] 22)).alloc (.cells #[.func (.func 42) #[] #[.pointer (some ⟨w2.heap.size, 0, none⟩), .pointer (some ⟨w.heap.size, 0, none⟩), .pointer (some ⟨w.heap.size + 1, 0, none⟩), .pointer (some ⟨w.heap.size + 1 + 1, 0, none⟩), .pointer (some ⟨w2.heap.size + 1, 0, none⟩)]] 77))) := Lib.hid ⟨block_kept hg3 P2.out rfl, block_kept hg3 X2.out rfl, block_kept hg3 T2.out rfl, F3.out, ⟨by omega, by omega, by omega, by omega⟩, ⟨by omega, by omega, by omega, by omega⟩, G3.out, by omega⟩
  have O3 : Hid (OutAt w2.heap.size (w2.heap.size + 1 + 1) ((w2.alloc (.cells #[.slice none 0 0] 22)).alloc (.cells #[.func (.func 42) #[] #[.pointer (some ⟨w2.heap.size, 0, none⟩), .pointer (some ⟨w.heap.size, 0, none⟩), .pointer (some ⟨w.heap.size + 1, 0, none⟩), .pointer (some ⟨w.heap.size + 1 + 1, 0, none⟩), .pointer (some ⟨w2.heap.size + 1, 0, none⟩)]] 77)) (.slice none 0 0) []) := Lib.hid ⟨A3.out, World.ownsRow_nil _ _ _ _, by omega, by simp⟩
  have RN := Lib.hid (HC.out _ _ _ _ _ _ _ _ C3.out O3.out (by simp) (by simp))
  dsimp only [Bx.val] at RN
  clear hg3 HC
  obtain ⟨q1, q2, hq⟩ : ∃ q1 q2, wr V 6002 ⟨x0, y0, z0, x1, y1, z1⟩ [] = (q1, q2) := ⟨(wr V 6002 ⟨x0, y0, z0, x1, y1, z1⟩ []).1, (wr V 6002 ⟨x0, y0, z0, x1, y1, z1⟩ []).2, rfl⟩
  rw [hq] at RN
  have HRR : Hid (pr = if q1 = 0 then (q1, q2) else (q1, [])) := Lib.hid (by rw [HP.out, if_neg (by simp), if_neg hml]; simp only [hq])
  clear HP hq
  go_wp2_with fail
  clear d0_ d1_ d2_ d3_ d4_ d5_ d6_ d7_ d8_ d9_ d10_ d11_
  (with_reducible refine RN.out.mono ?_)
  rintro r w4 ⟨v4, rfl, ho, hf, -, hn4⟩
  clear f_
  clear e0_ e1_ e2_ e3_ e4_ e5_ e6_ e7_ e8_ e9_ e10_
  have G4 := Lib.hid (hf.all O3.out G3.out (by omega))
  have hnn := hf.own
  obtain ⟨oa, oc, rfl⟩ := owns_slice ho.own
  have A4 := Lib.hid ho
  clear ho hf RN O3 C3 A3 F3
  simp only
  by_cases hq : q1 = 0
  rotate_left
  · have hq' : (q1 != 0) = true := by simpa using hq
    have HR := Lib.hid (show pr = (q1, []) by rw [HRR.out, if_neg hq])
    clear hq HRR
    go_wp2
    exact bodyPost_ret (v := .tuple #[.slice none 0 0, .int .i64 q1]) (by simp [results, Try.results15, go_sem]) rfl ⟨.slice none 0 0, by simp [HR.out], by rw [HR.out]; exact World.ownsRow_nil _ _ _ _, G4.out⟩
  subst hq
  have HR := Lib.hid (show pr = (0, q2) by rw [HRR.out, if_pos rfl])
  clear HRR
  have o_ := cell_of A4.out.o 0 _ rfl
  have ON : Hid (w4.ownsRow w.heap.size 3 1 (.slice oa q2.length oc) q2.length (q2.map (Value.int .i64))) := Lib.hid (by
    refine ⟨A4.out.own.1, ?_⟩
    rcases A4.out.own.2 with h | ⟨g, cap, cur, h1, h2, h3⟩
    · exact .inl h
    · exact .inr ⟨g, cap, cur, h1, by omega, h3⟩)
  go_wp2
  exact bodyPost_ret (v := .tuple #[.slice oa q2.length oc, .int .i64 0]) (by simp [results, Try.results15, go_sem]) rfl ⟨.slice oa q2.length oc, by simp [HR.out], by rw [HR.out]; exact ON.out, G4.out⟩
end Go.Proofs.Ytcealhikmbchoaa
