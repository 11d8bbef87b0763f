/- proof.Check. Written by gen_prfd.py. -/
import Derived.Test.YtcealhikmbchoaaPrfC
import Derived.Test.YtcealhikmbchoaaPrf2
import Derived.Laws.EntriesVeiled
namespace Go.Proofs.Ytcealhikmbchoaa
set_option linter.all false
open Go.RowKit Rg

def Prob.reg (P : Prob) : Bx := ⟨P.x0, P.y0, P.z0, P.x1, P.y1, P.z1⟩
def chkE (P : Prob) (x : Loc) (tol : Int) (lst : List Int) : Int := if askE P x tol ≠ 0 then askE P x tol else if 6001 < lst.length then 8 else if x.m < x.l then 26 else if rd (prV P x tol) (lst.length + 1) P.reg lst = (true, []) then 0 else 26

set_option maxRecDepth 100000 in
set_option maxHeartbeats 4000000 in
theorem check_any (P : Prob) (vl vh vp : Value) (x : Loc) (tol : Int) (lst : List Int) (vs : Value) (w : World) (hi : ProbIn P vl vh vp w) (hs' : Sl w vs lst) (hbig : P.phs.length ≤ 100) (hlb : lst.length ≤ 1000000) :
    Calls Try.prog 16 #[.agg (P.val vl vh vp), .agg x.val, .int .i64 tol, vs] w fun e w' => e = .returned (.int .i64 (chkE P x tol lst)) ∧ w.grownBy w' none := by
  have AS := Lib.hid (fun (u : World) (h : w.grownBy u none) => asked_any P vl vh vp x tol u (hi.after h) (by omega))
  have HI := Lib.hid hi; have HS := Lib.hid hs'
  obtain ⟨pa, pc, rfl⟩ := hi.p.slice
  obtain ⟨la, ln, lc, rfl⟩ := sl_slice hi.l
  obtain ⟨ha, hn, hc, rfl⟩ := sl_slice hi.h
  obtain ⟨sa, scap, rfl⟩ := hs'.shape
  have HC := Lib.hid (fun (A R Pp X T F : Nat) (u : World) => check1_any P (.slice la ln lc) (.slice ha hn hc) (.slice pa P.phs.length pc) x tol lst (.slice sa lst.length scap) A R Pp X T F hlb (lst.length + 1) u P.reg 0)
  have HQ := Lib.hid (show ∀ (u : World) (_ : w.grownBy u none) (q : Nat) (_ : w.heap.size ≤ q), PrIn q u ⟨P, .slice la ln lc, .slice ha hn hc, .slice pa P.phs.length pc⟩ from fun u h q hq => ⟨HI.out.after h, Sl.apart_lt HI.out.l hq, Sl.apart_lt HI.out.h hq, SlC.apart_lt HI.out.p hq, hbig⟩)
  generalize hpr : chkE P x tol lst = pr
  have HP := Lib.hid hpr.symm
  clear hpr
  unfold chkE at HP
  generalize askE P x tol = E at *
  generalize prV P x tol = V at *
  clear hi hs'
  obtain ⟨x0, y0, z0, x1, y1, z1, step, ls, hs, phs, cap⟩ := P
  obtain ⟨px, py, pz, xt, xm, xl, a0, a1, a2, a3, a4, a5⟩ := x
  simp only [Prob.reg] at *
  generalize hpn : phs.length = pn at *
  have hPV : Prob.val ⟨x0, y0, z0, x1, y1, z1, step, ls, hs, phs, cap⟩ (.slice la ln lc) (.slice ha hn hc) (.slice pa pn pc) = #[.int .i64 x0, .int .i64 y0, .int .i64 z0, .int .i64 x1, .int .i64 y1, .int .i64 z1, .int .i64 step, .slice la ln lc, .slice ha hn hc, .slice pa pn pc, .int .i64 cap] := rfl
  have hXV : Loc.val ⟨px, py, pz, xt, xm, xl, a0, a1, a2, a3, a4, a5⟩ = #[.int .i64 px, .int .i64 py, .int .i64 pz, .int .i64 xt, .int .i64 xm, .int .i64 xl, .int .i64 a0, .int .i64 a1, .int .i64 a2, .int .i64 a3, .int .i64 a4, .int .i64 a5] := rfl
  rw [hPV, hXV] at AS ⊢
  have k0_0 : (w.alloc (.cells #[.int .i64 x0, .int .i64 y0, .int .i64 z0, .int .i64 x1, .int .i64 y1, .int .i64 z1, .int .i64 step, .slice la ln lc, .slice ha hn hc, .slice pa pn pc, .int .i64 cap] 36)).heap[w.heap.size]? = some (.cells #[.int .i64 x0, .int .i64 y0, .int .i64 z0, .int .i64 x1, .int .i64 y1, .int .i64 z1, .int .i64 step, .slice la ln lc, .slice ha hn hc, .slice pa pn pc, .int .i64 cap] 36 (0, 0)) := by exact heap_alloc_new _ _
  have k0_1 := block_kept (gb_alloc (gb_refl (w.alloc (.cells #[.int .i64 x0, .int .i64 y0, .int .i64 z0, .int .i64 x1, .int .i64 y1, .int .i64 z1, .int .i64 step, .slice la ln lc, .slice ha hn hc, .slice pa pn pc, .int .i64 cap] 36)) none) (.cells #[.int .i64 px, .int .i64 py, .int .i64 pz, .int .i64 xt, .int .i64 xm, .int .i64 xl, .int .i64 a0, .int .i64 a1, .int .i64 a2, .int .i64 a3, .int .i64 a4, .int .i64 a5] 28)) k0_0 rfl
  have k1_1 : ((w.alloc (.cells #[.int .i64 x0, .int .i64 y0, .int .i64 z0, .int .i64 x1, .int .i64 y1, .int .i64 z1, .int .i64 step, .slice la ln lc, .slice ha hn hc, .slice pa pn pc, .int .i64 cap] 36)).alloc (.cells #[.int .i64 px, .int .i64 py, .int .i64 pz, .int .i64 xt, .int .i64 xm, .int .i64 xl, .int .i64 a0, .int .i64 a1, .int .i64 a2, .int .i64 a3, .int .i64 a4, .int .i64 a5] 28)).heap[w.heap.size + 1]? = some (.cells #[.int .i64 px, .int .i64 py, .int .i64 pz, .int .i64 xt, .int .i64 xm, .int .i64 xl, .int .i64 a0, .int .i64 a1, .int .i64 a2, .int .i64 a3, .int .i64 a4, .int .i64 a5] 28 (0, 0)) := by simpa using heap_alloc_new (w.alloc (.cells #[.int .i64 x0, .int .i64 y0, .int .i64 z0, .int .i64 x1, .int .i64 y1, .int .i64 z1, .int .i64 step, .slice la ln lc, .slice ha hn hc, .slice pa pn pc, .int .i64 cap] 36)) (.cells #[.int .i64 px, .int .i64 py, .int .i64 pz, .int .i64 xt, .int .i64 xm, .int .i64 xl, .int .i64 a0, .int .i64 a1, .int .i64 a2, .int .i64 a3, .int .i64 a4, .int .i64 a5] 28)
  clear k0_0
  have k0_2 := block_kept (gb_alloc (gb_refl ((w.alloc (.cells #[.int .i64 x0, .int .i64 y0, .int .i64 z0, .int .i64 x1, .int .i64 y1, .int .i64 z1, .int .i64 step, .slice la ln lc, .slice ha hn hc, .slice pa pn pc, .int .i64 cap] 36)).alloc (.cells #[.int .i64 px, .int .i64 py, .int .i64 pz, .int .i64 xt, .int .i64 xm, .int .i64 xl, .int .i64 a0, .int .i64 a1, .int .i64 a2, .int .i64 a3, .int .i64 a4, .int .i64 a5] 28)) none) (.cells #[.int .i64 tol] 3)) k0_1 rfl
  have k1_2 := block_kept (gb_alloc (gb_refl ((w.alloc (.cells #[.int .i64 x0, .int .i64 y0, .int .i64 z0, .int .i64 x1, .int .i64 y1, .int .i64 z1, .int .i64 step, .slice la ln lc, .slice ha hn hc, .slice pa pn pc, .int .i64 cap] 36)).alloc (.cells #[.int .i64 px, .int .i64 py, .int .i64 pz, .int .i64 xt, .int .i64 xm, .int .i64 xl, .int .i64 a0, .int .i64 a1, .int .i64 a2, .int .i64 a3, .int .i64 a4, .int .i64 a5] 28)) none) (.cells #[.int .i64 tol] 3)) k1_1 rfl
  have k2_2 : (((w.alloc (.cells #[.int .i64 x0, .int .i64 y0, .int .i64 z0, .int .i64 x1, .int .i64 y1, .int .i64 z1, .int .i64 step, .slice la ln lc, .slice ha hn hc, .slice pa pn pc, .int .i64 cap] 36)).alloc (.cells #[.int .i64 px, .int .i64 py, .int .i64 pz, .int .i64 xt, .int .i64 xm, .int .i64 xl, .int .i64 a0, .int .i64 a1, .int .i64 a2, .int .i64 a3, .int .i64 a4, .int .i64 a5] 28)).alloc (.cells #[.int .i64 tol] 3)).heap[w.heap.size + 1 + 1]? = some (.cells #[.int .i64 tol] 3 (0, 0)) := by simpa using heap_alloc_new ((w.alloc (.cells #[.int .i64 x0, .int .i64 y0, .int .i64 z0, .int .i64 x1, .int .i64 y1, .int .i64 z1, .int .i64 step, .slice la ln lc, .slice ha hn hc, .slice pa pn pc, .int .i64 cap] 36)).alloc (.cells #[.int .i64 px, .int .i64 py, .int .i64 pz, .int .i64 xt, .int .i64 xm, .int .i64 xl, .int .i64 a0, .int .i64 a1, .int .i64 a2, .int .i64 a3, .int .i64 a4, .int .i64 a5] 28)) (.cells #[.int .i64 tol] 3)
  clear k0_1 k1_1
  have k0_3 := block_kept (gb_alloc (gb_refl (((w.alloc (.cells #[.int .i64 x0, .int .i64 y0, .int .i64 z0, .int .i64 x1, .int .i64 y1, .int .i64 z1, .int .i64 step, .slice la ln lc, .slice ha hn hc, .slice pa pn pc, .int .i64 cap] 36)).alloc (.cells #[.int .i64 px, .int .i64 py, .int .i64 pz, .int .i64 xt, .int .i64 xm, .int .i64 xl, .int .i64 a0, .int .i64 a1, .int .i64 a2, .int .i64 a3, .int .i64 a4, .int .i64 a5] 28)).alloc (.cells #[.int .i64 tol] 3)) none) (.cells #[.slice sa lst.length scap] 22)) k0_2 rfl
  have k1_3 := block_kept (gb_alloc (gb_refl (((w.alloc (.cells #[.int .i64 x0, .int .i64 y0, .int .i64 z0, .int .i64 x1, .int .i64 y1, .int .i64 z1, .int .i64 step, .slice la ln lc, .slice ha hn hc, .slice pa pn pc, .int .i64 cap] 36)).alloc (.cells #[.int .i64 px, .int .i64 py, .int .i64 pz, .int .i64 xt, .int .i64 xm, .int .i64 xl, .int .i64 a0, .int .i64 a1, .int .i64 a2, .int .i64 a3, .int .i64 a4, .int .i64 a5] 28)).alloc (.cells #[.int .i64 tol] 3)) none) (.cells #[.slice sa lst.length scap] 22)) k1_2 rfl
  have k2_3 := block_kept (gb_alloc (gb_refl (((w.alloc (.cells #[.int .i64 x0, .int .i64 y0, .int .i64 z0, .int .i64 x1, .int .i64 y1, .int .i64 z1, .int .i64 step, .slice la ln lc, .slice ha hn hc, .slice pa pn pc, .int .i64 cap] 36)).alloc (.cells #[.int .i64 px, .int .i64 py, .int .i64 pz, .int .i64 xt, .int .i64 xm, .int .i64 xl, .int .i64 a0, .int .i64 a1, .int .i64 a2, .int .i64 a3, .int .i64 a4, .int .i64 a5] 28)).alloc (.cells #[.int .i64 tol] 3)) none) (.cells #[.slice sa lst.length scap] 22)) k2_2 rfl
  have k3_3 : ((((w.alloc (.cells #[.int .i64 x0, .int .i64 y0, .int .i64 z0, .int .i64 x1, .int .i64 y1, .int .i64 z1, .int .i64 step, .slice la ln lc, .slice ha hn hc, .slice pa pn pc, .int .i64 cap] 36)).alloc (.cells #[.int .i64 px, .int .i64 py, .int .i64 pz, .int .i64 xt, .int .i64 xm, .int .i64 xl, .int .i64 a0, .int .i64 a1, .int .i64 a2, .int .i64 a3, .int .i64 a4, .int .i64 a5] 28)).alloc (.cells #[.int .i64 tol] 3)).alloc (.cells #[.slice sa lst.length scap] 22)).heap[w.heap.size + 1 + 1 + 1]? = some (.cells #[.slice sa lst.length scap] 22 (0, 0)) := by simpa using heap_alloc_new (((w.alloc (.cells #[.int .i64 x0, .int .i64 y0, .int .i64 z0, .int .i64 x1, .int .i64 y1, .int .i64 z1, .int .i64 step, .slice la ln lc, .slice ha hn hc, .slice pa pn pc, .int .i64 cap] 36)).alloc (.cells #[.int .i64 px, .int .i64 py, .int .i64 pz, .int .i64 xt, .int .i64 xm, .int .i64 xl, .int .i64 a0, .int .i64 a1, .int .i64 a2, .int .i64 a3, .int .i64 a4, .int .i64 a5] 28)).alloc (.cells #[.int .i64 tol] 3)) (.cells #[.slice sa lst.length scap] 22)
  clear k0_2 k1_2 k2_2
  have G0 := Lib.hid (gb_alloc (gb_alloc (gb_alloc (gb_alloc (gb_refl w none) _) _) _) _ : w.grownBy ((((w.alloc (.cells #[.int .i64 x0, .int .i64 y0, .int .i64 z0, .int .i64 x1, .int .i64 y1, .int .i64 z1, .int .i64 step, .slice la ln lc, .slice ha hn hc, .slice pa pn pc, .int .i64 cap] 36)).alloc (.cells #[.int .i64 px, .int .i64 py, .int .i64 pz, .int .i64 xt, .int .i64 xm, .int .i64 xl, .int .i64 a0, .int .i64 a1, .int .i64 a2, .int .i64 a3, .int .i64 a4, .int .i64 a5] 28)).alloc (.cells #[.int .i64 tol] 3)).alloc (.cells #[.slice sa lst.length scap] 22)) none)
  have K0 := Lib.hid k0_3
  have K1 := Lib.hid k1_3
  have K2 := Lib.hid k2_3
  have K3 := Lib.hid k3_3
  clear k0_3 k1_3 k2_3 k3_3
  obtain ⟨e0_, e1_, e2_, e3_, e4_, e5_, e6_, e7_, e8_, e9_, e10_⟩ := cells11 K0.out
  obtain ⟨d0_, d1_, d2_, d3_, d4_, d5_, d6_, d7_, d8_, d9_, d10_, d11_⟩ := cells12 K1.out
  go_enter Try.func16, Try.ntmps16
  have t_ := cell_of K2.out 0 _ rfl
  go_wp2_with fail
  generalize ((((w.alloc (.cells #[.int .i64 x0, .int .i64 y0, .int .i64 z0, .int .i64 x1, .int .i64 y1, .int .i64 z1, .int .i64 step, .slice la ln lc, .slice ha hn hc, .slice pa pn pc, .int .i64 cap] 36)).alloc (.cells #[.int .i64 px, .int .i64 py, .int .i64 pz, .int .i64 xt, .int .i64 xm, .int .i64 xl, .int .i64 a0, .int .i64 a1, .int .i64 a2, .int .i64 a3, .int .i64 a4, .int .i64 a5] 28)).alloc (.cells #[.int .i64 tol] 3)).alloc (.cells #[.slice sa lst.length scap] 22)) = w1 at *
  (with_reducible refine (AS.out w1 G0.out).mono ?_)
  rintro r w2 ⟨rfl, hg⟩
  clear t_
  clear e0_ e1_ e2_ e3_ e4_ e5_ e6_ e7_ e8_ e9_ e10_
  clear d0_ d1_ d2_ d3_ d4_ d5_ d6_ d7_ d8_ d9_ d10_ d11_
  have P2 := Lib.hid (block_kept hg K0.out rfl); have X2 := Lib.hid (block_kept hg K1.out rfl); have T2 := Lib.hid (block_kept hg K2.out rfl); have S2 := Lib.hid (block_kept hg K3.out rfl); have G2 := Lib.hid (gb_trans G0.out hg)
  have hsz2 := block_lt' S2.out
  clear hg K0 K1 K2 K3 G0 AS
  by_cases hE : E = 0
  rotate_left
  · have hE' : (E == 0) = false := by simpa using hE
    have HR := Lib.hid (show pr = E by rw [HP.out]; simp [hE])
    clear hE
    go_wp2
    go_ret
    exact ⟨ret_int HR.out.symm, G2.out⟩
  subst hE
  have s_ := cell_of S2.out 0 _ rfl
  by_cases hl : 6001 < lst.length
  · have hl' : decide ((lst.length : Int) > 6001) = true := decide_eq_true (by omega)
    have HR := Lib.hid (show pr = 8 by rw [HP.out]; simp [hl])
    clear hl
    go_wp2
    go_ret
    exact ⟨ret_int HR.out.symm, G2.out⟩
  have hl' : decide ((lst.length : Int) > 6001) = false := decide_eq_false (by omega)
  have hg3 : w2.grownBy ((w2.alloc (.cells #[.int .i64 0] 3)).alloc (.cells #[.func (.func 45) #[] #[.pointer (some ⟨w2.heap.size, 0, none⟩), .pointer (some ⟨w.heap.size + 1 + 1 + 1, 0, none⟩), .pointer (some ⟨w.heap.size, 0, none⟩), .pointer (some ⟨w.heap.size + 1, 0, none⟩), .pointer (some ⟨w.heap.size + 1 + 1, 0, none⟩), .pointer (some ⟨w2.heap.size + 1, 0, none⟩)]] 81)) none := gb_alloc (gb_alloc (gb_refl _ _) _) _
  have A3 : Hid (((w2.alloc (.cells #[.int .i64 0] 3)).alloc (.cells #[.func (.func 45) #[] #[.pointer (some ⟨w2.heap.size, 0, none⟩), .pointer (some ⟨w.heap.size + 1 + 1 + 1, 0, none⟩), .pointer (some ⟨w.heap.size, 0, none⟩), .pointer (some ⟨w.heap.size + 1, 0, none⟩), .pointer (some ⟨w.heap.size + 1 + 1, 0, none⟩), .pointer (some ⟨w2.heap.size + 1, 0, none⟩)]] 81)).heap[w2.heap.size]? = some (.cells #[.int .i64 0] 3 (0, 0))) := Lib.hid (by rw [heap_alloc_old _ _ (by simp), heap_alloc_new])
  have F3 : Hid (((w2.alloc (.cells #[.int .i64 0] 3)).alloc (.cells #[.func (.func 45) #[] #[.pointer (some ⟨w2.heap.size, 0, none⟩), .pointer (some ⟨w.heap.size + 1 + 1 + 1, 0, none⟩), .pointer (some ⟨w.heap.size, 0, none⟩), .pointer (some ⟨w.heap.size + 1, 0, none⟩), .pointer (some ⟨w.heap.size + 1 + 1, 0, none⟩), .pointer (some ⟨w2.heap.size + 1, 0, none⟩)]] 81)).heap[w2.heap.size + 1]? = some (.cells #[.func (.func 45) #[] #[.pointer (some ⟨w2.heap.size, 0, none⟩), .pointer (some ⟨w.heap.size + 1 + 1 + 1, 0, none⟩), .pointer (some ⟨w.heap.size, 0, none⟩), .pointer (some ⟨w.heap.size + 1, 0, none⟩), .pointer (some ⟨w.heap.size + 1 + 1, 0, none⟩), .pointer (some ⟨w2.heap.size + 1, 0, none⟩)]] 81 (0, 0))) := Lib.hid (by simpa using heap_alloc_new (w2.alloc _) (.cells #[.func (.func 45) #[] #[.pointer (some ⟨w2.heap.size, 0, none⟩), .pointer (some ⟨w.heap.size + 1 + 1 + 1, 0, none⟩), .pointer (some ⟨w.heap.size, 0, none⟩), .pointer (some ⟨w.heap.size + 1, 0, none⟩), .pointer (some ⟨w.heap.size + 1 + 1, 0, none⟩), .pointer (some ⟨w2.heap.size + 1, 0, none⟩)]] 81))
  have G3 := Lib.hid (gb_trans G2.out hg3)
  obtain ⟨e0_, e1_, e2_, e3_, e4_, e5_, e6_, e7_, e8_, e9_, e10_⟩ := cells11 (block_kept hg3 P2.out rfl)
  obtain ⟨d0_, d1_, d2_, d3_, d4_, d5_, d6_, d7_, d8_, d9_, d10_, d11_⟩ := cells12 (block_kept hg3 X2.out rfl)
  have f_ := cell_of F3.out 0 _ rfl
  have b_ := cell_of A3.out 0 _ rfl
  have C3 : Hid (ChkAt ⟨x0, y0, z0, x1, y1, z1, step, ls, hs, phs, cap⟩ (.slice la ln lc) (.slice ha hn hc) (.slice pa pn pc) ⟨px, py, pz, xt, xm, xl, a0, a1, a2, a3, a4, a5⟩ tol lst (.slice sa lst.length scap) w2.heap.size (w.heap.size + 1 + 1 + 1) w.heap.size (w.heap.size + 1) (w.heap.size + 1 + 1) (w2.heap.size + 1) ((w2.alloc (.cells #[.int .i64 0] 3)).alloc (.cells #[.func (.func 45) #[] #[.pointer (some ⟨w2.heap.size, 0, none⟩), .pointer (some ⟨w.heap.size + 1 + 1 + 1, 0, none⟩), .pointer (some ⟨w.heap.size, 0, none⟩), .pointer (some ⟨w.heap.size + 1, 0, none⟩), .pointer (some ⟨w.heap.size + 1 + 1, 0, none⟩), .pointer (some ⟨w2.heap.size + 1, 0, none⟩)]] 81))) := Lib.hid ⟨block_kept hg3 S2.out rfl, block_kept hg3 P2.out rfl, block_kept hg3 X2.out rfl, block_kept hg3 T2.out rfl, F3.out, ⟨by omega, by omega, by omega, by omega, by omega⟩, HQ.out _ G3.out _ (by omega), HS.out.after G3.out, Sl.apart_lt HS.out (by omega)⟩
  have RN := Lib.hid (HC.out _ _ _ _ _ _ _ C3.out A3.out (Nat.zero_le _) (by omega))
  have S3 : Hid (((w2.alloc (.cells #[.int .i64 0] 3)).alloc (.cells #[.func (.func 45) #[] #[.pointer (some ⟨w2.heap.size, 0, none⟩), .pointer (some ⟨w.heap.size + 1 + 1 + 1, 0, none⟩), .pointer (some ⟨w.heap.size, 0, none⟩), .pointer (some ⟨w.heap.size + 1, 0, none⟩), .pointer (some ⟨w.heap.size + 1 + 1, 0, none⟩), .pointer (some ⟨w2.heap.size + 1, 0, none⟩)]] 81)).heap[w.heap.size + 1 + 1 + 1]? = some (.cells #[.slice sa lst.length scap] 22 (0, 0))) := Lib.hid (block_kept hg3 S2.out rfl)
  clear hg3 HC HQ HI HS
  dsimp only [Bx.val] at RN
  generalize hrd : rd V (lst.length + 1) ⟨x0, y0, z0, x1, y1, z1⟩ (lst.drop 0) = rr at *
  have HRD := Lib.hid hrd
  clear hrd
  obtain ⟨r1, r2⟩ := rr
  by_cases hml : xm < xl
  · have hml' : decide (xl > xm) = true := decide_eq_true hml
    have HR := Lib.hid (show pr = 26 by rw [HP.out]; simp [hl, hml])
    clear hml
    go_wp2
    go_ret
    exact ⟨ret_int HR.out.symm, G3.out⟩
  have hml' : decide (xl > xm) = false := decide_eq_false hml
  go_wp2_with fail
  (with_reducible refine RN.out.mono ?_)
  clear e0_ e1_ e2_ e3_ e4_ e5_ e6_ e7_ e8_ e9_ e10_ d0_ d1_ d2_ d3_ d4_ d5_ d6_ d7_ d8_ d9_ d10_ d11_
  rintro r w4 ⟨k, rfl, hd, hk, -, -, ha4, hg⟩
  have A4 := Lib.hid ha4; have S4 := Lib.hid (block_keptp hg S3.out (by omega)); have G4 := Lib.hid hg
  have HD := Lib.hid hd
  clear ha4 hg hd f_ b_ s_
  have HRR : Hid (pr = if (r1, r2) = (true, []) then 0 else 26) := Lib.hid (by
    have e := HRD.out
    rw [List.drop_zero] at e
    rw [HP.out, if_neg (by simp), if_neg (by omega), if_neg (by omega)]
    simp only [Prob.reg, e])
  clear HP HRD RN C3
  cases r1
  · have HR := Lib.hid (show pr = 26 by rw [HRR.out]; simp)
    go_wp2
    go_ret
    exact ⟨ret_int HR.out.symm, gb_new G3.out G4.out (fun q e => by cases e; omega)⟩
  have b_ := cell_of A4.out 0 _ rfl; have s_ := cell_of S4.out 0 _ rfl
  by_cases hkl : k = lst.length
  · have hkl' : ((k : Int) != (lst.length : Int)) = false := by simp; omega
    have HR := Lib.hid (show pr = 0 by rw [HRR.out, show r2 = [] from by have := HD.out; rw [hkl, List.drop_length] at this; exact this.symm]; simp)
    clear hkl
    go_wp2
    go_ret
    exact ⟨ret_int HR.out.symm, gb_new G3.out G4.out (fun q e => by cases e; omega)⟩
  · have hkl' : ((k : Int) != (lst.length : Int)) = true := by simp; omega
    have HR := Lib.hid (show pr = 26 by rw [HRR.out, show r2 = lst.drop k from HD.out.symm, if_neg (by simp; omega)])
    clear hkl
    go_wp2
    go_ret
    exact ⟨ret_int HR.out.symm, gb_new G3.out G4.out (fun q e => by cases e; omega)⟩
end Go.Proofs.Ytcealhikmbchoaa
