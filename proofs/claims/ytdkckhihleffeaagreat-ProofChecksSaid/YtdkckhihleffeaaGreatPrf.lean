/- proof: proves, correct, asked. -/
import Derived.Test.YtdkckhihleffeaaGreatLit27
namespace Go.Proofs.YtdkckhihleffeaaGreat
set_option linter.all false
open Go.RowKit Rg

/-- A location. -/
structure Loc where
  px : Int
  py : Int
  pz : Int
  t : Int
  m : Int
  l : Int
  a0 : Int
  a1 : Int
  a2 : Int
  a3 : Int
  a4 : Int
  a5 : Int
def Loc.val (x : Loc) : Array Value := #[.int .i64 x.px, .int .i64 x.py, .int .i64 x.pz, .int .i64 x.t, .int .i64 x.m, .int .i64 x.l, .int .i64 x.a0, .int .i64 x.a1, .int .i64 x.a2, .int .i64 x.a3, .int .i64 x.a4, .int .i64 x.a5]
theorem cells12 {w : World} {b : Nat} {v0 v1 v2 v3 v4 v5 v6 v7 v8 v9 v10 v11 : Value} {t : TypeId} {fr : Nat × Nat} (h : w.heap[b]? = some (.cells #[v0, v1, v2, v3, v4, v5, v6, v7, v8, v9, v10, v11] t fr)) :
    w.cell? ⟨b, 0, none⟩ = some v0 ∧ w.cell? ⟨b, 1, none⟩ = some v1 ∧ w.cell? ⟨b, 2, none⟩ = some v2 ∧ w.cell? ⟨b, 3, none⟩ = some v3 ∧ w.cell? ⟨b, 4, none⟩ = some v4 ∧ w.cell? ⟨b, 5, none⟩ = some v5 ∧ w.cell? ⟨b, 6, none⟩ = some v6 ∧ w.cell? ⟨b, 7, none⟩ = some v7 ∧ w.cell? ⟨b, 8, none⟩ = some v8 ∧ w.cell? ⟨b, 9, none⟩ = some v9 ∧ w.cell? ⟨b, 10, none⟩ = some v10 ∧ w.cell? ⟨b, 11, none⟩ = some v11 := by simp [World.cell?, h]
/-- The misfit, and what goes wrong: of a box, .. -/
def bdE (P : Prob) (b0 b1 b2 b3 b4 b5 : Int) : Int := zonesE P b0 b1 b2 b3 b4 b5
def bdC (P : Prob) (b0 b1 b2 b3 b4 b5 : Int) : Int := if zonesE P b0 b1 b2 b3 b4 b5 = 0 then (best P.cap P.phs (zonesL P b0 b1 b2 b3 b4 b5)).2 else 0
theorem bdV_eq (P : Prob) (b0 b1 b2 b3 b4 b5 : Int) : bdV P b0 b1 b2 b3 b4 b5 = .tuple #[.int .i64 (bdC P b0 b1 b2 b3 b4 b5), .int .i64 (bdE P b0 b1 b2 b3 b4 b5)] := by
  unfold bdV bdC bdE; split
  · rename_i h; rw [h]
  · rfl
/-- .. of a point. -/
def atT (P : Prob) (x y z : Int) : Int := if zonesE P x y z x y z = 0 then (best P.cap P.phs (zonesL P x y z x y z)).1 else 0
theorem atV_eq (P : Prob) (x y z : Int) : atV P x y z = .tuple #[.int .i64 (atT P x y z), .int .i64 (bdC P x y z x y z), .int .i64 (bdE P x y z x y z)] := by
  unfold atV atT bdC bdE; split
  · rename_i h; rw [h]
  · rfl
/-- A box proves its part. -/
def prB (P : Prob) (x : Loc) (tol b0 b1 b2 b3 b4 b5 : Int) : Bool :=
  decide (bdE P b0 b1 b2 b3 b4 b5 = 0) && decide (IntKind.i64.wrap (x.m - bdC P b0 b1 b2 b3 b4 b5) ≤ tol) && decide (x.l ≤ bdC P b0 b1 b2 b3 b4 b5) && (decide (x.m ≤ bdC P b0 b1 b2 b3 b4 b5) || wiP b0 b1 b2 b3 b4 b5 x.a0 x.a1 x.a2 x.a3 x.a4 x.a5)

set_option maxRecDepth 100000 in
set_option maxHeartbeats 4000000 in
theorem proves_any (P : Prob) (vl vh vp : Value) (x : Loc) (tol b0 b1 b2 b3 b4 b5 : Int) (w : World) (hi : ProbIn P vl vh vp w) (hbig : P.phs.length ≤ 1000000000) :
    Calls Tryz.prog 36 #[.agg (P.val vl vh vp), .agg x.val, .int .i64 tol, .agg #[.int .i64 b0, .int .i64 b1, .int .i64 b2, .int .i64 b3, .int .i64 b4, .int .i64 b5]] w fun e w' => e = .returned (.bool (prB P x tol b0 b1 b2 b3 b4 b5)) ∧ w.grownBy w' none := by
  have BD := Lib.hid (fun (u : World) (h : w.grownBy u none) => bound_any P vl vh vp b0 b1 b2 b3 b4 b5 u (hi.after h) hbig)
  rw [bdV_eq] at BD
  have WI := Lib.hid (fun u => within_any b0 b1 b2 b3 b4 b5 x.a0 x.a1 x.a2 x.a3 x.a4 x.a5 u)
  obtain ⟨pa, pc, rfl⟩ := hi.p.slice
  obtain ⟨la, ln, lc, rfl⟩ := sl_slice hi.l
  obtain ⟨ha, hn, hc, rfl⟩ := sl_slice hi.h
  generalize hpr : prB P x tol b0 b1 b2 b3 b4 b5 = pr
  have HP := Lib.hid hpr.symm
  clear hpr
  unfold prB at HP
  generalize bdC P b0 b1 b2 b3 b4 b5 = c at *
  generalize bdE P b0 b1 b2 b3 b4 b5 = E at *
  clear hi hbig
  obtain ⟨x0, y0, z0, x1, y1, z1, step, ls, hs, phs, cap⟩ := P
  obtain ⟨px, py, pz, xt, xm, xl, a0, a1, a2, a3, a4, a5⟩ := x
  simp only [Prob.val, Loc.val] at *
  generalize wiP b0 b1 b2 b3 b4 b5 a0 a1 a2 a3 a4 a5 = wi at *
  generalize hwd : IntKind.i64.wrap (xm - c) = wd at *
  generalize phs.length = pn at *
  have hg1 := gb_alloc (gb_refl w none) (.cells #[.int .i64 x0, .int .i64 y0, .int .i64 z0, .int .i64 x1, .int .i64 y1, .int .i64 z1, .int .i64 step, .slice la ln lc, .slice ha hn hc, .slice pa pn pc, .int .i64 cap] 36)
  go_enter Tryz.func36, Tryz.ntmps36
  clear hg1
  have K0 : Hid ((((w.alloc (.cells #[.int .i64 x0, .int .i64 y0, .int .i64 z0, .int .i64 x1, .int .i64 y1, .int .i64 z1, .int .i64 step, .slice la ln lc, .slice ha hn hc, .slice pa pn pc, .int .i64 cap] 36)).alloc (.cells #[.int .i64 px, .int .i64 py, .int .i64 pz, .int .i64 xt, .int .i64 xm, .int .i64 xl, .int .i64 a0, .int .i64 a1, .int .i64 a2, .int .i64 a3, .int .i64 a4, .int .i64 a5] 27)).alloc (.cells #[.int .i64 b0, .int .i64 b1, .int .i64 b2, .int .i64 b3, .int .i64 b4, .int .i64 b5] 25)).heap[w.heap.size]? = some (.cells #[.int .i64 x0, .int .i64 y0, .int .i64 z0, .int .i64 x1, .int .i64 y1, .int .i64 z1, .int .i64 step, .slice la ln lc, .slice ha hn hc, .slice pa pn pc, .int .i64 cap] 36 (0, 0))) := Lib.hid (by rw [heap_alloc_old _ _ (by simp; omega), heap_alloc_old _ _ (by simp), heap_alloc_new])
  have K1 : Hid ((((w.alloc (.cells #[.int .i64 x0, .int .i64 y0, .int .i64 z0, .int .i64 x1, .int .i64 y1, .int .i64 z1, .int .i64 step, .slice la ln lc, .slice ha hn hc, .slice pa pn pc, .int .i64 cap] 36)).alloc (.cells #[.int .i64 px, .int .i64 py, .int .i64 pz, .int .i64 xt, .int .i64 xm, .int .i64 xl, .int .i64 a0, .int .i64 a1, .int .i64 a2, .int .i64 a3, .int .i64 a4, .int .i64 a5] 27)).alloc (.cells #[.int .i64 b0, .int .i64 b1, .int .i64 b2, .int .i64 b3, .int .i64 b4, .int .i64 b5] 25)).heap[w.heap.size + 1]? = some (.cells #[.int .i64 px, .int .i64 py, .int .i64 pz, .int .i64 xt, .int .i64 xm, .int .i64 xl, .int .i64 a0, .int .i64 a1, .int .i64 a2, .int .i64 a3, .int .i64 a4, .int .i64 a5] 27 (0, 0))) := Lib.hid (by rw [heap_alloc_old _ _ (by simp)]; simpa using heap_alloc_new (w.alloc _) _)
  have K2 : Hid ((((w.alloc (.cells #[.int .i64 x0, .int .i64 y0, .int .i64 z0, .int .i64 x1, .int .i64 y1, .int .i64 z1, .int .i64 step, .slice la ln lc, .slice ha hn hc, .slice pa pn pc, .int .i64 cap] 36)).alloc (.cells #[.int .i64 px, .int .i64 py, .int .i64 pz, .int .i64 xt, .int .i64 xm, .int .i64 xl, .int .i64 a0, .int .i64 a1, .int .i64 a2, .int .i64 a3, .int .i64 a4, .int .i64 a5] 27)).alloc (.cells #[.int .i64 b0, .int .i64 b1, .int .i64 b2, .int .i64 b3, .int .i64 b4, .int .i64 b5] 25)).heap[w.heap.size + 2]? = some (.cells #[.int .i64 b0, .int .i64 b1, .int .i64 b2, .int .i64 b3, .int .i64 b4, .int .i64 b5] 25 (0, 0))) := Lib.hid (by simpa using heap_alloc_new ((w.alloc _).alloc _) (.cells #[.int .i64 b0, .int .i64 b1, .int .i64 b2, .int .i64 b3, .int .i64 b4, .int .i64 b5] 25))
  have G0 := Lib.hid (gb_alloc (gb_alloc (gb_alloc (gb_refl w none) (.cells #[.int .i64 x0, .int .i64 y0, .int .i64 z0, .int .i64 x1, .int .i64 y1, .int .i64 z1, .int .i64 step, .slice la ln lc, .slice ha hn hc, .slice pa pn pc, .int .i64 cap] 36)) (.cells #[.int .i64 px, .int .i64 py, .int .i64 pz, .int .i64 xt, .int .i64 xm, .int .i64 xl, .int .i64 a0, .int .i64 a1, .int .i64 a2, .int .i64 a3, .int .i64 a4, .int .i64 a5] 27)) (.cells #[.int .i64 b0, .int .i64 b1, .int .i64 b2, .int .i64 b3, .int .i64 b4, .int .i64 b5] 25))
  obtain ⟨e0_, e1_, e2_, e3_, e4_, e5_, e6_, e7_, e8_, e9_, e10_⟩ := cells11 K0.out
  obtain ⟨c0_, c1_, c2_, c3_, c4_, c5_⟩ := six K2.out
  go_wp2_with fail
  generalize ((w.alloc (.cells #[.int .i64 x0, .int .i64 y0, .int .i64 z0, .int .i64 x1, .int .i64 y1, .int .i64 z1, .int .i64 step, .slice la ln lc, .slice ha hn hc, .slice pa pn pc, .int .i64 cap] 36)).alloc (.cells #[.int .i64 px, .int .i64 py, .int .i64 pz, .int .i64 xt, .int .i64 xm, .int .i64 xl, .int .i64 a0, .int .i64 a1, .int .i64 a2, .int .i64 a3, .int .i64 a4, .int .i64 a5] 27)).alloc (.cells #[.int .i64 b0, .int .i64 b1, .int .i64 b2, .int .i64 b3, .int .i64 b4, .int .i64 b5] 25) = w1 at *
  (with_reducible refine (BD.out w1 G0.out).mono ?_)
  rintro r w2 ⟨rfl, hg⟩
  clear e0_ e1_ e2_ e3_ e4_ e5_ e6_ e7_ e8_ e9_ e10_
  clear c0_ c1_ c2_ c3_ c4_ c5_
  have X2 := Lib.hid (block_kept hg K1.out rfl); have B2 := Lib.hid (block_kept hg K2.out rfl); have G2 := Lib.hid (gb_trans G0.out hg)
  clear hg K0 K1 K2 G0 BD
  obtain ⟨d0_, d1_, d2_, d3_, d4_, d5_, d6_, d7_, d8_, d9_, d10_, d11_⟩ := cells12 X2.out
  obtain ⟨c0_, c1_, c2_, c3_, c4_, c5_⟩ := six B2.out
  by_cases hE : E = 0
  rotate_left
  · have hE' : (E == 0) = false := by simpa using hE
    have HR := Lib.hid (show pr = false by rw [HP.out]; simp [hE])
    clear hE
    go_wp2
    go_ret
    exact ⟨ret_bool HR.out.symm, G2.out⟩
  subst hE
  by_cases h1 : wd ≤ tol
  rotate_left
  · have h1' : decide (wd ≤ tol) = false := decide_eq_false h1
    have HR := Lib.hid (show pr = false by rw [HP.out]; simp [h1])
    clear h1
    go_wp2
    go_ret
    exact ⟨ret_bool HR.out.symm, G2.out⟩
  have h1' : decide (wd ≤ tol) = true := decide_eq_true h1
  by_cases h2 : xl ≤ c
  rotate_left
  · have h2' : decide (xl ≤ c) = false := decide_eq_false h2
    have HR := Lib.hid (show pr = false by rw [HP.out]; simp [h2])
    clear h1 h2
    go_wp2
    go_ret
    exact ⟨ret_bool HR.out.symm, G2.out⟩
  have h2' : decide (xl ≤ c) = true := decide_eq_true h2
  by_cases h3 : xm ≤ c
  · have h3' : decide (xm ≤ c) = true := decide_eq_true h3
    have HR := Lib.hid (show pr = true by rw [HP.out]; simp [h1, h2, h3])
    clear h1 h2 h3
    go_wp2
    go_ret
    exact ⟨ret_bool HR.out.symm, G2.out⟩
  have h3' : decide (xm ≤ c) = false := decide_eq_false h3
  have HR := Lib.hid (show pr = wi by rw [HP.out]; simp [h1, h2, h3])
  clear h1 h2 h3
  go_wp2_with fail
  (with_reducible refine (WI.out w2).mono ?_)
  rintro r w3 ⟨rfl, hg⟩
  have G3 := Lib.hid (gb_trans G2.out hg)
  clear hg
  go_wp2
  go_ret
  exact ⟨ret_bool HR.out.symm, G3.out⟩
end Go.Proofs.YtdkckhihleffeaaGreat
