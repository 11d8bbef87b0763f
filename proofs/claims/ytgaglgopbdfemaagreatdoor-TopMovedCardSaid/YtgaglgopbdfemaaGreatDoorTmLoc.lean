/- Loc -/
import Derived.Test.YtgaglgopbdfemaaGreatDoorTmInvA
import Derived.Test.YtgaglgopbdfemaaGreatDoorTmRun
namespace Go.Proofs.YtgaglgopbdfemaaGreatDoor
set_option linter.all false
open Go.RowKit Rg
/-- A box more, of what Locate returns. -/
def Loc.moreP (y : Loc) (i : Hi) : Loc :=
  if i.c < y.m then ⟨y.px, y.py, y.pz, y.t, y.m, min y.l i.c, huL (bP y.a0 y.a1 y.a2 y.a3 y.a4 y.a5 && bP i.b.a i.b.b i.b.c i.b.d i.b.e i.b.f) y.a0 i.b.a, huL (bP y.a0 y.a1 y.a2 y.a3 y.a4 y.a5 && bP i.b.a i.b.b i.b.c i.b.d i.b.e i.b.f) y.a1 i.b.b, huL (bP y.a0 y.a1 y.a2 y.a3 y.a4 y.a5 && bP i.b.a i.b.b i.b.c i.b.d i.b.e i.b.f) y.a2 i.b.c, huH (bP y.a0 y.a1 y.a2 y.a3 y.a4 y.a5 && bP i.b.a i.b.b i.b.c i.b.d i.b.e i.b.f) y.a3 i.b.d, huH (bP y.a0 y.a1 y.a2 y.a3 y.a4 y.a5 && bP i.b.a i.b.b i.b.c i.b.d i.b.e i.b.f) y.a4 i.b.e, huH (bP y.a0 y.a1 y.a2 y.a3 y.a4 y.a5 && bP i.b.a i.b.b i.b.c i.b.d i.b.e i.b.f) y.a5 i.b.f⟩ else ⟨y.px, y.py, y.pz, y.t, y.m, min y.l i.c, y.a0, y.a1, y.a2, y.a3, y.a4, y.a5⟩
def Ps.fin (s : Ps) : Nat → Loc
  | 0 => ⟨s.x.px, s.x.py, s.x.pz, s.x.t, s.x.m, s.x.m, s.x.px, s.x.py, s.x.pz, s.x.px, s.x.py, s.x.pz⟩
  | k + 1 => (s.fin k).moreP (hiAt s.h k)
def locP (P : Prob) (tol : Int) : Loc × Int :=
  if valE P ≠ 0 then (loc0, valE P) else if tol < 0 then (loc0, 2) else
  match Ps.run P tol 3000 (Ps.start P) with
  | none => (loc0, 25)
  | some s => (s.fin s.h.length, 0)
theorem LsAt.far {P : Prob} {vl vh vp v : Value} {S B X : Nat} {h : List Hi} {num tk : Int} {fd : Bool} {x : Loc} {u u' : World} (a : LsAt P vl vh vp S B h num tk fd x v u) (hg : u.grownBy u' (some X)) (h1 : S < X) (h2 : some X ≠ v.ownBlock) : LsAt P vl vh vp S B h num tk fd x v u' :=
  ⟨⟨block_keptp hg a.q.s (by omega), a.q.hv, World.ownsRow.kept a.q.row hg (by
      cases e : v.ownBlock with
      | none => exact .inl rfl
      | some k => exact .inr (fun e2 => h2 (by rw [e, ← e2]))), a.q.lt, Nat.le_trans a.q.le hg.size⟩,
    ⟨a.pi.l.later hg (fun b off len cap e hl => by have := a.old _ (.inl rfl) b off len cap e hl; simp; omega), a.pi.h.later hg (fun b off len cap e hl => by have := a.old _ (.inr (.inl rfl)) b off len cap e hl; simp; omega), a.pi.p.draw hg (fun b off len cap e hl => by have := a.old _ (.inr (.inr rfl)) b off len cap e hl; omega)⟩, a.old⟩
structure LcAt (P : Prob) (vl vh vp : Value) (w : World) (S B X : Nat) (s : Ps) (v : Value) (y : Loc) (u : World) : Prop where
  r : u.heap[w.heap.size + 1]? = some (.cells #[.int .i64 0, .int .i64 0, .int .i64 0, .int .i64 0, .int .i64 0, .int .i64 0, .int .i64 0, .int .i64 0, .int .i64 0, .int .i64 0, .int .i64 0, .int .i64 0] 42 (0, 0))
  a : PsIn P vl vh vp S B s v u
  x : u.heap[X]? = some (.cells y.val 42 (0, 0))
  ne : S < X ∧ some X ≠ v.ownBlock ∧ w.heap.size + 1 < X
  g : w.grownBy u none
section
variable {P : Prob} {vl vh vp v : Value} {w : World} {S B X : Nat} {s : Ps} {y y' : Loc} {u u' : World}
theorem LcAt.keep (c : LcAt P vl vh vp w S B X s v y u) (hg : u.grownBy u' none) : LcAt P vl vh vp w S B X s v y u' := ⟨block_kept hg c.r rfl, c.a.keep hg, block_kept hg c.x rfl, c.ne, gb_trans c.g hg⟩
theorem LcAt.put (c : LcAt P vl vh vp w S B X s v y u) (hx : u'.heap[X]? = some (.cells y'.val 42 (0, 0))) (hg : u.grownBy u' (some X)) : LcAt P vl vh vp w S B X s v y' u' := by
  have h := c.ne
  exact ⟨block_keptp hg c.r (by omega), c.a.far hg h.1 h.2.1, hx, h, gb_new c.g hg (fun q hq => by simp at hq; omega)⟩
theorem Loc.sets1 (x : Loc) (a : Int) : x.val.set! 5 (.int .i64 a) = Loc.val ⟨x.px, x.py, x.pz, x.t, x.m, a, x.a0, x.a1, x.a2, x.a3, x.a4, x.a5⟩ := by kernel_rfl
theorem Loc.sets6 (x : Loc) (b c d e f h : Int) : (((((x.val.set! 6 (.int .i64 b)).set! 7 (.int .i64 c)).set! 8 (.int .i64 d)).set! 9 (.int .i64 e)).set! 10 (.int .i64 f)).set! 11 (.int .i64 h) = Loc.val ⟨x.px, x.py, x.pz, x.t, x.m, x.l, b, c, d, e, f, h⟩ := by kernel_rfl
theorem LcAt.one (h : LcAt P vl vh vp w S B X s v y u) (a : Int) : LcAt P vl vh vp w S B X s v ⟨y.px, y.py, y.pz, y.t, y.m, a, y.a0, y.a1, y.a2, y.a3, y.a4, y.a5⟩ (u.setCell ⟨X, 5, none⟩ (.int .i64 a)) := by
  refine h.put ?_ (gb_setCell (gb_refl _ _) (.inr rfl) _)
  have hb := set_block h.x 5 (.int .i64 a)
  rw [Loc.sets1] at hb
  exact hb
theorem LcAt.six (h : LcAt P vl vh vp w S B X s v y u) (b c d e f j : Int) : LcAt P vl vh vp w S B X s v ⟨y.px, y.py, y.pz, y.t, y.m, y.l, b, c, d, e, f, j⟩ ((((((u.setCell ⟨X, 6, none⟩ (.int .i64 b)).setCell ⟨X, 7, none⟩ (.int .i64 c)).setCell ⟨X, 8, none⟩ (.int .i64 d)).setCell ⟨X, 9, none⟩ (.int .i64 e)).setCell ⟨X, 10, none⟩ (.int .i64 f)).setCell ⟨X, 11, none⟩ (.int .i64 j)) := by
  refine h.put ?_ (by repeat (first | refine gb_setCell ?_ (.inr rfl) _ | exact gb_refl _ _))
  have hb := set_block (set_block (set_block (set_block (set_block (set_block h.x 6 (.int .i64 b)) 7 (.int .i64 c)) 8 (.int .i64 d)) 9 (.int .i64 e)) 10 (.int .i64 f)) 11 (.int .i64 j)
  rw [Loc.sets6] at hb
  exact hb
end
set_option maxRecDepth 100000 in
set_option maxHeartbeats 8000000 in
theorem locate_any (P : Prob) (vl vh vp : Value) (tol : Int) (w : World) (hi : ProbIn P vl vh vp w) (hbig : P.phs.length ≤ 1000000000) :
    Calls Tryz.prog 10 #[.agg (P.val vl vh vp), .int .i64 tol] w fun e w' => e = .returned (.tuple #[.agg (locP P tol).1.val, .int .i64 (locP P tol).2]) ∧ w.grownBy w' none := by
  have RUN := Lib.hid (fun (u : World) (h : w.grownBy u none) => run_any P vl vh vp tol u (hi.after h) hbig)
  obtain ⟨pa, pc, rfl⟩ := hi.p.slice
  obtain ⟨la, ln, lc, rfl⟩ := sl_slice hi.l
  obtain ⟨ha, hn, hc, rfl⟩ := sl_slice hi.h
  clear hi hbig
  generalize hpr : locP P tol = pr
  have HP := Lib.hid hpr.symm
  clear hpr
  unfold locP at HP
  generalize hPP : P = P0 at *
  obtain ⟨x0, y0, z0, x1, y1, z1, step, ls, hs, phs, cap⟩ := P
  generalize hpn : phs.length = pn at *
  have hpn0 : P0.phs.length = pn := by rw [← hPP]; exact hpn
  rw [hpn0] at RUN ⊢
  have hPV : Prob.val P0 (.slice la ln lc) (.slice ha hn hc) (.slice pa pn pc) = #[.int .i64 x0, .int .i64 y0, .int .i64 z0, .int .i64 x1, .int .i64 y1, .int .i64 z1, .int .i64 step, .slice la ln lc, .slice ha hn hc, .slice pa pn pc, .int .i64 cap] := by rw [← hPP]; rfl
  rw [hPV] at RUN ⊢
  clear hPP hpn hpn0
  have hg0 := gb_alloc (gb_alloc (gb_refl w none) (.cells #[.int .i64 x0, .int .i64 y0, .int .i64 z0, .int .i64 x1, .int .i64 y1, .int .i64 z1, .int .i64 step, .slice la ln lc, .slice ha hn hc, .slice pa pn pc, .int .i64 cap] 33)) (.cells #[.int .i64 0, .int .i64 0, .int .i64 0, .int .i64 0, .int .i64 0, .int .i64 0, .int .i64 0, .int .i64 0, .int .i64 0, .int .i64 0, .int .i64 0, .int .i64 0] 42)
  have K0 : Hid (((w.alloc (.cells #[.int .i64 x0, .int .i64 y0, .int .i64 z0, .int .i64 x1, .int .i64 y1, .int .i64 z1, .int .i64 step, .slice la ln lc, .slice ha hn hc, .slice pa pn pc, .int .i64 cap] 33)).alloc (.cells #[.int .i64 0, .int .i64 0, .int .i64 0, .int .i64 0, .int .i64 0, .int .i64 0, .int .i64 0, .int .i64 0, .int .i64 0, .int .i64 0, .int .i64 0, .int .i64 0] 42)).heap[w.heap.size]? = some (.cells #[.int .i64 x0, .int .i64 y0, .int .i64 z0, .int .i64 x1, .int .i64 y1, .int .i64 z1, .int .i64 step, .slice la ln lc, .slice ha hn hc, .slice pa pn pc, .int .i64 cap] 33 (0, 0))) := Lib.hid (by rw [heap_alloc_old _ _ (by simp), heap_alloc_new])
  have K1 : Hid (((w.alloc (.cells #[.int .i64 x0, .int .i64 y0, .int .i64 z0, .int .i64 x1, .int .i64 y1, .int .i64 z1, .int .i64 step, .slice la ln lc, .slice ha hn hc, .slice pa pn pc, .int .i64 cap] 33)).alloc (.cells #[.int .i64 0, .int .i64 0, .int .i64 0, .int .i64 0, .int .i64 0, .int .i64 0, .int .i64 0, .int .i64 0, .int .i64 0, .int .i64 0, .int .i64 0, .int .i64 0] 42)).heap[w.heap.size + 1]? = some (.cells #[.int .i64 0, .int .i64 0, .int .i64 0, .int .i64 0, .int .i64 0, .int .i64 0, .int .i64 0, .int .i64 0, .int .i64 0, .int .i64 0, .int .i64 0, .int .i64 0] 42 (0, 0))) := Lib.hid (by simpa using heap_alloc_new (w.alloc _) (.cells #[.int .i64 0, .int .i64 0, .int .i64 0, .int .i64 0, .int .i64 0, .int .i64 0, .int .i64 0, .int .i64 0, .int .i64 0, .int .i64 0, .int .i64 0, .int .i64 0] 42))
  have G0 := Lib.hid hg0
  clear hg0
  obtain ⟨e0_, e1_, e2_, e3_, e4_, e5_, e6_, e7_, e8_, e9_, e10_⟩ := cells11 K0.out
  go_enter Tryz.func10, Tryz.ntmps10
  go_wp2_with fail
  generalize ((w.alloc (.cells #[.int .i64 x0, .int .i64 y0, .int .i64 z0, .int .i64 x1, .int .i64 y1, .int .i64 z1, .int .i64 step, .slice la ln lc, .slice ha hn hc, .slice pa pn pc, .int .i64 cap] 33)).alloc (.cells #[.int .i64 0, .int .i64 0, .int .i64 0, .int .i64 0, .int .i64 0, .int .i64 0, .int .i64 0, .int .i64 0, .int .i64 0, .int .i64 0, .int .i64 0, .int .i64 0] 42)) = w1 at *
  (with_reducible refine (RUN.out w1 G0.out).mono ?_)
  rintro r w2 ⟨hg, hro⟩
  clear e0_ e1_ e2_ e3_ e4_ e5_ e6_ e7_ e8_ e9_ e10_
  have R2 := Lib.hid (block_kept hg K1.out rfl); have G2 := Lib.hid (gb_trans G0.out hg)
  have hsz2 := block_lt' R2.out
  clear hg K0 K1 G0 RUN
  rcases hro with ⟨⟨c, hc0, rfl, hce⟩, hno⟩ | ⟨hv0, ht0, S, B, s, v, rfl, hrun, hlen, hain⟩
  · have HR : Hid (pr = (loc0, c)) := Lib.hid (by
      rw [HP.out, hce]
      by_cases h1 : valE P0 = 0
      · by_cases h2 : tol < 0
        · simp [h1, h2]
        · simp [h1, h2, hno h1 h2]
      · simp [h1])
    have hc' : (c == 0) = false := by simpa using hc0
    clear hce hno hc0
    have HN := Lib.hid (setRow_at (cs := #[.int .i64 0, .int .i64 0, .int .i64 0, .int .i64 0, .int .i64 0, .int .i64 0, .int .i64 0, .int .i64 0, .int .i64 0, .int .i64 0, .int .i64 0, .int .i64 0]) R2.out)
    have HGE := Lib.hid (gb_setRow (cs := #[.int .i64 0, .int .i64 0, .int .i64 0, .int .i64 0, .int .i64 0, .int .i64 0, .int .i64 0, .int .i64 0, .int .i64 0, .int .i64 0, .int .i64 0, .int .i64 0]) G2.out (g := w.heap.size + 1) (.inl (by omega)))
    go_wp2_with (with_reducible refine wpList_store_row rfl _ _ _ rfl (w.heap.size + 1) #[.int .i64 0, .int .i64 0, .int .i64 0, .int .i64 0, .int .i64 0, .int .i64 0, .int .i64 0, .int .i64 0, .int .i64 0, .int .i64 0, .int .i64 0, .int .i64 0] rfl rfl _ _ R2.out (by kernel_rfl) rfl (by simp [Value.oneCell']) ?_)
    obtain ⟨d0_, d1_, d2_, d3_, d4_, d5_, d6_, d7_, d8_, d9_, d10_, d11_⟩ := cells12 HN.out
    exact bodyPost_ret (v := .tuple #[.agg #[.int .i64 0, .int .i64 0, .int .i64 0, .int .i64 0, .int .i64 0, .int .i64 0, .int .i64 0, .int .i64 0, .int .i64 0, .int .i64 0, .int .i64 0, .int .i64 0], .int .i64 c]) (by simp [results, Tryz.results10, go_sem, d0_, d1_, d2_, d3_, d4_, d5_, d6_, d7_, d8_, d9_, d10_, d11_]) rfl ⟨by rw [HR.out]; rfl, HGE.out⟩
  have HPR : Hid (pr = (s.fin s.h.length, 0)) := Lib.hid (by rw [HP.out, if_neg (by simpa using hv0), if_neg ht0, hrun])
  clear HP hv0 ht0 hrun
  have A2 := Lib.hid hain
  have HS := Lib.hid hain.q.s
  have hCS : csS P0 (.slice la ln lc) (.slice ha hn hc) (.slice pa pn pc) v s.num s.tk s.fd s.x = #[.int .i64 P0.x0, .int .i64 P0.y0, .int .i64 P0.z0, .int .i64 P0.x1, .int .i64 P0.y1, .int .i64 P0.z1, .int .i64 P0.step, .slice la ln lc, .slice ha hn hc, .slice pa pn pc, .int .i64 P0.cap, v, .int .i64 s.num, .int .i64 s.tk, .bool s.fd, .int .i64 s.x.px, .int .i64 s.x.py, .int .i64 s.x.pz, .int .i64 s.x.t, .int .i64 s.x.m, .int .i64 s.x.l, .int .i64 s.x.a0, .int .i64 s.x.a1, .int .i64 s.x.a2, .int .i64 s.x.a3, .int .i64 s.x.a4, .int .i64 s.x.a5] := rfl
  rw [hCS] at HS
  have s15_ := cell_of HS.out 15 _ rfl; have s16_ := cell_of HS.out 16 _ rfl; have s17_ := cell_of HS.out 17 _ rfl; have s18_ := cell_of HS.out 18 _ rfl; have s19_ := cell_of HS.out 19 _ rfl; have s20_ := cell_of HS.out 20 _ rfl; have s21_ := cell_of HS.out 21 _ rfl; have s22_ := cell_of HS.out 22 _ rfl; have s23_ := cell_of HS.out 23 _ rfl; have s24_ := cell_of HS.out 24 _ rfl; have s25_ := cell_of HS.out 25 _ rfl; have s26_ := cell_of HS.out 26 _ rfl
  have hSl := block_lt' HS.out
  have hgX : w2.grownBy (w2.alloc (.cells #[.int .i64 s.x.px, .int .i64 s.x.py, .int .i64 s.x.pz, .int .i64 s.x.t, .int .i64 s.x.m, .int .i64 s.x.l, .int .i64 s.x.a0, .int .i64 s.x.a1, .int .i64 s.x.a2, .int .i64 s.x.a3, .int .i64 s.x.a4, .int .i64 s.x.a5] 42)) none := gb_alloc (gb_refl _ _) _
  have C3 : Hid (LcAt P0 (.slice la ln lc) (.slice ha hn hc) (.slice pa pn pc) w S B w2.heap.size s v s.x (w2.alloc (.cells #[.int .i64 s.x.px, .int .i64 s.x.py, .int .i64 s.x.pz, .int .i64 s.x.t, .int .i64 s.x.m, .int .i64 s.x.l, .int .i64 s.x.a0, .int .i64 s.x.a1, .int .i64 s.x.a2, .int .i64 s.x.a3, .int .i64 s.x.a4, .int .i64 s.x.a5] 42))) := Lib.hid ⟨block_kept hgX R2.out rfl, hain.keep hgX, heap_alloc_new w2 (.cells #[.int .i64 s.x.px, .int .i64 s.x.py, .int .i64 s.x.pz, .int .i64 s.x.t, .int .i64 s.x.m, .int .i64 s.x.l, .int .i64 s.x.a0, .int .i64 s.x.a1, .int .i64 s.x.a2, .int .i64 s.x.a3, .int .i64 s.x.a4, .int .i64 s.x.a5] 42), ⟨hSl, fun e => by have := (hain.q.old _ e.symm).2; omega, hsz2⟩, gb_trans G2.out hgX⟩
  clear hgX hain
  go_upto_region 5 with fail
  clear HS hSl A2 R2 G2 s15_ s16_ s17_ s18_ s19_ s20_ s21_ s22_ s23_ s24_ s25_ s26_
  generalize w2.alloc (.cells #[.int .i64 s.x.px, .int .i64 s.x.py, .int .i64 s.x.pz, .int .i64 s.x.t, .int .i64 s.x.m, .int .i64 s.x.l, .int .i64 s.x.a0, .int .i64 s.x.a1, .int .i64 s.x.a2, .int .i64 s.x.a3, .int .i64 s.x.a4, .int .i64 s.x.a5] 42) = w20 at *
  generalize w2.heap.size = X at *
  obtain ⟨m0_, m1_, m2_, m3_, m4_, m5_, m6_, m7_, m8_, m9_, m10_, m11_⟩ := cells12 (show w20.heap[X]? = some (.cells #[.int .i64 s.x.px, .int .i64 s.x.py, .int .i64 s.x.pz, .int .i64 s.x.t, .int .i64 s.x.m, .int .i64 s.x.l, .int .i64 s.x.a0, .int .i64 s.x.a1, .int .i64 s.x.a2, .int .i64 s.x.a3, .int .i64 s.x.a4, .int .i64 s.x.a5] 42 (0, 0)) from C3.out.x)
  have f5_ := frozen3 C3.out.x 5; have f6_ := frozen3 C3.out.x 6; have f7_ := frozen3 C3.out.x 7; have f8_ := frozen3 C3.out.x 8; have f9_ := frozen3 C3.out.x 9; have f10_ := frozen3 C3.out.x 10; have f11_ := frozen3 C3.out.x 11
  go_upto_region 6 with fail
  have C4 : Hid (LcAt P0 (.slice la ln lc) (.slice ha hn hc) (.slice pa pn pc) w S B X s v (s.fin 0) (((((((w20.setCell ⟨X, 5, none⟩ (.int .i64 s.x.m)).setCell ⟨X, 6, none⟩ (.int .i64 s.x.px)).setCell ⟨X, 7, none⟩ (.int .i64 s.x.py)).setCell ⟨X, 8, none⟩ (.int .i64 s.x.pz)).setCell ⟨X, 9, none⟩ (.int .i64 s.x.px)).setCell ⟨X, 10, none⟩ (.int .i64 s.x.py)).setCell ⟨X, 11, none⟩ (.int .i64 s.x.pz))) := Lib.hid ((C3.out.one s.x.m).six s.x.px s.x.py s.x.pz s.x.px s.x.py s.x.pz)
  clear C3 m0_ m1_ m2_ m3_ m4_ m5_ m6_ m7_ m8_ m9_ m10_ m11_ f5_ f6_ f7_ f8_ f9_ f10_ f11_
  generalize (((((((w20.setCell ⟨X, 5, none⟩ (.int .i64 s.x.m)).setCell ⟨X, 6, none⟩ (.int .i64 s.x.px)).setCell ⟨X, 7, none⟩ (.int .i64 s.x.py)).setCell ⟨X, 8, none⟩ (.int .i64 s.x.pz)).setCell ⟨X, 9, none⟩ (.int .i64 s.x.px)).setCell ⟨X, 10, none⟩ (.int .i64 s.x.py)).setCell ⟨X, 11, none⟩ (.int .i64 s.x.pz)) = w21 at *
  obtain ⟨va, vcp, rfl⟩ := owns_slice C4.out.a.q.row
  have HS := Lib.hid C4.out.a.q.s
  have hCS : csS P0 (.slice la ln lc) (.slice ha hn hc) (.slice pa pn pc) (.slice va s.h.length vcp) s.num s.tk s.fd s.x = #[.int .i64 P0.x0, .int .i64 P0.y0, .int .i64 P0.z0, .int .i64 P0.x1, .int .i64 P0.y1, .int .i64 P0.z1, .int .i64 P0.step, .slice la ln lc, .slice ha hn hc, .slice pa pn pc, .int .i64 P0.cap, .slice va s.h.length vcp, .int .i64 s.num, .int .i64 s.tk, .bool s.fd, .int .i64 s.x.px, .int .i64 s.x.py, .int .i64 s.x.pz, .int .i64 s.x.t, .int .i64 s.x.m, .int .i64 s.x.l, .int .i64 s.x.a0, .int .i64 s.x.a1, .int .i64 s.x.a2, .int .i64 s.x.a3, .int .i64 s.x.a4, .int .i64 s.x.a5] := rfl
  rw [hCS] at HS
  have s11_ := cell_of HS.out 11 _ rfl
  clear HS
  go_wp2_with fail
  clear s11_
  go_loopg [39] s.h.length (fun gk i wr => ∃ k : Nat, k + gk = s.h.length ∧ i = .int .i64 k ∧ LcAt P0 (.slice la ln lc) (.slice ha hn hc) (.slice pa pn pc) w S B X s (.slice va s.h.length vcp) (s.fin k) wr)
  case atStart => exact ⟨0, by omega, rfl, C4.out⟩
  case round =>
    obtain ⟨k, hk, rfl, hC⟩ := hrel
    have CK := Lib.hid hC
    clear hC C4
    by_cases hlt : k < s.h.length
    rotate_left
    · obtain rfl : k = s.h.length := by omega
      have RR := Lib.hid CK.out.r
      obtain ⟨fx, hfx⟩ : ∃ y, y = s.fin s.h.length := ⟨_, rfl⟩
      rw [← hfx] at CK HPR
      clear hfx
      obtain ⟨m0_, m1_, m2_, m3_, m4_, m5_, m6_, m7_, m8_, m9_, m10_, m11_⟩ := cells12 (show wr.heap[X]? = some (.cells #[.int .i64 fx.px, .int .i64 fx.py, .int .i64 fx.pz, .int .i64 fx.t, .int .i64 fx.m, .int .i64 fx.l, .int .i64 fx.a0, .int .i64 fx.a1, .int .i64 fx.a2, .int .i64 fx.a3, .int .i64 fx.a4, .int .i64 fx.a5] 42 (0, 0)) from CK.out.x)
      have HN := Lib.hid (setRow_at (cs := #[.int .i64 fx.px, .int .i64 fx.py, .int .i64 fx.pz, .int .i64 fx.t, .int .i64 fx.m, .int .i64 fx.l, .int .i64 fx.a0, .int .i64 fx.a1, .int .i64 fx.a2, .int .i64 fx.a3, .int .i64 fx.a4, .int .i64 fx.a5]) CK.out.r)
      have HGE := Lib.hid (gb_setRow (cs := #[.int .i64 fx.px, .int .i64 fx.py, .int .i64 fx.pz, .int .i64 fx.t, .int .i64 fx.m, .int .i64 fx.l, .int .i64 fx.a0, .int .i64 fx.a1, .int .i64 fx.a2, .int .i64 fx.a3, .int .i64 fx.a4, .int .i64 fx.a5]) CK.out.g (g := w.heap.size + 1) (.inl (by omega)))
      go_wp2_with (with_reducible refine wpList_store_row rfl _ _ _ rfl (w.heap.size + 1) #[.int .i64 fx.px, .int .i64 fx.py, .int .i64 fx.pz, .int .i64 fx.t, .int .i64 fx.m, .int .i64 fx.l, .int .i64 fx.a0, .int .i64 fx.a1, .int .i64 fx.a2, .int .i64 fx.a3, .int .i64 fx.a4, .int .i64 fx.a5] rfl rfl _ _ RR.out (by kernel_rfl) rfl (by simp [Value.oneCell']) ?_)
      obtain ⟨d0_, d1_, d2_, d3_, d4_, d5_, d6_, d7_, d8_, d9_, d10_, d11_⟩ := cells12 HN.out
      exact bodyPost_ret (v := .tuple #[.agg #[.int .i64 fx.px, .int .i64 fx.py, .int .i64 fx.pz, .int .i64 fx.t, .int .i64 fx.m, .int .i64 fx.l, .int .i64 fx.a0, .int .i64 fx.a1, .int .i64 fx.a2, .int .i64 fx.a3, .int .i64 fx.a4, .int .i64 fx.a5], .int .i64 0]) (by simp [results, Tryz.results10, go_sem, d0_, d1_, d2_, d3_, d4_, d5_, d6_, d7_, d8_, d9_, d10_, d11_]) rfl ⟨by rw [HPR.out]; rfl, HGE.out⟩
    obtain ⟨q, cp, he, hql, hqB, hcp, hcp2⟩ := CK.out.a.q.row.at (by omega)
    simp only [Value.slice.injEq, true_and] at he
    obtain ⟨rfl, rfl⟩ := he
    have hln : (s.h.length : Int) ≤ 9223372036854775807 := by omega
    have hgk : gk - 1 < gk ∧ k + 1 + (gk - 1) = s.h.length := by omega
    have FS : Hid (s.fin (k + 1) = (s.fin k).moreP (hiAt s.h k)) := Lib.hid rfl
    obtain ⟨i0_, i1_, i2_, i3_, i4_, i5_, i6_, i7_⟩ := CK.out.a.q.row.it k hlt
    generalize s.fin k = y at *
    generalize hiAt s.h k = it_ at *
    have hg5 : wr.grownBy (wr.alloc (.cells #[.int .i64 it_.b.a, .int .i64 it_.b.b, .int .i64 it_.b.c, .int .i64 it_.b.d, .int .i64 it_.b.e, .int .i64 it_.b.f, .int .i64 it_.c, .int .i64 it_.n] 63)) none := gb_alloc (gb_refl _ _) _
    have C5 := Lib.hid (CK.out.keep hg5); have N5 := Lib.hid (heap_alloc_new wr (.cells #[.int .i64 it_.b.a, .int .i64 it_.b.b, .int .i64 it_.b.c, .int .i64 it_.b.d, .int .i64 it_.b.e, .int .i64 it_.b.f, .int .i64 it_.c, .int .i64 it_.n] 63))
    have hXA : X ≠ wr.heap.size := by have := block_lt' CK.out.x; omega
    clear hg5 CK
    go_upto_region 9 with fail
    clear i0_ i1_ i2_ i3_ i4_ i5_ i6_ i7_ hql
    generalize wr.alloc (.cells #[.int .i64 it_.b.a, .int .i64 it_.b.b, .int .i64 it_.b.c, .int .i64 it_.b.d, .int .i64 it_.b.e, .int .i64 it_.b.f, .int .i64 it_.c, .int .i64 it_.n] 63) = w5 at *
    generalize wr.heap.size = A_ at *
    obtain ⟨m0_, m1_, m2_, m3_, m4_, m5_, m6_, m7_, m8_, m9_, m10_, m11_⟩ := cells12 (show w5.heap[X]? = some (.cells #[.int .i64 y.px, .int .i64 y.py, .int .i64 y.pz, .int .i64 y.t, .int .i64 y.m, .int .i64 y.l, .int .i64 y.a0, .int .i64 y.a1, .int .i64 y.a2, .int .i64 y.a3, .int .i64 y.a4, .int .i64 y.a5] 42 (0, 0)) from C5.out.x)
    have f5_ := frozen3 C5.out.x 5
    have n6_ := cell_of N5.out 6 _ rfl
    go_upto_region 10 with fail
    clear m0_ m1_ m2_ m3_ m4_ m5_ m6_ m7_ m8_ m9_ m10_ m11_ f5_ n6_
    have C6 := Lib.hid (C5.out.one (min y.l it_.c))
    have N6 : Hid ((w5.setCell ⟨X, 5, none⟩ (.int .i64 (min y.l it_.c))).heap[A_]? = some (.cells #[.int .i64 it_.b.a, .int .i64 it_.b.b, .int .i64 it_.b.c, .int .i64 it_.b.d, .int .i64 it_.b.e, .int .i64 it_.b.f, .int .i64 it_.c, .int .i64 it_.n] 63 (0, 0))) := Lib.hid (block_keptp (p := X) (gb_setCell (gb_refl _ _) (.inr rfl) _) N5.out (by omega))
    clear C5 N5
    generalize w5.setCell ⟨X, 5, none⟩ (.int .i64 (min y.l it_.c)) = w6 at *
    have m4_ := cell_of (show w6.heap[X]? = some (.cells #[.int .i64 y.px, .int .i64 y.py, .int .i64 y.pz, .int .i64 y.t, .int .i64 y.m, .int .i64 (min y.l it_.c), .int .i64 y.a0, .int .i64 y.a1, .int .i64 y.a2, .int .i64 y.a3, .int .i64 y.a4, .int .i64 y.a5] 42 (0, 0)) from C6.out.x) 4 _ rfl
    have n6_ := cell_of N6.out 6 _ rfl
    by_cases hcm : it_.c < y.m
    rotate_left
    · have hcm' : decide (it_.c < y.m) = false := decide_eq_false hcm
      have HY : Hid (s.fin (k + 1) = ⟨y.px, y.py, y.pz, y.t, y.m, min y.l it_.c, y.a0, y.a1, y.a2, y.a3, y.a4, y.a5⟩) := Lib.hid (by rw [FS.out]; exact if_neg hcm)
      clear hcm
      go_wp2_with fail
      go_roundg (gk - 1)
      case measure => exact hgk.1
      case rel => exact ⟨k + 1, hgk.2, by go_num, by rw [HY.out]; exact C6.out⟩
    have hcm' : decide (it_.c < y.m) = true := decide_eq_true hcm
    have HY : Hid (s.fin (k + 1) = ⟨y.px, y.py, y.pz, y.t, y.m, min y.l it_.c, huL (bP y.a0 y.a1 y.a2 y.a3 y.a4 y.a5 && bP it_.b.a it_.b.b it_.b.c it_.b.d it_.b.e it_.b.f) y.a0 it_.b.a, huL (bP y.a0 y.a1 y.a2 y.a3 y.a4 y.a5 && bP it_.b.a it_.b.b it_.b.c it_.b.d it_.b.e it_.b.f) y.a1 it_.b.b, huL (bP y.a0 y.a1 y.a2 y.a3 y.a4 y.a5 && bP it_.b.a it_.b.b it_.b.c it_.b.d it_.b.e it_.b.f) y.a2 it_.b.c, huH (bP y.a0 y.a1 y.a2 y.a3 y.a4 y.a5 && bP it_.b.a it_.b.b it_.b.c it_.b.d it_.b.e it_.b.f) y.a3 it_.b.d, huH (bP y.a0 y.a1 y.a2 y.a3 y.a4 y.a5 && bP it_.b.a it_.b.b it_.b.c it_.b.d it_.b.e it_.b.f) y.a4 it_.b.e, huH (bP y.a0 y.a1 y.a2 y.a3 y.a4 y.a5 && bP it_.b.a it_.b.b it_.b.c it_.b.d it_.b.e it_.b.f) y.a5 it_.b.f⟩) := Lib.hid (by rw [FS.out]; exact if_pos hcm)
    have HU := Lib.hid (fun u => hull_any y.a0 y.a1 y.a2 y.a3 y.a4 y.a5 it_.b.a it_.b.b it_.b.c it_.b.d it_.b.e it_.b.f u)
    have C7x := C6.out.x
    obtain ⟨m0_, m1_, m2_, m3_, m4_, m5_, m6_, m7_, m8_, m9_, m10_, m11_⟩ := cells12 (show w6.heap[X]? = some (.cells #[.int .i64 y.px, .int .i64 y.py, .int .i64 y.pz, .int .i64 y.t, .int .i64 y.m, .int .i64 (min y.l it_.c), .int .i64 y.a0, .int .i64 y.a1, .int .i64 y.a2, .int .i64 y.a3, .int .i64 y.a4, .int .i64 y.a5] 42 (0, 0)) from C7x)
    have n0_ := cell_of N6.out 0 _ rfl; have n1_ := cell_of N6.out 1 _ rfl; have n2_ := cell_of N6.out 2 _ rfl; have n3_ := cell_of N6.out 3 _ rfl; have n4_ := cell_of N6.out 4 _ rfl; have n5_ := cell_of N6.out 5 _ rfl
    clear hcm C7x FS
    go_wp2_with fail
    (with_reducible refine (HU.out w6).mono ?_)
    rintro e w7 ⟨rfl, hg⟩
    have C7 := Lib.hid (C6.out.keep hg)
    clear hg C6 N6 m0_ m1_ m2_ m3_ m4_ m5_ m6_ m7_ m8_ m9_ m10_ m11_ n0_ n1_ n2_ n3_ n4_ n5_ n6_
    obtain ⟨m0_, m1_, m2_, m3_, m4_, m5_, m6_, m7_, m8_, m9_, m10_, m11_⟩ := cells12 (show w7.heap[X]? = some (.cells #[.int .i64 y.px, .int .i64 y.py, .int .i64 y.pz, .int .i64 y.t, .int .i64 y.m, .int .i64 (min y.l it_.c), .int .i64 y.a0, .int .i64 y.a1, .int .i64 y.a2, .int .i64 y.a3, .int .i64 y.a4, .int .i64 y.a5] 42 (0, 0)) from C7.out.x)
    have f6_ := frozen3 C7.out.x 6; have f7_ := frozen3 C7.out.x 7; have f8_ := frozen3 C7.out.x 8; have f9_ := frozen3 C7.out.x 9; have f10_ := frozen3 C7.out.x 10; have f11_ := frozen3 C7.out.x 11
    clear m0_ m1_ m2_ m3_ m4_ m5_
    go_wp2_with fail
    go_roundg (gk - 1)
    case measure => exact hgk.1
    case rel => exact ⟨k + 1, hgk.2, by go_num, by rw [HY.out]; exact C7.out.six _ _ _ _ _ _⟩
end Go.Proofs.YtgaglgopbdfemaaGreatDoor
