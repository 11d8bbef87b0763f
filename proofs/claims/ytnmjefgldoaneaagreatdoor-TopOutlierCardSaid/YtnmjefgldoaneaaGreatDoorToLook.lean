/- Look -/
import Derived.Test.YtnmjefgldoaneaaGreatDoorToHeapP
import Derived.Test.YtnmjefgldoaneaaGreatDoorToRefG
namespace Go.Proofs.YtnmjefgldoaneaaGreatDoor
set_option linter.all false
open Go.RowKit Rg
/-- The cells of a search. -/
def csS (P : Prob) (vl vh vp v : Value) (num tk : Int) (fd : Bool) (x : Loc) : Array Value := #[.int .i64 P.x0, .int .i64 P.y0, .int .i64 P.z0, .int .i64 P.x1, .int .i64 P.y1, .int .i64 P.z1, .int .i64 P.step, vl, vh, vp, .int .i64 P.cap, v, .int .i64 num, .int .i64 tk, .bool fd, .int .i64 x.px, .int .i64 x.py, .int .i64 x.pz, .int .i64 x.t, .int .i64 x.m, .int .i64 x.l, .int .i64 x.a0, .int .i64 x.a1, .int .i64 x.a2, .int .i64 x.a3, .int .i64 x.a4, .int .i64 x.a5]
/-- The row is kept in the search, beside a problem that reads well from older memory. -/
structure LsAt (P : Prob) (vl vh vp : Value) (S B : Nat) (h : List Hi) (num tk : Int) (fd : Bool) (x : Loc) (v : Value) (u : World) : Prop where
  q : Qu S B (csS P vl vh vp v num tk fd x) h v u
  pi : ProbIn P vl vh vp u
  old : ∀ y, y = vl ∨ y = vh ∨ y = vp → ∀ b off len cap, y = .slice (some ⟨b, off, none⟩) len cap → 0 < len → b < S
section
variable {P : Prob} {vl vh vp v : Value} {S B : Nat} {h : List Hi} {num tk : Int} {fd : Bool} {x : Loc} {u u' : World}
theorem LsAt.keep (a : LsAt P vl vh vp S B h num tk fd x v u) (hg : u.grownBy u' none) : LsAt P vl vh vp S B h num tk fd x v u' := ⟨a.q.keep hg, a.pi.after hg, a.old⟩
/-- The search's own block turns. -/
theorem LsAt.put {num' tk' : Int} {fd' : Bool} {x' : Loc} (a : LsAt P vl vh vp S B h num tk fd x v u) (hs : u'.heap[S]? = some (.cells (csS P vl vh vp v num' tk' fd' x') 64 (0, 0))) (hg : u.grownBy u' (some S)) : LsAt P vl vh vp S B h num' tk' fd' x' v u' := by
  have hl := a.q.lt
  exact ⟨⟨hs, rfl, World.ownsRow.kept a.q.row hg (by
      cases e : v.ownBlock with
      | none => exact .inl rfl
      | some k => exact .inr (fun e2 => a.q.sne (e.trans e2).symm)), hl, Nat.le_trans a.q.le hg.size⟩,
    ⟨a.pi.l.later hg (fun b off len cap e hl => by have := a.old _ (.inl rfl) b off len cap e hl; simp; omega), a.pi.h.later hg (fun b off len cap e hl => by have := a.old _ (.inr (.inl rfl)) b off len cap e hl; simp; omega), a.pi.p.draw hg (fun b off len cap e hl => by have := a.old _ (.inr (.inr rfl)) b off len cap e hl; omega)⟩, a.old⟩
end
theorem csS_best (P : Prob) (vl vh vp v : Value) (num tk : Int) (fd : Bool) (x y : Loc) : ((((((((((((((csS P vl vh vp v num tk fd x).set! 14 (.bool true)).set! 15 (.int .i64 y.px)).set! 16 (.int .i64 y.py)).set! 17 (.int .i64 y.pz)).set! 18 (.int .i64 y.t)).set! 19 (.int .i64 y.m)).set! 20 (.int .i64 y.l)).set! 21 (.int .i64 y.a0)).set! 22 (.int .i64 y.a1)).set! 23 (.int .i64 y.a2)).set! 24 (.int .i64 y.a3)).set! 25 (.int .i64 y.a4)).set! 26 (.int .i64 y.a5)) = csS P vl vh vp v num tk true y := by kernel_rfl
theorem LsAt.best {P : Prob} {vl vh vp v : Value} {S B : Nat} {h : List Hi} {num tk : Int} {fd : Bool} {x : Loc} {u : World} (a : LsAt P vl vh vp S B h num tk fd x v u) (y : Loc) : LsAt P vl vh vp S B h num tk true y v (((((((((((((u.setCell ⟨S, 14, none⟩ (.bool true)).setCell ⟨S, 15, none⟩ (.int .i64 y.px)).setCell ⟨S, 16, none⟩ (.int .i64 y.py)).setCell ⟨S, 17, none⟩ (.int .i64 y.pz)).setCell ⟨S, 18, none⟩ (.int .i64 y.t)).setCell ⟨S, 19, none⟩ (.int .i64 y.m)).setCell ⟨S, 20, none⟩ (.int .i64 y.l)).setCell ⟨S, 21, none⟩ (.int .i64 y.a0)).setCell ⟨S, 22, none⟩ (.int .i64 y.a1)).setCell ⟨S, 23, none⟩ (.int .i64 y.a2)).setCell ⟨S, 24, none⟩ (.int .i64 y.a3)).setCell ⟨S, 25, none⟩ (.int .i64 y.a4)).setCell ⟨S, 26, none⟩ (.int .i64 y.a5)) ∧ u.grownBy (((((((((((((u.setCell ⟨S, 14, none⟩ (.bool true)).setCell ⟨S, 15, none⟩ (.int .i64 y.px)).setCell ⟨S, 16, none⟩ (.int .i64 y.py)).setCell ⟨S, 17, none⟩ (.int .i64 y.pz)).setCell ⟨S, 18, none⟩ (.int .i64 y.t)).setCell ⟨S, 19, none⟩ (.int .i64 y.m)).setCell ⟨S, 20, none⟩ (.int .i64 y.l)).setCell ⟨S, 21, none⟩ (.int .i64 y.a0)).setCell ⟨S, 22, none⟩ (.int .i64 y.a1)).setCell ⟨S, 23, none⟩ (.int .i64 y.a2)).setCell ⟨S, 24, none⟩ (.int .i64 y.a3)).setCell ⟨S, 25, none⟩ (.int .i64 y.a4)).setCell ⟨S, 26, none⟩ (.int .i64 y.a5)) (some S) := by
  have hg : u.grownBy (((((((((((((u.setCell ⟨S, 14, none⟩ (.bool true)).setCell ⟨S, 15, none⟩ (.int .i64 y.px)).setCell ⟨S, 16, none⟩ (.int .i64 y.py)).setCell ⟨S, 17, none⟩ (.int .i64 y.pz)).setCell ⟨S, 18, none⟩ (.int .i64 y.t)).setCell ⟨S, 19, none⟩ (.int .i64 y.m)).setCell ⟨S, 20, none⟩ (.int .i64 y.l)).setCell ⟨S, 21, none⟩ (.int .i64 y.a0)).setCell ⟨S, 22, none⟩ (.int .i64 y.a1)).setCell ⟨S, 23, none⟩ (.int .i64 y.a2)).setCell ⟨S, 24, none⟩ (.int .i64 y.a3)).setCell ⟨S, 25, none⟩ (.int .i64 y.a4)).setCell ⟨S, 26, none⟩ (.int .i64 y.a5)) (some S) := by repeat (first | refine gb_setCell ?_ (.inr rfl) _ | exact gb_refl _ _)
  refine ⟨a.put ?_ hg, hg⟩
  have hb := (set_block (set_block (set_block (set_block (set_block (set_block (set_block (set_block (set_block (set_block (set_block (set_block (set_block a.q.s 14 (.bool true)) 15 (.int .i64 y.px)) 16 (.int .i64 y.py)) 17 (.int .i64 y.pz)) 18 (.int .i64 y.t)) 19 (.int .i64 y.m)) 20 (.int .i64 y.l)) 21 (.int .i64 y.a0)) 22 (.int .i64 y.a1)) 23 (.int .i64 y.a2)) 24 (.int .i64 y.a3)) 25 (.int .i64 y.a4)) 26 (.int .i64 y.a5))
  rw [csS_best P vl vh vp v num tk fd x y] at hb
  exact hb
/-- The best point behind a look at a box. -/
def looksP (P : Prob) (fd : Bool) (x : Loc) (b : Bx) : Loc :=
  if lookC P (!fd) x b then ⟨b.c0, b.c1, b.c2, atT P b.c0 b.c1 b.c2, bdC P b.c0 b.c1 b.c2 b.c0 b.c1 b.c2, 0, 0, 0, 0, 0, 0, 0⟩ else x
set_option maxRecDepth 100000 in
set_option maxHeartbeats 8000000 in
theorem look_any (P : Prob) (vl vh vp : Value) (S B : Nat) (h : List Hi) (num tk : Int) (fd : Bool) (x : Loc) (v : Value) (b : Bx) (w : World) (a : LsAt P vl vh vp S B h num tk fd x v w) (hbig : P.phs.length ≤ 1000000000) (hE : bdE P b.c0 b.c1 b.c2 b.c0 b.c1 b.c2 = 0) :
    Calls Tryz.prog 72 #[.pointer (some ⟨S, 0, none⟩), .agg b.val] w fun e w' => e = .returned (.int .i64 0) ∧ LsAt P vl vh vp S B h num tk true (looksP P fd x b) v w' ∧ w.grownBy w' (some S) := by
  have CE := Lib.hid b.center
  have AT := Lib.hid (fun (u : World) (hi : ProbIn P vl vh vp u) => at_any P vl vh vp b.c0 b.c1 b.c2 u hi hbig)
  simp only [atV_eq] at AT
  rw [hE] at AT
  have LC : Hid (lookC P (!fd) x b = (!fd || decide (bdC P b.c0 b.c1 b.c2 b.c0 b.c1 b.c2 < x.m) || (decide (bdC P b.c0 b.c1 b.c2 b.c0 b.c1 b.c2 = x.m) && decide (cmpP b.c0 b.c1 b.c2 x.px x.py x.pz < 0)))) := Lib.hid rfl
  have LK : Hid (looksP P fd x b = if lookC P (!fd) x b then ⟨b.c0, b.c1, b.c2, atT P b.c0 b.c1 b.c2, bdC P b.c0 b.c1 b.c2 b.c0 b.c1 b.c2, 0, 0, 0, 0, 0, 0, 0⟩ else x) := Lib.hid rfl
  obtain ⟨pa, pc, rfl⟩ := a.pi.p.slice
  obtain ⟨la, ln, lc, rfl⟩ := sl_slice a.pi.l
  obtain ⟨ha, hn, hc, rfl⟩ := sl_slice a.pi.h
  have A0 := Lib.hid a
  clear a hE hbig
  generalize lookC P (!fd) x b = lk at *
  generalize looksP P fd x b = x' at *
  generalize atT P b.c0 b.c1 b.c2 = T_ at *
  generalize bdC P b.c0 b.c1 b.c2 b.c0 b.c1 b.c2 = M_ at *
  generalize b.c0 = cx at *
  generalize b.c1 = cy at *
  generalize b.c2 = cz at *
  obtain ⟨b0, b1, b2, b3, b4, b5⟩ := b
  have hBV : Bx.val ⟨b0, b1, b2, b3, b4, b5⟩ = #[.int .i64 b0, .int .i64 b1, .int .i64 b2, .int .i64 b3, .int .i64 b4, .int .i64 b5] := rfl
  rw [hBV] at CE ⊢
  obtain ⟨x0, y0, z0, x1, y1, z1, step, ls, hs, phs, cap⟩ := P
  obtain ⟨px, py, pz, xt, xm, xl, a0, a1, a2, a3, a4, a5⟩ := x
  generalize hpn : phs.length = pn at *
  have hPV : Prob.val ⟨x0, y0, z0, x1, y1, z1, step, ls, hs, phs, cap⟩ (.slice la ln lc) (.slice ha hn hc) (.slice pa pn pc) = #[.int .i64 x0, .int .i64 y0, .int .i64 z0, .int .i64 x1, .int .i64 y1, .int .i64 z1, .int .i64 step, .slice la ln lc, .slice ha hn hc, .slice pa pn pc, .int .i64 cap] := rfl
  have hCS : csS ⟨x0, y0, z0, x1, y1, z1, step, ls, hs, phs, cap⟩ (.slice la ln lc) (.slice ha hn hc) (.slice pa pn pc) v num tk fd ⟨px, py, pz, xt, xm, xl, a0, a1, a2, a3, a4, a5⟩ = #[.int .i64 x0, .int .i64 y0, .int .i64 z0, .int .i64 x1, .int .i64 y1, .int .i64 z1, .int .i64 step, .slice la ln lc, .slice ha hn hc, .slice pa pn pc, .int .i64 cap, v, .int .i64 num, .int .i64 tk, .bool fd, .int .i64 px, .int .i64 py, .int .i64 pz, .int .i64 xt, .int .i64 xm, .int .i64 xl, .int .i64 a0, .int .i64 a1, .int .i64 a2, .int .i64 a3, .int .i64 a4, .int .i64 a5] := rfl
  rw [hPV] at AT
  dsimp only at LC LK
  have hg1 : w.grownBy (w.alloc (.cells #[.int .i64 b0, .int .i64 b1, .int .i64 b2, .int .i64 b3, .int .i64 b4, .int .i64 b5] 28)) none := gb_alloc (gb_refl _ _) _
  have A1 := Lib.hid (A0.out.keep hg1); have G1 := Lib.hid (gb_none (row := some S) hg1)
  obtain ⟨e0_, e1_, e2_, e3_, e4_, e5_⟩ := six (heap_alloc_new w (.cells #[.int .i64 b0, .int .i64 b1, .int .i64 b2, .int .i64 b3, .int .i64 b4, .int .i64 b5] 28))
  clear hg1 A0
  go_enter Tryz.func72, Tryz.ntmps72
  go_wp2_with fail
  clear e0_ e1_ e2_ e3_ e4_ e5_
  generalize w.alloc (.cells #[.int .i64 b0, .int .i64 b1, .int .i64 b2, .int .i64 b3, .int .i64 b4, .int .i64 b5] 28) = w1 at *
  (with_reducible refine (CE.out w1).mono ?_)
  rintro r w2 ⟨rfl, hg⟩
  have hg3 : w1.grownBy (w2.alloc (.cells #[.int .i64 cx, .int .i64 cy, .int .i64 cz] 26)) none := gb_alloc hg _
  have A3 := Lib.hid (A1.out.keep hg3); have G3 := Lib.hid (gb_trans G1.out (gb_none hg3)); have N3 := Lib.hid (heap_alloc_new w2 (.cells #[.int .i64 cx, .int .i64 cy, .int .i64 cz] 26))
  clear hg hg3 A1 G1 CE
  go_wp2_with fail
  generalize w2.alloc (.cells #[.int .i64 cx, .int .i64 cy, .int .i64 cz] 26) = w3 at *
  generalize w2.heap.size = C at *
  have HS := Lib.hid A3.out.q.s
  rw [hCS] at HS
  have s0_ := cell_of HS.out 0 _ rfl; have s1_ := cell_of HS.out 1 _ rfl; have s2_ := cell_of HS.out 2 _ rfl; have s3_ := cell_of HS.out 3 _ rfl; have s4_ := cell_of HS.out 4 _ rfl; have s5_ := cell_of HS.out 5 _ rfl; have s6_ := cell_of HS.out 6 _ rfl; have s7_ := cell_of HS.out 7 _ rfl; have s8_ := cell_of HS.out 8 _ rfl; have s9_ := cell_of HS.out 9 _ rfl; have s10_ := cell_of HS.out 10 _ rfl
  obtain ⟨n0_, n1_, n2_⟩ := cells3 N3.out
  have hSl := block_lt' HS.out; have hCl := block_lt' N3.out
  (refine wp_region_grown (by kernel_rfl) (by kernel_rfl) ?_; (repeat (go_big_quiet_step (first
    | (go_at_call 10; exact Calls.grown_of (AT.out _ (A3.out.pi.after (ever_up _))))))); refine wpQuiet_nil ?_; intro wq hq)
  have A4 := Lib.hid (A3.out.keep hq); have G4 := Lib.hid (gb_trans G3.out (gb_none hq)); have N4 := Lib.hid (block_kept hq N3.out rfl)
  clear hq A3 G3 N3 HS n0_ n1_ n2_ hSl hCl s0_ s1_ s2_ s3_ s4_ s5_ s6_ s7_ s8_ s9_ s10_
  generalize wq = w4 at *
  go_upto_region 5 with fail
  go_cut [56] from 9 (fun t wc => t = .bool lk ∧ w4.grownBy wc none)
  case first =>
    have HS := Lib.hid A4.out.q.s
    rw [hCS] at HS
    have s14_ := cell_of HS.out 14 _ rfl; have s15_ := cell_of HS.out 15 _ rfl; have s16_ := cell_of HS.out 16 _ rfl; have s17_ := cell_of HS.out 17 _ rfl; have s19_ := cell_of HS.out 19 _ rfl
    obtain ⟨n0_, n1_, n2_⟩ := cells3 N4.out
    have hSl := block_lt' HS.out; have hCl := block_lt' N4.out
    cases fd
    · have HL : Hid (lk = true) := Lib.hid (by rw [LC.out]; rfl)
      go_quiet (fail)
      go_wp2
      go_meet
      case rel => exact ⟨by rw [HL.out], gb_drewN (gb_refl _ _) _⟩
    by_cases h1 : M_ < xm
    · have t1_ : decide (M_ < xm) = true := decide_eq_true h1
      have HL : Hid (lk = true) := Lib.hid (by rw [LC.out, t1_]; rfl)
      clear h1
      go_quiet (fail)
      go_wp2
      go_meet
      case rel => exact ⟨by rw [HL.out], gb_drewN (gb_refl _ _) _⟩
    have t1_ : decide (M_ < xm) = false := decide_eq_false h1
    by_cases h2 : M_ = xm
    · have t2_ : (M_ == xm) = true := by simpa using h2
      have HL : Hid (lk = decide (cmpP cx cy cz px py pz < 0)) := Lib.hid (by rw [LC.out, t1_, decide_eq_true h2]; simp)
      have CM := Lib.hid (fun u => compare_any cx cy cz px py pz u)
      clear h1 h2
      generalize cmpP cx cy cz px py pz = cm_ at *
      (refine wp_region_grown (by kernel_rfl) (by kernel_rfl) ?_; (repeat (go_big_quiet_step (first
        | (go_at_call 124; exact Calls.grown_of (CM.out _))))); refine wpQuiet_nil ?_; intro wq hq)
      have HQ := Lib.hid hq
      clear hq
      go_wp2_with fail
      go_meet
      case rel => exact ⟨by rw [HL.out], HQ.out⟩
    · have t2_ : (M_ == xm) = false := by simpa using h2
      have HL : Hid (lk = false) := Lib.hid (by rw [LC.out, t1_, decide_eq_false h2]; rfl)
      clear h1 h2
      go_quiet (fail)
      go_wp2
      go_meet
      case rel => exact ⟨by rw [HL.out], gb_drewN (gb_refl _ _) _⟩
  case rest =>
  obtain ⟨rfl, hg⟩ := hcut
  generalize wc = w5 at *
  have A5 := Lib.hid (A4.out.keep hg); have G5 := Lib.hid (gb_trans G4.out (gb_none hg)); have N5 := Lib.hid (block_kept hg N4.out rfl)
  clear hg A4 G4 N4
  have hfd : lk = false → fd = true := fun e => by
    have := LC.out
    cases fd
    · rw [e] at this; simp at this
    · rfl
  clear LC
  cases lk
  · obtain rfl := hfd rfl
    have HX : Hid (x' = ⟨px, py, pz, xt, xm, xl, a0, a1, a2, a3, a4, a5⟩) := Lib.hid (by rw [LK.out]; rfl)
    go_wp2_with fail
    go_ret
    exact ⟨rfl, by rw [HX.out]; exact A5.out, G5.out⟩
  have HX : Hid (x' = ⟨cx, cy, cz, T_, M_, 0, 0, 0, 0, 0, 0, 0⟩) := Lib.hid (by rw [LK.out]; rfl)
  clear hfd LK
  have HS := Lib.hid A5.out.q.s
  rw [hCS] at HS
  obtain ⟨n0_, n1_, n2_⟩ := cells3 N5.out
  have s14_ := cell_of HS.out 14 _ rfl; have f14_ := frozen3 HS.out 14; have s15_ := cell_of HS.out 15 _ rfl; have f15_ := frozen3 HS.out 15; have s16_ := cell_of HS.out 16 _ rfl; have f16_ := frozen3 HS.out 16; have s17_ := cell_of HS.out 17 _ rfl; have f17_ := frozen3 HS.out 17; have s18_ := cell_of HS.out 18 _ rfl; have f18_ := frozen3 HS.out 18; have s19_ := cell_of HS.out 19 _ rfl; have f19_ := frozen3 HS.out 19; have s20_ := cell_of HS.out 20 _ rfl; have f20_ := frozen3 HS.out 20; have s21_ := cell_of HS.out 21 _ rfl; have f21_ := frozen3 HS.out 21; have s22_ := cell_of HS.out 22 _ rfl; have f22_ := frozen3 HS.out 22; have s23_ := cell_of HS.out 23 _ rfl; have f23_ := frozen3 HS.out 23; have s24_ := cell_of HS.out 24 _ rfl; have f24_ := frozen3 HS.out 24; have s25_ := cell_of HS.out 25 _ rfl; have f25_ := frozen3 HS.out 25; have s26_ := cell_of HS.out 26 _ rfl; have f26_ := frozen3 HS.out 26
  go_wp2_with fail
  go_ret
  exact ⟨rfl, by rw [HX.out]; exact (A5.out.best _).1, gb_trans G5.out (A5.out.best ⟨cx, cy, cz, T_, M_, 0, 0, 0, 0, 0, 0, 0⟩).2⟩
end Go.Proofs.YtnmjefgldoaneaaGreatDoor
