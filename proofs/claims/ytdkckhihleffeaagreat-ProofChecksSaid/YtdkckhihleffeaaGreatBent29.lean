/- Law 29's bent: a location in which one thing is changed. -/
import Derived.Test.YtdkckhihleffeaaGreatBent
import Derived.Test.YtdkckhihleffeaaGreatPrf
import Derived.Test.YtdkckhihleffeaaGreatRefG
import Derived.Test.YtdkckhihleffeaaGreatMisP
namespace Go.Proofs.YtdkckhihleffeaaGreat
set_option linter.all false
open Go.RowKit Rg

/-- Some location is returned; the reader goes on. -/
def LocOut (B p : Nat) (w : World) (e : Ending) (w' : World) : Prop := ∃ y : Loc, e = .returned (.agg y.val) ∧ Src B w' p ∧ w.grownBy w' (some p)
/-- The blocks of the walk. -/
structure BtAt (P : Prob) (vl vh vp : Value) (B p : Nat) (w : World) (y : Loc) (u : World) : Prop where
  q : u.heap[w.heap.size]? = some (.cells (P.val vl vh vp) 36 (0, 0))
  x : u.heap[w.heap.size + 1]? = some (.cells y.val 27 (0, 0))
  r : u.heap[w.heap.size + 1 + 1]? = some (.cells #[.int .i64 0, .int .i64 0, .int .i64 0, .int .i64 0, .int .i64 0, .int .i64 0, .int .i64 0, .int .i64 0, .int .i64 0, .int .i64 0, .int .i64 0, .int .i64 0] 27 (0, 0))
  S : Src B u p
  G : w.grownBy u (some p)
section
variable {P : Prob} {vl vh vp : Value} {B p : Nat} {w : World} {y y' : Loc} {u u' : World}
theorem BtAt.put (h : BtAt P vl vh vp B p w y u) (hp : p < w.heap.size) (hx : u'.heap[w.heap.size + 1]? = some (.cells y'.val 27 (0, 0))) (hg : u.grownBy u' (some (w.heap.size + 1))) : BtAt P vl vh vp B p w y' u' :=
  ⟨block_keptp hg h.q (by omega), hx, block_keptp hg h.r (by omega), h.S.later hg (fun q hq => by simp at hq; have := h.S.lt.1; omega), gb_new' h.G hg (by omega)⟩
theorem BtAt.draw (h : BtAt P vl vh vp B p w y u) (hp : p < w.heap.size) (hg : u.grownBy u' (some p)) (hS : Src B u' p) : BtAt P vl vh vp B p w y u' :=
  ⟨block_keptp hg h.q (by omega), block_keptp hg h.x (by omega), block_keptp hg h.r (by omega), hS, gb_trans h.G hg⟩
theorem BtAt.keep (h : BtAt P vl vh vp B p w y u) (hg : u.grownBy u' none) : BtAt P vl vh vp B p w y u' :=
  ⟨block_kept hg h.q rfl, block_kept hg h.x rfl, block_kept hg h.r rfl, h.S.later (row := none) hg (by simp), gb_trans h.G (gb_none hg)⟩
theorem Loc.put1 (x : Loc) (a : Int) : x.val.set! 3 (.int .i64 a) = Loc.val ⟨x.px, x.py, x.pz, a, x.m, x.l, x.a0, x.a1, x.a2, x.a3, x.a4, x.a5⟩ ∧ x.val.set! 4 (.int .i64 a) = Loc.val ⟨x.px, x.py, x.pz, x.t, a, x.l, x.a0, x.a1, x.a2, x.a3, x.a4, x.a5⟩ ∧ x.val.set! 5 (.int .i64 a) = Loc.val ⟨x.px, x.py, x.pz, x.t, x.m, a, x.a0, x.a1, x.a2, x.a3, x.a4, x.a5⟩ := ⟨by kernel_rfl, by kernel_rfl, by kernel_rfl⟩
theorem Loc.put3 (x : Loc) (a b c : Int) : ((x.val.set! 0 (.int .i64 a)).set! 1 (.int .i64 b)).set! 2 (.int .i64 c) = Loc.val ⟨a, b, c, x.t, x.m, x.l, x.a0, x.a1, x.a2, x.a3, x.a4, x.a5⟩ := by kernel_rfl
theorem Loc.put6 (x : Loc) (b c d e f h : Int) : (((((x.val.set! 6 (.int .i64 b)).set! 7 (.int .i64 c)).set! 8 (.int .i64 d)).set! 9 (.int .i64 e)).set! 10 (.int .i64 f)).set! 11 (.int .i64 h) = Loc.val ⟨x.px, x.py, x.pz, x.t, x.m, x.l, b, c, d, e, f, h⟩ := by kernel_rfl
theorem BtAt.c3 (h : BtAt P vl vh vp B p w y u) (hp : p < w.heap.size) (a : Int) : ∃ y', BtAt P vl vh vp B p w y' (u.setCell ⟨w.heap.size + 1, 3, none⟩ (.int .i64 a)) :=
  ⟨_, h.put hp (by rw [← (Loc.put1 y a).1]; exact set_block h.x 3 _) (gb_setCell (gb_refl _ _) (.inr rfl) _)⟩
theorem BtAt.c4 (h : BtAt P vl vh vp B p w y u) (hp : p < w.heap.size) (a : Int) : ∃ y', BtAt P vl vh vp B p w y' (u.setCell ⟨w.heap.size + 1, 4, none⟩ (.int .i64 a)) :=
  ⟨_, h.put hp (by rw [← (Loc.put1 y a).2.1]; exact set_block h.x 4 _) (gb_setCell (gb_refl _ _) (.inr rfl) _)⟩
theorem BtAt.c5 (h : BtAt P vl vh vp B p w y u) (hp : p < w.heap.size) (a : Int) : ∃ y', BtAt P vl vh vp B p w y' (u.setCell ⟨w.heap.size + 1, 5, none⟩ (.int .i64 a)) :=
  ⟨_, h.put hp (by rw [← (Loc.put1 y a).2.2]; exact set_block h.x 5 _) (gb_setCell (gb_refl _ _) (.inr rfl) _)⟩
theorem BtAt.p3 (h : BtAt P vl vh vp B p w y u) (hp : p < w.heap.size) (a b c : Int) : ∃ y', BtAt P vl vh vp B p w y' (((u.setCell ⟨w.heap.size + 1, 0, none⟩ (.int .i64 a)).setCell ⟨w.heap.size + 1, 1, none⟩ (.int .i64 b)).setCell ⟨w.heap.size + 1, 2, none⟩ (.int .i64 c)) :=
  ⟨_, h.put hp (by rw [← Loc.put3 y a b c]; exact set_block (set_block (set_block h.x 0 _) 1 _) 2 _) (by repeat (first | refine gb_setCell ?_ (.inr rfl) _ | exact gb_refl _ _))⟩
theorem BtAt.p6 (h : BtAt P vl vh vp B p w y u) (hp : p < w.heap.size) (a b c d e f : Int) : ∃ y', BtAt P vl vh vp B p w y' ((((((u.setCell ⟨w.heap.size + 1, 6, none⟩ (.int .i64 a)).setCell ⟨w.heap.size + 1, 7, none⟩ (.int .i64 b)).setCell ⟨w.heap.size + 1, 8, none⟩ (.int .i64 c)).setCell ⟨w.heap.size + 1, 9, none⟩ (.int .i64 d)).setCell ⟨w.heap.size + 1, 10, none⟩ (.int .i64 e)).setCell ⟨w.heap.size + 1, 11, none⟩ (.int .i64 f)) :=
  ⟨_, h.put hp (by rw [← Loc.put6 y a b c d e f]; exact set_block (set_block (set_block (set_block (set_block (set_block h.x 6 _) 7 _) 8 _) 9 _) 10 _) 11 _) (by repeat (first | refine gb_setCell ?_ (.inr rfl) _ | exact gb_refl _ _))⟩
end

set_option maxRecDepth 100000 in
set_option maxHeartbeats 8000000 in
theorem bent29_any (P : Prob) (vl vh vp : Value) (x : Loc) (B p : Nat) (w : World) (hi : ProbIn P vl vh vp w) (ha : Apart p vl ∧ Apart p vh ∧ Apart p vp) (hbig : P.phs.length ≤ 1000000000) (hv : bP P.x0 P.y0 P.z0 P.x1 P.y1 P.z1 = true) (h : Src B w p) :
    Calls Tryz.prog 13 #[.pointer (some ⟨p, 0, none⟩), .agg (P.val vl vh vp), .agg x.val] w (LocOut B p w) := by
  have hp := h.lt.2
  have AT := Lib.hid (fun (x y z : Int) (u : World) (hg : w.grownBy u (some p)) => rat_any P vl vh vp x y z u ⟨hi.l.later hg (fun b off len cap e hl => by have := ha.1 b off len cap e hl; simp; omega), hi.h.later hg (fun b off len cap e hl => by have := ha.2.1 b off len cap e hl; simp; omega), hi.p.draw hg (fun b off len cap e hl => ha.2.2 b off len cap e hl)⟩ hbig)
  simp only [atV_eq] at AT
  obtain ⟨pa, pc, rfl⟩ := hi.p.slice
  obtain ⟨la, ln, lc, rfl⟩ := sl_slice hi.l
  obtain ⟨hha, hn, hc, rfl⟩ := sl_slice hi.h
  obtain ⟨v0, v1, o0, o1, o2⟩ := bP_iff hv
  have i0 := vP_iff v0; have i1 := vP_iff v1
  have hrg : Hid ((-2000000 ≤ P.x0 ∧ P.x0 ≤ P.x1 ∧ P.x1 ≤ 2000000) ∧ (-2000000 ≤ P.y0 ∧ P.y0 ≤ P.y1 ∧ P.y1 ≤ 2000000) ∧ (-2000000 ≤ P.z0 ∧ P.z0 ≤ P.z1 ∧ P.z1 ≤ 2000000)) := Lib.hid (by omega)
  clear v0 v1 o0 o1 o2 i0 i1 hv hi hbig ha
  generalize hP : P = P0 at *
  obtain ⟨x0, y0, z0, x1, y1, z1, step, ls, hs, phs, cap⟩ := P
  obtain ⟨px, py, pz, xt, xm, xl, a0, a1, a2, a3, a4, a5⟩ := x
  subst hP
  generalize hpn : phs.length = pn at *
  have hPV : Prob.val ⟨x0, y0, z0, x1, y1, z1, step, ls, hs, phs, cap⟩ (.slice la ln lc) (.slice hha hn hc) (.slice pa pn pc) = #[.int .i64 x0, .int .i64 y0, .int .i64 z0, .int .i64 x1, .int .i64 y1, .int .i64 z1, .int .i64 step, .slice la ln lc, .slice hha hn hc, .slice pa pn pc, .int .i64 cap] := rfl
  have hXV : Loc.val ⟨px, py, pz, xt, xm, xl, a0, a1, a2, a3, a4, a5⟩ = #[.int .i64 px, .int .i64 py, .int .i64 pz, .int .i64 xt, .int .i64 xm, .int .i64 xl, .int .i64 a0, .int .i64 a1, .int .i64 a2, .int .i64 a3, .int .i64 a4, .int .i64 a5] := rfl
  rw [hPV] at AT
  rw [hPV, hXV]
  have M0 : Hid (BtAt ⟨x0, y0, z0, x1, y1, z1, step, ls, hs, phs, cap⟩ (.slice la ln lc) (.slice hha hn hc) (.slice pa pn pc) B p w ⟨px, py, pz, xt, xm, xl, a0, a1, a2, a3, a4, a5⟩ (((w.alloc (.cells #[.int .i64 x0, .int .i64 y0, .int .i64 z0, .int .i64 x1, .int .i64 y1, .int .i64 z1, .int .i64 step, .slice la ln lc, .slice hha hn hc, .slice pa pn pc, .int .i64 cap] 36)).alloc (.cells #[.int .i64 px, .int .i64 py, .int .i64 pz, .int .i64 xt, .int .i64 xm, .int .i64 xl, .int .i64 a0, .int .i64 a1, .int .i64 a2, .int .i64 a3, .int .i64 a4, .int .i64 a5] 27)).alloc (.cells #[.int .i64 0, .int .i64 0, .int .i64 0, .int .i64 0, .int .i64 0, .int .i64 0, .int .i64 0, .int .i64 0, .int .i64 0, .int .i64 0, .int .i64 0, .int .i64 0] 27))) := Lib.hid (by
    have hg := gb_alloc (gb_alloc (gb_alloc (gb_refl w none) (.cells #[.int .i64 x0, .int .i64 y0, .int .i64 z0, .int .i64 x1, .int .i64 y1, .int .i64 z1, .int .i64 step, .slice la ln lc, .slice hha hn hc, .slice pa pn pc, .int .i64 cap] 36)) (.cells #[.int .i64 px, .int .i64 py, .int .i64 pz, .int .i64 xt, .int .i64 xm, .int .i64 xl, .int .i64 a0, .int .i64 a1, .int .i64 a2, .int .i64 a3, .int .i64 a4, .int .i64 a5] 27)) (.cells #[.int .i64 0, .int .i64 0, .int .i64 0, .int .i64 0, .int .i64 0, .int .i64 0, .int .i64 0, .int .i64 0, .int .i64 0, .int .i64 0, .int .i64 0, .int .i64 0] 27)
    refine ⟨?_, ?_, ?_, h.later (row := none) hg (by simp), gb_none hg⟩
    · rw [heap_alloc_old _ _ (by simp <;> omega), heap_alloc_old _ _ (by simp), heap_alloc_new]; rfl
    · rw [heap_alloc_old _ _ (by simp)]; simpa [Loc.val] using heap_alloc_new (w.alloc _) (.cells #[.int .i64 px, .int .i64 py, .int .i64 pz, .int .i64 xt, .int .i64 xm, .int .i64 xl, .int .i64 a0, .int .i64 a1, .int .i64 a2, .int .i64 a3, .int .i64 a4, .int .i64 a5] 27)
    · simpa using heap_alloc_new ((w.alloc _).alloc _) (.cells #[.int .i64 0, .int .i64 0, .int .i64 0, .int .i64 0, .int .i64 0, .int .i64 0, .int .i64 0, .int .i64 0, .int .i64 0, .int .i64 0, .int .i64 0, .int .i64 0] 27))
  clear h
  go_enter Tryz.func13, Tryz.ntmps13
  go_wp2_with fail
  generalize ((w.alloc _).alloc _).alloc _ = w1 at *
  (with_reducible refine (n_any B w1 p 6 M0.out.S (by omega) (by omega)).mono ?_)
  rintro r w2 ⟨k, rfl, ⟨hk0, hk1⟩, hS, hg⟩
  have M2 := Lib.hid (M0.out.draw hp hg hS)
  clear M0 hg hS
  go_upto_block 0 with fail
  go_cut [] from 9 (fun wc => ∃ y, BtAt ⟨x0, y0, z0, x1, y1, z1, step, ls, hs, phs, cap⟩ (.slice la ln lc) (.slice hha hn hc) (.slice pa pn pc) B p w y wc)
  case rest =>
    obtain ⟨y, hy⟩ := hcut
    have MY := Lib.hid hy
    clear hy
    obtain ⟨px, py, pz, xt, xm, xl, a0, a1, a2, a3, a4, a5⟩ := y
    obtain ⟨d0_, d1_, d2_, d3_, d4_, d5_, d6_, d7_, d8_, d9_, d10_, d11_⟩ := cells12 (show wc.heap[w.heap.size + 1]? = some (.cells #[.int .i64 px, .int .i64 py, .int .i64 pz, .int .i64 xt, .int .i64 xm, .int .i64 xl, .int .i64 a0, .int .i64 a1, .int .i64 a2, .int .i64 a3, .int .i64 a4, .int .i64 a5] 27 (0, 0)) from MY.out.x)
    have RR := Lib.hid MY.out.r
    have HN := Lib.hid (setRow_at (cs := #[.int .i64 px, .int .i64 py, .int .i64 pz, .int .i64 xt, .int .i64 xm, .int .i64 xl, .int .i64 a0, .int .i64 a1, .int .i64 a2, .int .i64 a3, .int .i64 a4, .int .i64 a5]) MY.out.r)
    have HGE : Hid (w.grownBy (wc.setRow (w.heap.size + 1 + 1) #[.int .i64 px, .int .i64 py, .int .i64 pz, .int .i64 xt, .int .i64 xm, .int .i64 xl, .int .i64 a0, .int .i64 a1, .int .i64 a2, .int .i64 a3, .int .i64 a4, .int .i64 a5]) (some p)) := Lib.hid (gb_setRow MY.out.G (.inl (by omega)))
    have HSE : Hid (Src B (wc.setRow (w.heap.size + 1 + 1) #[.int .i64 px, .int .i64 py, .int .i64 pz, .int .i64 xt, .int .i64 xm, .int .i64 xl, .int .i64 a0, .int .i64 a1, .int .i64 a2, .int .i64 a3, .int .i64 a4, .int .i64 a5]) p) := Lib.hid (MY.out.S.later (gb_setRow (gb_refl _ _) (.inr rfl)) (fun q hq => by simp at hq; have := MY.out.S.lt.1; omega))
    go_wp2_with (with_reducible refine wpList_store_row rfl _ _ _ rfl (w.heap.size + 1 + 1) #[.int .i64 px, .int .i64 py, .int .i64 pz, .int .i64 xt, .int .i64 xm, .int .i64 xl, .int .i64 a0, .int .i64 a1, .int .i64 a2, .int .i64 a3, .int .i64 a4, .int .i64 a5] rfl rfl _ _ RR.out (by kernel_rfl) rfl (by simp [Value.oneCell']) ?_)
    obtain ⟨e0_, e1_, e2_, e3_, e4_, e5_, e6_, e7_, e8_, e9_, e10_, e11_⟩ := cells12 HN.out
    exact bodyPost_ret (v := .agg #[.int .i64 px, .int .i64 py, .int .i64 pz, .int .i64 xt, .int .i64 xm, .int .i64 xl, .int .i64 a0, .int .i64 a1, .int .i64 a2, .int .i64 a3, .int .i64 a4, .int .i64 a5]) (by simp [results, Tryz.results13, go_sem, e0_, e1_, e2_, e3_, e4_, e5_, e6_, e7_, e8_, e9_, e10_, e11_]) rfl ⟨⟨px, py, pz, xt, xm, xl, a0, a1, a2, a3, a4, a5⟩, rfl, HSE.out, HGE.out⟩
  case first =>
    have hk : k = 0 ∨ k = 1 ∨ k = 2 ∨ k = 3 ∨ k = 4 ∨ k = 5 := by omega
    clear hk0 hk1
    have HX2 := Lib.hid (show w2.heap[w.heap.size + 1]? = some (.cells #[.int .i64 px, .int .i64 py, .int .i64 pz, .int .i64 xt, .int .i64 xm, .int .i64 xl, .int .i64 a0, .int .i64 a1, .int .i64 a2, .int .i64 a3, .int .i64 a4, .int .i64 a5] 27 (0, 0)) from M2.out.x)
    have HQ2 := Lib.hid M2.out.q
    rw [hPV] at HQ2
    have hxl := block_lt' HX2.out
    rcases hk with rfl | rfl | rfl | rfl | rfl | rfl
    · have e0_ := cell_of HQ2.out 0 _ rfl; have e1_ := cell_of HQ2.out 1 _ rfl; have e2_ := cell_of HQ2.out 2 _ rfl; have e3_ := cell_of HQ2.out 3 _ rfl; have e4_ := cell_of HQ2.out 4 _ rfl; have e5_ := cell_of HQ2.out 5 _ rfl; have e6_ := cell_of HQ2.out 6 _ rfl; have e7_ := cell_of HQ2.out 7 _ rfl; have e8_ := cell_of HQ2.out 8 _ rfl; have e9_ := cell_of HQ2.out 9 _ rfl; have e10_ := cell_of HQ2.out 10 _ rfl
      go_wp2_with fail
      clear e0_ e1_ e2_ e3_ e4_ e5_ e6_ e7_ e8_ e9_ e10_
      (with_reducible refine (point_any B w2 p x0 y0 z0 x1 y1 z1 M2.out.S hrg.out.1 hrg.out.2.1 hrg.out.2.2).mono ?_)
      rintro r w3 ⟨cx, cy, cz, rfl, -, hS, hg⟩
      have M3 := Lib.hid (M2.out.draw hp hg hS)
      clear hg hS M2 HX2 HQ2 hxl
      obtain ⟨d0_, d1_, d2_, d3_, d4_, d5_, d6_, d7_, d8_, d9_, d10_, d11_⟩ := cells12 (show w3.heap[w.heap.size + 1]? = some (.cells #[.int .i64 px, .int .i64 py, .int .i64 pz, .int .i64 xt, .int .i64 xm, .int .i64 xl, .int .i64 a0, .int .i64 a1, .int .i64 a2, .int .i64 a3, .int .i64 a4, .int .i64 a5] 27 (0, 0)) from M3.out.x)
      have g0_ := frozen3 M3.out.x 0; have g1_ := frozen3 M3.out.x 1; have g2_ := frozen3 M3.out.x 2
      clear d3_ d4_ d5_ d6_ d7_ d8_ d9_ d10_ d11_
      go_upto_region 5 with fail
      clear d0_ d1_ d2_ g0_ g1_ g2_
      obtain ⟨y4, h4⟩ := M3.out.p3 hp cx cy cz
      generalize ((w3.setCell ⟨w.heap.size + 1, 0, none⟩ (.int .i64 cx)).setCell ⟨w.heap.size + 1, 1, none⟩ (.int .i64 cy)).setCell ⟨w.heap.size + 1, 2, none⟩ (.int .i64 cz) = w4 at *
      have M4 := Lib.hid h4
      clear h4 M3
      have HQ4 := Lib.hid M4.out.q
      rw [hPV] at HQ4
      obtain ⟨px, py, pz, xt, xm, xl, a0, a1, a2, a3, a4, a5⟩ := y4
      obtain ⟨d0_, d1_, d2_, d3_, d4_, d5_, d6_, d7_, d8_, d9_, d10_, d11_⟩ := cells12 (show w4.heap[w.heap.size + 1]? = some (.cells #[.int .i64 px, .int .i64 py, .int .i64 pz, .int .i64 xt, .int .i64 xm, .int .i64 xl, .int .i64 a0, .int .i64 a1, .int .i64 a2, .int .i64 a3, .int .i64 a4, .int .i64 a5] 27 (0, 0)) from M4.out.x)
      clear d3_ d4_ d5_ d6_ d7_ d8_ d9_ d10_ d11_
      have e0_ := cell_of HQ4.out 0 _ rfl; have e1_ := cell_of HQ4.out 1 _ rfl; have e2_ := cell_of HQ4.out 2 _ rfl; have e3_ := cell_of HQ4.out 3 _ rfl; have e4_ := cell_of HQ4.out 4 _ rfl; have e5_ := cell_of HQ4.out 5 _ rfl; have e6_ := cell_of HQ4.out 6 _ rfl; have e7_ := cell_of HQ4.out 7 _ rfl; have e8_ := cell_of HQ4.out 8 _ rfl; have e9_ := cell_of HQ4.out 9 _ rfl; have e10_ := cell_of HQ4.out 10 _ rfl
      go_wp2_with fail
      clear e0_ e1_ e2_ e3_ e4_ e5_ e6_ e7_ e8_ e9_ e10_
      clear d0_ d1_ d2_ HQ4
      (with_reducible refine (AT.out px py pz w4 M4.out.G).mono ?_)
      rintro r w5 ⟨rfl, hg⟩
      have M5 := Lib.hid (M4.out.keep hg)
      clear hg M4
      obtain ⟨d0_, d1_, d2_, d3_, d4_, d5_, d6_, d7_, d8_, d9_, d10_, d11_⟩ := cells12 (show w5.heap[w.heap.size + 1]? = some (.cells #[.int .i64 px, .int .i64 py, .int .i64 pz, .int .i64 xt, .int .i64 xm, .int .i64 xl, .int .i64 a0, .int .i64 a1, .int .i64 a2, .int .i64 a3, .int .i64 a4, .int .i64 a5] 27 (0, 0)) from M5.out.x)
      have g3_ := frozen3 M5.out.x 3; have g4_ := frozen3 M5.out.x 4
      clear d0_ d1_ d2_ d5_ d6_ d7_ d8_ d9_ d10_ d11_
      go_wp2_with fail
      go_meet
      case rel =>
        obtain ⟨y6, h6⟩ := M5.out.c3 hp (atT ⟨x0, y0, z0, x1, y1, z1, step, ls, hs, phs, cap⟩ px py pz)
        exact h6.c4 hp _
    · obtain ⟨d0_, d1_, d2_, d3_, d4_, d5_, d6_, d7_, d8_, d9_, d10_, d11_⟩ := cells12 HX2.out
      clear d0_ d1_ d2_ d4_ d5_ d6_ d7_ d8_ d9_ d10_ d11_
      go_wp2_with fail
      refine Rg.region (Pulled w2 B p) (Pull p) (fun k => if k = 3 then some (isInt (fun x => 0 ≤ x ∧ x < 3)) else none) (fun _ => false) 0 6 (by kernel_rfl) (by kernel_rfl) (by kernel_rfl) (by kernel_rfl) (by kernel_rfl) (by kernel_rfl) (by kernel_rfl) Pull.size (Pulled.start M2.out.S) (fun hne => ?_)
      have l_ := Pulled.cell (B := B) (p := p) d3_ hxl (by omega)
      (repeat (refine rLexL_quiet (by rfl) (by rfl) (by rfl) (by rfl) ?_; go_big_quiet_step (fail); refine wpQuiet_nil ?_))
      refine rg_draw (fun x => 0 ≤ x ∧ x < 3) 10 #[.pointer (some ⟨p, 0, none⟩), .int .i64 3] rfl rfl (fun _ => by go_simp) (fun u hu _ => n_any B u p 3 hu.2 (by omega) (by omega)) (fun z hz => ?_)
      simp only [Act.put, List.setIfInBounds_toArray, List.set_cons_zero, List.set_cons_succ]
      (repeat (refine rLexL_quiet (by rfl) (by rfl) (by rfl) (by rfl) ?_; go_big_quiet_step (fail); refine wpQuiet_nil ?_))
      rintro wq ⟨hgq, hqs⟩ - -
      have M3 := Lib.hid (M2.out.draw hp hgq hqs)
      clear hgq hqs hne l_ d3_ M2 HX2 HQ2 hxl
      obtain ⟨d0_, d1_, d2_, d3_, d4_, d5_, d6_, d7_, d8_, d9_, d10_, d11_⟩ := cells12 (show wq.heap[w.heap.size + 1]? = some (.cells #[.int .i64 px, .int .i64 py, .int .i64 pz, .int .i64 xt, .int .i64 xm, .int .i64 xl, .int .i64 a0, .int .i64 a1, .int .i64 a2, .int .i64 a3, .int .i64 a4, .int .i64 a5] 27 (0, 0)) from M3.out.x)
      have g3_ := frozen3 M3.out.x 3
      clear d0_ d1_ d2_ d4_ d5_ d6_ d7_ d8_ d9_ d10_ d11_
      go_wp2_with fail
      go_meet
      case rel => exact M3.out.c3 hp _
    · obtain ⟨d0_, d1_, d2_, d3_, d4_, d5_, d6_, d7_, d8_, d9_, d10_, d11_⟩ := cells12 HX2.out
      clear d0_ d1_ d2_ d3_ d5_ d6_ d7_ d8_ d9_ d10_ d11_
      go_wp2_with fail
      refine Rg.region (Pulled w2 B p) (Pull p) (fun k => if k = 3 then some (isInt (fun x => 0 ≤ x ∧ x < 3)) else none) (fun _ => false) 0 6 (by kernel_rfl) (by kernel_rfl) (by kernel_rfl) (by kernel_rfl) (by kernel_rfl) (by kernel_rfl) (by kernel_rfl) Pull.size (Pulled.start M2.out.S) (fun hne => ?_)
      have l_ := Pulled.cell (B := B) (p := p) d4_ hxl (by omega)
      (repeat (refine rLexL_quiet (by rfl) (by rfl) (by rfl) (by rfl) ?_; go_big_quiet_step (fail); refine wpQuiet_nil ?_))
      refine rg_draw (fun x => 0 ≤ x ∧ x < 3) 10 #[.pointer (some ⟨p, 0, none⟩), .int .i64 3] rfl rfl (fun _ => by go_simp) (fun u hu _ => n_any B u p 3 hu.2 (by omega) (by omega)) (fun z hz => ?_)
      simp only [Act.put, List.setIfInBounds_toArray, List.set_cons_zero, List.set_cons_succ]
      (repeat (refine rLexL_quiet (by rfl) (by rfl) (by rfl) (by rfl) ?_; go_big_quiet_step (fail); refine wpQuiet_nil ?_))
      rintro wq ⟨hgq, hqs⟩ - -
      have M3 := Lib.hid (M2.out.draw hp hgq hqs)
      clear hgq hqs hne l_ d4_ M2 HX2 HQ2 hxl
      obtain ⟨d0_, d1_, d2_, d3_, d4_, d5_, d6_, d7_, d8_, d9_, d10_, d11_⟩ := cells12 (show wq.heap[w.heap.size + 1]? = some (.cells #[.int .i64 px, .int .i64 py, .int .i64 pz, .int .i64 xt, .int .i64 xm, .int .i64 xl, .int .i64 a0, .int .i64 a1, .int .i64 a2, .int .i64 a3, .int .i64 a4, .int .i64 a5] 27 (0, 0)) from M3.out.x)
      have g4_ := frozen3 M3.out.x 4
      clear d0_ d1_ d2_ d3_ d5_ d6_ d7_ d8_ d9_ d10_ d11_
      go_wp2_with fail
      go_meet
      case rel => exact M3.out.c4 hp _
    · obtain ⟨d0_, d1_, d2_, d3_, d4_, d5_, d6_, d7_, d8_, d9_, d10_, d11_⟩ := cells12 HX2.out
      clear d0_ d1_ d2_ d3_ d4_ d6_ d7_ d8_ d9_ d10_ d11_
      go_wp2_with fail
      refine Rg.region (Pulled w2 B p) (Pull p) (fun k => if k = 3 then some (isInt (fun x => 0 ≤ x ∧ x < 9)) else none) (fun _ => false) 0 6 (by kernel_rfl) (by kernel_rfl) (by kernel_rfl) (by kernel_rfl) (by kernel_rfl) (by kernel_rfl) (by kernel_rfl) Pull.size (Pulled.start M2.out.S) (fun hne => ?_)
      have l_ := Pulled.cell (B := B) (p := p) d5_ hxl (by omega)
      (repeat (refine rLexL_quiet (by rfl) (by rfl) (by rfl) (by rfl) ?_; go_big_quiet_step (fail); refine wpQuiet_nil ?_))
      refine rg_draw (fun x => 0 ≤ x ∧ x < 9) 10 #[.pointer (some ⟨p, 0, none⟩), .int .i64 9] rfl rfl (fun _ => by go_simp) (fun u hu _ => n_any B u p 9 hu.2 (by omega) (by omega)) (fun z hz => ?_)
      simp only [Act.put, List.setIfInBounds_toArray, List.set_cons_zero, List.set_cons_succ]
      (repeat (refine rLexL_quiet (by rfl) (by rfl) (by rfl) (by rfl) ?_; go_big_quiet_step (fail); refine wpQuiet_nil ?_))
      rintro wq ⟨hgq, hqs⟩ - -
      have M3 := Lib.hid (M2.out.draw hp hgq hqs)
      clear hgq hqs hne l_ d5_ M2 HX2 HQ2 hxl
      obtain ⟨d0_, d1_, d2_, d3_, d4_, d5_, d6_, d7_, d8_, d9_, d10_, d11_⟩ := cells12 (show wq.heap[w.heap.size + 1]? = some (.cells #[.int .i64 px, .int .i64 py, .int .i64 pz, .int .i64 xt, .int .i64 xm, .int .i64 xl, .int .i64 a0, .int .i64 a1, .int .i64 a2, .int .i64 a3, .int .i64 a4, .int .i64 a5] 27 (0, 0)) from M3.out.x)
      have g5_ := frozen3 M3.out.x 5
      clear d0_ d1_ d2_ d3_ d4_ d6_ d7_ d8_ d9_ d10_ d11_
      go_wp2_with fail
      go_meet
      case rel => exact M3.out.c5 hp _
    · obtain ⟨d0_, d1_, d2_, d3_, d4_, d5_, d6_, d7_, d8_, d9_, d10_, d11_⟩ := cells12 HX2.out
      clear d0_ d1_ d2_ d3_ d4_ d5_
      go_wp2_with fail
      (with_reducible refine (bent_any B w2 p a0 a1 a2 a3 a4 a5 M2.out.S).mono ?_)
      rintro r w3 ⟨c0, c1, c2, c3, c4, c5, rfl, -, hS, hg⟩
      have M3 := Lib.hid (M2.out.draw hp hg hS)
      clear hg hS M2 HX2 HQ2 hxl d6_ d7_ d8_ d9_ d10_ d11_
      obtain ⟨d0_, d1_, d2_, d3_, d4_, d5_, d6_, d7_, d8_, d9_, d10_, d11_⟩ := cells12 (show w3.heap[w.heap.size + 1]? = some (.cells #[.int .i64 px, .int .i64 py, .int .i64 pz, .int .i64 xt, .int .i64 xm, .int .i64 xl, .int .i64 a0, .int .i64 a1, .int .i64 a2, .int .i64 a3, .int .i64 a4, .int .i64 a5] 27 (0, 0)) from M3.out.x)
      have g6_ := frozen3 M3.out.x 6; have g7_ := frozen3 M3.out.x 7; have g8_ := frozen3 M3.out.x 8; have g9_ := frozen3 M3.out.x 9; have g10_ := frozen3 M3.out.x 10; have g11_ := frozen3 M3.out.x 11
      clear d0_ d1_ d2_ d3_ d4_ d5_
      go_wp2_with fail
      go_meet
      case rel => exact M3.out.p6 hp _ _ _ _ _ _
    · have e0_ := cell_of HQ2.out 0 _ rfl; have e1_ := cell_of HQ2.out 1 _ rfl; have e2_ := cell_of HQ2.out 2 _ rfl; have e3_ := cell_of HQ2.out 3 _ rfl; have e4_ := cell_of HQ2.out 4 _ rfl; have e5_ := cell_of HQ2.out 5 _ rfl; have e6_ := cell_of HQ2.out 6 _ rfl; have e7_ := cell_of HQ2.out 7 _ rfl; have e8_ := cell_of HQ2.out 8 _ rfl; have e9_ := cell_of HQ2.out 9 _ rfl; have e10_ := cell_of HQ2.out 10 _ rfl
      obtain ⟨d0_, d1_, d2_, d3_, d4_, d5_, d6_, d7_, d8_, d9_, d10_, d11_⟩ := cells12 HX2.out
      have g6_ := frozen3 HX2.out 6; have g7_ := frozen3 HX2.out 7; have g8_ := frozen3 HX2.out 8; have g9_ := frozen3 HX2.out 9; have g10_ := frozen3 HX2.out 10; have g11_ := frozen3 HX2.out 11
      clear d0_ d1_ d2_ d3_ d4_ d5_
      go_wp2_with fail
      go_meet
      case rel => exact M2.out.p6 hp _ _ _ _ _ _
end Go.Proofs.YtdkckhihleffeaaGreat
