/- AsD -/
import Derived.Test.YtiebljanpnadjaaGreatPdAsV
import Derived.Test.YtiebljanpnadjaaGreatPdProb
namespace Go.Proofs.YtiebljanpnadjaaGreat
set_option linter.all false
open Go.RowKit Rg
/-- Settings that the reader draws. -/
structure AscGood (side : Int) (A : Asc) : Prop where
  box : boxIn 20 side A.x0 A.y0 A.z0 A.x1 A.y1 A.z1
  tab : tOk A.st A.ls A.hs
  st : A.st ≤ 100
  rea : 400 ≤ A.st * ((A.ls.length : Int) - 1)
  len : A.ls.length ≤ 23
  low : ∀ i, at0 A.ls i ≤ 2000
  cap : A.cap = 10 ∨ A.cap = 50 ∨ A.cap = 200
  tol : A.tol = 0 ∨ A.tol = 0 ∨ A.tol = 10 ∨ A.tol = 40
  span : A.span = 0 ∨ A.span = 50 ∨ A.span = 200 ∨ A.span = 400
  lim : A.lim = 0 ∨ A.lim = 5 ∨ A.lim = 20
  least : 2 ≤ A.least ∧ A.least ≤ 3
def NewAsc (B p : Nat) (side : Int) (w : World) (e : Ending) (w' : World) : Prop :=
  ∃ (A : Asc) (la : Option Addr) (lc : Nat) (ha : Option Addr) (hc : Nat), e = .returned (.agg (A.val (.slice la A.ls.length lc) (.slice ha A.hs.length hc))) ∧ AscGood side A ∧ AscIn A (.slice la A.ls.length lc) (.slice ha A.hs.length hc) w' ∧
    (∀ b off, la = some ⟨b, off, none⟩ ∨ ha = some ⟨b, off, none⟩ → w.heap.size ≤ b) ∧ Src B w' p ∧ w.grownBy w' (some p)
/-- What the walk keeps. -/
structure DaAt (B p : Nat) (w : World) (la : Option Addr) (lc : Nat) (ls : List Int) (ha : Option Addr) (hc : Nat) (hs : List Int) (u : World) : Prop where
  res : u.heap[w.heap.size]? = some (.cells #[.int .i64 0, .int .i64 0, .int .i64 0, .int .i64 0, .int .i64 0, .int .i64 0, .int .i64 0, .slice none 0 0, .slice none 0 0, .int .i64 0, .int .i64 0, .int .i64 0, .int .i64 0, .int .i64 0] 30 (0, 0))
  lo : Sl u (.slice la ls.length lc) ls
  hi : Sl u (.slice ha hs.length hc) hs
  la : ∀ b off, la = some ⟨b, off, none⟩ → w.heap.size < b
  ha : ∀ b off, ha = some ⟨b, off, none⟩ → w.heap.size < b
  src : Src B u p
  gr : w.grownBy u (some p)
  lt : p < w.heap.size
section
variable {B p : Nat} {w u u' : World} {la : Option Addr} {lc : Nat} {ls : List Int} {ha : Option Addr} {hc : Nat} {hs : List Int}
theorem DaAt.draw (h : DaAt B p w la lc ls ha hc hs u) (hg : u.grownBy u' (some p)) (hS : Src B u' p) : DaAt B p w la lc ls ha hc hs u' :=
  ⟨block_keptp hg h.res (by have := h.lt; omega), h.lo.later hg (fun b off len cap e _ => by simp only [Value.slice.injEq] at e; have := h.la b off e.1; have := h.lt; simp; omega), h.hi.later hg (fun b off len cap e _ => by simp only [Value.slice.injEq] at e; have := h.ha b off e.1; have := h.lt; simp; omega), h.la, h.ha, hS, gb_trans h.gr hg, h.lt⟩
theorem DaAt.made (h : DaAt B p w la lc ls ha hc hs u) (hg : u.grownBy u' none) : DaAt B p w la lc ls ha hc hs u' :=
  ⟨block_kept hg h.res rfl, h.lo.after hg, h.hi.after hg, h.la, h.ha, h.src.later hg (by simp), gb_trans h.gr (gb_none hg), h.lt⟩
end
set_option maxRecDepth 100000 in
set_option maxHeartbeats 4000000 in
theorem association_any (B : Nat) (w : World) (p : Nat) (side : Int) (h : Src B w p) (hs0 : 0 ≤ side) (hs1 : side ≤ 40) :
    Calls Tryz.prog 12 #[.pointer (some ⟨p, 0, none⟩), .int .i64 side] w (NewAsc B p side w) := by
  have hp := h.lt
  have hg0 := gb_alloc (gb_refl w none) (.cells #[.int .i64 0, .int .i64 0, .int .i64 0, .int .i64 0, .int .i64 0, .int .i64 0, .int .i64 0, .slice none 0 0, .slice none 0 0, .int .i64 0, .int .i64 0, .int .i64 0, .int .i64 0, .int .i64 0] 30)
  have S0 := Lib.hid (h.later hg0 (by simp))
  have G0 := Lib.hid (gb_none (row := some p) hg0)
  have R0 := Lib.hid (heap_alloc_new w (.cells #[.int .i64 0, .int .i64 0, .int .i64 0, .int .i64 0, .int .i64 0, .int .i64 0, .int .i64 0, .slice none 0 0, .slice none 0 0, .int .i64 0, .int .i64 0, .int .i64 0, .int .i64 0, .int .i64 0] 30))
  clear h hg0
  go_enter Tryz.func12, Tryz.ntmps12
  go_wp2_with fail
  (with_reducible refine (box_any B _ p 20 side S0.out (by omega) (by omega) (by omega) (by omega)).mono ?_)
  rintro e w1 ⟨x0, y0, z0, x1, y1, z1, rfl, hB, hS, hg⟩
  have HB := Lib.hid hB; have S1 := Lib.hid hS; have R1 := Lib.hid (block_keptp hg R0.out (by omega)); have G1 := Lib.hid (gb_trans G0.out hg)
  clear hS hg hB S0 R0 G0
  go_wp2_with fail
  (with_reducible refine (tableL_any B w1 p S1.out).mono ?_)
  rintro e w2 ⟨step, vl, vh, ls, hs, rfl, hT, hst, hre, hln, hlo, ol, oh, -, hS, hg⟩
  have hsz1 : w.heap.size < w1.heap.size := block_lt' R1.out
  obtain ⟨la, lc, rfl⟩ := owns_slice ol
  obtain ⟨ha, hc, rfl⟩ := owns_slice oh
  have D2 : Hid (DaAt B p w la lc ls ha hc hs w2) := Lib.hid ⟨block_keptp hg R1.out (by omega), Sl_of_owns ol rfl, Sl_of_owns oh rfl, fun b off e => by subst e; have := (ol.lt b rfl).1; omega, fun b off e => by subst e; have := (oh.lt b rfl).1; omega, hS, gb_trans G1.out hg, hp.2⟩
  have HT := Lib.hid (And.intro hT (And.intro hst (And.intro hre (And.intro hln hlo))))
  clear hS hg ol oh hT hst hre hln hlo S1 R1 G1
  go_wp2_with fail
  (with_reducible refine (pick3_any B w2 p 10 50 200 3 D2.out.src w2.heap.size rfl).mono ?_)
  rintro e w3 ⟨cap, rfl, hcap, hS, hg⟩
  have Hcap := Lib.hid hcap
  have D3 := Lib.hid ((D2.out.made (gb_alloc (gb_refl w2 none) (.cells #[.int .i64 10, .int .i64 50, .int .i64 200] 3))).draw hg hS)
  clear hcap hS hg D2
  go_wp2_with fail
  (with_reducible refine (pick4_any B w3 p 0 0 10 40 3 D3.out.src w3.heap.size rfl).mono ?_)
  rintro e w4 ⟨tol, rfl, htol, hS, hg⟩
  have Htol := Lib.hid htol
  have D4 := Lib.hid ((D3.out.made (gb_alloc (gb_refl w3 none) (.cells #[.int .i64 0, .int .i64 0, .int .i64 10, .int .i64 40] 3))).draw hg hS)
  clear htol hS hg D3
  go_wp2_with fail
  (with_reducible refine (pick4_any B w4 p 0 50 200 400 3 D4.out.src w4.heap.size rfl).mono ?_)
  rintro e w5 ⟨span, rfl, hspan, hS, hg⟩
  have Hspan := Lib.hid hspan
  have D5 := Lib.hid ((D4.out.made (gb_alloc (gb_refl w4 none) (.cells #[.int .i64 0, .int .i64 50, .int .i64 200, .int .i64 400] 3))).draw hg hS)
  clear hspan hS hg D4
  go_wp2_with fail
  (with_reducible refine (pick3_any B w5 p 0 5 20 3 D5.out.src w5.heap.size rfl).mono ?_)
  rintro e w6 ⟨lim, rfl, hlim, hS, hg⟩
  have Hlim := Lib.hid hlim
  have D6 := Lib.hid ((D5.out.made (gb_alloc (gb_refl w5 none) (.cells #[.int .i64 0, .int .i64 5, .int .i64 20] 3))).draw hg hS)
  clear hlim hS hg D5
  go_wp2_with fail
  (with_reducible refine (n_any B w6 p 2 D6.out.src (by omega) (by omega)).mono ?_)
  rintro e w7 ⟨nl, rfl, hnl, hS, hg⟩
  have D7 := Lib.hid (D6.out.draw hg hS)
  clear hS hg D6
  have HN := Lib.hid (setRow_at (cs := #[.int .i64 x0, .int .i64 y0, .int .i64 z0, .int .i64 x1, .int .i64 y1, .int .i64 z1, .int .i64 step, .slice la ls.length lc, .slice ha hs.length hc, .int .i64 cap, .int .i64 tol, .int .i64 span, .int .i64 lim, .int .i64 (2 + nl)]) D7.out.res)
  have hgs : w7.grownBy (w7.setRow w.heap.size #[.int .i64 x0, .int .i64 y0, .int .i64 z0, .int .i64 x1, .int .i64 y1, .int .i64 z1, .int .i64 step, .slice la ls.length lc, .slice ha hs.length hc, .int .i64 cap, .int .i64 tol, .int .i64 span, .int .i64 lim, .int .i64 (2 + nl)]) (some w.heap.size) := gb_setRow (gb_refl _ _) (.inr rfl)
  have FIN : Hid (AscIn ⟨x0, y0, z0, x1, y1, z1, step, ls, hs, cap, tol, span, lim, 2 + nl⟩ (.slice la ls.length lc) (.slice ha hs.length hc) (w7.setRow w.heap.size #[.int .i64 x0, .int .i64 y0, .int .i64 z0, .int .i64 x1, .int .i64 y1, .int .i64 z1, .int .i64 step, .slice la ls.length lc, .slice ha hs.length hc, .int .i64 cap, .int .i64 tol, .int .i64 span, .int .i64 lim, .int .i64 (2 + nl)]) ∧ Src B (w7.setRow w.heap.size #[.int .i64 x0, .int .i64 y0, .int .i64 z0, .int .i64 x1, .int .i64 y1, .int .i64 z1, .int .i64 step, .slice la ls.length lc, .slice ha hs.length hc, .int .i64 cap, .int .i64 tol, .int .i64 span, .int .i64 lim, .int .i64 (2 + nl)]) p ∧ w.grownBy (w7.setRow w.heap.size #[.int .i64 x0, .int .i64 y0, .int .i64 z0, .int .i64 x1, .int .i64 y1, .int .i64 z1, .int .i64 step, .slice la ls.length lc, .slice ha hs.length hc, .int .i64 cap, .int .i64 tol, .int .i64 span, .int .i64 lim, .int .i64 (2 + nl)]) (some p)) := Lib.hid
    ⟨⟨D7.out.lo.later hgs (fun b off len cap e _ => by simp only [Value.slice.injEq] at e; have := D7.out.la b off e.1; simp; omega), D7.out.hi.later hgs (fun b off len cap e _ => by simp only [Value.slice.injEq] at e; have := D7.out.ha b off e.1; simp; omega)⟩, D7.out.src.later hgs (by simp; omega), gb_setRow D7.out.gr (.inl (Nat.le_refl _))⟩
  clear hgs
  go_wp2_with (with_reducible refine wpList_store_row rfl _ _ _ rfl w.heap.size #[.int .i64 x0, .int .i64 y0, .int .i64 z0, .int .i64 x1, .int .i64 y1, .int .i64 z1, .int .i64 step, .slice la ls.length lc, .slice ha hs.length hc, .int .i64 cap, .int .i64 tol, .int .i64 span, .int .i64 lim, .int .i64 (2 + nl)] rfl rfl _ _ D7.out.res (by kernel_rfl) rfl (by simp [Value.oneCell']) ?_)
  obtain ⟨c0_, c1_, c2_, c3_, c4_, c5_, c6_, c7_, c8_, c9_, c10_, c11_, c12_, c13_⟩ := cells14 HN.out
  exact bodyPost_ret (v := .agg #[.int .i64 x0, .int .i64 y0, .int .i64 z0, .int .i64 x1, .int .i64 y1, .int .i64 z1, .int .i64 step, .slice la ls.length lc, .slice ha hs.length hc, .int .i64 cap, .int .i64 tol, .int .i64 span, .int .i64 lim, .int .i64 (2 + nl)]) (by simp [results, Tryz.results12, go_sem, c0_, c1_, c2_, c3_, c4_, c5_, c6_, c7_, c8_, c9_, c10_, c11_, c12_, c13_]) rfl
    ⟨⟨x0, y0, z0, x1, y1, z1, step, ls, hs, cap, tol, span, lim, 2 + nl⟩, la, lc, ha, hc, rfl, ⟨HB.out, HT.out.1, HT.out.2.1, HT.out.2.2.1, HT.out.2.2.2.1, HT.out.2.2.2.2, Hcap.out, Htol.out, Hspan.out, Hlim.out, ⟨by show 2 ≤ 2 + nl; omega, by show 2 + nl ≤ 3; omega⟩⟩, FIN.out.1, fun b off e => by
      rcases e with e | e
      · have := D7.out.la b off e; omega
      · have := D7.out.ha b off e; omega, FIN.out.2.1, FIN.out.2.2⟩
end Go.Proofs.YtiebljanpnadjaaGreat
