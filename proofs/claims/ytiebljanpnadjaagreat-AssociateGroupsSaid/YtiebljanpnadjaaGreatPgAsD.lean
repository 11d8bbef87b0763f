import Derived.Test.YtiebljanpnadjaaGreatPgAsV
import Derived.Test.YtiebljanpnadjaaGreatPgMisP
namespace Go.Proofs.YtiebljanpnadjaaGreat
set_option linter.all false
open Go.RowKit Rg
structure AscGood (side : Int) (A : Asc) : Prop where
 box : boxIn 20 side A.x0 A.y0 A.z0 A.x1 A.y1 A.z1
 tab : tOk A.st A.ls A.hs
 st : A.st ≤ 100
 rea : 400 ≤ A.st * ((A.ls.length : Int) - 1)
 len : A.ls.length ≤ 23
 low : ∀ i, at0 A.ls i ≤ 2000
 cap : A.cap = 10 ∨ A.cap = 50 ∨ A.cap = 200
 tol : A.tol = 0 ∨ A.tol = 0 ∨ A.tol = 10 ∨ A.tol = 40
 span : A.span = 0 ∨ A.span = 50 ∨ A.span = 200 ∨ A.span = 400
 lim : A.lim = 0 ∨ A.lim = 5 ∨ A.lim = 20
 least : 2 ≤ A.least ∧ A.least ≤ 3
def NewAsc (B p : Nat) (side : Int) (w : World) (e : Ending) (w' : World) : Prop :=
 ∃ (A : Asc) (la : Option Addr) (lc : Nat) (ha : Option Addr) (hc : Nat), e = .returned (.agg (A.val (.slice la A.ls.length lc) (.slice ha A.hs.length hc))) ∧ AscGood side A ∧ AscIn A (.slice la A.ls.length lc) (.slice ha A.hs.length hc) w' ∧
  (∀ b off, la = some ⟨b, off, none⟩ ∨ ha = some ⟨b, off, none⟩ → w.heap.size ≤ b) ∧ Src B w' p ∧ w.grownBy w' (some p)
structure DaAt (B p : Nat) (w : World) (la : Option Addr) (lc : Nat) (ls : List Int) (ha : Option Addr) (hc : Nat) (hs : List Int) (u : World) : Prop where
 res : u.heap[w.heap.size]? = some (.cells #[(0:Int), (0:Int), (0:Int), (0:Int), (0:Int), (0:Int), (0:Int), .slice none 0 0, .slice none 0 0, (0:Int), (0:Int), (0:Int), (0:Int), (0:Int)] 30 (0, 0))
 lo : Sl u (.slice la ls.length lc) ls
 hi : Sl u (.slice ha hs.length hc) hs
 la : ∀ b off, la = some ⟨b, off, none⟩ → w.heap.size < b
 ha : ∀ b off, ha = some ⟨b, off, none⟩ → w.heap.size < b
 src : Src B u p
 gr : w.grownBy u (some p)
 lt : p < w.heap.size
section
variable {B p : Nat} {w u u' : World} {la : Option Addr} {lc : Nat} {ls : List Int} {ha : Option Addr} {hc : Nat} {hs : List Int}
theorem DaAt.draw (h : DaAt B p w la lc ls ha hc hs u) (hg : u.grownBy u' (some p)) (hS : Src B u' p) : DaAt B p w la lc ls ha hc hs u' :=
 ⟨block_keptp hg h.res (by have := h.lt; omega), h.lo.later hg (fun b off len cap e _ => by simp only [Value.slice.injEq] at e; have := h.la b off e.1; have := h.lt; simp; omega), h.hi.later hg (fun b off len cap e _ => by simp only [Value.slice.injEq] at e; have := h.ha b off e.1; have := h.lt; simp; omega), h.la, h.ha, hS, gb_trans h.gr hg, h.lt⟩
theorem DaAt.made (h : DaAt B p w la lc ls ha hc hs u) (hg : u.grownBy u' none) : DaAt B p w la lc ls ha hc hs u' :=
 ⟨block_kept hg h.res rfl, h.lo.after hg, h.hi.after hg, h.la, h.ha, h.src.later hg (by simp), gb_trans h.gr (gb_none hg), h.lt⟩
end
set_option maxRecDepth 100000 in
set_option maxHeartbeats 4000000 in
theorem association_any (B : Nat) (w : World) (p : Nat) (side : Int) (h : Src B w p) (hs0 : 0 ≤ side) (hs1 : side ≤ 40) :
  Calls Tryz.prog 12 #[.pointer (some ⟨p, 0, none⟩), side] w (NewAsc B p side w) := by
 have hp := h.lt
 have hg0 := gb_alloc (gb_refl w none) (.cells #[(0:Int), (0:Int), (0:Int), (0:Int), (0:Int), (0:Int), (0:Int), .slice none 0 0, .slice none 0 0, (0:Int), (0:Int), (0:Int), (0:Int), (0:Int)] 30)
 have S0 := zH (h.later hg0 (by simp))
 have G0 := zH (gb_none (row := some p) hg0)
 have R0 := zH (heap_alloc_new w (.cells #[(0:Int), (0:Int), (0:Int), (0:Int), (0:Int), (0:Int), (0:Int), .slice none 0 0, .slice none 0 0, (0:Int), (0:Int), (0:Int), (0:Int), (0:Int)] 30))
 clear h hg0
 go_enter Tryz.func12, Tryz.ntmps12
 go_wp2_with fail
 (with_reducible refine (box_any B _ p 20 side S0.out (by omega) (by omega) (by omega) (by omega)).mono ?_)
 rintro e w1 ⟨x0, y0, z0, x1, y1, z1, rfl, hB, hS, hg⟩
 have HB := zH hB; have S1 := zH hS; have R1 := zH (block_keptp hg R0.out (by omega)); have G1 := zH (gb_trans G0.out hg)
 clear hS hg hB S0 R0 G0
 go_wp2_with fail
 (with_reducible refine (tableL_any B w1 p S1.out).mono ?_)
 rintro e w2 ⟨step, vl, vh, ls, hs, rfl, hT, hst, hre, hln, hlo, ol, oh, -, hS, hg⟩
 have hsz1 : w.heap.size < w1.heap.size := block_lt' R1.out
 obtain ⟨la, lc, rfl⟩ := owns_slice ol
 obtain ⟨ha, hc, rfl⟩ := owns_slice oh
 have D2 : Hid (DaAt B p w la lc ls ha hc hs w2) := zH ⟨block_keptp hg R1.out (by omega), Sl_of_owns ol rfl, Sl_of_owns oh rfl, fun b off e => by subst e; have := (ol.lt b rfl).1; omega, fun b off e => by subst e; have := (oh.lt b rfl).1; omega, hS, gb_trans G1.out hg, hp.2⟩
 have HT := zH (And.intro hT (And.intro hst (And.intro hre (And.intro hln hlo))))
 clear hS hg ol oh hT hst hre hln hlo S1 R1 G1
 go_wp2_with fail
 (with_reducible refine (pick3_any B w2 p 10 50 200 3 D2.out.src w2.heap.size rfl).mono ?_)
 rintro e w3 ⟨cap, rfl, hcap, hS, hg⟩
 have Hcap := zH hcap
 have D3 := zH ((D2.out.made (gb_alloc (gb_refl w2 none) (.cells #[(10:Int), (50:Int), (200:Int)] 3))).draw hg hS)
 clear hcap hS hg D2
 go_wp2_with fail
 (with_reducible refine (pick4_any B w3 p 0 0 10 40 3 D3.out.src w3.heap.size rfl).mono ?_)
 rintro e w4 ⟨tol, rfl, htol, hS, hg⟩
 have Htol := zH htol
 have D4 := zH ((D3.out.made (gb_alloc (gb_refl w3 none) (.cells #[(0:Int), (0:Int), (10:Int), (40:Int)] 3))).draw hg hS)
 clear htol hS hg D3
 go_wp2_with fail
 (with_reducible refine (pick4_any B w4 p 0 50 200 400 3 D4.out.src w4.heap.size rfl).mono ?_)
 rintro e w5 ⟨span, rfl, hspan, hS, hg⟩
 have Hspan := zH hspan
 have D5 := zH ((D4.out.made (gb_alloc (gb_refl w4 none) (.cells #[(0:Int), (50:Int), (200:Int), (400:Int)] 3))).draw hg hS)
 clear hspan hS hg D4
 go_wp2_with fail
 (with_reducible refine (pick3_any B w5 p 0 5 20 3 D5.out.src w5.heap.size rfl).mono ?_)
 rintro e w6 ⟨lim, rfl, hlim, hS, hg⟩
 have Hlim := zH hlim
 have D6 := zH ((D5.out.made (gb_alloc (gb_refl w5 none) (.cells #[(0:Int), (5:Int), (20:Int)] 3))).draw hg hS)
 clear hlim hS hg D5
 go_wp2_with fail
 (with_reducible refine (n_any B w6 p 2 D6.out.src (by omega) (by omega)).mono ?_)
 rintro e w7 ⟨nl, rfl, hnl, hS, hg⟩
 have D7 := zH (D6.out.draw hg hS)
 clear hS hg D6
 have HN := zH (setRow_at (cs := #[x0, y0, z0, x1, y1, z1, step, .slice la ls.length lc, .slice ha hs.length hc, cap, tol, span, lim, .int .i64 (2 + nl)]) D7.out.res)
 have hgs : w7.grownBy (w7.setRow w.heap.size #[x0, y0, z0, x1, y1, z1, step, .slice la ls.length lc, .slice ha hs.length hc, cap, tol, span, lim, .int .i64 (2 + nl)]) (some w.heap.size) := gb_setRow (gb_refl _ _) (.inr rfl)
 have FIN : Hid (AscIn ⟨x0, y0, z0, x1, y1, z1, step, ls, hs, cap, tol, span, lim, 2 + nl⟩ (.slice la ls.length lc) (.slice ha hs.length hc) (w7.setRow w.heap.size #[x0, y0, z0, x1, y1, z1, step, .slice la ls.length lc, .slice ha hs.length hc, cap, tol, span, lim, .int .i64 (2 + nl)]) ∧ Src B (w7.setRow w.heap.size #[x0, y0, z0, x1, y1, z1, step, .slice la ls.length lc, .slice ha hs.length hc, cap, tol, span, lim, .int .i64 (2 + nl)]) p ∧ w.grownBy (w7.setRow w.heap.size #[x0, y0, z0, x1, y1, z1, step, .slice la ls.length lc, .slice ha hs.length hc, cap, tol, span, lim, .int .i64 (2 + nl)]) (some p)) := Lib.hid
  ⟨⟨D7.out.lo.later hgs (fun b off len cap e _ => by simp only [Value.slice.injEq] at e; have := D7.out.la b off e.1; simp; omega), D7.out.hi.later hgs (fun b off len cap e _ => by simp only [Value.slice.injEq] at e; have := D7.out.ha b off e.1; simp; omega)⟩, D7.out.src.later hgs (by simp; omega), gb_setRow D7.out.gr (.inl (Nat.le_refl _))⟩
 clear hgs
 go_wp2_with (with_reducible refine wpList_store_row rfl _ _ _ rfl w.heap.size #[x0, y0, z0, x1, y1, z1, step, .slice la ls.length lc, .slice ha hs.length hc, cap, tol, span, lim, .int .i64 (2 + nl)] rfl rfl _ _ D7.out.res (by kernel_rfl) rfl (by simp [Value.oneCell']) ?_)
 obtain ⟨c0_, c1_, c2_, c3_, c4_, c5_, c6_, c7_, c8_, c9_, c10_, c11_, c12_, c13_⟩ := cells14 HN.out
 exact bodyPost_ret (v := .agg #[x0, y0, z0, x1, y1, z1, step, .slice la ls.length lc, .slice ha hs.length hc, cap, tol, span, lim, .int .i64 (2 + nl)]) (by simp [results, Tryz.results12, go_sem, c0_, c1_, c2_, c3_, c4_, c5_, c6_, c7_, c8_, c9_, c10_, c11_, c12_, c13_]) rfl
  ⟨⟨x0, y0, z0, x1, y1, z1, step, ls, hs, cap, tol, span, lim, 2 + nl⟩, la, lc, ha, hc, rfl, ⟨HB.out, HT.out.1, HT.out.2.1, HT.out.2.2.1, HT.out.2.2.2.1, HT.out.2.2.2.2, Hcap.out, Htol.out, Hspan.out, Hlim.out, ⟨by show 2 ≤ 2 + nl; omega, by show 2 + nl ≤ 3; omega⟩⟩, FIN.out.1, fun b off e => by
   rcases e with e | e
   ·have := D7.out.la b off e; omega
   ·have := D7.out.ha b off e; omega, FIN.out.2.1, FIN.out.2.2⟩
theorem gb_newp {w u u' : World} {r row : Option Nat} (h : w.grownBy u r) (hg : u.grownBy u' row) (hq : ∀ q, row = some q → w.heap.size ≤ q) : w.grownBy u' r :=
 ⟨hg.os.trans h.os, hg.tape.trans h.tape, hg.output.trans h.output, Nat.le_trans h.size hg.size, fun i hi hr => (hg.block i (Nat.lt_of_lt_of_le hi h.size) (fun e => by have := hq i e.symm; omega)).trans (h.block i hi hr)⟩
structure PsAt (w : World) (B p X : Nat) (cs : Array Value) (px py pz : Int) (l : List Ph) (vp vl : Value) (ls : List Int) (u : World) : Prop where
 arg : u.heap[w.heap.size]? = some (.cells cs 30 (0, 0))
 pos : u.heap[X]? = some (.cells #[px, py, pz] 23 (0, 0))
 own : u.ownsRow (X + 1) 51 6 vp l.length (flatP l)
 low : Sl u vl ls
 lowAt : ∀ b off len cap, vl = .slice (some ⟨b, off, none⟩) len cap → b < w.heap.size ∧ b ≠ p
 order : p < w.heap.size ∧ w.heap.size < X
 src : Src B u p
 grown : w.grownBy u (some p)
section
variable {w u u' : World} {B p X : Nat} {cs : Array Value} {px py pz : Int} {l : List Ph} {vp vl : Value} {ls : List Int}
theorem PsAt.later (h : PsAt w B p X cs px py pz l vp vl ls u) (hg : u.grownBy u' none) : PsAt w B p X cs px py pz l vp vl ls u' :=
 ⟨block_kept hg h.arg rfl, block_kept hg h.pos rfl, owns_keep h.own hg, h.low.after hg, h.lowAt, h.order, h.src.later hg (by simp), gb_trans h.grown (gb_none hg)⟩
theorem PsAt.draw (h : PsAt w B p X cs px py pz l vp vl ls u) (hg : u.grownBy u' (some p)) (hs' : Src B u' p) : PsAt w B p X cs px py pz l vp vl ls u' := by
 obtain ⟨o1, o2⟩ := h.order
 exact ⟨block_keptp hg h.arg (by omega), block_keptp hg h.pos (by omega), owns_keepp h.own hg (by omega), h.low.later hg (fun b off len cap e _ => by have := (h.lowAt b off len cap e).2; simpa using this), h.lowAt, h.order, hs', gb_trans h.grown hg⟩
theorem PsAt.other {a : Nat} (h : PsAt w B p X cs px py pz l vp vl ls u) (hg : u.grownBy u' (some a)) (ha : X < a) (hv : vp.ownBlock ≠ some a) : PsAt w B p X cs px py pz l vp vl ls u' := by
 obtain ⟨o1, o2⟩ := h.order
 exact ⟨block_keptp hg h.arg (by omega), block_keptp hg h.pos (by omega), h.own.kept hg (.inr hv), h.low.later hg (fun b off len cap e _ => by have := (h.lowAt b off len cap e).1; simp; omega), h.lowAt, h.order, h.src.later hg (fun q hq => by simp at hq; have := h.src.lt; omega), gb_newp h.grown hg (fun q hq => by simp at hq; omega)⟩
theorem PsAt.move {qx qy qz : Int} (h : PsAt w B p X cs px py pz l vp vl ls u) (hg : u.grownBy u' (some X)) (hx : u'.heap[X]? = some (.cells #[qx, qy, qz] 23 (0, 0))) : PsAt w B p X cs qx qy qz l vp vl ls u' := by
 obtain ⟨o1, o2⟩ := h.order
 exact ⟨block_keptp hg h.arg (by omega), hx, owns_keepp h.own hg (by omega), h.low.later hg (fun b off len cap e _ => by have := (h.lowAt b off len cap e).1; simp; omega), h.lowAt, h.order, h.src.later hg (fun q hq => by simp at hq; have := h.src.lt; omega), gb_newp h.grown hg (fun q hq => by simp at hq; omega)⟩
theorem PsAt.push {a : Ph} {vp' : Value} (h : PsAt w B p X cs px py pz l vp vl ls u) (hg : u.grownBy u' vp.ownBlock) (ho : u'.ownsRow (X + 1) 51 6 vp' (l.length + 1) (flatP l ++ a.cells)) : PsAt w B p X cs px py pz (l ++ [a]) vp' vl ls u' := by
 obtain ⟨o1, o2⟩ := h.order
 have hne : ∀ b, vp.ownBlock = some b → X + 1 ≤ b := fun b hb => (h.own.lt b hb).1
 have far : ∀ {b : Nat} {o : Obj}, u.heap[b]? = some o → b ≤ X → u'.heap[b]? = some o := fun {b} {o} hb hX => by
  rw [hg.block b (Array.getElem?_eq_some_iff.1 hb).1 (fun e => by have := hne b e.symm; omega)]; exact hb
 refine ⟨far h.arg (by omega), far h.pos (Nat.le_refl _), ?_, h.low.later hg (fun b off len cap e _ he => by have := hne b he.symm; have := (h.lowAt b off len cap e).1; omega), h.lowAt, h.order, h.src.later hg (fun q hq => by have := hne q hq; have := h.src.lt; omega), gb_newp h.grown hg (fun q hq => by have := hne q hq; omega)⟩
 rw [List.length_append, show flatP (l ++ [a]) = flatP l ++ a.cells by simp [flatP]]
 exact ho
end
def soonPh (a : Ph) : Prop := goodPh a ∧ a.e ≤ 40000 ∧ a.l ≤ 50000
def NewPhs (B p : Nat) (most : Int) (w : World) (e : Ending) (w' : World) : Prop :=
 ∃ (l : List Ph) (va : Option Addr) (vc : Nat), e = .returned (.slice va l.length vc) ∧ (l.length : Int) ≤ most ∧ (∀ a ∈ l, soonPh a) ∧ w'.ownsRow w.heap.size 51 6 (.slice va l.length vc) l.length (flatP l) ∧ (∀ b off, va = some ⟨b, off, none⟩ → w.heap.size ≤ b) ∧ Src B w' p ∧ w.grownBy w' (some p)
end Go.Proofs.YtiebljanpnadjaaGreat
