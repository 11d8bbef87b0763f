/- Prf Fr Bx PrfA SwpA -/
import Derived.Maps.AppendAt
import Derived.Laws.EntriesVeiled
import Derived.ArgAppend
import Derived.Deep.AppendLies
import Derived.Test.YtgaglgopbdfemaaGreatDoorTmGeoS
import Derived.Test.YtgaglgopbdfemaaGreatDoorTmRgPos
import Derived.Test.YtgaglgopbdfemaaGreatDoorTmProb
import Derived.Test.YtgaglgopbdfemaaGreatDoorTmMisP
import Derived.Test.YtgaglgopbdfemaaGreatDoorTmRefC
namespace Go.Proofs.YtgaglgopbdfemaaGreatDoor
set_option linter.all false
open Go.RowKit Rg
/-- A location. -/
structure Loc where
  px : Int
  py : Int
  pz : Int
  t : Int
  m : Int
  l : Int
  a0 : Int
  a1 : Int
  a2 : Int
  a3 : Int
  a4 : Int
  a5 : Int
def Loc.val (x : Loc) : Array Value := #[.int .i64 x.px, .int .i64 x.py, .int .i64 x.pz, .int .i64 x.t, .int .i64 x.m, .int .i64 x.l, .int .i64 x.a0, .int .i64 x.a1, .int .i64 x.a2, .int .i64 x.a3, .int .i64 x.a4, .int .i64 x.a5]
theorem cells12 {w : World} {b : Nat} {v0 v1 v2 v3 v4 v5 v6 v7 v8 v9 v10 v11 : Value} {t : TypeId} {fr : Nat × Nat} (h : w.heap[b]? = some (.cells #[v0, v1, v2, v3, v4, v5, v6, v7, v8, v9, v10, v11] t fr)) :
    w.cell? ⟨b, 0, none⟩ = some v0 ∧ w.cell? ⟨b, 1, none⟩ = some v1 ∧ w.cell? ⟨b, 2, none⟩ = some v2 ∧ w.cell? ⟨b, 3, none⟩ = some v3 ∧ w.cell? ⟨b, 4, none⟩ = some v4 ∧ w.cell? ⟨b, 5, none⟩ = some v5 ∧ w.cell? ⟨b, 6, none⟩ = some v6 ∧ w.cell? ⟨b, 7, none⟩ = some v7 ∧ w.cell? ⟨b, 8, none⟩ = some v8 ∧ w.cell? ⟨b, 9, none⟩ = some v9 ∧ w.cell? ⟨b, 10, none⟩ = some v10 ∧ w.cell? ⟨b, 11, none⟩ = some v11 := by simp [World.cell?, h]
/-- The misfit, and what goes wrong: of a box, .. -/
def bdE (P : Prob) (b0 b1 b2 b3 b4 b5 : Int) : Int := zonesE P b0 b1 b2 b3 b4 b5
def bdC (P : Prob) (b0 b1 b2 b3 b4 b5 : Int) : Int := if zonesE P b0 b1 b2 b3 b4 b5 = 0 then (best P.cap P.phs (zonesL P b0 b1 b2 b3 b4 b5)).2 else 0
theorem bdV_eq (P : Prob) (b0 b1 b2 b3 b4 b5 : Int) : bdV P b0 b1 b2 b3 b4 b5 = .tuple #[.int .i64 (bdC P b0 b1 b2 b3 b4 b5), .int .i64 (bdE P b0 b1 b2 b3 b4 b5)] := by
  unfold bdV bdC bdE; split
  · rename_i h; rw [h]
  · rfl
/-- .. of a point. -/
def atT (P : Prob) (x y z : Int) : Int := if zonesE P x y z x y z = 0 then (best P.cap P.phs (zonesL P x y z x y z)).1 else 0
theorem atV_eq (P : Prob) (x y z : Int) : atV P x y z = .tuple #[.int .i64 (atT P x y z), .int .i64 (bdC P x y z x y z), .int .i64 (bdE P x y z x y z)] := by
  unfold atV atT bdC bdE; split
  · rename_i h; rw [h]
  · rfl
end Go.Proofs.YtgaglgopbdfemaaGreatDoor
namespace Go.Proofs.YtgaglgopbdfemaaGreatDoor
set_option linter.all false
open Go.RowKit Rg
/-- What else has turned: only the variable O, its own row, and new memory. -/
structure Fr (O : Nat) (v v' : Value) (u u' : World) : Prop where
  os : u'.os = u.os
  tape : u'.tape = u.tape
  output : u'.output = u.output
  size : u.heap.size ≤ u'.heap.size
  block : ∀ k, k < u.heap.size → k ≠ O → some k ≠ v.ownBlock → u'.heap[k]? = u.heap[k]?
  own : ∀ k, v'.ownBlock = some k → v.ownBlock = some k ∨ u.heap.size ≤ k
theorem Fr.gb {O : Nat} {v : Value} {u u' : World} (h : u.grownBy u' none) : Fr O v v u u' := ⟨h.os, h.tape, h.output, h.size, fun k hk _ _ => h.block k hk (by simp), fun _ e => .inl e⟩
theorem Fr.trans {O : Nat} {v v' v'' : Value} {u u' u'' : World} (h : Fr O v v' u u') (k : Fr O v' v'' u' u'') : Fr O v v'' u u'' := by
  refine ⟨k.os.trans h.os, k.tape.trans h.tape, k.output.trans h.output, Nat.le_trans h.size k.size, fun b hb hO ho => ?_, fun b e => ?_⟩
  · rw [k.block b (Nat.lt_of_lt_of_le hb h.size) hO (fun e => ?_), h.block b hb hO ho]
    rcases h.own b e.symm with h1 | h1
    · exact ho h1.symm
    · omega
  · have hs := h.size
    rcases k.own b e with h1 | h1
    · exact h.own b h1
    · exact .inr (by omega)
/-- The row, in the variable O. -/
structure OutAt (O B : Nat) (u : World) (v : Value) (l : List Int) : Prop where
  o : u.heap[O]? = some (.cells #[v] 22 (0, 0))
  own : u.ownsRow B 3 1 v l.length (l.map (Value.int .i64))
  lt : O < B
  le : B ≤ u.heap.size
theorem OutAt.keep {O B : Nat} {u u' : World} {v : Value} {l : List Int} (h : OutAt O B u v l) (hg : u.grownBy u' none) : OutAt O B u' v l := ⟨block_kept hg h.o rfl, owns_keep h.own hg, h.lt, Nat.le_trans h.le hg.size⟩
theorem OutAt.ne {O B : Nat} {u : World} {v : Value} {l : List Int} (h : OutAt O B u v l) {k : Nat} (hk : k < B) : some k ≠ v.ownBlock := fun e => by have := (h.own.lt k e.symm).1; omega
theorem Fr.all {O B : Nat} {v v' : Value} {u u' w0 : World} {l : List Int} (h : Fr O v v' u u') (ho : OutAt O B u v l) (hg : w0.grownBy u none) (hO : w0.heap.size ≤ O) : w0.grownBy u' none :=
  ⟨h.os.trans hg.os, h.tape.trans hg.tape, h.output.trans hg.output, Nat.le_trans hg.size h.size, fun k hk _ => by
    have := ho.lt
    have hs := hg.size
    rw [h.block k (by omega) (by omega) (ho.ne (by omega)), hg.block k hk (by simp)]⟩
theorem Fr.kept {O B : Nat} {v v' : Value} {u u' : World} {l : List Int} (h : Fr O v v' u u') (ho : OutAt O B u v l) {b : Nat} {x : Obj} (hb : u.heap[b]? = some x) (hO : b ≠ O) (hB : b < B) : u'.heap[b]? = some x :=
  (h.block b (block_lt' hb) hO (ho.ne hB)).trans hb
end Go.Proofs.YtgaglgopbdfemaaGreatDoor
namespace Go.Proofs.YtgaglgopbdfemaaGreatDoor
set_option linter.all false
open Go.RowKit
/-- A box, as six numbers. -/
structure Bx where
  a : Int
  b : Int
  c : Int
  d : Int
  e : Int
  f : Int
deriving Inhabited, DecidableEq
def Bx.val (x : Bx) : Array Value := #[.int .i64 x.a, .int .i64 x.b, .int .i64 x.c, .int .i64 x.d, .int .i64 x.e, .int .i64 x.f]
def Bx.ok (x : Bx) : Bool := splOk x.a x.b x.c x.d x.e x.f
def Bx.v (x : Bx) : Bool := bP x.a x.b x.c x.d x.e x.f
def Bx.ax (x : Bx) : Nat := axis (x.d - x.a) (x.e - x.b) (x.f - x.c)
def Bx.pts (x : Bx) : Int := ptsP x.a x.b x.c x.d x.e x.f
/-- Its halves. -/
def Bx.fst (x : Bx) : Bx := ⟨keepI x.ok x.a, keepI x.ok x.b, keepI x.ok x.c, spE x.ok x.ax 0 x.a x.d, spE x.ok x.ax 1 x.b x.e, spE x.ok x.ax 2 x.c x.f⟩
def Bx.snd (x : Bx) : Bx := ⟨spB x.ok x.ax 0 x.a x.d, spB x.ok x.ax 1 x.b x.e, spB x.ok x.ax 2 x.c x.f, keepI x.ok x.d, keepI x.ok x.e, keepI x.ok x.f⟩
/-- Its center. -/
def Bx.c0 (x : Bx) : Int := cen x.v x.a x.d
def Bx.c1 (x : Bx) : Int := cen x.v x.b x.e
def Bx.c2 (x : Bx) : Int := cen x.v x.c x.f
theorem Bx.split (x : Bx) (u : World) : Calls Tryz.prog 38 #[.agg x.val] u fun e w' => e = .returned (.tuple #[.agg x.fst.val, .agg x.snd.val, .bool x.ok]) ∧ u.grownBy w' none := split_any x.a x.b x.c x.d x.e x.f u
theorem Bx.center (x : Bx) (u : World) : Calls Tryz.prog 109 #[.agg x.val] u fun e w' => e = .returned (.agg #[.int .i64 x.c0, .int .i64 x.c1, .int .i64 x.c2]) ∧ u.grownBy w' none := center_any x.a x.b x.c x.d x.e x.f u
end Go.Proofs.YtgaglgopbdfemaaGreatDoor
namespace Go.Proofs.YtgaglgopbdfemaaGreatDoor
set_option linter.all false
section LPrfC
open Go.RowKit Rg
end LPrfC
section LPrfD
open Go.RowKit Rg
def Prob.reg (P : Prob) : Bx := ⟨P.x0, P.y0, P.z0, P.x1, P.y1, P.z1⟩
end LPrfD
section LPrfM
open Go.RowKit Rg
/-- What a certificate says of a box. -/
def wr (V : Bx → Bool) : Nat → Bx → List Int → Int × List Int
  | 0, _, l => (8, l)
  | f + 1, b, l => if l.length = 6001 then (8, l) else if V b then (0, l ++ [0]) else if b.ok then (if (wr V f b.fst (l ++ [1])).1 = 0 then wr V f b.snd (wr V f b.fst (l ++ [1])).2 else wr V f b.fst (l ++ [1])) else (26, l)
end LPrfM
section LPrfN
open Go.RowKit Rg
attribute [local irreducible] wr
end LPrfN
end Go.Proofs.YtgaglgopbdfemaaGreatDoor
namespace Go.Proofs.YtgaglgopbdfemaaGreatDoor
set_option linter.all false
section LMisM
section LMisM
open Go.RowKit Rg
/-- A phase more; another cap. -/
def Prob.more (P : Prob) (a : Ph) : Prob := { P with phs := P.phs ++ [a] }
theorem Good.more {P : Prob} (h : Good P) {a : Ph} (ha : goodPh a) (hn : Near P.step P.ls P.hs P.x0 P.y0 P.z0 P.x1 P.y1 P.z1 a.x a.y a.z) (hl : P.phs.length ≤ 30) : Good (P.more a) := by
  have hmem : ∀ b ∈ (P.more a).phs, b ∈ P.phs ∨ b = a := fun b hb => by simpa [Prob.more] using hb
  refine ⟨⟨h.sound.vb, h.sound.ok, by simp [Prob.more]; omega, h.sound.cap, fun b hb => ?_⟩, fun b hb => ?_, fun b hb => ?_⟩
  · rcases hmem b hb with hb | rfl
    · exact h.sound.ph b hb
    · exact (hn.zE ha.ok).1
  · rcases hmem b hb with hb | rfl
    · exact h.near b hb
    · exact hn
  · rcases hmem b hb with hb | rfl
    · exact h.ph b hb
    · exact ha
end LMisM
end LMisM
section LMisS
section LMisS
open Go.RowKit Rg
end LMisS
end LMisS
section LReP
open Go.RowKit Rg
/-- Block Q holds the problem with the phases l; w has grown into u. -/
structure PrRe (w : World) (Q : Nat) (x0 y0 z0 x1 y1 z1 step : Int) (vl vh : Value) (cap : Int) (l : List Ph) (vq : Value) (u : World) : Prop where
  prob : u.heap[Q]? = some (.cells #[.int .i64 x0, .int .i64 y0, .int .i64 z0, .int .i64 x1, .int .i64 y1, .int .i64 z1, .int .i64 step, vl, vh, vq, .int .i64 cap] 33 (0, 0))
  own : u.ownsRow (Q + 1) 39 6 vq l.length (flatP l)
  gr : w.grownBy u none
  new : w.heap.size ≤ Q
section
variable {w : World} {Q : Nat} {x0 y0 z0 x1 y1 z1 step : Int} {vl vh : Value} {cap : Int} {l : List Ph} {vq : Value} {u u' : World}
theorem PrRe.lt (h : PrRe w Q x0 y0 z0 x1 y1 z1 step vl vh cap l vq u) : Q < u.heap.size := block_lt' h.prob
theorem PrRe.later (h : PrRe w Q x0 y0 z0 x1 y1 z1 step vl vh cap l vq u) (hg : u.grownBy u' none) : PrRe w Q x0 y0 z0 x1 y1 z1 step vl vh cap l vq u' :=
  ⟨block_kept hg h.prob rfl, owns_keep h.own hg, gb_trans h.gr hg, h.new⟩
theorem PrRe.draw {p : Nat} (h : PrRe w Q x0 y0 z0 x1 y1 z1 step vl vh cap l vq u) (hg : u.grownBy u' (some p)) (hp : p < Q) (hw : w.heap.size ≤ p) : PrRe w Q x0 y0 z0 x1 y1 z1 step vl vh cap l vq u' :=
  ⟨block_keptp hg h.prob (by omega), owns_keepp h.own hg (by omega), gb_new h.gr hg (by simpa using hw), h.new⟩
/-- One block a that is none of its own is written. -/
theorem PrRe.other {a : Nat} (h : PrRe w Q x0 y0 z0 x1 y1 z1 step vl vh cap l vq u) (hg : u.grownBy u' (some a)) (ha : Q < a) (hv : vq.ownBlock ≠ some a) : PrRe w Q x0 y0 z0 x1 y1 z1 step vl vh cap l vq u' :=
  ⟨block_keptp hg h.prob (by omega), h.own.kept hg (.inr hv), gb_new h.gr hg (by have := h.new; simp; omega), h.new⟩
theorem PrRe.prob9 (h : PrRe w Q x0 y0 z0 x1 y1 z1 step vl vh cap l vq u) (hg : u.grownBy u' vq.ownBlock) :
    u'.heap[Q]? = some (.cells #[.int .i64 x0, .int .i64 y0, .int .i64 z0, .int .i64 x1, .int .i64 y1, .int .i64 z1, .int .i64 step, vl, vh, vq, .int .i64 cap] 33 (0, 0)) := by
  rw [hg.block Q (Array.getElem?_eq_some_iff.1 h.prob).1 (fun e => by have := (h.own.lt Q e.symm).1; omega)]; exact h.prob
theorem PrRe.push {a : Ph} {vq' : Value} (h : PrRe w Q x0 y0 z0 x1 y1 z1 step vl vh cap l vq u) (hg : u.grownBy u' vq.ownBlock) (ho : u'.ownsRow (Q + 1) 39 6 vq' (l.length + 1) (flatP l ++ a.cells)) :
    PrRe w Q x0 y0 z0 x1 y1 z1 step vl vh cap (l ++ [a]) vq' (u'.setCell ⟨Q, 9, none⟩ vq') := by
  have hn := h.new
  have hne : ∀ b, vq.ownBlock = some b → Q + 1 ≤ b := fun b hb => (h.own.lt b hb).1
  have hQ := h.prob9 hg
  have sgr : u'.grownBy (u'.setCell ⟨Q, 9, none⟩ vq') (some Q) := gb_setCell (gb_refl _ _) (.inr rfl) _
  refine ⟨set_block hQ 9 vq', ?_, gb_setCell (gb_new h.gr hg (fun q hq => by have := hne q hq; omega)) (.inl h.new) _, h.new⟩
  rw [List.length_append, show flatP (l ++ [a]) = flatP l ++ a.cells by simp [flatP]]
  exact ho.kept sgr (.inr (fun e => by have := (ho.lt Q e).1; omega))
theorem PrRe.fro {o : Nat} (h : PrRe w Q x0 y0 z0 x1 y1 z1 step vl vh cap l vq u) (hg : u.grownBy u' vq.ownBlock) : u'.frozen? ⟨Q, o, none⟩ = false := by simp [World.frozen?, h.prob9 hg]
theorem PrRe.nine (h : PrRe w Q x0 y0 z0 x1 y1 z1 step vl vh cap l vq u) (hg : u.grownBy u' vq.ownBlock) : u'.cell? ⟨Q, 9, none⟩ = some vq := by simp [World.cell?, h.prob9 hg]
/-- The problem that it holds. -/
theorem PrRe.inn {P : Prob} {vp : Value} (h : PrRe w Q x0 y0 z0 x1 y1 z1 step vl vh cap P.phs vq u) {u0 : World} {P0 : Prob} (hi : ProbIn P0 vl vh vp u0) (hu : u0.grownBy u none) (h1 : P.ls = P0.ls) (h2 : P.hs = P0.hs) : ProbIn P vl vh vq u :=
  ⟨h1 ▸ hi.l.after hu, h2 ▸ hi.h.after hu, SlC.of_owns h.own⟩
end
end LReP
section LSwp
open Go.RowKit
/-- Phase i of a list. -/
def phAt (l : List Ph) (i : Nat) : Ph := l[i]?.getD default
theorem phAt_eq {l : List Ph} {i : Nat} (h : i < l.length) : phAt l i = l[i] := by simp [phAt, h]
/-- Two phases are exchanged. -/
def swapPh (l : List Ph) (i k : Nat) : List Ph := (l.set i (phAt l k)).set k (phAt l i)
theorem flatP_cons (a : Ph) (l : List Ph) : flatP (a :: l) = a.cells ++ flatP l := by simp [flatP]
theorem Ph.cells_length (a : Ph) : a.cells.length = 6 := rfl
theorem flatP_setLL : ∀ (l : List Ph) (i : Nat) (x : Ph), i < l.length → flatP (l.set i x) = setLL (flatP l) (i * 6) x.cells
  | a :: l, 0, x, _ => by
    rw [List.set_cons_zero, flatP_cons, flatP_cons]
    simp [Ph.cells, setLL]
  | a :: l, i + 1, x, h => by
    rw [List.set_cons_succ, flatP_cons, flatP_cons, flatP_setLL l i x (by simpa using h), show (i + 1) * 6 = a.cells.length + i * 6 by rw [Ph.cells_length]; omega, setLL_append]
theorem owns_swap {B : Nat} {l : List Ph} {u : World} {q cp : Nat} (h : u.ownsRow B 39 6 (.slice (some ⟨q, 0, none⟩) l.length cp) l.length (flatP l)) (i k : Nat) (hi : i < l.length) (hk : k < l.length) :
    ((u.setCells q (i * 6) (phAt l k).cells).setCells q (k * 6) (phAt l i).cells).ownsRow B 39 6 (.slice (some ⟨q, 0, none⟩) l.length cp) (swapPh l i k).length (flatP (swapPh l i k)) ∧ u.grownBy ((u.setCells q (i * 6) (phAt l k).cells).setCells q (k * 6) (phAt l i).cells) (some q) := by
  refine ⟨?_, setCells_grown _ _ _ (setCells_grown _ _ _ (gb_refl _ _) (.inr rfl)) (.inr rfl)⟩
  unfold swapPh
  rw [List.length_set, List.length_set, flatP_setLL _ _ _ (by simpa using hk), flatP_setLL _ _ _ hi]
  exact owns_setCells _ _ _ _ (owns_setCells _ _ _ _ h)
/-- The row of the problem's phases after an exchange. -/
theorem PrRe.swap {w : World} {Q : Nat} {x0 y0 z0 x1 y1 z1 step : Int} {vl vh : Value} {cap : Int} {l : List Ph} {q cp n : Nat} {u : World} (h : PrRe w Q x0 y0 z0 x1 y1 z1 step vl vh cap l (.slice (some ⟨q, 0, none⟩) n cp) u) (hn : l.length = n) (i k : Nat) (hi : i < n) (hk : k < n) :
    PrRe w Q x0 y0 z0 x1 y1 z1 step vl vh cap (swapPh l i k) (.slice (some ⟨q, 0, none⟩) n cp) ((u.setCells q (i * 6) (phAt l k).cells).setCells q (k * 6) (phAt l i).cells) := by
  subst hn
  obtain ⟨h1, hg⟩ := owns_swap h.own i k hi hk
  have hq := (h.own.lt q rfl).1
  exact ⟨block_keptp hg h.prob (by omega), h1, gb_new h.gr hg (fun k hk => by have := h.new; simp at hk; omega), h.new⟩
/-- The cells of phase i. -/
theorem PrRe.it {w : World} {Q : Nat} {x0 y0 z0 x1 y1 z1 step : Int} {vl vh : Value} {cap : Int} {l : List Ph} {q cp n : Nat} {u : World} (h : PrRe w Q x0 y0 z0 x1 y1 z1 step vl vh cap l (.slice (some ⟨q, 0, none⟩) n cp) u) (i : Nat) (hi : i < l.length) :
    u.cell? ⟨q, i * 6, none⟩ = some (.int .i64 (phAt l i).x) ∧ u.cell? ⟨q, i * 6 + 1, none⟩ = some (.int .i64 (phAt l i).y) ∧ u.cell? ⟨q, i * 6 + 2, none⟩ = some (.int .i64 (phAt l i).z) ∧ u.cell? ⟨q, i * 6 + 3, none⟩ = some (.int .i64 (phAt l i).e) ∧ u.cell? ⟨q, i * 6 + 4, none⟩ = some (.int .i64 (phAt l i).l) ∧ u.cell? ⟨q, i * 6 + 5, none⟩ = some (.int .i64 (phAt l i).n) := by
  have hc : ∀ j x, (flatP l)[j]? = some x → u.cell? ⟨q, j, none⟩ = some x := fun j x hj => by
    have := World.ownsRow.cells (g := q) h.own rfl j x hj
    have hadd : (⟨q, 0, none⟩ : Addr).add j = ⟨q, j, none⟩ := by unfold Addr.add; split <;> simp_all
    rw [hadd] at this; exact this
  rw [phAt_eq hi]
  exact ⟨hc _ _ (flatP_at l i hi 0 (by omega)), hc _ _ (flatP_at l i hi 1 (by omega)), hc _ _ (flatP_at l i hi 2 (by omega)), hc _ _ (flatP_at l i hi 3 (by omega)), hc _ _ (flatP_at l i hi 4 (by omega)), hc _ _ (flatP_at l i hi 5 (by omega))⟩
theorem PrRe.base {w w0 : World} {Q : Nat} {x0 y0 z0 x1 y1 z1 step : Int} {vl vh : Value} {cap : Int} {l : List Ph} {vq : Value} {u : World} (h : PrRe w Q x0 y0 z0 x1 y1 z1 step vl vh cap l vq u) (hg : w0.grownBy w none) : PrRe w0 Q x0 y0 z0 x1 y1 z1 step vl vh cap l vq u :=
  ⟨h.prob, h.own, gb_trans hg h.gr, Nat.le_trans hg.size h.new⟩
end LSwp
end Go.Proofs.YtgaglgopbdfemaaGreatDoor
