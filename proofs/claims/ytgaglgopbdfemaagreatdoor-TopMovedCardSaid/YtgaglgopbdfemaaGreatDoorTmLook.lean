/- Sr Look -/
import Derived.Test.YtgaglgopbdfemaaGreatDoorTmRefC
import Derived.Test.YtgaglgopbdfemaaGreatDoorTmHeapP
import Derived.Test.YtgaglgopbdfemaaGreatDoorTmSwpA
namespace Go.Proofs.YtgaglgopbdfemaaGreatDoor
set_option linter.all false
open Go.RowKit
/-- A box that is or was open, with its bound. -/
structure It where
  b : Bx
  c : Int
  done : Bool
deriving Inhabited
def It.cells (i : It) : List Value := [.int .i64 i.b.a, .int .i64 i.b.b, .int .i64 i.b.c, .int .i64 i.b.d, .int .i64 i.b.e, .int .i64 i.b.f, .int .i64 i.c, .bool i.done]
def flatI (l : List It) : List Value := l.flatMap It.cells
theorem flatI_at : ∀ (l : List It) (i : Nat) (h : i < l.length) (j : Nat), j < 8 → (flatI l)[i * 8 + j]? = (l[i]).cells[j]?
  | a :: l, 0, _, j, hj => by
    have e : flatI (a :: l) = a.cells ++ flatI l := by simp [flatI]
    rw [e, Nat.zero_mul, Nat.zero_add, List.getElem?_append_left (by simp [It.cells]; omega)]; rfl
  | a :: l, i + 1, h, j, hj => by
    have e : flatI (a :: l) = a.cells ++ flatI l := by simp [flatI]
    have hl : a.cells.length = 8 := rfl
    rw [e, List.getElem?_append_right (by rw [hl]; omega), hl, show (i + 1) * 8 + j - 8 = i * 8 + j by omega, flatI_at l i (by simpa using h) j hj]; rfl
/-- Item i, of a list. -/
def itAt (l : List It) (i : Nat) : It := l[i]?.getD default
theorem itAt_eq {l : List It} {i : Nat} (h : i < l.length) : itAt l i = l[i] := by simp [itAt, h]
theorem SlC.it {w : World} {b off : Nat} {l : List It} (h : ∀ j u, (flatI l)[j]? = some u → w.cell? ⟨b, off + j, none⟩ = some u) (i : Nat) (hi : i < l.length) :
    w.cell? ⟨b, off + i * 8, none⟩ = some (.int .i64 (itAt l i).b.a) ∧ w.cell? ⟨b, off + i * 8 + 1, none⟩ = some (.int .i64 (itAt l i).b.b) ∧ w.cell? ⟨b, off + i * 8 + 2, none⟩ = some (.int .i64 (itAt l i).b.c) ∧ w.cell? ⟨b, off + i * 8 + 3, none⟩ = some (.int .i64 (itAt l i).b.d) ∧ w.cell? ⟨b, off + i * 8 + 4, none⟩ = some (.int .i64 (itAt l i).b.e) ∧ w.cell? ⟨b, off + i * 8 + 5, none⟩ = some (.int .i64 (itAt l i).b.f) ∧ w.cell? ⟨b, off + i * 8 + 6, none⟩ = some (.int .i64 (itAt l i).c) ∧ w.cell? ⟨b, off + i * 8 + 7, none⟩ = some (.bool (itAt l i).done) := by
  rw [itAt_eq hi]
  exact ⟨h (i * 8) _ (flatI_at l i hi 0 (by omega)), by rw [Nat.add_assoc]; exact h _ _ (flatI_at l i hi 1 (by omega)), by rw [Nat.add_assoc]; exact h _ _ (flatI_at l i hi 2 (by omega)), by rw [Nat.add_assoc]; exact h _ _ (flatI_at l i hi 3 (by omega)), by rw [Nat.add_assoc]; exact h _ _ (flatI_at l i hi 4 (by omega)), by rw [Nat.add_assoc]; exact h _ _ (flatI_at l i hi 5 (by omega)), by rw [Nat.add_assoc]; exact h _ _ (flatI_at l i hi 6 (by omega)), by rw [Nat.add_assoc]; exact h _ _ (flatI_at l i hi 7 (by omega))⟩
/-- The open box with the least bound, the first of them, among the first k; -1: none. -/
def nx (l : List It) : Nat → Int
  | 0 => -1
  | k + 1 => if !(itAt l k).done && (decide (nx l k < 0) || decide ((itAt l k).c < (itAt l (nx l k).toNat).c)) then k else nx l k
theorem nx_skip {l : List It} {k : Nat} (h : (!(itAt l k).done && (decide (nx l k < 0) || decide ((itAt l k).c < (itAt l (nx l k).toNat).c))) = false) : nx l (k + 1) = nx l k := by
  show (if _ then _ else _) = _
  rw [h]; rfl
theorem nx_take {l : List It} {k : Nat} (h : (!(itAt l k).done && (decide (nx l k < 0) || decide ((itAt l k).c < (itAt l (nx l k).toNat).c))) = true) : nx l (k + 1) = k := by
  show (if _ then _ else _) = _
  rw [h]; rfl
/-- What it is: no open box at all; or an open box, with no lesser bound among them and none before it as small. -/
theorem nx_spec (l : List It) : ∀ k, (nx l k = -1 ∧ ∀ i, i < k → (itAt l i).done = true) ∨
    ∃ j : Nat, nx l k = j ∧ j < k ∧ (itAt l j).done = false ∧ ∀ i, i < k → (itAt l i).done = false → (itAt l j).c ≤ (itAt l i).c ∧ (i < j → (itAt l j).c < (itAt l i).c)
  | 0 => .inl ⟨rfl, fun i h => by omega⟩
  | k + 1 => by
    cases hc : (!(itAt l k).done && (decide (nx l k < 0) || decide ((itAt l k).c < (itAt l (nx l k).toNat).c)))
    · rw [nx_skip hc]
      rcases nx_spec l k with ⟨h1, h2⟩ | ⟨j, h1, h2, h3, h4⟩
      · left
        refine ⟨h1, fun i hi => ?_⟩
        by_cases e : i = k
        · subst e
          rw [h1] at hc
          cases hd : (itAt l i).done
          · rw [hd] at hc; simp at hc
          · rfl
        · exact h2 i (by omega)
      · right
        refine ⟨j, h1, by omega, h3, fun i hi hd => ?_⟩
        by_cases e : i = k
        · subst e
          rw [h1, hd] at hc
          simp at hc
          omega
        · exact h4 i (by omega) hd
    · rw [nx_take hc]
      right
      have hd : (itAt l k).done = false := by
        cases h : (itAt l k).done
        · rfl
        · rw [h] at hc; simp at hc
      refine ⟨k, rfl, by omega, hd, fun i hi hdi => ?_⟩
      by_cases e : i = k
      · subst e; omega
      · rcases nx_spec l k with ⟨h1, h2⟩ | ⟨j, h1, h2, h3, h4⟩
        · rw [h2 i (by omega)] at hdi; cases hdi
        · rw [h1, hd] at hc
          have := h4 i (by omega) hdi
          simp at hc
          omega
def bxC (P : Prob) (b : Bx) : Int := bdC P b.a b.b b.c b.d b.e b.f
def bxE (P : Prob) (b : Bx) : Int := bdE P b.a b.b b.c b.d b.e b.f
/-- The state of a search. -/
structure Sr where
  l : List It
  x : Loc
  n : Nat
/-- Is the center of a box a better point? -/
def lookC (P : Prob) (first : Bool) (x : Loc) (b : Bx) : Bool :=
  first || decide (bdC P b.c0 b.c1 b.c2 b.c0 b.c1 b.c2 < x.m) || (decide (bdC P b.c0 b.c1 b.c2 b.c0 b.c1 b.c2 = x.m) && decide (cmpP b.c0 b.c1 b.c2 x.px x.py x.pz < 0))
def looks (P : Prob) (first : Bool) (x : Loc) (b : Bx) : Loc :=
  if lookC P first x b then ⟨b.c0, b.c1, b.c2, atT P b.c0 b.c1 b.c2, bdC P b.c0 b.c1 b.c2 b.c0 b.c1 b.c2, x.l, x.a0, x.a1, x.a2, x.a3, x.a4, x.a5⟩ else x
def halves1 (P : Prob) (b : Bx) : List It := if b.ok then [⟨b.fst, bxC P b.fst, false⟩, ⟨b.snd, bxC P b.snd, false⟩] else []
def Sr.step (P : Prob) (s : Sr) (k : Nat) : Sr :=
  ⟨s.l.set k { itAt s.l k with done := true } ++ halves1 P (itAt s.l k).b, looks P (decide (s.n = 0)) s.x (itAt s.l k).b, s.n + 1⟩
def Sr.k (s : Sr) : Int := nx s.l s.l.length
def Sr.ended (s : Sr) (tol : Int) : Bool := decide (s.k < 0) || (decide (0 < s.n) && decide (IntKind.i64.wrap (s.x.m - (itAt s.l s.k.toNat).c) ≤ tol))
def loc0 : Loc := ⟨0, 0, 0, 0, 0, 0, 0, 0, 0, 0, 0, 0⟩
def Sr.start (P : Prob) : Sr := ⟨[⟨⟨P.x0, P.y0, P.z0, P.x1, P.y1, P.z1⟩, bdC P P.x0 P.y0 P.z0 P.x1 P.y1 P.z1, false⟩], loc0, 0⟩
/-- The search, at most so many steps; none: there are too many boxes. -/
def Sr.run (P : Prob) (tol : Int) : Nat → Sr → Option Sr
  | 0, s => if s.ended tol then some s else none
  | f + 1, s => if s.ended tol then some s else Sr.run P tol f (s.step P s.k.toNat)
theorem Sr.run_ended {P : Prob} {tol : Int} {s : Sr} (h : s.ended tol = true) : ∀ f, Sr.run P tol f s = some s
  | 0 => by unfold Sr.run; rw [h]; rfl
  | f + 1 => by unfold Sr.run; rw [h]; rfl
theorem Sr.run_next {P : Prob} {tol : Int} {s : Sr} (h : s.ended tol = false) (f : Nat) : Sr.run P tol (f + 1) s = Sr.run P tol f (s.step P s.k.toNat) := by
  rw [Sr.run, h]; rfl
/-- What is returned: the lower bound and the area, of the first k boxes. -/
def Sr.fin (s : Sr) : Nat → Loc
  | 0 => { s.x with l := s.x.m, a0 := s.x.px, a1 := s.x.py, a2 := s.x.pz, a3 := s.x.px, a4 := s.x.py, a5 := s.x.pz }
  | k + 1 => if !(itAt s.l k).done && decide ((itAt s.l k).c < s.x.m) then
      { s.fin k with
        l := min (s.fin k).l (itAt s.l k).c
        a0 := huL (bP (s.fin k).a0 (s.fin k).a1 (s.fin k).a2 (s.fin k).a3 (s.fin k).a4 (s.fin k).a5 && (itAt s.l k).b.v) (s.fin k).a0 (itAt s.l k).b.a
        a1 := huL (bP (s.fin k).a0 (s.fin k).a1 (s.fin k).a2 (s.fin k).a3 (s.fin k).a4 (s.fin k).a5 && (itAt s.l k).b.v) (s.fin k).a1 (itAt s.l k).b.b
        a2 := huL (bP (s.fin k).a0 (s.fin k).a1 (s.fin k).a2 (s.fin k).a3 (s.fin k).a4 (s.fin k).a5 && (itAt s.l k).b.v) (s.fin k).a2 (itAt s.l k).b.c
        a3 := huH (bP (s.fin k).a0 (s.fin k).a1 (s.fin k).a2 (s.fin k).a3 (s.fin k).a4 (s.fin k).a5 && (itAt s.l k).b.v) (s.fin k).a3 (itAt s.l k).b.d
        a4 := huH (bP (s.fin k).a0 (s.fin k).a1 (s.fin k).a2 (s.fin k).a3 (s.fin k).a4 (s.fin k).a5 && (itAt s.l k).b.v) (s.fin k).a4 (itAt s.l k).b.e
        a5 := huH (bP (s.fin k).a0 (s.fin k).a1 (s.fin k).a2 (s.fin k).a3 (s.fin k).a4 (s.fin k).a5 && (itAt s.l k).b.v) (s.fin k).a5 (itAt s.l k).b.f }
      else s.fin k
def Sr.finC (s : Sr) (k : Nat) : Bool := !(itAt s.l k).done && decide ((itAt s.l k).c < s.x.m)
/-- A box more, of what is returned. -/
def Loc.more (y : Loc) (b : Bx) (c : Int) : Loc :=
  ⟨y.px, y.py, y.pz, y.t, y.m, min y.l c, huL (bP y.a0 y.a1 y.a2 y.a3 y.a4 y.a5 && bP b.a b.b b.c b.d b.e b.f) y.a0 b.a, huL (bP y.a0 y.a1 y.a2 y.a3 y.a4 y.a5 && bP b.a b.b b.c b.d b.e b.f) y.a1 b.b, huL (bP y.a0 y.a1 y.a2 y.a3 y.a4 y.a5 && bP b.a b.b b.c b.d b.e b.f) y.a2 b.c,
    huH (bP y.a0 y.a1 y.a2 y.a3 y.a4 y.a5 && bP b.a b.b b.c b.d b.e b.f) y.a3 b.d, huH (bP y.a0 y.a1 y.a2 y.a3 y.a4 y.a5 && bP b.a b.b b.c b.d b.e b.f) y.a4 b.e, huH (bP y.a0 y.a1 y.a2 y.a3 y.a4 y.a5 && bP b.a b.b b.c b.d b.e b.f) y.a5 b.f⟩
theorem Sr.fin_succ (s : Sr) (k : Nat) : s.fin (k + 1) = if s.finC k then (s.fin k).more (itAt s.l k).b (itAt s.l k).c else s.fin k := rfl
end Go.Proofs.YtgaglgopbdfemaaGreatDoor
namespace Go.Proofs.YtgaglgopbdfemaaGreatDoor
set_option linter.all false
open Go.RowKit Rg
/-- The cells of a search. -/
def csS (P : Prob) (vl vh vp v : Value) (num tk : Int) (fd : Bool) (x : Loc) : Array Value := #[.int .i64 P.x0, .int .i64 P.y0, .int .i64 P.z0, .int .i64 P.x1, .int .i64 P.y1, .int .i64 P.z1, .int .i64 P.step, vl, vh, vp, .int .i64 P.cap, v, .int .i64 num, .int .i64 tk, .bool fd, .int .i64 x.px, .int .i64 x.py, .int .i64 x.pz, .int .i64 x.t, .int .i64 x.m, .int .i64 x.l, .int .i64 x.a0, .int .i64 x.a1, .int .i64 x.a2, .int .i64 x.a3, .int .i64 x.a4, .int .i64 x.a5]
/-- The row is kept in the search, beside a problem that reads well from older memory. -/
structure LsAt (P : Prob) (vl vh vp : Value) (S B : Nat) (h : List Hi) (num tk : Int) (fd : Bool) (x : Loc) (v : Value) (u : World) : Prop where
  q : Qu S B (csS P vl vh vp v num tk fd x) h v u
  pi : ProbIn P vl vh vp u
  old : ∀ y, y = vl ∨ y = vh ∨ y = vp → ∀ b off len cap, y = .slice (some ⟨b, off, none⟩) len cap → 0 < len → b < S
section
variable {P : Prob} {vl vh vp v : Value} {S B : Nat} {h : List Hi} {num tk : Int} {fd : Bool} {x : Loc} {u u' : World}
theorem LsAt.keep (a : LsAt P vl vh vp S B h num tk fd x v u) (hg : u.grownBy u' none) : LsAt P vl vh vp S B h num tk fd x v u' := ⟨a.q.keep hg, a.pi.after hg, a.old⟩
/-- The search's own block turns. -/
theorem LsAt.put {num' tk' : Int} {fd' : Bool} {x' : Loc} (a : LsAt P vl vh vp S B h num tk fd x v u) (hs : u'.heap[S]? = some (.cells (csS P vl vh vp v num' tk' fd' x') 61 (0, 0))) (hg : u.grownBy u' (some S)) : LsAt P vl vh vp S B h num' tk' fd' x' v u' := by
  have hl := a.q.lt
  exact ⟨⟨hs, rfl, World.ownsRow.kept a.q.row hg (by
      cases e : v.ownBlock with
      | none => exact .inl rfl
      | some k => exact .inr (fun e2 => a.q.sne (e.trans e2).symm)), hl, Nat.le_trans a.q.le hg.size⟩,
    ⟨a.pi.l.later hg (fun b off len cap e hl => by have := a.old _ (.inl rfl) b off len cap e hl; simp; omega), a.pi.h.later hg (fun b off len cap e hl => by have := a.old _ (.inr (.inl rfl)) b off len cap e hl; simp; omega), a.pi.p.draw hg (fun b off len cap e hl => by have := a.old _ (.inr (.inr rfl)) b off len cap e hl; omega)⟩, a.old⟩
end
theorem csS_best (P : Prob) (vl vh vp v : Value) (num tk : Int) (fd : Bool) (x y : Loc) : ((((((((((((((csS P vl vh vp v num tk fd x).set! 14 (.bool true)).set! 15 (.int .i64 y.px)).set! 16 (.int .i64 y.py)).set! 17 (.int .i64 y.pz)).set! 18 (.int .i64 y.t)).set! 19 (.int .i64 y.m)).set! 20 (.int .i64 y.l)).set! 21 (.int .i64 y.a0)).set! 22 (.int .i64 y.a1)).set! 23 (.int .i64 y.a2)).set! 24 (.int .i64 y.a3)).set! 25 (.int .i64 y.a4)).set! 26 (.int .i64 y.a5)) = csS P vl vh vp v num tk true y := by kernel_rfl
theorem LsAt.best {P : Prob} {vl vh vp v : Value} {S B : Nat} {h : List Hi} {num tk : Int} {fd : Bool} {x : Loc} {u : World} (a : LsAt P vl vh vp S B h num tk fd x v u) (y : Loc) : LsAt P vl vh vp S B h num tk true y v (((((((((((((u.setCell ⟨S, 14, none⟩ (.bool true)).setCell ⟨S, 15, none⟩ (.int .i64 y.px)).setCell ⟨S, 16, none⟩ (.int .i64 y.py)).setCell ⟨S, 17, none⟩ (.int .i64 y.pz)).setCell ⟨S, 18, none⟩ (.int .i64 y.t)).setCell ⟨S, 19, none⟩ (.int .i64 y.m)).setCell ⟨S, 20, none⟩ (.int .i64 y.l)).setCell ⟨S, 21, none⟩ (.int .i64 y.a0)).setCell ⟨S, 22, none⟩ (.int .i64 y.a1)).setCell ⟨S, 23, none⟩ (.int .i64 y.a2)).setCell ⟨S, 24, none⟩ (.int .i64 y.a3)).setCell ⟨S, 25, none⟩ (.int .i64 y.a4)).setCell ⟨S, 26, none⟩ (.int .i64 y.a5)) ∧ u.grownBy (((((((((((((u.setCell ⟨S, 14, none⟩ (.bool true)).setCell ⟨S, 15, none⟩ (.int .i64 y.px)).setCell ⟨S, 16, none⟩ (.int .i64 y.py)).setCell ⟨S, 17, none⟩ (.int .i64 y.pz)).setCell ⟨S, 18, none⟩ (.int .i64 y.t)).setCell ⟨S, 19, none⟩ (.int .i64 y.m)).setCell ⟨S, 20, none⟩ (.int .i64 y.l)).setCell ⟨S, 21, none⟩ (.int .i64 y.a0)).setCell ⟨S, 22, none⟩ (.int .i64 y.a1)).setCell ⟨S, 23, none⟩ (.int .i64 y.a2)).setCell ⟨S, 24, none⟩ (.int .i64 y.a3)).setCell ⟨S, 25, none⟩ (.int .i64 y.a4)).setCell ⟨S, 26, none⟩ (.int .i64 y.a5)) (some S) := by
  have hg : u.grownBy (((((((((((((u.setCell ⟨S, 14, none⟩ (.bool true)).setCell ⟨S, 15, none⟩ (.int .i64 y.px)).setCell ⟨S, 16, none⟩ (.int .i64 y.py)).setCell ⟨S, 17, none⟩ (.int .i64 y.pz)).setCell ⟨S, 18, none⟩ (.int .i64 y.t)).setCell ⟨S, 19, none⟩ (.int .i64 y.m)).setCell ⟨S, 20, none⟩ (.int .i64 y.l)).setCell ⟨S, 21, none⟩ (.int .i64 y.a0)).setCell ⟨S, 22, none⟩ (.int .i64 y.a1)).setCell ⟨S, 23, none⟩ (.int .i64 y.a2)).setCell ⟨S, 24, none⟩ (.int .i64 y.a3)).setCell ⟨S, 25, none⟩ (.int .i64 y.a4)).setCell ⟨S, 26, none⟩ (.int .i64 y.a5)) (some S) := by repeat (first | refine gb_setCell ?_ (.inr rfl) _ | exact gb_refl _ _)
  refine ⟨a.put ?_ hg, hg⟩
  have hb := (set_block (set_block (set_block (set_block (set_block (set_block (set_block (set_block (set_block (set_block (set_block (set_block (set_block a.q.s 14 (.bool true)) 15 (.int .i64 y.px)) 16 (.int .i64 y.py)) 17 (.int .i64 y.pz)) 18 (.int .i64 y.t)) 19 (.int .i64 y.m)) 20 (.int .i64 y.l)) 21 (.int .i64 y.a0)) 22 (.int .i64 y.a1)) 23 (.int .i64 y.a2)) 24 (.int .i64 y.a3)) 25 (.int .i64 y.a4)) 26 (.int .i64 y.a5))
  rw [csS_best P vl vh vp v num tk fd x y] at hb
  exact hb
/-- The best point behind a look at a box. -/
def looksP (P : Prob) (fd : Bool) (x : Loc) (b : Bx) : Loc :=
  if lookC P (!fd) x b then ⟨b.c0, b.c1, b.c2, atT P b.c0 b.c1 b.c2, bdC P b.c0 b.c1 b.c2 b.c0 b.c1 b.c2, 0, 0, 0, 0, 0, 0, 0⟩ else x
set_option maxRecDepth 100000 in
set_option maxHeartbeats 8000000 in
theorem look_any (P : Prob) (vl vh vp : Value) (S B : Nat) (h : List Hi) (num tk : Int) (fd : Bool) (x : Loc) (v : Value) (b : Bx) (w : World) (a : LsAt P vl vh vp S B h num tk fd x v w) (hbig : P.phs.length ≤ 1000000000) (hE : bdE P b.c0 b.c1 b.c2 b.c0 b.c1 b.c2 = 0) :
    Calls Tryz.prog 61 #[.pointer (some ⟨S, 0, none⟩), .agg b.val] w fun e w' => e = .returned (.int .i64 0) ∧ LsAt P vl vh vp S B h num tk true (looksP P fd x b) v w' ∧ w.grownBy w' (some S) := by
  have CE := Lib.hid b.center
  have AT := Lib.hid (fun (u : World) (hi : ProbIn P vl vh vp u) => at_any P vl vh vp b.c0 b.c1 b.c2 u hi hbig)
  simp only [atV_eq] at AT
  rw [hE] at AT
  have LC : Hid (lookC P (!fd) x b = (!fd || decide (bdC P b.c0 b.c1 b.c2 b.c0 b.c1 b.c2 < x.m) || (decide (bdC P b.c0 b.c1 b.c2 b.c0 b.c1 b.c2 = x.m) && decide (cmpP b.c0 b.c1 b.c2 x.px x.py x.pz < 0)))) := Lib.hid rfl
  have LK : Hid (looksP P fd x b = if lookC P (!fd) x b then ⟨b.c0, b.c1, b.c2, atT P b.c0 b.c1 b.c2, bdC P b.c0 b.c1 b.c2 b.c0 b.c1 b.c2, 0, 0, 0, 0, 0, 0, 0⟩ else x) := Lib.hid rfl
  obtain ⟨pa, pc, rfl⟩ := a.pi.p.slice
  obtain ⟨la, ln, lc, rfl⟩ := sl_slice a.pi.l
  obtain ⟨ha, hn, hc, rfl⟩ := sl_slice a.pi.h
  have A0 := Lib.hid a
  clear a hE hbig
  generalize lookC P (!fd) x b = lk at *
  generalize looksP P fd x b = x' at *
  generalize atT P b.c0 b.c1 b.c2 = T_ at *
  generalize bdC P b.c0 b.c1 b.c2 b.c0 b.c1 b.c2 = M_ at *
  generalize b.c0 = cx at *
  generalize b.c1 = cy at *
  generalize b.c2 = cz at *
  obtain ⟨b0, b1, b2, b3, b4, b5⟩ := b
  have hBV : Bx.val ⟨b0, b1, b2, b3, b4, b5⟩ = #[.int .i64 b0, .int .i64 b1, .int .i64 b2, .int .i64 b3, .int .i64 b4, .int .i64 b5] := rfl
  rw [hBV] at CE ⊢
  obtain ⟨x0, y0, z0, x1, y1, z1, step, ls, hs, phs, cap⟩ := P
  obtain ⟨px, py, pz, xt, xm, xl, a0, a1, a2, a3, a4, a5⟩ := x
  generalize hpn : phs.length = pn at *
  have hPV : Prob.val ⟨x0, y0, z0, x1, y1, z1, step, ls, hs, phs, cap⟩ (.slice la ln lc) (.slice ha hn hc) (.slice pa pn pc) = #[.int .i64 x0, .int .i64 y0, .int .i64 z0, .int .i64 x1, .int .i64 y1, .int .i64 z1, .int .i64 step, .slice la ln lc, .slice ha hn hc, .slice pa pn pc, .int .i64 cap] := rfl
  have hCS : csS ⟨x0, y0, z0, x1, y1, z1, step, ls, hs, phs, cap⟩ (.slice la ln lc) (.slice ha hn hc) (.slice pa pn pc) v num tk fd ⟨px, py, pz, xt, xm, xl, a0, a1, a2, a3, a4, a5⟩ = #[.int .i64 x0, .int .i64 y0, .int .i64 z0, .int .i64 x1, .int .i64 y1, .int .i64 z1, .int .i64 step, .slice la ln lc, .slice ha hn hc, .slice pa pn pc, .int .i64 cap, v, .int .i64 num, .int .i64 tk, .bool fd, .int .i64 px, .int .i64 py, .int .i64 pz, .int .i64 xt, .int .i64 xm, .int .i64 xl, .int .i64 a0, .int .i64 a1, .int .i64 a2, .int .i64 a3, .int .i64 a4, .int .i64 a5] := rfl
  rw [hPV] at AT
  dsimp only at LC LK
  have hg1 : w.grownBy (w.alloc (.cells #[.int .i64 b0, .int .i64 b1, .int .i64 b2, .int .i64 b3, .int .i64 b4, .int .i64 b5] 28)) none := gb_alloc (gb_refl _ _) _
  have A1 := Lib.hid (A0.out.keep hg1); have G1 := Lib.hid (gb_none (row := some S) hg1)
  obtain ⟨e0_, e1_, e2_, e3_, e4_, e5_⟩ := six (heap_alloc_new w (.cells #[.int .i64 b0, .int .i64 b1, .int .i64 b2, .int .i64 b3, .int .i64 b4, .int .i64 b5] 28))
  clear hg1 A0
  go_enter Tryz.func61, Tryz.ntmps61
  go_wp2_with fail
  clear e0_ e1_ e2_ e3_ e4_ e5_
  generalize w.alloc (.cells #[.int .i64 b0, .int .i64 b1, .int .i64 b2, .int .i64 b3, .int .i64 b4, .int .i64 b5] 28) = w1 at *
  (with_reducible refine (CE.out w1).mono ?_)
  rintro r w2 ⟨rfl, hg⟩
  have hg3 : w1.grownBy (w2.alloc (.cells #[.int .i64 cx, .int .i64 cy, .int .i64 cz] 26)) none := gb_alloc hg _
  have A3 := Lib.hid (A1.out.keep hg3); have G3 := Lib.hid (gb_trans G1.out (gb_none hg3)); have N3 := Lib.hid (heap_alloc_new w2 (.cells #[.int .i64 cx, .int .i64 cy, .int .i64 cz] 26))
  clear hg hg3 A1 G1 CE
  go_wp2_with fail
  generalize w2.alloc (.cells #[.int .i64 cx, .int .i64 cy, .int .i64 cz] 26) = w3 at *
  generalize w2.heap.size = C at *
  have HS := Lib.hid A3.out.q.s
  rw [hCS] at HS
  have s0_ := cell_of HS.out 0 _ rfl; have s1_ := cell_of HS.out 1 _ rfl; have s2_ := cell_of HS.out 2 _ rfl; have s3_ := cell_of HS.out 3 _ rfl; have s4_ := cell_of HS.out 4 _ rfl; have s5_ := cell_of HS.out 5 _ rfl; have s6_ := cell_of HS.out 6 _ rfl; have s7_ := cell_of HS.out 7 _ rfl; have s8_ := cell_of HS.out 8 _ rfl; have s9_ := cell_of HS.out 9 _ rfl; have s10_ := cell_of HS.out 10 _ rfl
  obtain ⟨n0_, n1_, n2_⟩ := cells3 N3.out
  have hSl := block_lt' HS.out; have hCl := block_lt' N3.out
  (refine wp_region_grown (by kernel_rfl) (by kernel_rfl) ?_; (repeat (go_big_quiet_step (first
    | (go_at_call 110; exact Calls.grown_of (AT.out _ (A3.out.pi.after (ever_up _))))))); refine wpQuiet_nil ?_; intro wq hq)
  have A4 := Lib.hid (A3.out.keep hq); have G4 := Lib.hid (gb_trans G3.out (gb_none hq)); have N4 := Lib.hid (block_kept hq N3.out rfl)
  clear hq A3 G3 N3 HS n0_ n1_ n2_ hSl hCl s0_ s1_ s2_ s3_ s4_ s5_ s6_ s7_ s8_ s9_ s10_
  generalize wq = w4 at *
  go_upto_region 5 with fail
  go_cut [56] from 9 (fun t wc => t = .bool lk ∧ w4.grownBy wc none)
  case first =>
    have HS := Lib.hid A4.out.q.s
    rw [hCS] at HS
    have s14_ := cell_of HS.out 14 _ rfl; have s15_ := cell_of HS.out 15 _ rfl; have s16_ := cell_of HS.out 16 _ rfl; have s17_ := cell_of HS.out 17 _ rfl; have s19_ := cell_of HS.out 19 _ rfl
    obtain ⟨n0_, n1_, n2_⟩ := cells3 N4.out
    have hSl := block_lt' HS.out; have hCl := block_lt' N4.out
    cases fd
    · have HL : Hid (lk = true) := Lib.hid (by rw [LC.out]; rfl)
      go_quiet (fail)
      go_wp2
      go_meet
      case rel => exact ⟨by rw [HL.out], gb_drewN (gb_refl _ _) _⟩
    by_cases h1 : M_ < xm
    · have t1_ : decide (M_ < xm) = true := decide_eq_true h1
      have HL : Hid (lk = true) := Lib.hid (by rw [LC.out, t1_]; rfl)
      clear h1
      go_quiet (fail)
      go_wp2
      go_meet
      case rel => exact ⟨by rw [HL.out], gb_drewN (gb_refl _ _) _⟩
    have t1_ : decide (M_ < xm) = false := decide_eq_false h1
    by_cases h2 : M_ = xm
    · have t2_ : (M_ == xm) = true := by simpa using h2
      have HL : Hid (lk = decide (cmpP cx cy cz px py pz < 0)) := Lib.hid (by rw [LC.out, t1_, decide_eq_true h2]; simp)
      have CM := Lib.hid (fun u => compare_any cx cy cz px py pz u)
      clear h1 h2
      generalize cmpP cx cy cz px py pz = cm_ at *
      (refine wp_region_grown (by kernel_rfl) (by kernel_rfl) ?_; (repeat (go_big_quiet_step (first
        | (go_at_call 111; exact Calls.grown_of (CM.out _))))); refine wpQuiet_nil ?_; intro wq hq)
      have HQ := Lib.hid hq
      clear hq
      go_wp2_with fail
      go_meet
      case rel => exact ⟨by rw [HL.out], HQ.out⟩
    · have t2_ : (M_ == xm) = false := by simpa using h2
      have HL : Hid (lk = false) := Lib.hid (by rw [LC.out, t1_, decide_eq_false h2]; rfl)
      clear h1 h2
      go_quiet (fail)
      go_wp2
      go_meet
      case rel => exact ⟨by rw [HL.out], gb_drewN (gb_refl _ _) _⟩
  case rest =>
  obtain ⟨rfl, hg⟩ := hcut
  generalize wc = w5 at *
  have A5 := Lib.hid (A4.out.keep hg); have G5 := Lib.hid (gb_trans G4.out (gb_none hg)); have N5 := Lib.hid (block_kept hg N4.out rfl)
  clear hg A4 G4 N4
  have hfd : lk = false → fd = true := fun e => by
    have := LC.out
    cases fd
    · rw [e] at this; simp at this
    · rfl
  clear LC
  cases lk
  · obtain rfl := hfd rfl
    have HX : Hid (x' = ⟨px, py, pz, xt, xm, xl, a0, a1, a2, a3, a4, a5⟩) := Lib.hid (by rw [LK.out]; rfl)
    go_wp2_with fail
    go_ret
    exact ⟨rfl, by rw [HX.out]; exact A5.out, G5.out⟩
  have HX : Hid (x' = ⟨cx, cy, cz, T_, M_, 0, 0, 0, 0, 0, 0, 0⟩) := Lib.hid (by rw [LK.out]; rfl)
  clear hfd LK
  have HS := Lib.hid A5.out.q.s
  rw [hCS] at HS
  obtain ⟨n0_, n1_, n2_⟩ := cells3 N5.out
  have s14_ := cell_of HS.out 14 _ rfl; have f14_ := frozen3 HS.out 14; have s15_ := cell_of HS.out 15 _ rfl; have f15_ := frozen3 HS.out 15; have s16_ := cell_of HS.out 16 _ rfl; have f16_ := frozen3 HS.out 16; have s17_ := cell_of HS.out 17 _ rfl; have f17_ := frozen3 HS.out 17; have s18_ := cell_of HS.out 18 _ rfl; have f18_ := frozen3 HS.out 18; have s19_ := cell_of HS.out 19 _ rfl; have f19_ := frozen3 HS.out 19; have s20_ := cell_of HS.out 20 _ rfl; have f20_ := frozen3 HS.out 20; have s21_ := cell_of HS.out 21 _ rfl; have f21_ := frozen3 HS.out 21; have s22_ := cell_of HS.out 22 _ rfl; have f22_ := frozen3 HS.out 22; have s23_ := cell_of HS.out 23 _ rfl; have f23_ := frozen3 HS.out 23; have s24_ := cell_of HS.out 24 _ rfl; have f24_ := frozen3 HS.out 24; have s25_ := cell_of HS.out 25 _ rfl; have f25_ := frozen3 HS.out 25; have s26_ := cell_of HS.out 26 _ rfl; have f26_ := frozen3 HS.out 26
  go_wp2_with fail
  go_ret
  exact ⟨rfl, by rw [HX.out]; exact (A5.out.best _).1, gb_trans G5.out (A5.out.best ⟨cx, cy, cz, T_, M_, 0, 0, 0, 0, 0, 0, 0⟩).2⟩
end Go.Proofs.YtgaglgopbdfemaaGreatDoor
