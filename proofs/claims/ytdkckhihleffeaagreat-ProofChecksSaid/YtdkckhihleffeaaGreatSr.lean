/- Of no program: the search by branch and bound, as the reference keeps it: a list of all boxes ever opened. -/
import Derived.Test.YtdkckhihleffeaaGreatBx
import Derived.Test.YtdkckhihleffeaaGreatPrf
import Derived.Test.YtdkckhihleffeaaGreatRef
namespace Go.Proofs.YtdkckhihleffeaaGreat
set_option linter.all false
open Go.RowKit

/-- A box that is or was open, with its bound. -/
structure It where
  b : Bx
  c : Int
  done : Bool
deriving Inhabited
def It.cells (i : It) : List Value := [.int .i64 i.b.a, .int .i64 i.b.b, .int .i64 i.b.c, .int .i64 i.b.d, .int .i64 i.b.e, .int .i64 i.b.f, .int .i64 i.c, .bool i.done]
def flatI (l : List It) : List Value := l.flatMap It.cells
theorem flatI_length (l : List It) : (flatI l).length = l.length * 8 := by
  induction l with
  | nil => rfl
  | cons a l ih => simp only [flatI, List.flatMap_cons, List.length_append] at *; rw [ih]; simp [It.cells]; omega
theorem flatI_at : ∀ (l : List It) (i : Nat) (h : i < l.length) (j : Nat), j < 8 → (flatI l)[i * 8 + j]? = (l[i]).cells[j]?
  | a :: l, 0, _, j, hj => by
    have e : flatI (a :: l) = a.cells ++ flatI l := by simp [flatI]
    rw [e, Nat.zero_mul, Nat.zero_add, List.getElem?_append_left (by simp [It.cells]; omega)]; rfl
  | a :: l, i + 1, h, j, hj => by
    have e : flatI (a :: l) = a.cells ++ flatI l := by simp [flatI]
    have hl : a.cells.length = 8 := rfl
    rw [e, List.getElem?_append_right (by rw [hl]; omega), hl, show (i + 1) * 8 + j - 8 = i * 8 + j by omega, flatI_at l i (by simpa using h) j hj]; rfl
/-- Item i, of a list. -/
def itAt (l : List It) (i : Nat) : It := l[i]?.getD default
theorem itAt_eq {l : List It} {i : Nat} (h : i < l.length) : itAt l i = l[i] := by simp [itAt, h]
theorem SlC.it {w : World} {b off : Nat} {l : List It} (h : ∀ j u, (flatI l)[j]? = some u → w.cell? ⟨b, off + j, none⟩ = some u) (i : Nat) (hi : i < l.length) :
    w.cell? ⟨b, off + i * 8, none⟩ = some (.int .i64 (itAt l i).b.a) ∧ w.cell? ⟨b, off + i * 8 + 1, none⟩ = some (.int .i64 (itAt l i).b.b) ∧ w.cell? ⟨b, off + i * 8 + 2, none⟩ = some (.int .i64 (itAt l i).b.c) ∧ w.cell? ⟨b, off + i * 8 + 3, none⟩ = some (.int .i64 (itAt l i).b.d) ∧ w.cell? ⟨b, off + i * 8 + 4, none⟩ = some (.int .i64 (itAt l i).b.e) ∧ w.cell? ⟨b, off + i * 8 + 5, none⟩ = some (.int .i64 (itAt l i).b.f) ∧ w.cell? ⟨b, off + i * 8 + 6, none⟩ = some (.int .i64 (itAt l i).c) ∧ w.cell? ⟨b, off + i * 8 + 7, none⟩ = some (.bool (itAt l i).done) := by
  rw [itAt_eq hi]
  exact ⟨h (i * 8) _ (flatI_at l i hi 0 (by omega)), by rw [Nat.add_assoc]; exact h _ _ (flatI_at l i hi 1 (by omega)), by rw [Nat.add_assoc]; exact h _ _ (flatI_at l i hi 2 (by omega)), by rw [Nat.add_assoc]; exact h _ _ (flatI_at l i hi 3 (by omega)), by rw [Nat.add_assoc]; exact h _ _ (flatI_at l i hi 4 (by omega)), by rw [Nat.add_assoc]; exact h _ _ (flatI_at l i hi 5 (by omega)), by rw [Nat.add_assoc]; exact h _ _ (flatI_at l i hi 6 (by omega)), by rw [Nat.add_assoc]; exact h _ _ (flatI_at l i hi 7 (by omega))⟩

/-- An item is done. -/
theorem flatI_done : ∀ (l : List It) (i : Nat), i < l.length → flatI (l.set i { itAt l i with done := true }) = (flatI l).set (i * 8 + 7) (.bool true)
  | a :: l, 0, _ => by simp [flatI, It.cells, itAt]
  | a :: l, i + 1, h => by
    have e : ∀ (b : It) (m : List It), flatI (b :: m) = b.cells ++ flatI m := fun b m => by simp [flatI]
    have hl : a.cells.length = 8 := rfl
    rw [show itAt (a :: l) (i + 1) = itAt l i from by simp [itAt], List.set_cons_succ, e, e, List.set_append_right _ _ (by rw [hl]; omega), hl, show (i + 1) * 8 + 7 - 8 = i * 8 + 7 by omega, flatI_done l i (by simpa using h)]

/-- The open box with the least bound, the first of them, among the first k; -1: none. -/
def nx (l : List It) : Nat → Int
  | 0 => -1
  | k + 1 => if !(itAt l k).done && (decide (nx l k < 0) || decide ((itAt l k).c < (itAt l (nx l k).toNat).c)) then k else nx l k
theorem nx_in (l : List It) : ∀ k, -1 ≤ nx l k ∧ nx l k < k
  | 0 => by simp [nx]
  | k + 1 => by
    have := nx_in l k
    unfold nx; split <;> omega
theorem nx_skip {l : List It} {k : Nat} (h : (!(itAt l k).done && (decide (nx l k < 0) || decide ((itAt l k).c < (itAt l (nx l k).toNat).c))) = false) : nx l (k + 1) = nx l k := by
  show (if _ then _ else _) = _
  rw [h]; rfl
theorem nx_take {l : List It} {k : Nat} (h : (!(itAt l k).done && (decide (nx l k < 0) || decide ((itAt l k).c < (itAt l (nx l k).toNat).c))) = true) : nx l (k + 1) = k := by
  show (if _ then _ else _) = _
  rw [h]; rfl
/-- What it is: no open box at all; or an open box, with no lesser bound among them and none before it as small. -/
theorem nx_spec (l : List It) : ∀ k, (nx l k = -1 ∧ ∀ i, i < k → (itAt l i).done = true) ∨
    ∃ j : Nat, nx l k = j ∧ j < k ∧ (itAt l j).done = false ∧ ∀ i, i < k → (itAt l i).done = false → (itAt l j).c ≤ (itAt l i).c ∧ (i < j → (itAt l j).c < (itAt l i).c)
  | 0 => .inl ⟨rfl, fun i h => by omega⟩
  | k + 1 => by
    cases hc : (!(itAt l k).done && (decide (nx l k < 0) || decide ((itAt l k).c < (itAt l (nx l k).toNat).c)))
    · rw [nx_skip hc]
      rcases nx_spec l k with ⟨h1, h2⟩ | ⟨j, h1, h2, h3, h4⟩
      · left
        refine ⟨h1, fun i hi => ?_⟩
        by_cases e : i = k
        · subst e
          rw [h1] at hc
          cases hd : (itAt l i).done
          · rw [hd] at hc; simp at hc
          · rfl
        · exact h2 i (by omega)
      · right
        refine ⟨j, h1, by omega, h3, fun i hi hd => ?_⟩
        by_cases e : i = k
        · subst e
          rw [h1, hd] at hc
          simp at hc
          omega
        · exact h4 i (by omega) hd
    · rw [nx_take hc]
      right
      have hd : (itAt l k).done = false := by
        cases h : (itAt l k).done
        · rfl
        · rw [h] at hc; simp at hc
      refine ⟨k, rfl, by omega, hd, fun i hi hdi => ?_⟩
      by_cases e : i = k
      · subst e; omega
      · rcases nx_spec l k with ⟨h1, h2⟩ | ⟨j, h1, h2, h3, h4⟩
        · rw [h2 i (by omega)] at hdi; cases hdi
        · rw [h1, hd] at hc
          have := h4 i (by omega) hdi
          simp at hc
          omega

def bxC (P : Prob) (b : Bx) : Int := bdC P b.a b.b b.c b.d b.e b.f
def bxE (P : Prob) (b : Bx) : Int := bdE P b.a b.b b.c b.d b.e b.f
/-- The state of a search. -/
structure Sr where
  l : List It
  x : Loc
  n : Nat
/-- Is the center of a box a better point? -/
def lookC (P : Prob) (first : Bool) (x : Loc) (b : Bx) : Bool :=
  first || decide (bdC P b.c0 b.c1 b.c2 b.c0 b.c1 b.c2 < x.m) || (decide (bdC P b.c0 b.c1 b.c2 b.c0 b.c1 b.c2 = x.m) && decide (cmpP b.c0 b.c1 b.c2 x.px x.py x.pz < 0))
def looks (P : Prob) (first : Bool) (x : Loc) (b : Bx) : Loc :=
  if lookC P first x b then ⟨b.c0, b.c1, b.c2, atT P b.c0 b.c1 b.c2, bdC P b.c0 b.c1 b.c2 b.c0 b.c1 b.c2, x.l, x.a0, x.a1, x.a2, x.a3, x.a4, x.a5⟩ else x
def halves1 (P : Prob) (b : Bx) : List It := if b.ok then [⟨b.fst, bxC P b.fst, false⟩, ⟨b.snd, bxC P b.snd, false⟩] else []
def Sr.step (P : Prob) (s : Sr) (k : Nat) : Sr :=
  ⟨s.l.set k { itAt s.l k with done := true } ++ halves1 P (itAt s.l k).b, looks P (decide (s.n = 0)) s.x (itAt s.l k).b, s.n + 1⟩
def Sr.k (s : Sr) : Int := nx s.l s.l.length
def Sr.ended (s : Sr) (tol : Int) : Bool := decide (s.k < 0) || (decide (0 < s.n) && decide (IntKind.i64.wrap (s.x.m - (itAt s.l s.k.toNat).c) ≤ tol))
def loc0 : Loc := ⟨0, 0, 0, 0, 0, 0, 0, 0, 0, 0, 0, 0⟩
def Sr.start (P : Prob) : Sr := ⟨[⟨⟨P.x0, P.y0, P.z0, P.x1, P.y1, P.z1⟩, bdC P P.x0 P.y0 P.z0 P.x1 P.y1 P.z1, false⟩], loc0, 0⟩
/-- The search, at most so many steps; none: there are too many boxes. -/
def Sr.run (P : Prob) (tol : Int) : Nat → Sr → Option Sr
  | 0, s => if s.ended tol then some s else none
  | f + 1, s => if s.ended tol then some s else Sr.run P tol f (s.step P s.k.toNat)
theorem Sr.run_ended {P : Prob} {tol : Int} {s : Sr} (h : s.ended tol = true) : ∀ f, Sr.run P tol f s = some s
  | 0 => by unfold Sr.run; rw [h]; rfl
  | f + 1 => by unfold Sr.run; rw [h]; rfl
theorem Sr.run_next {P : Prob} {tol : Int} {s : Sr} (h : s.ended tol = false) (f : Nat) : Sr.run P tol (f + 1) s = Sr.run P tol f (s.step P s.k.toNat) := by
  rw [Sr.run, h]; rfl
theorem Sr.run_out {P : Prob} {tol : Int} {s : Sr} (h : s.ended tol = false) : Sr.run P tol 0 s = none := by
  rw [Sr.run, h]; rfl
/-- What is returned: the lower bound and the area, of the first k boxes. -/
def Sr.fin (s : Sr) : Nat → Loc
  | 0 => { s.x with l := s.x.m, a0 := s.x.px, a1 := s.x.py, a2 := s.x.pz, a3 := s.x.px, a4 := s.x.py, a5 := s.x.pz }
  | k + 1 => if !(itAt s.l k).done && decide ((itAt s.l k).c < s.x.m) then
      { s.fin k with
        l := min (s.fin k).l (itAt s.l k).c
        a0 := huL (bP (s.fin k).a0 (s.fin k).a1 (s.fin k).a2 (s.fin k).a3 (s.fin k).a4 (s.fin k).a5 && (itAt s.l k).b.v) (s.fin k).a0 (itAt s.l k).b.a
        a1 := huL (bP (s.fin k).a0 (s.fin k).a1 (s.fin k).a2 (s.fin k).a3 (s.fin k).a4 (s.fin k).a5 && (itAt s.l k).b.v) (s.fin k).a1 (itAt s.l k).b.b
        a2 := huL (bP (s.fin k).a0 (s.fin k).a1 (s.fin k).a2 (s.fin k).a3 (s.fin k).a4 (s.fin k).a5 && (itAt s.l k).b.v) (s.fin k).a2 (itAt s.l k).b.c
        a3 := huH (bP (s.fin k).a0 (s.fin k).a1 (s.fin k).a2 (s.fin k).a3 (s.fin k).a4 (s.fin k).a5 && (itAt s.l k).b.v) (s.fin k).a3 (itAt s.l k).b.d
        a4 := huH (bP (s.fin k).a0 (s.fin k).a1 (s.fin k).a2 (s.fin k).a3 (s.fin k).a4 (s.fin k).a5 && (itAt s.l k).b.v) (s.fin k).a4 (itAt s.l k).b.e
        a5 := huH (bP (s.fin k).a0 (s.fin k).a1 (s.fin k).a2 (s.fin k).a3 (s.fin k).a4 (s.fin k).a5 && (itAt s.l k).b.v) (s.fin k).a5 (itAt s.l k).b.f }
      else s.fin k
theorem Sr.fin_x (s : Sr) : ∀ k, (s.fin k).px = s.x.px ∧ (s.fin k).py = s.x.py ∧ (s.fin k).pz = s.x.pz ∧ (s.fin k).t = s.x.t ∧ (s.fin k).m = s.x.m
  | 0 => ⟨rfl, rfl, rfl, rfl, rfl⟩
  | k + 1 => by
    unfold Sr.fin; split
    · exact Sr.fin_x s k
    · exact Sr.fin_x s k
def Sr.finC (s : Sr) (k : Nat) : Bool := !(itAt s.l k).done && decide ((itAt s.l k).c < s.x.m)
/-- A box more, of what is returned. -/
def Loc.more (y : Loc) (b : Bx) (c : Int) : Loc :=
  ⟨y.px, y.py, y.pz, y.t, y.m, min y.l c, huL (bP y.a0 y.a1 y.a2 y.a3 y.a4 y.a5 && bP b.a b.b b.c b.d b.e b.f) y.a0 b.a, huL (bP y.a0 y.a1 y.a2 y.a3 y.a4 y.a5 && bP b.a b.b b.c b.d b.e b.f) y.a1 b.b, huL (bP y.a0 y.a1 y.a2 y.a3 y.a4 y.a5 && bP b.a b.b b.c b.d b.e b.f) y.a2 b.c,
    huH (bP y.a0 y.a1 y.a2 y.a3 y.a4 y.a5 && bP b.a b.b b.c b.d b.e b.f) y.a3 b.d, huH (bP y.a0 y.a1 y.a2 y.a3 y.a4 y.a5 && bP b.a b.b b.c b.d b.e b.f) y.a4 b.e, huH (bP y.a0 y.a1 y.a2 y.a3 y.a4 y.a5 && bP b.a b.b b.c b.d b.e b.f) y.a5 b.f⟩
theorem Sr.fin_succ (s : Sr) (k : Nat) : s.fin (k + 1) = if s.finC k then (s.fin k).more (itAt s.l k).b (itAt s.l k).c else s.fin k := rfl
def srch (P : Prob) (tol : Int) : Loc × Int × Int :=
  if valE P ≠ 0 then (loc0, 0, valE P) else if tol < 0 then (loc0, 0, 2) else
  match Sr.run P tol 3000 (Sr.start P) with
  | none => (loc0, 0, 25)
  | some s => (s.fin s.l.length, s.n, 0)
end Go.Proofs.YtdkckhihleffeaaGreat
