import Derived.Laws.EntriesVeiled
import Derived.Test.YtiebljanpnadjaaGreatPgFr
namespace Go.Proofs.YtiebljanpnadjaaGreat
set_option linter.all false
open Go.RowKit
structure Bx where
 a : Int
 b : Int
 c : Int
 d : Int
 e : Int
 f : Int
deriving Inhabited, DecidableEq
def Bx.val (x : Bx) : Array Value := #[.int .i64 x.a, .int .i64 x.b, .int .i64 x.c, .int .i64 x.d, .int .i64 x.e, .int .i64 x.f]
def Bx.ok (x : Bx) : Bool := splOk x.a x.b x.c x.d x.e x.f
def Bx.v (x : Bx) : Bool := bP x.a x.b x.c x.d x.e x.f
def Bx.ax (x : Bx) : Nat := axis (x.d - x.a) (x.e - x.b) (x.f - x.c)
def Bx.pts (x : Bx) : Int := ptsP x.a x.b x.c x.d x.e x.f
def Bx.fst (x : Bx) : Bx := ⟨keepI x.ok x.a, keepI x.ok x.b, keepI x.ok x.c, spE x.ok x.ax 0 x.a x.d, spE x.ok x.ax 1 x.b x.e, spE x.ok x.ax 2 x.c x.f⟩
def Bx.snd (x : Bx) : Bx := ⟨spB x.ok x.ax 0 x.a x.d, spB x.ok x.ax 1 x.b x.e, spB x.ok x.ax 2 x.c x.f, keepI x.ok x.d, keepI x.ok x.e, keepI x.ok x.f⟩
def Bx.c0 (x : Bx) : Int := cen x.v x.a x.d
def Bx.c1 (x : Bx) : Int := cen x.v x.b x.e
def Bx.c2 (x : Bx) : Int := cen x.v x.c x.f
theorem Bx.split (x : Bx) (u : World) : Calls Tryz.prog 137 #[.agg x.val] u fun e w' => e = .returned (.tuple #[.agg x.fst.val, .agg x.snd.val, .bool x.ok]) ∧ u.grownBy w' none := split_any x.a x.b x.c x.d x.e x.f u
theorem Bx.center (x : Bx) (u : World) : Calls Tryz.prog 160 #[.agg x.val] u fun e w' => e = .returned (.agg #[.int .i64 x.c0, .int .i64 x.c1, .int .i64 x.c2]) ∧ u.grownBy w' none := center_any x.a x.b x.c x.d x.e x.f u
structure It where
 b : Bx
 c : Int
 done : Bool
deriving Inhabited
def It.cells (i : It) : List Value := [.int .i64 i.b.a, .int .i64 i.b.b, .int .i64 i.b.c, .int .i64 i.b.d, .int .i64 i.b.e, .int .i64 i.b.f, .int .i64 i.c, .bool i.done]
def flatI (l : List It) : List Value := l.flatMap It.cells
theorem flatI_length (l : List It) : (flatI l).length = l.length * 8 := by
 induction l with
 | nil => rfl
 | cons a l ih => simp only [flatI, List.flatMap_cons, List.length_append] at *; rw [ih]; simp [It.cells]; omega
theorem flatI_at : ∀ (l : List It) (i : Nat) (h : i < l.length) (j : Nat), j < 8 → (flatI l)[i * 8 + j]? = (l[i]).cells[j]?
 | a :: l, 0, _, j, hj => by
  have e : flatI (a :: l) = a.cells ++ flatI l := by simp [flatI]
  rw [e, Nat.zero_mul, Nat.zero_add, List.getElem?_append_left (by simp [It.cells]; omega)]; rfl
 | a :: l, i + 1, h, j, hj => by
  have e : flatI (a :: l) = a.cells ++ flatI l := by simp [flatI]
  have hl : a.cells.length = 8 := rfl
  rw [e, List.getElem?_append_right (by rw [hl]; omega), hl, show (i + 1) * 8 + j - 8 = i * 8 + j by omega, flatI_at l i (by simpa using h) j hj]; rfl
def itAt (l : List It) (i : Nat) : It := l[i]?.getD default
theorem itAt_eq {l : List It} {i : Nat} (h : i < l.length) : itAt l i = l[i] := by simp [itAt, h]
theorem SlC.it {w : World} {b off : Nat} {l : List It} (h : ∀ j u, (flatI l)[j]? = some u → w.cell? ⟨b, off + j, none⟩ = some u) (i : Nat) (hi : i < l.length) :
  w.cell? ⟨b, off + i * 8, none⟩ = some (.int .i64 (itAt l i).b.a) ∧ w.cell? ⟨b, off + i * 8 + 1, none⟩ = some (.int .i64 (itAt l i).b.b) ∧ w.cell? ⟨b, off + i * 8 + 2, none⟩ = some (.int .i64 (itAt l i).b.c) ∧ w.cell? ⟨b, off + i * 8 + 3, none⟩ = some (.int .i64 (itAt l i).b.d) ∧ w.cell? ⟨b, off + i * 8 + 4, none⟩ = some (.int .i64 (itAt l i).b.e) ∧ w.cell? ⟨b, off + i * 8 + 5, none⟩ = some (.int .i64 (itAt l i).b.f) ∧ w.cell? ⟨b, off + i * 8 + 6, none⟩ = some (.int .i64 (itAt l i).c) ∧ w.cell? ⟨b, off + i * 8 + 7, none⟩ = some (.bool (itAt l i).done) := by
 rw [itAt_eq hi]
 exact ⟨h (i * 8) _ (flatI_at l i hi 0 (by omega)), by rw [Nat.add_assoc]; exact h _ _ (flatI_at l i hi 1 (by omega)), by rw [Nat.add_assoc]; exact h _ _ (flatI_at l i hi 2 (by omega)), by rw [Nat.add_assoc]; exact h _ _ (flatI_at l i hi 3 (by omega)), by rw [Nat.add_assoc]; exact h _ _ (flatI_at l i hi 4 (by omega)), by rw [Nat.add_assoc]; exact h _ _ (flatI_at l i hi 5 (by omega)), by rw [Nat.add_assoc]; exact h _ _ (flatI_at l i hi 6 (by omega)), by rw [Nat.add_assoc]; exact h _ _ (flatI_at l i hi 7 (by omega))⟩
theorem flatI_done : ∀ (l : List It) (i : Nat), i < l.length → flatI (l.set i { itAt l i with done := true }) = (flatI l).set (i * 8 + 7) (.bool true)
 | a :: l, 0, _ => by simp [flatI, It.cells, itAt]
 | a :: l, i + 1, h => by
  have e : ∀ (b : It) (m : List It), flatI (b :: m) = b.cells ++ flatI m := fun b m => by simp [flatI]
  have hl : a.cells.length = 8 := rfl
  rw [show itAt (a :: l) (i + 1) = itAt l i from by simp [itAt], List.set_cons_succ, e, e, List.set_append_right _ _ (by rw [hl]; omega), hl, show (i + 1) * 8 + 7 - 8 = i * 8 + 7 by omega, flatI_done l i (by simpa using h)]
def nx (l : List It) : Nat → Int
 | 0 => -1
 | k + 1 => if !(itAt l k).done && (decide (nx l k < 0) || decide ((itAt l k).c < (itAt l (nx l k).toNat).c)) then k else nx l k
theorem nx_in (l : List It) : ∀ k, -1 ≤ nx l k ∧ nx l k < k
 | 0 => by simp [nx]
 | k + 1 => by
  have := nx_in l k
  unfold nx; split <;> omega
theorem nx_skip {l : List It} {k : Nat} (h : (!(itAt l k).done && (decide (nx l k < 0) || decide ((itAt l k).c < (itAt l (nx l k).toNat).c))) = false) : nx l (k + 1) = nx l k := by
 show (if _ then _ else _) = _
 rw [h]; rfl
theorem nx_take {l : List It} {k : Nat} (h : (!(itAt l k).done && (decide (nx l k < 0) || decide ((itAt l k).c < (itAt l (nx l k).toNat).c))) = true) : nx l (k + 1) = k := by
 show (if _ then _ else _) = _
 rw [h]; rfl
theorem nx_spec (l : List It) : ∀ k, (nx l k = -1 ∧ ∀ i, i < k → (itAt l i).done = true) ∨
  ∃ j : Nat, nx l k = j ∧ j < k ∧ (itAt l j).done = false ∧ ∀ i, i < k → (itAt l i).done = false → (itAt l j).c ≤ (itAt l i).c ∧ (i < j → (itAt l j).c < (itAt l i).c)
 | 0 => .inl ⟨rfl, fun i h => by omega⟩
 | k + 1 => by
  cases hc : (!(itAt l k).done && (decide (nx l k < 0) || decide ((itAt l k).c < (itAt l (nx l k).toNat).c)))
  ·rw [nx_skip hc]
   rcases nx_spec l k with ⟨h1, h2⟩ | ⟨j, h1, h2, h3, h4⟩
   ·left
    refine ⟨h1, fun i hi => ?_⟩
    by_cases e : i = k
    ·subst e
     rw [h1] at hc
     cases hd : (itAt l i).done
     ·rw [hd] at hc; simp at hc
     ·rfl
    ·exact h2 i (by omega)
   ·right
    refine ⟨j, h1, by omega, h3, fun i hi hd => ?_⟩
    by_cases e : i = k
    ·subst e
     rw [h1, hd] at hc
     simp at hc
     omega
    ·exact h4 i (by omega) hd
  ·rw [nx_take hc]
   right
   have hd : (itAt l k).done = false := by
    cases h : (itAt l k).done
    ·rfl
    ·rw [h] at hc; simp at hc
   refine ⟨k, rfl, by omega, hd, fun i hi hdi => ?_⟩
   by_cases e : i = k
   ·subst e; omega
   ·rcases nx_spec l k with ⟨h1, h2⟩ | ⟨j, h1, h2, h3, h4⟩
    ·rw [h2 i (by omega)] at hdi; cases hdi
    ·rw [h1, hd] at hc
     have := h4 i (by omega) hdi
     simp at hc
     omega
def bxC (P : Prob) (b : Bx) : Int := bdC P b.a b.b b.c b.d b.e b.f
def bxE (P : Prob) (b : Bx) : Int := bdE P b.a b.b b.c b.d b.e b.f
structure Sr where
 l : List It
 x : Loc
 n : Nat
def lookC (P : Prob) (first : Bool) (x : Loc) (b : Bx) : Bool :=
 first || decide (bdC P b.c0 b.c1 b.c2 b.c0 b.c1 b.c2 < x.m) || (decide (bdC P b.c0 b.c1 b.c2 b.c0 b.c1 b.c2 = x.m) && decide (cmpP b.c0 b.c1 b.c2 x.px x.py x.pz < 0))
def looks (P : Prob) (first : Bool) (x : Loc) (b : Bx) : Loc :=
 if lookC P first x b then ⟨b.c0, b.c1, b.c2, atT P b.c0 b.c1 b.c2, bdC P b.c0 b.c1 b.c2 b.c0 b.c1 b.c2, x.l, x.a0, x.a1, x.a2, x.a3, x.a4, x.a5⟩ else x
def halves1 (P : Prob) (b : Bx) : List It := if b.ok then [⟨b.fst, bxC P b.fst, false⟩, ⟨b.snd, bxC P b.snd, false⟩] else []
def Sr.step (P : Prob) (s : Sr) (k : Nat) : Sr :=
 ⟨s.l.set k { itAt s.l k with done := true } ++ halves1 P (itAt s.l k).b, looks P (decide (s.n = 0)) s.x (itAt s.l k).b, s.n + 1⟩
def Sr.k (s : Sr) : Int := nx s.l s.l.length
def Sr.ended (s : Sr) (tol : Int) : Bool := decide (s.k < 0) || (decide (0 < s.n) && decide (IntKind.i64.wrap (s.x.m - (itAt s.l s.k.toNat).c) ≤ tol))
def loc0 : Loc := ⟨0, 0, 0, 0, 0, 0, 0, 0, 0, 0, 0, 0⟩
def Sr.start (P : Prob) : Sr := ⟨[⟨⟨P.x0, P.y0, P.z0, P.x1, P.y1, P.z1⟩, bdC P P.x0 P.y0 P.z0 P.x1 P.y1 P.z1, false⟩], loc0, 0⟩
def Sr.run (P : Prob) (tol : Int) : Nat → Sr → Option Sr
 | 0, s => if s.ended tol then some s else none
 | f + 1, s => if s.ended tol then some s else Sr.run P tol f (s.step P s.k.toNat)
theorem Sr.run_ended {P : Prob} {tol : Int} {s : Sr} (h : s.ended tol = true) : ∀ f, Sr.run P tol f s = some s
 | 0 => by unfold Sr.run; rw [h]; rfl
 | f + 1 => by unfold Sr.run; rw [h]; rfl
theorem Sr.run_next {P : Prob} {tol : Int} {s : Sr} (h : s.ended tol = false) (f : Nat) : Sr.run P tol (f + 1) s = Sr.run P tol f (s.step P s.k.toNat) := by
 rw [Sr.run, h]; rfl
theorem Sr.run_out {P : Prob} {tol : Int} {s : Sr} (h : s.ended tol = false) : Sr.run P tol 0 s = none := by
 rw [Sr.run, h]; rfl
def Sr.fin (s : Sr) : Nat → Loc
 | 0 => { s.x with l := s.x.m, a0 := s.x.px, a1 := s.x.py, a2 := s.x.pz, a3 := s.x.px, a4 := s.x.py, a5 := s.x.pz }
 | k + 1 => if !(itAt s.l k).done && decide ((itAt s.l k).c < s.x.m) then
   { s.fin k with
    l := min (s.fin k).l (itAt s.l k).c
    a0 := huL (bP (s.fin k).a0 (s.fin k).a1 (s.fin k).a2 (s.fin k).a3 (s.fin k).a4 (s.fin k).a5 && (itAt s.l k).b.v) (s.fin k).a0 (itAt s.l k).b.a
    a1 := huL (bP (s.fin k).a0 (s.fin k).a1 (s.fin k).a2 (s.fin k).a3 (s.fin k).a4 (s.fin k).a5 && (itAt s.l k).b.v) (s.fin k).a1 (itAt s.l k).b.b
    a2 := huL (bP (s.fin k).a0 (s.fin k).a1 (s.fin k).a2 (s.fin k).a3 (s.fin k).a4 (s.fin k).a5 && (itAt s.l k).b.v) (s.fin k).a2 (itAt s.l k).b.c
    a3 := huH (bP (s.fin k).a0 (s.fin k).a1 (s.fin k).a2 (s.fin k).a3 (s.fin k).a4 (s.fin k).a5 && (itAt s.l k).b.v) (s.fin k).a3 (itAt s.l k).b.d
    a4 := huH (bP (s.fin k).a0 (s.fin k).a1 (s.fin k).a2 (s.fin k).a3 (s.fin k).a4 (s.fin k).a5 && (itAt s.l k).b.v) (s.fin k).a4 (itAt s.l k).b.e
    a5 := huH (bP (s.fin k).a0 (s.fin k).a1 (s.fin k).a2 (s.fin k).a3 (s.fin k).a4 (s.fin k).a5 && (itAt s.l k).b.v) (s.fin k).a5 (itAt s.l k).b.f }
   else s.fin k
theorem Sr.fin_x (s : Sr) : ∀ k, (s.fin k).px = s.x.px ∧ (s.fin k).py = s.x.py ∧ (s.fin k).pz = s.x.pz ∧ (s.fin k).t = s.x.t ∧ (s.fin k).m = s.x.m
 | 0 => ⟨rfl, rfl, rfl, rfl, rfl⟩
 | k + 1 => by
  unfold Sr.fin; split
  ·exact Sr.fin_x s k
  ·exact Sr.fin_x s k
def Sr.finC (s : Sr) (k : Nat) : Bool := !(itAt s.l k).done && decide ((itAt s.l k).c < s.x.m)
def Loc.more (y : Loc) (b : Bx) (c : Int) : Loc :=
 ⟨y.px, y.py, y.pz, y.t, y.m, min y.l c, huL (bP y.a0 y.a1 y.a2 y.a3 y.a4 y.a5 && bP b.a b.b b.c b.d b.e b.f) y.a0 b.a, huL (bP y.a0 y.a1 y.a2 y.a3 y.a4 y.a5 && bP b.a b.b b.c b.d b.e b.f) y.a1 b.b, huL (bP y.a0 y.a1 y.a2 y.a3 y.a4 y.a5 && bP b.a b.b b.c b.d b.e b.f) y.a2 b.c,
  huH (bP y.a0 y.a1 y.a2 y.a3 y.a4 y.a5 && bP b.a b.b b.c b.d b.e b.f) y.a3 b.d, huH (bP y.a0 y.a1 y.a2 y.a3 y.a4 y.a5 && bP b.a b.b b.c b.d b.e b.f) y.a4 b.e, huH (bP y.a0 y.a1 y.a2 y.a3 y.a4 y.a5 && bP b.a b.b b.c b.d b.e b.f) y.a5 b.f⟩
theorem Sr.fin_succ (s : Sr) (k : Nat) : s.fin (k + 1) = if s.finC k then (s.fin k).more (itAt s.l k).b (itAt s.l k).c else s.fin k := rfl
def srch (P : Prob) (tol : Int) : Loc × Int × Int :=
 if valE P ≠ 0 then (loc0, 0, valE P) else if tol < 0 then (loc0, 0, 2) else
 match Sr.run P tol 3000 (Sr.start P) with
 | none => (loc0, 0, 25)
 | some s => (s.fin s.l.length, s.n, 0)
section LPrfC
open Go.RowKit Rg
end LPrfC
section LPrfD
open Go.RowKit Rg
def Prob.reg (P : Prob) : Bx := ⟨P.x0, P.y0, P.z0, P.x1, P.y1, P.z1⟩
end LPrfD
section LPrfM
open Go.RowKit Rg
def wr (V : Bx → Bool) : Nat → Bx → List Int → Int × List Int
 | 0, _, l => (8, l)
 | f + 1, b, l => if l.length = 6001 then (8, l) else if V b then (0, l ++ [0]) else if b.ok then (if (wr V f b.fst (l ++ [1])).1 = 0 then wr V f b.snd (wr V f b.fst (l ++ [1])).2 else wr V f b.fst (l ++ [1])) else (26, l)
end LPrfM
section LPrfN
open Go.RowKit Rg
attribute [local irreducible] wr
end LPrfN
theorem pts_one {x0 y0 z0 x1 y1 z1 : Int} (h : bP x0 y0 z0 x1 y1 z1 = true) (hp : ptsP x0 y0 z0 x1 y1 z1 < 2) : x0 = x1 ∧ y0 = y1 ∧ z0 = z1 := by
 obtain ⟨v0, v1, o0, o1, o2⟩ := bP_iff h
 unfold ptsP ptsD at hp; rw [h] at hp; simp only [if_true] at hp
 have two : ∀ p q r : Int, 1 ≤ p → 1 ≤ q → 1 ≤ r → p * q * r < 2 → p = 1 ∧ q = 1 ∧ r = 1 := by
  intro p q r hp hq hr hl
  have h1 : p * 1 ≤ p * q := Int.mul_le_mul_of_nonneg_left hq (by omega)
  have h2 : 1 * q ≤ p * q := Int.mul_le_mul_of_nonneg_right hp (by omega)
  have h3 : p * q * 1 ≤ p * q * r := Int.mul_le_mul_of_nonneg_left hr (by omega)
  have h4 : 1 * r ≤ p * q * r := Int.mul_le_mul_of_nonneg_right (by omega) (by omega)
  omega
 have := two _ _ _ (by omega) (by omega) (by omega) hp
 omega
structure Halves (x0 y0 z0 x1 y1 z1 e0 e1 e2 f0 f1 f2 : Int) : Prop where
 vx : bP x0 y0 z0 e0 e1 e2 = true
 vy : bP f0 f1 f2 x1 y1 z1 = true
 part : ∀ p q r, x0 ≤ p → p ≤ x1 → y0 ≤ q → q ≤ y1 → z0 ≤ r → r ≤ z1 → conP x0 y0 z0 e0 e1 e2 p q r = !conP f0 f1 f2 x1 y1 z1 p q r
 wx : wiP x0 y0 z0 e0 e1 e2 x0 y0 z0 x1 y1 z1 = true
 wy : wiP f0 f1 f2 x1 y1 z1 x0 y0 z0 x1 y1 z1 = true
 mid : conP x0 y0 z0 e0 e1 e2 (midI x0 x1) (midI y0 y1) (midI z0 z1) = true
 sum : ptsP x0 y0 z0 e0 e1 e2 + ptsP f0 f1 f2 x1 y1 z1 = ptsP x0 y0 z0 x1 y1 z1
 hull : min x0 f0 = x0 ∧ min y0 f1 = y0 ∧ min z0 f2 = z0 ∧ max e0 x1 = x1 ∧ max e1 y1 = y1 ∧ max e2 z1 = z1
theorem halves {x0 y0 z0 x1 y1 z1 e0 e1 e2 f0 f1 f2 : Int} (h : bP x0 y0 z0 x1 y1 z1 = true) (hm : x0 ≤ midI x0 x1 ∧ midI x0 x1 ≤ x1 ∧ y0 ≤ midI y0 y1 ∧ midI y0 y1 ≤ y1 ∧ z0 ≤ midI z0 z1 ∧ midI z0 z1 ≤ z1)
  (hc : (midI x0 x1 < x1 ∧ e0 = midI x0 x1 ∧ f0 = midI x0 x1 + 1 ∧ e1 = y1 ∧ f1 = y0 ∧ e2 = z1 ∧ f2 = z0) ∨ (midI y0 y1 < y1 ∧ e0 = x1 ∧ f0 = x0 ∧ e1 = midI y0 y1 ∧ f1 = midI y0 y1 + 1 ∧ e2 = z1 ∧ f2 = z0) ∨
   (midI z0 z1 < z1 ∧ e0 = x1 ∧ f0 = x0 ∧ e1 = y1 ∧ f1 = y0 ∧ e2 = midI z0 z1 ∧ f2 = midI z0 z1 + 1)) : Halves x0 y0 z0 x1 y1 z1 e0 e1 e2 f0 f1 f2 := by
 obtain ⟨v0, v1, o0, o1, o2⟩ := bP_iff h
 have i0 := vP_iff v0; have i1 := vP_iff v1
 have vx : bP x0 y0 z0 e0 e1 e2 = true := bP_mk v0 (vP_mk (by omega)) (by omega) (by omega) (by omega)
 have vy : bP f0 f1 f2 x1 y1 z1 = true := bP_mk (vP_mk (by omega)) v1 (by omega) (by omega) (by omega)
 refine ⟨vx, vy, ?_, wiP_iff.2 ⟨vx, h, by omega⟩, wiP_iff.2 ⟨vy, h, by omega⟩, conP_iff.2 ⟨vx, vP_mk (by omega), by omega⟩, ?_, by omega⟩
 ·intro p q r p0 p1 q0 q1 r0 r1
  have vq : vP p q r = true := vP_mk (by omega)
  have A : conP x0 y0 z0 e0 e1 e2 p q r = true ↔ (p ≤ e0 ∧ q ≤ e1 ∧ r ≤ e2) := by rw [conP_iff]; exact ⟨fun h => by omega, fun h => ⟨vx, vq, by omega⟩⟩
  have B : conP f0 f1 f2 x1 y1 z1 p q r = true ↔ (f0 ≤ p ∧ f1 ≤ q ∧ f2 ≤ r) := by rw [conP_iff]; exact ⟨fun h => by omega, fun h => ⟨vy, vq, by omega⟩⟩
  cases ca : conP x0 y0 z0 e0 e1 e2 p q r <;> cases cb : conP f0 f1 f2 x1 y1 z1 p q r <;> simp only [ca, cb, Bool.false_eq_true, false_iff, true_iff, Bool.not_true, Bool.not_false] at A B ⊢ <;> omega
 ·unfold ptsP; rw [vx, vy, h]; simp only [if_true]; unfold ptsD
  rcases hc with ⟨-, rfl, rfl, rfl, rfl, rfl, rfl⟩ | ⟨-, rfl, rfl, rfl, rfl, rfl, rfl⟩ | ⟨-, rfl, rfl, rfl, rfl, rfl, rfl⟩
  ·generalize midI x0 x1 = m; grind
  ·generalize midI y0 y1 = m; grind
  ·generalize midI z0 z1 = m; grind
theorem split_halves {x0 y0 z0 x1 y1 z1 : Int} (h : bP x0 y0 z0 x1 y1 z1 = true) (hp : 2 ≤ ptsP x0 y0 z0 x1 y1 z1) :
  ∃ e0 e1 e2 f0 f1 f2, splV (splOk x0 y0 z0 x1 y1 z1) (axis (x1 - x0) (y1 - y0) (z1 - z0)) x0 y0 z0 x1 y1 z1 = .tuple #[.agg #[x0, y0, z0, .int .i64 e0, .int .i64 e1, .int .i64 e2], .agg #[.int .i64 f0, .int .i64 f1, .int .i64 f2, x1, y1, z1], .bool true] ∧
   Halves x0 y0 z0 x1 y1 z1 e0 e1 e2 f0 f1 f2 := by
 have hv : splOk x0 y0 z0 x1 y1 z1 = true := by simp [splOk]; omega
 obtain ⟨v0, v1, o0, o1, o2⟩ := bP_iff h
 have mx := midI_in o0; have my := midI_in o1; have mz := midI_in o2
 have hne : ¬ (x0 = x1 ∧ y0 = y1 ∧ z0 = z1) := by
  rintro ⟨rfl, rfl, rfl⟩
  unfold ptsP ptsD at hp; rw [h] at hp; simp at hp
 rw [hv]
 rcases axis_cases x0 y0 z0 x1 y1 z1 with ⟨h1, h2, h3⟩ | ⟨h1, h2, h3⟩ | ⟨h1, h2, h3⟩ | ⟨h1, h2, h3⟩ <;> rw [h3]
 ·exact ⟨midI x0 x1, y1, z1, midI x0 x1 + 1, y0, z0, by simp [splV, keepI, spE, spB], halves h (by omega) (.inl ⟨mx.2.2 (by omega), rfl, rfl, rfl, rfl, rfl, rfl⟩)⟩
 ·exact ⟨x1, y1, midI z0 z1, x0, y0, midI z0 z1 + 1, by simp [splV, keepI, spE, spB], halves h (by omega) (.inr (.inr ⟨mz.2.2 (by omega), rfl, rfl, rfl, rfl, rfl, rfl⟩))⟩
 ·exact ⟨x1, midI y0 y1, z1, x0, midI y0 y1 + 1, z0, by simp [splV, keepI, spE, spB], halves h (by omega) (.inr (.inl ⟨my.2.2 (by omega), rfl, rfl, rfl, rfl, rfl, rfl⟩))⟩
 ·exact ⟨x1, y1, midI z0 z1, x0, y0, midI z0 z1 + 1, by simp [splV, keepI, spE, spB], halves h (by omega) (.inr (.inr ⟨mz.2.2 (by omega), rfl, rfl, rfl, rfl, rfl, rfl⟩))⟩
def Bx.has (b : Bx) (x y z : Int) : Prop := b.a ≤ x ∧ x ≤ b.d ∧ b.b ≤ y ∧ y ≤ b.e ∧ b.c ≤ z ∧ z ≤ b.f
def Bx.wi (c b : Bx) : Prop := b.a ≤ c.a ∧ c.d ≤ b.d ∧ b.b ≤ c.b ∧ c.e ≤ b.e ∧ b.c ≤ c.c ∧ c.f ≤ b.f
theorem Bx.wi_trans {a b c : Bx} (h : a.wi b) (k : b.wi c) : a.wi c := by unfold Bx.wi at *; omega
theorem Bx.wi_refl (a : Bx) : a.wi a := by unfold Bx.wi; omega
theorem Bx.has_wi {a b : Bx} {x y z : Int} (h : a.has x y z) (k : a.wi b) : b.has x y z := by unfold Bx.wi at *; unfold Bx.has at *; omega
theorem Bx.parts {b : Bx} (hv : b.v = true) (ho : b.ok = true) : b.fst.v = true ∧ b.snd.v = true ∧ b.fst.wi b ∧ b.snd.wi b ∧ (∀ x y z, b.has x y z → b.fst.has x y z ∨ b.snd.has x y z) ∧ b.fst.pts + b.snd.pts = b.pts ∧ (∀ x y z, b.fst.has x y z → ¬ b.snd.has x y z) := by
 obtain ⟨a, bb, c, d, e, f⟩ := b
 have hp : 2 ≤ ptsP a bb c d e f := by simpa [Bx.ok, splOk] using ho
 obtain ⟨e0, e1, e2, f0, f1, f2, hs, hh⟩ := split_halves (show bP a bb c d e f = true from hv) hp
 have ho' : splOk a bb c d e f = true := ho
 have hE : spE true (axis (d - a) (e - bb) (f - c)) 0 a d = e0 ∧ spE true (axis (d - a) (e - bb) (f - c)) 1 bb e = e1 ∧ spE true (axis (d - a) (e - bb) (f - c)) 2 c f = e2 ∧ spB true (axis (d - a) (e - bb) (f - c)) 0 a d = f0 ∧ spB true (axis (d - a) (e - bb) (f - c)) 1 bb e = f1 ∧ spB true (axis (d - a) (e - bb) (f - c)) 2 c f = f2 := by
  rw [ho'] at hs; simp [splV] at hs; exact ⟨hs.1.2.2.2.1, hs.1.2.2.2.2.1, hs.1.2.2.2.2.2, hs.2.1, hs.2.2.1, hs.2.2.2.1⟩
 obtain ⟨h1, h2, h3, h4, h5, h6⟩ := hE
 have hf : Bx.fst ⟨a, bb, c, d, e, f⟩ = ⟨a, bb, c, e0, e1, e2⟩ := by simp [Bx.fst, Bx.ok, Bx.ax, ho', keepI, h1, h2, h3]
 have hg : Bx.snd ⟨a, bb, c, d, e, f⟩ = ⟨f0, f1, f2, d, e, f⟩ := by simp [Bx.snd, Bx.ok, Bx.ax, ho', keepI, h4, h5, h6]
 rw [hf, hg]
 have w1 := wiP_iff.1 hh.wx
 have w2 := wiP_iff.1 hh.wy
 obtain ⟨v0, v1, o0, o1, o2⟩ := bP_iff (show bP a bb c d e f = true from hv)
 have i0 := vP_iff v0; have i1 := vP_iff v1
 have part : ∀ x y z, Bx.has ⟨a, bb, c, d, e, f⟩ x y z → (Bx.has ⟨a, bb, c, e0, e1, e2⟩ x y z ↔ ¬ Bx.has ⟨f0, f1, f2, d, e, f⟩ x y z) := by
  intro x y z h
  simp only [Bx.has] at h ⊢
  have hq := hh.part x y z h.1 h.2.1 h.2.2.1 h.2.2.2.1 h.2.2.2.2.1 h.2.2.2.2.2
  have hvq : vP x y z = true := vP_mk (by omega)
  have A : conP a bb c e0 e1 e2 x y z = true ↔ (a ≤ x ∧ x ≤ e0 ∧ bb ≤ y ∧ y ≤ e1 ∧ c ≤ z ∧ z ≤ e2) := by
   rw [conP_iff]; exact ⟨fun k => by omega, fun k => ⟨hh.vx, hvq, by omega⟩⟩
  have B : conP f0 f1 f2 d e f x y z = true ↔ (f0 ≤ x ∧ x ≤ d ∧ f1 ≤ y ∧ y ≤ e ∧ f2 ≤ z ∧ z ≤ f) := by
   rw [conP_iff]; exact ⟨fun k => by omega, fun k => ⟨hh.vy, hvq, by omega⟩⟩
  rw [← A, ← B, hq]
  cases conP f0 f1 f2 d e f x y z <;> simp
 refine ⟨hh.vx, hh.vy, ?_, ?_, fun x y z h => ?_, hh.sum, fun x y z h => ?_⟩
 ·simp only [Bx.wi]; omega
 ·simp only [Bx.wi]; omega
 ·by_cases k : Bx.has ⟨f0, f1, f2, d, e, f⟩ x y z
  ·exact .inr k
  ·exact .inl ((part x y z h).2 k)
 ·exact (part x y z (Bx.has_wi h (by simp only [Bx.wi]; omega))).1 h
theorem wiP_of {c b : Bx} (hc : c.v = true) (hb : b.v = true) (h : c.wi b) : wiP c.a c.b c.c c.d c.e c.f b.a b.b b.c b.d b.e b.f = true :=
 wiP_iff.2 ⟨hc, hb, by unfold Bx.wi at h; omega⟩
theorem Bx.pts_pos {b : Bx} (h : b.v = true) : 1 ≤ b.pts := by
 obtain ⟨v0, v1, o0, o1, o2⟩ := bP_iff (show bP b.a b.b b.c b.d b.e b.f = true from h)
 unfold Bx.pts ptsP ptsD
 rw [show bP b.a b.b b.c b.d b.e b.f = true from h]
 simp only [if_true]
 have h1 : 1 ≤ b.d - b.a + 1 := by omega
 have h2 : 1 ≤ b.e - b.b + 1 := by omega
 have h3 : 1 ≤ b.f - b.c + 1 := by omega
 have m1 : 1 * 1 ≤ (b.d - b.a + 1) * (b.e - b.b + 1) := Int.mul_le_mul h1 h2 (by omega) (by omega)
 have m2 : 1 * 1 ≤ (b.d - b.a + 1) * (b.e - b.b + 1) * (b.f - b.c + 1) := Int.mul_le_mul (by omega) h3 (by omega) (by omega)
 omega
open Go.RowKit Rg
set_option maxRecDepth 100000 in
set_option maxHeartbeats 1000000 in
theorem rnext_any (l : List It) (v : Value) (w : World) (h : SlC 8 w v l.length (flatI l)) (h0 : 0 < l.length) :
  Calls Tryz.prog 144 #[v] w fun e w' => e = .returned (.int .i64 (nx l l.length)) ∧ w.grownBy w' none := by
 obtain ⟨-, ⟨h1, -⟩ | ⟨b, off, cap, rfl, hb, hc, hm, hcell⟩⟩ := h
 ·omega
 have IT := zH (fun (u : World) (hg : w.grownBy u none) => SlC.it (w := u) (b := b) (off := off) (l := l) (fun j x hj => (gb_cell hg hb (by simp)).trans (hcell j x hj)))
 clear hcell
 have hln : (l.length : Int) ≤ 9223372036854775807 := by omega
 go_enter Tryz.func144, Tryz.ntmps144
 go_wp2
 go_loopw [3, 4] (fun bst i wr => ∃ k : Nat, k ≤ l.length ∧ i = .int .i64 k ∧ bst = .int .i64 (nx l k) ∧ w.grownBy wr none) (fun _ i _ => l.length - (intOf i).toNat)
 case atStart => exact ⟨0, by omega, rfl, rfl, gb_refl _ _⟩
 case round =>
  obtain ⟨k, hk, rfl, rfl, hgr⟩ := hrel
  have HG := zH hgr
  clear hgr
  by_cases hlt : k < l.length
  ·have hlt' : decide ((k : Int) < (l.length : Int)) = true := decide_eq_true (by omega)
   obtain ⟨-, -, -, -, -, -, c6_, c7_⟩ := IT.out _ HG.out k hlt
   have HS := zH (nx_skip (l := l) (k := k)); have HT := zH (nx_take (l := l) (k := k))
   have hN := nx_in l k
   cases hd : (itAt l k).done
   rotate_left
   ·rw [hd] at c7_
    have HE : Hid (nx l (k + 1) = nx l k) := zH (HS.out (by rw [hd]; rfl))
    clear HS HT
    go_wp2
    go_quiet (fail)
    go_wp2
    go_roundw
    case rel => exact ⟨k + 1, by omega, by go_num, by rw [HE.out], gb_drewN HG.out _⟩
    case measure => simp [intOf]; omega
   rw [hd] at c7_
   by_cases hn : nx l k < 0
   ·have hn' : decide (nx l k < 0) = true := decide_eq_true hn
    have HE : Hid (nx l (k + 1) = k) := zH (HT.out (by rw [hd, hn']; rfl))
    clear HS HT
    go_wp2
    go_quiet (fail)
    go_wp2
    go_roundw
    case rel => exact ⟨k + 1, by omega, by go_num, by rw [HE.out], gb_drewN HG.out _⟩
    case measure => simp [intOf]; omega
   obtain ⟨j, hj⟩ : ∃ j : Nat, nx l k = j := ⟨(nx l k).toNat, by omega⟩
   have hjl : j < l.length := by omega
   obtain ⟨-, -, -, -, -, -, d6_, -⟩ := IT.out _ HG.out j hjl
   have hjn : decide ((j : Int) < 0) = false := decide_eq_false (by omega)
   have hjt : (nx l k).toNat = j := by omega
   have HJ := zH hj
   rw [hj]
   by_cases hcc : (itAt l k).c < (itAt l j).c
   ·have hcc' : decide ((itAt l k).c < (itAt l j).c) = true := decide_eq_true hcc
    have HE : Hid (nx l (k + 1) = k) := zH (HT.out (by rw [hd, hjt, hcc']; simp))
    clear HS HT hj hjt hN hn
    generalize (itAt l k).c = ck at *
    generalize (itAt l j).c = cj at *
    go_wp2
    go_quiet (fail)
    go_wp2
    go_roundw
    case rel => exact ⟨k + 1, by omega, by go_num, by rw [HE.out], gb_drewN HG.out _⟩
    case measure => simp [intOf]; omega
   ·have hcc' : decide ((itAt l k).c < (itAt l j).c) = false := decide_eq_false hcc
    have HE : Hid (nx l (k + 1) = j) := zH (by rw [HS.out (by rw [hd, hjt, hcc', hj, hjn]; rfl), hj])
    clear HS HT hj hjt hN hn
    generalize (itAt l k).c = ck at *
    generalize (itAt l j).c = cj at *
    go_wp2
    go_quiet (fail)
    go_wp2
    go_roundw
    case rel => exact ⟨k + 1, by omega, by go_num, by rw [HE.out], gb_drewN HG.out _⟩
    case measure => simp [intOf]; omega
  ·obtain rfl : k = l.length := by omega
   go_wp2
   go_ret
   exact ⟨rfl, HG.out⟩
end Go.Proofs.YtiebljanpnadjaaGreat
