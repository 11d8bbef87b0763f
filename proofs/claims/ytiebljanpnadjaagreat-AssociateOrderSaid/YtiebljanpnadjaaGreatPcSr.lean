/- Bx Sr PrfA Snd -/
import Derived.Laws.EntriesVeiled
import Derived.Test.YtiebljanpnadjaaGreatPcGeoS
import Derived.Test.YtiebljanpnadjaaGreatPcMisP
import Derived.Test.YtiebljanpnadjaaGreatPcRefG
import Derived.Test.YtiebljanpnadjaaGreatPcFr
import Derived.Test.YtiebljanpnadjaaGreatPcGeoQ
namespace Go.Proofs.YtiebljanpnadjaaGreat
set_option linter.all false
open Go.RowKit
/-- A box, as six numbers. -/
structure Bx where
  a : Int
  b : Int
  c : Int
  d : Int
  e : Int
  f : Int
deriving Inhabited, DecidableEq
def Bx.val (x : Bx) : Array Value := #[.int .i64 x.a, .int .i64 x.b, .int .i64 x.c, .int .i64 x.d, .int .i64 x.e, .int .i64 x.f]
def Bx.ok (x : Bx) : Bool := splOk x.a x.b x.c x.d x.e x.f
def Bx.v (x : Bx) : Bool := bP x.a x.b x.c x.d x.e x.f
def Bx.ax (x : Bx) : Nat := axis (x.d - x.a) (x.e - x.b) (x.f - x.c)
def Bx.pts (x : Bx) : Int := ptsP x.a x.b x.c x.d x.e x.f
/-- Its halves. -/
def Bx.fst (x : Bx) : Bx := ⟨keepI x.ok x.a, keepI x.ok x.b, keepI x.ok x.c, spE x.ok x.ax 0 x.a x.d, spE x.ok x.ax 1 x.b x.e, spE x.ok x.ax 2 x.c x.f⟩
def Bx.snd (x : Bx) : Bx := ⟨spB x.ok x.ax 0 x.a x.d, spB x.ok x.ax 1 x.b x.e, spB x.ok x.ax 2 x.c x.f, keepI x.ok x.d, keepI x.ok x.e, keepI x.ok x.f⟩
/-- Its center. -/
def Bx.c0 (x : Bx) : Int := cen x.v x.a x.d
def Bx.c1 (x : Bx) : Int := cen x.v x.b x.e
def Bx.c2 (x : Bx) : Int := cen x.v x.c x.f
theorem Bx.split (x : Bx) (u : World) : Calls Tryz.prog 137 #[.agg x.val] u fun e w' => e = .returned (.tuple #[.agg x.fst.val, .agg x.snd.val, .bool x.ok]) ∧ u.grownBy w' none := split_any x.a x.b x.c x.d x.e x.f u
theorem Bx.center (x : Bx) (u : World) : Calls Tryz.prog 160 #[.agg x.val] u fun e w' => e = .returned (.agg #[.int .i64 x.c0, .int .i64 x.c1, .int .i64 x.c2]) ∧ u.grownBy w' none := center_any x.a x.b x.c x.d x.e x.f u
end Go.Proofs.YtiebljanpnadjaaGreat
namespace Go.Proofs.YtiebljanpnadjaaGreat
set_option linter.all false
open Go.RowKit
/-- A box that is or was open, with its bound. -/
structure It where
  b : Bx
  c : Int
  done : Bool
deriving Inhabited
def It.cells (i : It) : List Value := [.int .i64 i.b.a, .int .i64 i.b.b, .int .i64 i.b.c, .int .i64 i.b.d, .int .i64 i.b.e, .int .i64 i.b.f, .int .i64 i.c, .bool i.done]
def flatI (l : List It) : List Value := l.flatMap It.cells
theorem flatI_at : ∀ (l : List It) (i : Nat) (h : i < l.length) (j : Nat), j < 8 → (flatI l)[i * 8 + j]? = (l[i]).cells[j]?
  | a :: l, 0, _, j, hj => by
    have e : flatI (a :: l) = a.cells ++ flatI l := by simp [flatI]
    rw [e, Nat.zero_mul, Nat.zero_add, List.getElem?_append_left (by simp [It.cells]; omega)]; rfl
  | a :: l, i + 1, h, j, hj => by
    have e : flatI (a :: l) = a.cells ++ flatI l := by simp [flatI]
    have hl : a.cells.length = 8 := rfl
    rw [e, List.getElem?_append_right (by rw [hl]; omega), hl, show (i + 1) * 8 + j - 8 = i * 8 + j by omega, flatI_at l i (by simpa using h) j hj]; rfl
/-- Item i, of a list. -/
def itAt (l : List It) (i : Nat) : It := l[i]?.getD default
theorem itAt_eq {l : List It} {i : Nat} (h : i < l.length) : itAt l i = l[i] := by simp [itAt, h]
theorem SlC.it {w : World} {b off : Nat} {l : List It} (h : ∀ j u, (flatI l)[j]? = some u → w.cell? ⟨b, off + j, none⟩ = some u) (i : Nat) (hi : i < l.length) :
    w.cell? ⟨b, off + i * 8, none⟩ = some (.int .i64 (itAt l i).b.a) ∧ w.cell? ⟨b, off + i * 8 + 1, none⟩ = some (.int .i64 (itAt l i).b.b) ∧ w.cell? ⟨b, off + i * 8 + 2, none⟩ = some (.int .i64 (itAt l i).b.c) ∧ w.cell? ⟨b, off + i * 8 + 3, none⟩ = some (.int .i64 (itAt l i).b.d) ∧ w.cell? ⟨b, off + i * 8 + 4, none⟩ = some (.int .i64 (itAt l i).b.e) ∧ w.cell? ⟨b, off + i * 8 + 5, none⟩ = some (.int .i64 (itAt l i).b.f) ∧ w.cell? ⟨b, off + i * 8 + 6, none⟩ = some (.int .i64 (itAt l i).c) ∧ w.cell? ⟨b, off + i * 8 + 7, none⟩ = some (.bool (itAt l i).done) := by
  rw [itAt_eq hi]
  exact ⟨h (i * 8) _ (flatI_at l i hi 0 (by omega)), by rw [Nat.add_assoc]; exact h _ _ (flatI_at l i hi 1 (by omega)), by rw [Nat.add_assoc]; exact h _ _ (flatI_at l i hi 2 (by omega)), by rw [Nat.add_assoc]; exact h _ _ (flatI_at l i hi 3 (by omega)), by rw [Nat.add_assoc]; exact h _ _ (flatI_at l i hi 4 (by omega)), by rw [Nat.add_assoc]; exact h _ _ (flatI_at l i hi 5 (by omega)), by rw [Nat.add_assoc]; exact h _ _ (flatI_at l i hi 6 (by omega)), by rw [Nat.add_assoc]; exact h _ _ (flatI_at l i hi 7 (by omega))⟩
/-- The open box with the least bound, the first of them, among the first k; -1: none. -/
def nx (l : List It) : Nat → Int
  | 0 => -1
  | k + 1 => if !(itAt l k).done && (decide (nx l k < 0) || decide ((itAt l k).c < (itAt l (nx l k).toNat).c)) then k else nx l k
def bxC (P : Prob) (b : Bx) : Int := bdC P b.a b.b b.c b.d b.e b.f
def bxE (P : Prob) (b : Bx) : Int := bdE P b.a b.b b.c b.d b.e b.f
/-- Is the center of a box a better point? -/
def lookC (P : Prob) (first : Bool) (x : Loc) (b : Bx) : Bool :=
  first || decide (bdC P b.c0 b.c1 b.c2 b.c0 b.c1 b.c2 < x.m) || (decide (bdC P b.c0 b.c1 b.c2 b.c0 b.c1 b.c2 = x.m) && decide (cmpP b.c0 b.c1 b.c2 x.px x.py x.pz < 0))
def loc0 : Loc := ⟨0, 0, 0, 0, 0, 0, 0, 0, 0, 0, 0, 0⟩
/-- A box more, of what is returned. -/
def Loc.more (y : Loc) (b : Bx) (c : Int) : Loc :=
  ⟨y.px, y.py, y.pz, y.t, y.m, min y.l c, huL (bP y.a0 y.a1 y.a2 y.a3 y.a4 y.a5 && bP b.a b.b b.c b.d b.e b.f) y.a0 b.a, huL (bP y.a0 y.a1 y.a2 y.a3 y.a4 y.a5 && bP b.a b.b b.c b.d b.e b.f) y.a1 b.b, huL (bP y.a0 y.a1 y.a2 y.a3 y.a4 y.a5 && bP b.a b.b b.c b.d b.e b.f) y.a2 b.c,
    huH (bP y.a0 y.a1 y.a2 y.a3 y.a4 y.a5 && bP b.a b.b b.c b.d b.e b.f) y.a3 b.d, huH (bP y.a0 y.a1 y.a2 y.a3 y.a4 y.a5 && bP b.a b.b b.c b.d b.e b.f) y.a4 b.e, huH (bP y.a0 y.a1 y.a2 y.a3 y.a4 y.a5 && bP b.a b.b b.c b.d b.e b.f) y.a5 b.f⟩
end Go.Proofs.YtiebljanpnadjaaGreat
namespace Go.Proofs.YtiebljanpnadjaaGreat
set_option linter.all false
section LPrfC
open Go.RowKit Rg
end LPrfC
section LPrfD
open Go.RowKit Rg
def Prob.reg (P : Prob) : Bx := ⟨P.x0, P.y0, P.z0, P.x1, P.y1, P.z1⟩
end LPrfD
section LPrfM
open Go.RowKit Rg
/-- What a certificate says of a box. -/
def wr (V : Bx → Bool) : Nat → Bx → List Int → Int × List Int
  | 0, _, l => (8, l)
  | f + 1, b, l => if l.length = 6001 then (8, l) else if V b then (0, l ++ [0]) else if b.ok then (if (wr V f b.fst (l ++ [1])).1 = 0 then wr V f b.snd (wr V f b.fst (l ++ [1])).2 else wr V f b.fst (l ++ [1])) else (26, l)
end LPrfM
section LPrfN
open Go.RowKit Rg
attribute [local irreducible] wr
end LPrfN
end Go.Proofs.YtiebljanpnadjaaGreat
namespace Go.Proofs.YtiebljanpnadjaaGreat
set_option linter.all false
open Go.RowKit
/-- A point lies in a box. -/
def Bx.has (b : Bx) (x y z : Int) : Prop := b.a ≤ x ∧ x ≤ b.d ∧ b.b ≤ y ∧ y ≤ b.e ∧ b.c ≤ z ∧ z ≤ b.f
/-- A box lies within another. -/
def Bx.wi (c b : Bx) : Prop := b.a ≤ c.a ∧ c.d ≤ b.d ∧ b.b ≤ c.b ∧ c.e ≤ b.e ∧ b.c ≤ c.c ∧ c.f ≤ b.f
theorem Bx.wi_trans {a b c : Bx} (h : a.wi b) (k : b.wi c) : a.wi c := by unfold Bx.wi at *; omega
theorem Bx.wi_refl (a : Bx) : a.wi a := by unfold Bx.wi; omega
theorem Bx.has_wi {a b : Bx} {x y z : Int} (h : a.has x y z) (k : a.wi b) : b.has x y z := by unfold Bx.wi at *; unfold Bx.has at *; omega
/-- The halves of a box. -/
theorem Bx.parts {b : Bx} (hv : b.v = true) (ho : b.ok = true) : b.fst.v = true ∧ b.snd.v = true ∧ b.fst.wi b ∧ b.snd.wi b ∧ (∀ x y z, b.has x y z → b.fst.has x y z ∨ b.snd.has x y z) ∧ b.fst.pts + b.snd.pts = b.pts ∧ (∀ x y z, b.fst.has x y z → ¬ b.snd.has x y z) := by
  obtain ⟨a, bb, c, d, e, f⟩ := b
  have hp : 2 ≤ ptsP a bb c d e f := by simpa [Bx.ok, splOk] using ho
  obtain ⟨e0, e1, e2, f0, f1, f2, hs, hh⟩ := split_halves (show bP a bb c d e f = true from hv) hp
  have ho' : splOk a bb c d e f = true := ho
  have hE : spE true (axis (d - a) (e - bb) (f - c)) 0 a d = e0 ∧ spE true (axis (d - a) (e - bb) (f - c)) 1 bb e = e1 ∧ spE true (axis (d - a) (e - bb) (f - c)) 2 c f = e2 ∧ spB true (axis (d - a) (e - bb) (f - c)) 0 a d = f0 ∧ spB true (axis (d - a) (e - bb) (f - c)) 1 bb e = f1 ∧ spB true (axis (d - a) (e - bb) (f - c)) 2 c f = f2 := by
    rw [ho'] at hs; simp [splV] at hs; exact ⟨hs.1.2.2.2.1, hs.1.2.2.2.2.1, hs.1.2.2.2.2.2, hs.2.1, hs.2.2.1, hs.2.2.2.1⟩
  obtain ⟨h1, h2, h3, h4, h5, h6⟩ := hE
  have hf : Bx.fst ⟨a, bb, c, d, e, f⟩ = ⟨a, bb, c, e0, e1, e2⟩ := by simp [Bx.fst, Bx.ok, Bx.ax, ho', keepI, h1, h2, h3]
  have hg : Bx.snd ⟨a, bb, c, d, e, f⟩ = ⟨f0, f1, f2, d, e, f⟩ := by simp [Bx.snd, Bx.ok, Bx.ax, ho', keepI, h4, h5, h6]
  rw [hf, hg]
  have w1 := wiP_iff.1 hh.wx
  have w2 := wiP_iff.1 hh.wy
  obtain ⟨v0, v1, o0, o1, o2⟩ := bP_iff (show bP a bb c d e f = true from hv)
  have i0 := vP_iff v0; have i1 := vP_iff v1
  have part : ∀ x y z, Bx.has ⟨a, bb, c, d, e, f⟩ x y z → (Bx.has ⟨a, bb, c, e0, e1, e2⟩ x y z ↔ ¬ Bx.has ⟨f0, f1, f2, d, e, f⟩ x y z) := by
    intro x y z h
    simp only [Bx.has] at h ⊢
    have hq := hh.part x y z h.1 h.2.1 h.2.2.1 h.2.2.2.1 h.2.2.2.2.1 h.2.2.2.2.2
    have hvq : vP x y z = true := vP_mk (by omega)
    have A : conP a bb c e0 e1 e2 x y z = true ↔ (a ≤ x ∧ x ≤ e0 ∧ bb ≤ y ∧ y ≤ e1 ∧ c ≤ z ∧ z ≤ e2) := by
      rw [conP_iff]; exact ⟨fun k => by omega, fun k => ⟨hh.vx, hvq, by omega⟩⟩
    have B : conP f0 f1 f2 d e f x y z = true ↔ (f0 ≤ x ∧ x ≤ d ∧ f1 ≤ y ∧ y ≤ e ∧ f2 ≤ z ∧ z ≤ f) := by
      rw [conP_iff]; exact ⟨fun k => by omega, fun k => ⟨hh.vy, hvq, by omega⟩⟩
    rw [← A, ← B, hq]
    cases conP f0 f1 f2 d e f x y z <;> simp
  refine ⟨hh.vx, hh.vy, ?_, ?_, fun x y z h => ?_, hh.sum, fun x y z h => ?_⟩
  · simp only [Bx.wi]; omega
  · simp only [Bx.wi]; omega
  · by_cases k : Bx.has ⟨f0, f1, f2, d, e, f⟩ x y z
    · exact .inr k
    · exact .inl ((part x y z h).2 k)
  · exact (part x y z (Bx.has_wi h (by simp only [Bx.wi]; omega))).1 h
theorem wiP_of {c b : Bx} (hc : c.v = true) (hb : b.v = true) (h : c.wi b) : wiP c.a c.b c.c c.d c.e c.f b.a b.b b.c b.d b.e b.f = true :=
  wiP_iff.2 ⟨hc, hb, by unfold Bx.wi at h; omega⟩
end Go.Proofs.YtiebljanpnadjaaGreat
