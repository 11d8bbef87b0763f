/- Layer 24: Split. Written by gen_geoH.py. -/
import Derived.Test.YtmgfdfbhfhmekaaGreatGeo
import Derived.BigRegion
namespace Go.Proofs.YtmgfdfbhfhmekaaGreat
set_option linter.all false
section LGeoH
open Go.RowKit Rg

/-- The axis along which a box is split. -/
def axis (dx dy dz : Int) : Nat := if dx < dy then (if dy < dz then 2 else 1) else (if dx < dz then 2 else 0)
def spE (v : Bool) (ax k : Nat) (a b : Int) : Int := if v then (if ax = k then midI a b else b) else 0
def spB (v : Bool) (ax k : Nat) (a b : Int) : Int := if v then (if ax = k then midI a b + 1 else a) else 0
def keepI (v : Bool) (a : Int) : Int := if v then a else 0
def splOk (x0 y0 z0 x1 y1 z1 : Int) : Bool := decide (2 ≤ ptsP x0 y0 z0 x1 y1 z1)
def splV (v : Bool) (ax : Nat) (x0 y0 z0 x1 y1 z1 : Int) : Value :=
  .tuple #[.agg #[.int .i64 (keepI v x0), .int .i64 (keepI v y0), .int .i64 (keepI v z0), .int .i64 (spE v ax 0 x0 x1), .int .i64 (spE v ax 1 y0 y1), .int .i64 (spE v ax 2 z0 z1)],
    .agg #[.int .i64 (spB v ax 0 x0 x1), .int .i64 (spB v ax 1 y0 y1), .int .i64 (spB v ax 2 z0 z1), .int .i64 (keepI v x1), .int .i64 (keepI v y1), .int .i64 (keepI v z1)], .bool v]
theorem cells6 {w : World} {b : Nat} {x y z p q r : Value} {t : TypeId} {fr : Nat × Nat} (h : w.heap[b]? = some (.cells #[x, y, z, p, q, r] t fr)) :
    w.cell? ⟨b, 0, none⟩ = some x ∧ w.cell? ⟨b, 1, none⟩ = some y ∧ w.cell? ⟨b, 2, none⟩ = some z ∧ w.cell? ⟨b, 3, none⟩ = some p ∧ w.cell? ⟨b, 4, none⟩ = some q ∧ w.cell? ⟨b, 5, none⟩ = some r := by simp [World.cell?, h]
theorem axis_cases (x0 y0 z0 x1 y1 z1 : Int) : (y1 - y0 ≤ x1 - x0 ∧ z1 - z0 ≤ x1 - x0 ∧ axis (x1 - x0) (y1 - y0) (z1 - z0) = 0) ∨ (y1 - y0 ≤ x1 - x0 ∧ x1 - x0 < z1 - z0 ∧ axis (x1 - x0) (y1 - y0) (z1 - z0) = 2) ∨
    (x1 - x0 < y1 - y0 ∧ z1 - z0 ≤ y1 - y0 ∧ axis (x1 - x0) (y1 - y0) (z1 - z0) = 1) ∨ (x1 - x0 < y1 - y0 ∧ y1 - y0 < z1 - z0 ∧ axis (x1 - x0) (y1 - y0) (z1 - z0) = 2) := by
  unfold axis; split <;> split <;> omega

end LGeoH
section LGeoG
open Go.RowKit Rg

def huL (v : Bool) (a x : Int) : Int := if v then min a x else 0
def huH (v : Bool) (a x : Int) : Int := if v then max a x else 0
def sel (k j : Nat) (m a : Int) : Int := if j < k then m else a
end LGeoG
end Go.Proofs.YtmgfdfbhfhmekaaGreat
