/- Layer 24: Hull. Written by gen_geoG.py. -/
import Derived.Test.YtkckcaijfedijaaGeoH
import Derived.BigRegion
namespace Go.Proofs.Ytkckcaijfedijaa
set_option linter.all false
open Go.RowKit Rg

def huL (v : Bool) (a x : Int) : Int := if v then min a x else 0
def huH (v : Bool) (a x : Int) : Int := if v then max a x else 0
def sel (k j : Nat) (m a : Int) : Int := if j < k then m else a
/-- Where Hull's own blocks lie, and what they hold. -/
structure HulAt (w : World) (p q r s : Nat) (l0 l1 l2 h0 h1 h2 x0 y0 z0 x1 y1 z1 : Int) (u : World) : Prop where
  res : u.heap[w.heap.size + 2]? = some (.cells #[.int .i64 0, .int .i64 0, .int .i64 0, .int .i64 0, .int .i64 0, .int .i64 0] 28 (0, 0))
  low : u.heap[p]? = some (.cells #[.int .i64 l0, .int .i64 l1, .int .i64 l2] 104 (0, 0))
  high : u.heap[q]? = some (.cells #[.int .i64 h0, .int .i64 h1, .int .i64 h2] 104 (0, 0))
  fro : u.heap[r]? = some (.cells #[.int .i64 x0, .int .i64 y0, .int .i64 z0] 104 (0, 0))
  til : u.heap[s]? = some (.cells #[.int .i64 x1, .int .i64 y1, .int .i64 z1] 104 (0, 0))
  at' : w.heap.size + 2 < p ∧ w.heap.size + 2 < q ∧ w.heap.size + 2 < r ∧ w.heap.size + 2 < s
  apart : p ≠ q ∧ p ≠ r ∧ p ≠ s ∧ q ≠ r ∧ q ≠ s ∧ r ≠ s
  grown : w.grownBy u none
theorem HulAt.made {w : World} {p q r s : Nat} {l0 l1 l2 h0 h1 h2 x0 y0 z0 x1 y1 z1 : Int} {u u' : World} (h : HulAt w p q r s l0 l1 l2 h0 h1 h2 x0 y0 z0 x1 y1 z1 u) (hg : u.grownBy u' none) : HulAt w p q r s l0 l1 l2 h0 h1 h2 x0 y0 z0 x1 y1 z1 u' :=
  ⟨block_kept hg h.res rfl, block_kept hg h.low rfl, block_kept hg h.high rfl, block_kept hg h.fro rfl, block_kept hg h.til rfl, h.at', h.apart, gb_trans h.grown hg⟩

end Go.Proofs.Ytkckcaijfedijaa
