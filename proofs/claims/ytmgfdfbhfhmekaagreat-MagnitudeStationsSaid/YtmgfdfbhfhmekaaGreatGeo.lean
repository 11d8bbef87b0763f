/- Layer 24: the walks of the program's functions. -/
import Derived.Test.YtmgfdfbhfhmekaaGreatBase
import Derived.Test.YtmgfdfbhfhmekaaGreatShelf
import Derived.Test.YtmgfdfbhfhmekaaGreatRgMade
namespace Go.Proofs.YtmgfdfbhfhmekaaGreat
set_option linter.all false
section LGeoA
open Go.RowKit

def vP (x y z : Int) : Bool := decide (-1048576 ≤ x) && decide (x ≤ 1048576) && decide (-1048576 ≤ y) && decide (y ≤ 1048576) && decide (-16384 ≤ z) && decide (z ≤ 1048576)

theorem three (x lo hi : Int) : x < lo ∨ (lo ≤ x ∧ hi < x) ∨ (lo ≤ x ∧ x ≤ hi) := by omega

end LGeoA
section LGeoB
open Go.RowKit

def bP (x0 y0 z0 x1 y1 z1 : Int) : Bool := vP x0 y0 z0 && vP x1 y1 z1 && decide (x0 ≤ x1) && decide (y0 ≤ y1) && decide (z0 ≤ z1)

end LGeoB
section LGeoC
open Go.RowKit

theorem vP_iff {x y z : Int} (h : vP x y z = true) : -1048576 ≤ x ∧ x ≤ 1048576 ∧ -1048576 ≤ y ∧ y ≤ 1048576 ∧ -16384 ≤ z ∧ z ≤ 1048576 := by
  simp [vP] at h; omega

/-- The square of a difference of coordinates: small. -/
theorem sq_small {d : Int} (h1 : -4194304 ≤ d) (h2 : d ≤ 4194304) : 0 ≤ d * d ∧ d * d ≤ 17592186044416 ∧ wrap64 (d * d) = d * d := by
  have a : 0 ≤ d * d := by
    rcases Int.le_total 0 d with h | h
    · exact Int.mul_nonneg h h
    · have := Int.mul_nonneg (Int.neg_nonneg_of_nonpos h) (Int.neg_nonneg_of_nonpos h); rwa [Int.neg_mul_neg] at this
  have b : d * d ≤ 4194304 * 4194304 := by
    rcases Int.le_total 0 d with h | h
    · exact Int.mul_le_mul h2 h2 h (by omega)
    · have := Int.mul_le_mul (a := -d) (b := -d) (c := 4194304) (d := 4194304) (by omega) (by omega) (by omega) (by omega)
      rwa [Int.neg_mul_neg] at this
  generalize d * d = q at *
  exact ⟨a, by omega, IntWalk.wrap64_in _ (by omega)⟩

def sqD (x0 y0 z0 x1 y1 z1 : Int) : Int := (x0 - x1) * (x0 - x1) + (y0 - y1) * (y0 - y1) + (z0 - z1) * (z0 - z1)
def sqP (x0 y0 z0 x1 y1 z1 : Int) : Int := if vP x0 y0 z0 && vP x1 y1 z1 then sqD x0 y0 z0 x1 y1 z1 else 0

end LGeoC
section LGeoD
open Go.RowKit Rg

def nearS (x lo hi : Int) : Int := max (max (lo - x) (x - hi)) 0
def farS (x lo hi : Int) : Int := max (hi - x) (x - lo)

def nearD (x0 y0 z0 x1 y1 z1 px py pz : Int) : Int := nearS px x0 x1 * nearS px x0 x1 + nearS py y0 y1 * nearS py y0 y1 + nearS pz z0 z1 * nearS pz z0 z1
def farD (x0 y0 z0 x1 y1 z1 px py pz : Int) : Int := farS px x0 x1 * farS px x0 x1 + farS py y0 y1 * farS py y0 y1 + farS pz z0 z1 * farS pz z0 z1
def nearP (x0 y0 z0 x1 y1 z1 px py pz : Int) : Int := if bP x0 y0 z0 x1 y1 z1 && vP px py pz then nearD x0 y0 z0 x1 y1 z1 px py pz else 0
def farP (x0 y0 z0 x1 y1 z1 px py pz : Int) : Int := if bP x0 y0 z0 x1 y1 z1 && vP px py pz then farD x0 y0 z0 x1 y1 z1 px py pz else 0
theorem bP_iff {x0 y0 z0 x1 y1 z1 : Int} (h : bP x0 y0 z0 x1 y1 z1 = true) : vP x0 y0 z0 = true ∧ vP x1 y1 z1 = true ∧ x0 ≤ x1 ∧ y0 ≤ y1 ∧ z0 ≤ z1 := by
  simp [bP] at h; exact ⟨h.1.1.1.1, h.1.1.1.2, h.1.1.2, h.1.2, h.2⟩

end LGeoD
section LGeoE
open Go.RowKit

def conP (x0 y0 z0 x1 y1 z1 px py pz : Int) : Bool := bP x0 y0 z0 x1 y1 z1 && vP px py pz && decide (nearP x0 y0 z0 x1 y1 z1 px py pz = 0)
def wiP (a0 b0 c0 a1 b1 c1 x0 y0 z0 x1 y1 z1 : Int) : Bool := bP a0 b0 c0 a1 b1 c1 && conP x0 y0 z0 x1 y1 z1 a0 b0 c0 && conP x0 y0 z0 x1 y1 z1 a1 b1 c1
def ptsD (x0 y0 z0 x1 y1 z1 : Int) : Int := (x1 - x0 + 1) * (y1 - y0 + 1) * (z1 - z0 + 1)
def ptsP (x0 y0 z0 x1 y1 z1 : Int) : Int := if bP x0 y0 z0 x1 y1 z1 then ptsD x0 y0 z0 x1 y1 z1 else 0

/-- The number of points of a valid box is an int. -/
theorem pts_small {a b c : Int} (ha : 1 ≤ a ∧ a ≤ 2097153) (hb : 1 ≤ b ∧ b ≤ 2097153) (hc : 1 ≤ c ∧ c ≤ 1064961) : 1 ≤ a * b ∧ a * b ≤ 4398050705409 ∧ 1 ≤ a * b * c ∧ a * b * c ≤ 4683752477283074049 := by
  have h1 : a * b ≤ 2097153 * 2097153 := Int.mul_le_mul ha.2 hb.2 (by omega) (by omega)
  have h2 : 1 * 1 ≤ a * b := Int.mul_le_mul ha.1 hb.1 (by omega) (by omega)
  have h3 : a * b * c ≤ 4398050705409 * 1064961 := Int.mul_le_mul (by omega) hc.2 (by omega) (by omega)
  have h4 : 1 * 1 ≤ a * b * c := Int.mul_le_mul (by omega) hc.1 (by omega) (by omega)
  omega

end LGeoE
section LGeoF
open Go.RowKit Rg

def midI (a b : Int) : Int := a + (b - a) / 2
theorem midI_in {a b : Int} (h : a ≤ b) : a ≤ midI a b ∧ midI a b ≤ b ∧ (a < b → midI a b < b) := by unfold midI; omega
theorem block_kept {w w' : World} (h : w.grownBy w' none) {b : Nat} {x : Option Obj} (hb : w.heap[b]? = x) (hx : x.isSome = true) : w'.heap[b]? = x := by
  have hlt : b < w.heap.size := by
    rcases Nat.lt_or_ge b w.heap.size with h | h
    · exact h
    · rw [Array.getElem?_eq_none h] at hb; subst hb; cases hx
  exact (h.block b hlt (by simp)).trans hb
theorem frozen3 {w : World} {b : Nat} {cs : Array Value} {t : TypeId} (h : w.heap[b]? = some (.cells cs t (0, 0))) (o : Nat) : w.frozen? ⟨b, o, none⟩ = false := by simp [World.frozen?, h]
theorem block_lt {w : World} {b : Nat} {x : Obj} (h : w.heap[b]? = some x) : b < w.heap.size := (Array.getElem?_eq_some_iff.1 h).1

def cen (v : Bool) (a b : Int) : Int := if v then midI a b else 0

end LGeoF
end Go.Proofs.YtmgfdfbhfhmekaaGreat
