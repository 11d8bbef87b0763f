/- Plain law of GeometryReached: Near and Far over all points of a box. -/
import Derived.Test.YtkckcaijfedijaaGeoP
import Derived.Test.YtkckcaijfedijaaPts
namespace Go.Proofs.Ytkckcaijfedijaa
set_option linter.all false
open Go.RowKit

def dOf (px py pz : Int) (q : Int × Int × Int) : Int := sqD px py pz q.1 q.2.1 q.2.2
def leastOf (px py pz : Int) (l : List (Int × Int × Int)) : Int := l.foldl (fun m q => min m (dOf px py pz q)) 1152921504606846976
def mostOf (px py pz : Int) (l : List (Int × Int × Int)) : Int := l.foldl (fun m q => max m (dOf px py pz q)) 0

theorem foldl_min {f : Int × Int × Int → Int} {N : Int} : ∀ (l : List (Int × Int × Int)) (a : Int), N ≤ a → (∀ q ∈ l, N ≤ f q) → (a = N ∨ ∃ q ∈ l, f q = N) → l.foldl (fun m q => min m (f q)) a = N
  | [], a, _, _, h => by simpa using h
  | q :: l, a, h1, h2, h3 => by
    have hq := h2 q (by simp)
    simp only [List.foldl_cons]
    refine foldl_min l _ (by omega) (fun r hr => h2 r (by simp [hr])) ?_
    rcases h3 with h3 | ⟨r, hr, h3⟩
    · left; omega
    · rcases List.mem_cons.1 hr with rfl | hr
      · left; omega
      · exact .inr ⟨r, hr, h3⟩
theorem foldl_max {f : Int × Int × Int → Int} {N : Int} : ∀ (l : List (Int × Int × Int)) (a : Int), a ≤ N → (∀ q ∈ l, f q ≤ N) → (a = N ∨ ∃ q ∈ l, f q = N) → l.foldl (fun m q => max m (f q)) a = N
  | [], a, _, _, h => by simpa using h
  | q :: l, a, h1, h2, h3 => by
    have hq := h2 q (by simp)
    simp only [List.foldl_cons]
    refine foldl_max l _ (by omega) (fun r hr => h2 r (by simp [hr])) ?_
    rcases h3 with h3 | ⟨r, hr, h3⟩
    · left; omega
    · rcases List.mem_cons.1 hr with rfl | hr
      · left; omega
      · exact .inr ⟨r, hr, h3⟩

theorem sq_flip (a b : Int) : (a - b) * (a - b) = (b - a) * (b - a) := by grind
theorem near_sq {x lo hi q : Int} (h0 : lo ≤ q) (h1 : q ≤ hi) : nearS x lo hi * nearS x lo hi ≤ (x - q) * (x - q) := by
  rcases Int.le_total 0 (x - q) with h | h
  · exact sq_up (by unfold nearS; omega) (by unfold nearS; omega)
  · rw [sq_flip]; exact sq_up (by unfold nearS; omega) (by unfold nearS; omega)
theorem far_sq {x lo hi q : Int} (h0 : lo ≤ q) (h1 : q ≤ hi) : (x - q) * (x - q) ≤ farS x lo hi * farS x lo hi := by
  rcases Int.le_total 0 (x - q) with h | h
  · exact sq_up h (by unfold farS; omega)
  · rw [sq_flip]; exact sq_up (by omega) (by unfold farS; omega)
theorem near_at {x lo hi : Int} (h : lo ≤ hi) : ∃ q, lo ≤ q ∧ q ≤ hi ∧ (x - q) * (x - q) = nearS x lo hi * nearS x lo hi := by
  rcases Int.lt_or_le x lo with h1 | h1
  · exact ⟨lo, by omega, by omega, by rw [show nearS x lo hi = lo - x by unfold nearS; omega, sq_flip]⟩
  · rcases Int.lt_or_le hi x with h2 | h2
    · exact ⟨hi, by omega, by omega, by rw [show nearS x lo hi = x - hi by unfold nearS; omega]⟩
    · exact ⟨x, by omega, by omega, by rw [show nearS x lo hi = 0 by unfold nearS; omega]; simp⟩
theorem far_at {x lo hi : Int} (h : lo ≤ hi) : ∃ q, lo ≤ q ∧ q ≤ hi ∧ (x - q) * (x - q) = farS x lo hi * farS x lo hi := by
  rcases Int.le_total (hi - x) (x - lo) with h1 | h1
  · exact ⟨lo, by omega, by omega, by rw [show farS x lo hi = x - lo by unfold farS; omega]⟩
  · exact ⟨hi, by omega, by omega, by rw [show farS x lo hi = hi - x by unfold farS; omega, sq_flip]⟩

/-- P24.3: the least and the greatest squared distance. -/
theorem reached_plain {x0 y0 z0 x1 y1 z1 px py pz : Int} {nx ny nz : Nat} (hx : x1 = x0 + nx - 1) (hy : y1 = y0 + ny - 1) (hz : z1 = z0 + nz - 1) (h0 : x0 ≤ x1) (h1 : y0 ≤ y1) (h2 : z0 ≤ z1)
    (hs : nearD x0 y0 z0 x1 y1 z1 px py pz ≤ 1152921504606846976) :
    leastOf px py pz (preX x0 y0 z0 ny nz nx) = nearD x0 y0 z0 x1 y1 z1 px py pz ∧ mostOf px py pz (preX x0 y0 z0 ny nz nx) = farD x0 y0 z0 x1 y1 z1 px py pz := by
  constructor
  · refine foldl_min _ _ hs (fun q hq => ?_) (.inr ?_)
    · have := mem_preX.1 hq
      have a := near_sq (x := px) (lo := x0) (hi := x1) (q := q.1) (by omega) (by omega)
      have b := near_sq (x := py) (lo := y0) (hi := y1) (q := q.2.1) (by omega) (by omega)
      have c := near_sq (x := pz) (lo := z0) (hi := z1) (q := q.2.2) (by omega) (by omega)
      unfold nearD dOf sqD; omega
    · obtain ⟨a, a0, a1, ea⟩ := near_at (x := px) h0
      obtain ⟨b, b0, b1, eb⟩ := near_at (x := py) h1
      obtain ⟨c, c0, c1, ec⟩ := near_at (x := pz) h2
      exact ⟨(a, b, c), mem_preX.2 ⟨a0, by show a < _; omega, b0, by show b < _; omega, c0, by show c < _; omega⟩, by unfold nearD dOf sqD; rw [← ea, ← eb, ← ec]⟩
  · refine foldl_max _ _ ?_ (fun q hq => ?_) (.inr ?_)
    · have := sq_nn (farS px x0 x1); have := sq_nn (farS py y0 y1); have := sq_nn (farS pz z0 z1)
      unfold farD; omega
    · have := mem_preX.1 hq
      have a := far_sq (x := px) (lo := x0) (hi := x1) (q := q.1) (by omega) (by omega)
      have b := far_sq (x := py) (lo := y0) (hi := y1) (q := q.2.1) (by omega) (by omega)
      have c := far_sq (x := pz) (lo := z0) (hi := z1) (q := q.2.2) (by omega) (by omega)
      unfold farD dOf sqD; omega
    · obtain ⟨a, a0, a1, ea⟩ := far_at (x := px) h0
      obtain ⟨b, b0, b1, eb⟩ := far_at (x := py) h1
      obtain ⟨c, c0, c1, ec⟩ := far_at (x := pz) h2
      exact ⟨(a, b, c), mem_preX.2 ⟨a0, by show a < _; omega, b0, by show b < _; omega, c0, by show c < _; omega⟩, by unfold farD dOf sqD; rw [← ea, ← eb, ← ec]⟩
end Go.Proofs.Ytkckcaijfedijaa
