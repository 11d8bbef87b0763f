/- What the walks over a drawn problem keep. -/
import Derived.Test.YtcealhikmbchoaaLeastA
namespace Go.Proofs.Ytcealhikmbchoaa
set_option linter.all false
open Go.RowKit Rg

theorem addr_is (g j : Nat) : (⟨g, 0, none⟩ : Addr).add j = ⟨g, j, none⟩ := by unfold Addr.add; split <;> simp_all
theorem pts_side {x0 y0 z0 x1 y1 z1 : Int} (h0 : x1 - x0 ≤ 8) (h1 : y1 - y0 ≤ 8) (h2 : z1 - z0 ≤ 8) (hv : bP x0 y0 z0 x1 y1 z1 = true) : ptsP x0 y0 z0 x1 y1 z1 ≤ 1500 := by
  obtain ⟨v0, v1, o0, o1, o2⟩ := bP_iff hv
  unfold ptsP ptsD
  rw [hv]
  simp only [if_true]
  have m1 : (x1 - x0 + 1) * (y1 - y0 + 1) ≤ 9 * 9 := Int.mul_le_mul (by omega) (by omega) (by omega) (by omega)
  have p1 : 0 ≤ (x1 - x0 + 1) * (y1 - y0 + 1) := Int.mul_nonneg (by omega) (by omega)
  have m2 : (x1 - x0 + 1) * (y1 - y0 + 1) * (z1 - z0 + 1) ≤ (9 * 9) * 9 := Int.mul_le_mul m1 (by omega) (by omega) (by omega)
  omega
/-- What the walk keeps. -/
structure QrAt (w : World) (q : Nat) (P : Prob) (vl vh vp : Value) (b8 : Nat) (u : World) : Prop where
  p8 : u.heap[b8]? = some (.cells (P.val vl vh vp) 36 (0, 0))
  pi : PrIn q u ⟨P, vl, vh, vp⟩
  G : w.grownBy u none
  lt : w.heap.size ≤ q ∧ q < b8
section
variable {w u u' : World} {q b8 : Nat} {P : Prob} {vl vh vp : Value}
theorem QrAt.draw (h : QrAt w q P vl vh vp b8 u) (hg : u.grownBy u' (some q)) : QrAt w q P vl vh vp b8 u' := by
  have hl := h.lt
  exact ⟨block_keptp hg h.p8 (by omega), h.pi.draw hg, gb_new h.G hg (fun k hk => by simp at hk; omega), h.lt⟩
theorem QrAt.prob (h : QrAt w q P vl vh vp b8 u) : ProbIn P vl vh vp u := h.pi.1
theorem QrAt.keep (h : QrAt w q P vl vh vp b8 u) (hg : u.grownBy u' none) : QrAt w q P vl vh vp b8 u' := h.draw (gb_none hg)
end
end Go.Proofs.Ytcealhikmbchoaa
