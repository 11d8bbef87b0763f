/- The walk of MagnitudeTens. Written by gen_law32t.py. -/
import Derived.Test.YtoconichgdlmcaaScl
namespace Go.Proofs.Ytoconichgdlmcaa
set_option linter.all false
open Go.RowKit Rg

/-- A slice of numbers in memory, apart from block q. -/
def SlQ (q : Nat) (u : World) (v : Value) (xs : List Int) : Prop := Sl u v xs ∧ ∀ b off len cap, v = .slice (some ⟨b, off, none⟩) len cap → b ≠ q
theorem SlQ.draw {q : Nat} {u u' : World} {v : Value} {xs : List Int} (h : SlQ q u v xs) (hg : u.grownBy u' (some q)) : SlQ q u' v xs := ⟨h.1.later hg (fun b off len cap e _ => by have := h.2 _ _ _ _ e; simp; omega), h.2⟩
theorem cells1 {w : World} {b : Nat} {x : Value} {t : TypeId} {fr : Nat × Nat} (h : w.heap[b]? = some (.cells #[x] t fr)) : w.cell? ⟨b, 0, none⟩ = some x := by simp [World.cell?, h]
theorem btw0 {step : Int} {ls hs : List Int} (ht : tOk step ls hs) (h : 0 ≤ reachS step ls) : btwE step ls hs 0 0 = 0 := by
  have := btwE_ok (near := 0 * 0) (far := 0 * 0) ht (sq_nonneg (Int.le_refl 0)) (Int.le_refl _) (by rw [ceilI_sq (by omega)]; exact h)
  rw [Int.mul_zero] at this
  exact this
theorem Sca.tok {s : Sca} (h : s.ok = true) : tOk s.step s.ls s.hs := by
  simp only [Sca.ok, Bool.and_eq_true, decide_eq_true_eq] at h
  have := h.1.1; unfold tE at this
  by_cases ht : tOk s.step s.ls s.hs
  · exact ht
  · rw [if_neg ht] at this; omega
theorem stnV_ok {s : Sca} {l : List Stg} {a near far : Int} (h : stnE s l a near far = 0) : stnV s l a near far = .tuple #[.agg #[.int .i64 (stnL s l a near far), .int .i64 (stnH s l a near far)], .int .i64 0] := by
  unfold stnV; rw [h]

end Go.Proofs.Ytoconichgdlmcaa
