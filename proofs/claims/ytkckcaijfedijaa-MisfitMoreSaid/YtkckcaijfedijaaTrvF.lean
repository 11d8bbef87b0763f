/- Layer 25: Distances. -/
import Derived.Test.YtkckcaijfedijaaTrvE
namespace Go.Proofs.Ytkckcaijfedijaa
set_option linter.all false
open Go.RowKit

/-- How many numbers stand ahead of the first one that does not satisfy p. -/
def lead (p : Int → Bool) (xs : List Int) : Nat := (xs.takeWhile p).length
theorem lead_unique {p : Int → Bool} : ∀ {xs : List Int} {f : Nat}, f ≤ xs.length → (∀ j, j < f → p (at0 xs j) = true) → (f < xs.length → p (at0 xs f) = false) → f = lead p xs
  | [], f, h, _, _ => by simp at h; simp [lead, h]
  | x :: xs, 0, _, _, h2 => by
    have := h2 (by simp)
    simp [at0] at this
    simp [lead, this]
  | x :: xs, f + 1, h, h1, h2 => by
    have h0 := h1 0 (by omega)
    simp [at0] at h0
    have := lead_unique (p := p) (xs := xs) (f := f) (by simpa using h) (fun j hj => by have := h1 (j + 1) (by omega); simpa [at0] using this) (fun hf => by have := h2 (by simpa using hf); simpa [at0] using this)
    rw [this]; simp [lead, h0]
theorem lead_spec {p : Int → Bool} : ∀ (xs : List Int), (∀ j, j < lead p xs → p (at0 xs j) = true) ∧ (lead p xs < xs.length → p (at0 xs (lead p xs)) = false)
  | [] => by simp [lead]
  | x :: xs => by
    cases hx : p x
    · simp [lead, hx, at0]
    · have e : lead p (x :: xs) = lead p xs + 1 := by simp [lead, hx]
      rw [e]
      obtain ⟨h1, h2⟩ := lead_spec (p := p) xs
      refine ⟨fun j hj => ?_, fun h => ?_⟩
      · cases j with
        | zero => simpa [at0] using hx
        | succ j => simpa [at0] using h1 j (by omega)
      · simpa [at0] using h2 (by simpa using h)
theorem lead_le (p : Int → Bool) (xs : List Int) : lead p xs ≤ xs.length := (List.takeWhile_sublist p).length_le

def dF (hs : List Int) (t : Int) : Nat := lead (fun x => decide (x < t)) hs
def dL (ls : List Int) (t : Int) : Nat := lead (fun x => decide (x ≤ t)) ls
def dLeast (step : Int) (hs : List Int) (t : Int) : Int := if dF hs t = 0 then 0 else max 0 (((dF hs t : Int) - 1) * step + 1)
def dMost (step : Int) (ls : List Int) (t : Int) : Int := min (reachS step ls) ((dL ls t : Int) * step - 1)
def dE (step : Int) (ls hs : List Int) (t : Int) : Int := if ¬ tOk step ls hs then 21 else if dF hs t = hs.length ∨ dL ls t = 0 ∨ dMost step ls t < dLeast step hs t then 24 else 0
def dV (step : Int) (ls hs : List Int) (t : Int) : Value :=
  .tuple (if dE step ls hs t = 0 then #[.int .i64 (dLeast step hs t), .int .i64 (dMost step ls t), .int .i64 0] else #[.int .i64 0, .int .i64 0, .int .i64 (dE step ls hs t)])
theorem dV_err {step : Int} {ls hs : List Int} {t c : Int} (hc : c ≠ 0) (h : dE step ls hs t = c) : Ending.returned (.tuple #[.int .i64 0, .int .i64 0, .int .i64 c]) = .returned (dV step ls hs t) := by
  unfold dV; rw [h, if_neg hc]
theorem dV_ok {step : Int} {ls hs : List Int} {t a b : Int} (h : dE step ls hs t = 0) (ha : a = dLeast step hs t) (hb : b = dMost step ls t) : Ending.returned (.tuple #[.int .i64 a, .int .i64 b, .int .i64 0]) = .returned (dV step ls hs t) := by
  unfold dV; rw [h, if_pos rfl, ha, hb]

end Go.Proofs.Ytkckcaijfedijaa
