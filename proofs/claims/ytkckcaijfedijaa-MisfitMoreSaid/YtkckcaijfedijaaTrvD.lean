/- Layer 25: Between, and the reference's Lower, Upper, Between. -/
import Derived.Test.YtkckcaijfedijaaTrvC
import Derived.Test.YtkckcaijfedijaaSqrt
namespace Go.Proofs.Ytkckcaijfedijaa
set_option linter.all false
open Go.RowKit

theorem tOk_at {step : Int} {ls hs : List Int} (h : tOk step ls hs) {k : Nat} (hk : k < ls.length) : 0 ≤ at0 ls k ∧ at0 ls k ≤ at0 hs k ∧ at0 hs k ≤ 1099511627776 := by
  obtain ⟨h1, h2, h3, _⟩ := tOk_R h k hk
  exact ⟨h1, h3, h2⟩

/-- The entry that a distance reaches, rounded down. -/
def loI (step d : Int) : Nat := (d / step).toNat
/-- The entry that a distance reaches, rounded up. -/
def upI (step d : Int) : Nat := ((d + step - 1) / step).toNat

theorem loI_spec {step d : Int} {n : Nat} (h1 : 1 ≤ step) (h2 : 0 ≤ d) (h3 : d ≤ step * ((n : Int) - 1)) (hn : 2 ≤ n) : d / step = (loI step d : Int) ∧ loI step d < n := by
  have a := Int.ediv_nonneg h2 (by omega : 0 ≤ step)
  have b : d / step ≤ (n : Int) - 1 := by
    have := Int.ediv_le_ediv (by omega : 0 < step) h3
    rwa [Int.mul_ediv_cancel_left _ (by omega)] at this
  unfold loI
  generalize d / step = q at *
  omega
theorem upI_spec {step d : Int} {n : Nat} (h1 : 1 ≤ step) (h2 : 0 ≤ d) (h3 : d ≤ step * ((n : Int) - 1)) (hn : 2 ≤ n) : (d + step - 1) / step = (upI step d : Int) ∧ upI step d < n := by
  have a := Int.ediv_nonneg (by omega : 0 ≤ d + step - 1) (by omega : 0 ≤ step)
  have b : (d + step - 1) / step < (n : Int) := by
    refine Int.ediv_lt_of_lt_mul (by omega) ?_
    rw [Int.mul_sub, Int.mul_one] at h3
    rw [Int.mul_comm]; omega
  unfold upI
  generalize (d + step - 1) / step = q at *
  omega
theorem upI_unique {step d : Int} {u : Nat} (h1 : 1 ≤ step) (h2 : 0 ≤ d) (hlo : 0 < u → ((u : Int) - 1) * step < d) (hhi : d ≤ (u : Int) * step) : u = upI step d := by
  have e : (d + step - 1) / step = (u : Int) := by
    refine Int.le_antisymm ?_ ?_
    · refine Int.lt_add_one_iff.1 (Int.ediv_lt_of_lt_mul (by omega) ?_)
      rw [Int.add_mul, Int.one_mul]; omega
    · refine (Int.le_ediv_iff_mul_le (by omega)).2 ?_
      rcases Nat.eq_zero_or_pos u with rfl | hu
      · simp; omega
      · have := hlo hu
        rw [Int.sub_mul, Int.one_mul] at this; omega
  unfold upI; omega

/-- The results of Between: lower time, upper time, error. -/
def btwE (step : Int) (ls hs : List Int) (near far : Int) : Int := if ¬ tOk step ls hs then 21 else if near < 0 ∨ far < near then 2 else if reachS step ls < ceilI far then 22 else 0
def btwA (step : Int) (ls hs : List Int) (near far : Int) : Int := if btwE step ls hs near far = 0 then at0 ls (loI step (floorI near)) else 0
def btwB (step : Int) (ls hs : List Int) (near far : Int) : Int := if btwE step ls hs near far = 0 then at0 hs (upI step (ceilI far)) else 0
def btw (step : Int) (ls hs : List Int) (near far : Int) : Value := .tuple #[.int .i64 (btwA step ls hs near far), .int .i64 (btwB step ls hs near far), .int .i64 (btwE step ls hs near far)]

theorem btw_err {step : Int} {ls hs : List Int} {near far c : Int} (hc : c ≠ 0) (h : btwE step ls hs near far = c) : Ending.returned (.tuple #[.int .i64 0, .int .i64 0, .int .i64 c]) = .returned (btw step ls hs near far) := by
  unfold btw btwA btwB; rw [h, if_neg hc, if_neg hc]
theorem btw_ok {step : Int} {ls hs : List Int} {near far : Int} {i j : Nat} (h : btwE step ls hs near far = 0) (hi : i = loI step (floorI near)) (hj : j = upI step (ceilI far)) : Ending.returned (.tuple #[.int .i64 (at0 ls i), .int .i64 (at0 hs j), .int .i64 0]) = .returned (btw step ls hs near far) := by
  unfold btw btwA btwB; rw [h, if_pos rfl, if_pos rfl, hi, hj]

theorem floorI_mono {a b : Int} (h : a ≤ b) : floorI a ≤ floorI b := by
  obtain ⟨a1, a2⟩ := sqS_spec a.toNat
  obtain ⟨b1, b2⟩ := sqS_spec b.toNat
  have : sqS a.toNat < sqS b.toNat + 1 := sq_mono (by omega)
  unfold floorI; omega
theorem ceilI_ge (a : Int) : floorI a ≤ ceilI a := by unfold ceilI; split <;> omega
theorem ceilI_le {a : Int} (h : a ≤ 9223372036854775807) : 0 ≤ ceilI a ∧ ceilI a ≤ 3037000500 := by
  have := floorI_le h
  unfold ceilI; split <;> omega

theorem between_fits {step : Int} {ls hs : List Int} {near far : Int} (h : tOk step ls hs) (h1 : 0 ≤ near) (h2 : near ≤ far) (hf : far ≤ 9223372036854775807) (h3 : ceilI far ≤ reachS step ls) :
    floorI near / step = (loI step (floorI near) : Int) ∧ loI step (floorI near) < ls.length ∧ (ceilI far + step - 1) / step = (upI step (ceilI far) : Int) ∧ upI step (ceilI far) < ls.length := by
  obtain ⟨t1, t2, t3, t4, t5, _⟩ := h
  have a := floorI_le (n := near) (by omega)
  have b := floorI_mono h2
  have c := ceilI_ge far
  have d := ceilI_le hf
  unfold reachS at h3
  obtain ⟨p1, p2⟩ := loI_spec (d := floorI near) t1 a.1 (by omega) t4
  obtain ⟨q1, q2⟩ := upI_spec (d := ceilI far) t1 d.1 h3 t4
  exact ⟨p1, p2, q1, q2⟩
end Go.Proofs.Ytkckcaijfedijaa
