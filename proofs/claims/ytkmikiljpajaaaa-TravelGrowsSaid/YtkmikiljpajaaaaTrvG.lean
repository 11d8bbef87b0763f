/- Plain laws of the travel times: squares, growth. -/
import Derived.Test.YtkmikiljpajaaaaTrvF
namespace Go.Proofs.Ytkmikiljpajaaaa
open Go.RowKit

theorem floorI_sq {x : Int} (h : 0 ≤ x) : floorI (x * x) = x := by
  refine (floorI_unique h (Int.le_refl _) ?_).symm
  have : (x + 1) * (x + 1) = x * x + (x + x + 1) := by rw [Int.add_mul, Int.mul_add]; omega
  omega
theorem ceilI_sq {x : Int} (h : 0 ≤ x) : ceilI (x * x) = x := by
  unfold ceilI; rw [floorI_sq h, if_neg (by omega)]

def loA (step : Int) (ls : List Int) (x : Int) : Int := at0 ls (loI step x)
def hiA (step : Int) (hs : List Int) (x : Int) : Int := at0 hs (upI step x)

theorem sq_le {x y : Int} (h0 : 0 ≤ x) (h : x ≤ y) : x * x ≤ y * y := Int.mul_le_mul h h h0 (by omega)
theorem sq_nonneg {x : Int} (h0 : 0 ≤ x) : 0 ≤ x * x := Int.mul_nonneg h0 h0

theorem btwE_ok {step : Int} {ls hs : List Int} {near far : Int} (h : tOk step ls hs) (h0 : 0 ≤ near) (h1 : near ≤ far) (h2 : ceilI far ≤ reachS step ls) : btwE step ls hs near far = 0 := by
  unfold btwE; rw [if_neg (by simpa using h), if_neg (by omega), if_neg (by omega)]
theorem btw_good {step : Int} {ls hs : List Int} {near far : Int} (h : tOk step ls hs) (h0 : 0 ≤ near) (h1 : near ≤ far) (h2 : ceilI far ≤ reachS step ls) :
    btw step ls hs near far = .tuple #[.int .i64 (loA step ls (floorI near)), .int .i64 (hiA step hs (ceilI far)), .int .i64 0] := by
  have e := btwE_ok h h0 h1 h2
  unfold btw btwA btwB loA hiA; rw [e]; simp
theorem btw_sq {step : Int} {ls hs : List Int} {x y : Int} (h : tOk step ls hs) (h0 : 0 ≤ x) (h1 : x ≤ y) (h2 : y ≤ reachS step ls) :
    btw step ls hs (x * x) (y * y) = .tuple #[.int .i64 (loA step ls x), .int .i64 (hiA step hs y), .int .i64 0] := by
  have := btw_good h (sq_nonneg h0) (sq_le h0 h1) (by rw [ceilI_sq (by omega)]; exact h2)
  rwa [floorI_sq h0, ceilI_sq (by omega)] at this

theorem at0_mono {step : Int} {ls hs : List Int} (h : tOk step ls hs) {i j : Nat} (hij : i ≤ j) (hj : j < ls.length) : at0 ls i ≤ at0 ls j ∧ at0 hs i ≤ at0 hs j := by
  induction j with
  | zero => obtain rfl : i = 0 := by omega
            exact ⟨Int.le_refl _, Int.le_refl _⟩
  | succ j ih =>
    by_cases e : i = j + 1
    · subst e; exact ⟨Int.le_refl _, Int.le_refl _⟩
    · have := ih (by omega) (by omega)
      have hk := h.2.2.2.2.2 (j + 1) hj
      unfold okAt at hk
      rw [if_neg (by omega), if_neg (by omega), Nat.add_sub_cancel] at hk
      omega
theorem loI_mono {step x y : Int} (h1 : 1 ≤ step) (h : x ≤ y) : loI step x ≤ loI step y := by
  unfold loI
  have := Int.ediv_le_ediv (c := step) (by omega) h
  omega
theorem upI_mono {step x y : Int} (h1 : 1 ≤ step) (h : x ≤ y) : upI step x ≤ upI step y := by
  unfold upI
  have := Int.ediv_le_ediv (c := step) (a := x + step - 1) (b := y + step - 1) (by omega) (by omega)
  omega
theorem loI_upI {step x : Int} (h1 : 1 ≤ step) : loI step x ≤ upI step x := by
  unfold loI upI
  have := Int.ediv_le_ediv (c := step) (a := x) (b := x + step - 1) (by omega) (by omega)
  omega
/-- The times grow. -/
theorem grows_plain {step : Int} {ls hs : List Int} {x y : Int} (h : tOk step ls hs) (h0 : 0 ≤ x) (h1 : x ≤ y) (h2 : y ≤ reachS step ls) :
    loA step ls x ≤ hiA step hs x ∧ loA step ls y ≤ hiA step hs y ∧ loA step ls x ≤ loA step ls y ∧ hiA step hs x ≤ hiA step hs y := by
  have hstep := h.1
  have hn := h.2.2.2.1
  unfold reachS at h2
  have ux := (upI_spec (n := ls.length) hstep h0 (by omega) hn).2
  have uy := (upI_spec (n := ls.length) hstep (d := y) (by omega) (by omega) hn).2
  have lx := (loI_spec (n := ls.length) hstep h0 (by omega) hn).2
  have ly := (loI_spec (n := ls.length) hstep (d := y) (by omega) (by omega) hn).2
  have ax := (tOk_at h lx).2.1
  have ay := (tOk_at h ly).2.1
  have bx := (at0_mono h (loI_upI (x := x) hstep) ux).2
  have by' := (at0_mono h (loI_upI (x := y) hstep) uy).2
  have cl := (at0_mono h (loI_mono hstep h1) ly).1
  have cu := (at0_mono h (upI_mono hstep h1) uy).2
  unfold loA hiA
  omega
/-- How far a drawn table reaches. -/
theorem reach_small {step : Int} {ls : List Int} (h0 : 1 ≤ step) (h1 : step ≤ 100) (h2 : 400 ≤ step * ((ls.length : Int) - 1)) (h3 : ls.length ≤ 23) : 400 ≤ reachS step ls ∧ reachS step ls ≤ 2200 := by
  unfold reachS
  have := mul_small (a := step) (b := 22) (A := 100) (B := 22) (by omega) h1 (by omega) (by omega)
  have := Int.mul_le_mul_of_nonneg_left (show (ls.length : Int) - 1 ≤ 22 by omega) (show 0 ≤ step by omega)
  omega
end Go.Proofs.Ytkmikiljpajaaaa
