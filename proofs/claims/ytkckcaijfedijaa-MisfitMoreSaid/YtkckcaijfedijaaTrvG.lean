/- Plain laws of the travel times: squares, growth. -/
import Derived.Test.YtkckcaijfedijaaTrvF
namespace Go.Proofs.Ytkckcaijfedijaa
set_option linter.all false
open Go.RowKit

theorem floorI_sq {x : Int} (h : 0 ≤ x) : floorI (x * x) = x := by
  refine (floorI_unique h (Int.le_refl _) ?_).symm
  have : (x + 1) * (x + 1) = x * x + (x + x + 1) := by rw [Int.add_mul, Int.mul_add]; omega
  omega
theorem ceilI_sq {x : Int} (h : 0 ≤ x) : ceilI (x * x) = x := by
  unfold ceilI; rw [floorI_sq h, if_neg (by omega)]

def loA (step : Int) (ls : List Int) (x : Int) : Int := at0 ls (loI step x)
def hiA (step : Int) (hs : List Int) (x : Int) : Int := at0 hs (upI step x)

theorem sq_le {x y : Int} (h0 : 0 ≤ x) (h : x ≤ y) : x * x ≤ y * y := Int.mul_le_mul h h h0 (by omega)
theorem sq_nonneg {x : Int} (h0 : 0 ≤ x) : 0 ≤ x * x := Int.mul_nonneg h0 h0

theorem btwE_ok {step : Int} {ls hs : List Int} {near far : Int} (h : tOk step ls hs) (h0 : 0 ≤ near) (h1 : near ≤ far) (h2 : ceilI far ≤ reachS step ls) : btwE step ls hs near far = 0 := by
  unfold btwE; rw [if_neg (by simpa using h), if_neg (by omega), if_neg (by omega)]
theorem btw_good {step : Int} {ls hs : List Int} {near far : Int} (h : tOk step ls hs) (h0 : 0 ≤ near) (h1 : near ≤ far) (h2 : ceilI far ≤ reachS step ls) :
    btw step ls hs near far = .tuple #[.int .i64 (loA step ls (floorI near)), .int .i64 (hiA step hs (ceilI far)), .int .i64 0] := by
  have e := btwE_ok h h0 h1 h2
  unfold btw btwA btwB loA hiA; rw [e]; simp
theorem btw_sq {step : Int} {ls hs : List Int} {x y : Int} (h : tOk step ls hs) (h0 : 0 ≤ x) (h1 : x ≤ y) (h2 : y ≤ reachS step ls) :
    btw step ls hs (x * x) (y * y) = .tuple #[.int .i64 (loA step ls x), .int .i64 (hiA step hs y), .int .i64 0] := by
  have := btw_good h (sq_nonneg h0) (sq_le h0 h1) (by rw [ceilI_sq (by omega)]; exact h2)
  rwa [floorI_sq h0, ceilI_sq (by omega)] at this

theorem at0_mono {step : Int} {ls hs : List Int} (h : tOk step ls hs) {i j : Nat} (hij : i ≤ j) (hj : j < ls.length) : at0 ls i ≤ at0 ls j ∧ at0 hs i ≤ at0 hs j := by
  induction j with
  | zero => obtain rfl : i = 0 := by omega
            exact ⟨Int.le_refl _, Int.le_refl _⟩
  | succ j ih =>
    by_cases e : i = j + 1
    · subst e; exact ⟨Int.le_refl _, Int.le_refl _⟩
    · have := ih (by omega) (by omega)
      have hk := h.2.2.2.2.2 (j + 1) hj
      unfold okAt at hk
      rw [if_neg (by omega), if_neg (by omega), Nat.add_sub_cancel] at hk
      omega
theorem loI_mono {step x y : Int} (h1 : 1 ≤ step) (h : x ≤ y) : loI step x ≤ loI step y := by
  unfold loI
  have := Int.ediv_le_ediv (c := step) (by omega) h
  omega
theorem upI_mono {step x y : Int} (h1 : 1 ≤ step) (h : x ≤ y) : upI step x ≤ upI step y := by
  unfold upI
  have := Int.ediv_le_ediv (c := step) (a := x + step - 1) (b := y + step - 1) (by omega) (by omega)
  omega
theorem loI_upI {step x : Int} (h1 : 1 ≤ step) : loI step x ≤ upI step x := by
  unfold loI upI
  have := Int.ediv_le_ediv (c := step) (a := x) (b := x + step - 1) (by omega) (by omega)
  omega
/-- The times grow. -/
theorem grows_plain {step : Int} {ls hs : List Int} {x y : Int} (h : tOk step ls hs) (h0 : 0 ≤ x) (h1 : x ≤ y) (h2 : y ≤ reachS step ls) :
    loA step ls x ≤ hiA step hs x ∧ loA step ls y ≤ hiA step hs y ∧ loA step ls x ≤ loA step ls y ∧ hiA step hs x ≤ hiA step hs y := by
  have hstep := h.1
  have hn := h.2.2.2.1
  unfold reachS at h2
  have ux := (upI_spec (n := ls.length) hstep h0 (by omega) hn).2
  have uy := (upI_spec (n := ls.length) hstep (d := y) (by omega) (by omega) hn).2
  have lx := (loI_spec (n := ls.length) hstep h0 (by omega) hn).2
  have ly := (loI_spec (n := ls.length) hstep (d := y) (by omega) (by omega) hn).2
  have ax := (tOk_at h lx).2.1
  have ay := (tOk_at h ly).2.1
  have bx := (at0_mono h (loI_upI (x := x) hstep) ux).2
  have by' := (at0_mono h (loI_upI (x := y) hstep) uy).2
  have cl := (at0_mono h (loI_mono hstep h1) ly).1
  have cu := (at0_mono h (upI_mono hstep h1) uy).2
  unfold loA hiA
  omega
theorem ceilI_le_root {n R : Int} (h0 : 0 ≤ n) (h : n ≤ R * R) (hR : 0 ≤ R) : ceilI n ≤ R := by
  have := floorI_mono h
  rw [floorI_sq hR] at this
  unfold ceilI
  split
  · rename_i hlt
    by_cases e : floorI n = R
    · rw [e] at hlt; omega
    · omega
  · exact this
/-- How far a drawn table reaches. -/
theorem reach_small {step : Int} {ls : List Int} (h0 : 1 ≤ step) (h1 : step ≤ 100) (h2 : 400 ≤ step * ((ls.length : Int) - 1)) (h3 : ls.length ≤ 23) : 400 ≤ reachS step ls ∧ reachS step ls ≤ 2200 := by
  unfold reachS
  have := mul_small (a := step) (b := 22) (A := 100) (B := 22) (by omega) h1 (by omega) (by omega)
  have := Int.mul_le_mul_of_nonneg_left (show (ls.length : Int) - 1 ≤ 22 by omega) (show 0 ≤ step by omega)
  omega

theorem lead_iff_lo {step : Int} {ls hs : List Int} (h : tOk step ls hs) (t : Int) {i : Nat} (hi : i < ls.length) : at0 ls i ≤ t ↔ i < dL ls t := by
  obtain ⟨s1, s2⟩ := lead_spec (p := fun x => decide (x ≤ t)) ls
  constructor
  · intro hle
    by_cases hlt : i < dL ls t
    · exact hlt
    · exfalso
      have h1 := s2 (by unfold dL at hlt; omega)
      have h2 := (at0_mono h (i := dL ls t) (j := i) (by omega) hi).1
      unfold dL at h2
      simp at h1; omega
  · intro hlt
    simpa using s1 i hlt
theorem lead_iff_hi {step : Int} {ls hs : List Int} (h : tOk step ls hs) (t : Int) {i : Nat} (hi : i < ls.length) : t ≤ at0 hs i ↔ dF hs t ≤ i := by
  obtain ⟨s1, s2⟩ := lead_spec (p := fun x => decide (x < t)) hs
  constructor
  · intro hle
    by_cases hlt : i < dF hs t
    · exfalso
      have h1 := s1 i hlt
      simp at h1; omega
    · omega
  · intro hlt
    by_cases hn : dF hs t < hs.length
    · have h1 := s2 hn
      have h2 := (at0_mono h (i := dF hs t) (j := i) hlt hi).2
      unfold dF at h2
      simp at h1; omega
    · exfalso
      have := h.2.2.1; omega
/-- P25.4: a time is possible for a distance exactly if the distance lies in the range. -/
theorem back_plain {step : Int} {ls hs : List Int} {t d : Int} (h : tOk step ls hs) (h0 : 0 ≤ d) (h1 : d ≤ reachS step ls) :
    (loA step ls d ≤ t ∧ t ≤ hiA step hs d) ↔ (dE step ls hs t = 0 ∧ dLeast step hs t ≤ d ∧ d ≤ dMost step ls t) := by
  have hs1 := h.1
  have hn := h.2.2.2.1
  have h1' := h1; unfold reachS at h1'
  obtain ⟨l1, l2⟩ := loI_spec (n := ls.length) hs1 h0 h1' hn
  obtain ⟨u1, u2⟩ := upI_spec (n := ls.length) hs1 h0 h1' hn
  have A := lead_iff_lo h t l2
  have B := lead_iff_hi h t u2
  have C : loI step d < dL ls t ↔ d < (dL ls t : Int) * step := by
    rw [← Int.ediv_lt_iff_lt_mul (by omega), l1]; omega
  have D : dF hs t ≤ upI step d ↔ (dF hs t : Int) * step ≤ d + step - 1 := by
    rw [← Int.le_ediv_iff_mul_le (by omega), u1]; omega
  have E : (dF hs t : Int) * step = ((dF hs t : Int) - 1) * step + step := by rw [Int.sub_mul]; omega
  have hlen := h.2.2.1
  unfold loA hiA
  rw [A, B]
  unfold dE dLeast dMost
  rw [if_neg (by simpa using h)]
  generalize ((dF hs t : Int) - 1) * step = f at *
  generalize hF : (dF hs t : Int) * step = F at *
  generalize (dL ls t : Int) * step = L at *
  by_cases hf : dF hs t = 0
  · have hF0 : F = 0 := by rw [hf] at hF; simpa using hF.symm
    rw [if_pos hf]
    constructor
    · rintro ⟨x, y⟩
      have := C.1 x
      have := D.1 y
      refine ⟨?_, by omega, by omega⟩
      rw [if_neg (by omega)]
    · rintro ⟨x, y, z⟩
      exact ⟨C.2 (by omega), D.2 (by omega)⟩
  · rw [if_neg hf]
    constructor
    · rintro ⟨x, y⟩
      have := C.1 x
      have := D.1 y
      refine ⟨?_, by omega, by omega⟩
      rw [if_neg (by omega)]
    · rintro ⟨x, y, z⟩
      exact ⟨C.2 (by omega), D.2 (by omega)⟩
theorem dE_or {step : Int} {ls hs : List Int} (h : tOk step ls hs) (t : Int) : (dE step ls hs t = 0 ∧ 0 ≤ dLeast step hs t ∧ dLeast step hs t ≤ dMost step ls t ∧ dMost step ls t ≤ reachS step ls) ∨ dE step ls hs t = 24 := by
  unfold dE
  rw [if_neg (by simpa using h)]
  split
  · exact .inr rfl
  · refine .inl ⟨rfl, ?_, by omega, ?_⟩
    · unfold dLeast; split <;> omega
    · unfold dMost; omega
end Go.Proofs.Ytkckcaijfedijaa
