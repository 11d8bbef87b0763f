/- ref25.Distances. -/
import Derived.Test.YtelmeggcgocmlaaRef
import Derived.Test.YtelmeggcgocmlaaMem
namespace Go.Proofs.Ytelmeggcgocmlaa
set_option linter.all false
open Go.RowKit

def updD (V : Int → Bool) (s : Int × Int) (d : Int) : Int × Int := if V d then (min (if s.1 < 0 then d else s.1) d, max s.2 d) else s
/-- What has been seen of the candidates l. -/
def SeenD (V : Int → Bool) (l : List Int) (s : Int × Int) : Prop :=
  (s = (-1, -1) ∧ ∀ d ∈ l, V d = false) ∨ (s.1 ∈ l ∧ V s.1 = true ∧ s.2 ∈ l ∧ V s.2 = true ∧ ∀ d ∈ l, V d = true → s.1 ≤ d ∧ d ≤ s.2)
theorem SeenD.step {V : Int → Bool} {l : List Int} {s : Int × Int} {d : Int} (hV : ∀ x, V x = true → 0 ≤ x) (h : SeenD V l s) : SeenD V (l ++ [d]) (updD V s d) := by
  unfold updD
  cases hv : V d
  · simp only [Bool.false_eq_true, if_false]
    rcases h with ⟨h1, h2⟩ | ⟨h1, h2, h3, h4, h5⟩
    · refine .inl ⟨h1, fun x hx => ?_⟩
      rcases List.mem_append.1 hx with hx | hx
      · exact h2 x hx
      · simp at hx; rw [hx]; exact hv
    · refine .inr ⟨List.mem_append_left _ h1, h2, List.mem_append_left _ h3, h4, fun x hx hvx => ?_⟩
      rcases List.mem_append.1 hx with hx | hx
      · exact h5 x hx hvx
      · simp at hx; rw [hx, hv] at hvx; cases hvx
  · simp only [if_true]
    have h0 := hV d hv
    rcases h with ⟨rfl, h2⟩ | ⟨h1, h2, h3, h4, h5⟩
    · refine .inr ⟨?_, ?_, ?_, ?_, fun x hx hvx => ?_⟩
      · simp
      · simpa using hv
      · rw [show max (-1, -1).2 d = d by show max (-1) d = d; omega]; simp
      · rw [show max (-1, -1).2 d = d by show max (-1) d = d; omega]; exact hv
      · rcases List.mem_append.1 hx with hx | hx
        · rw [h2 x hx] at hvx; cases hvx
        · simp at hx; subst hx; simp; omega
    · have n1 := hV s.1 h2
      have hif : (if s.1 < 0 then d else s.1) = s.1 := by rw [if_neg (by omega)]
      rw [hif]
      refine .inr ⟨?_, ?_, ?_, ?_, fun x hx hvx => ?_⟩
      · by_cases c : s.1 ≤ d
        · rw [show min s.1 d = s.1 by omega]; exact List.mem_append_left _ h1
        · rw [show min s.1 d = d by omega]; simp
      · by_cases c : s.1 ≤ d
        · rw [show min s.1 d = s.1 by omega]; exact h2
        · rw [show min s.1 d = d by omega]; exact hv
      · by_cases c : d ≤ s.2
        · rw [show max s.2 d = s.2 by omega]; exact List.mem_append_left _ h3
        · rw [show max s.2 d = d by omega]; simp
      · by_cases c : d ≤ s.2
        · rw [show max s.2 d = s.2 by omega]; exact h4
        · rw [show max s.2 d = d by omega]; exact hv
      · rcases List.mem_append.1 hx with hx | hx
        · have := h5 x hx hvx; show min s.1 d ≤ x ∧ x ≤ max s.2 d; omega
        · simp at hx; subst hx; show min s.1 x ≤ x ∧ x ≤ max s.2 x; omega
theorem SeenD.fold {V : Int → Bool} (hV : ∀ x, V x = true → 0 ≤ x) : ∀ (l p : List Int) (s : Int × Int), SeenD V p s → SeenD V (p ++ l) (l.foldl (updD V) s)
  | [], p, s, h => by simpa using h
  | d :: l, p, s, h => by
    rw [List.foldl_cons, show p ++ d :: l = (p ++ [d]) ++ l by simp]
    exact SeenD.fold hV l _ _ (h.step hV)
def triD (step : Int) (k : Nat) : List Int := [(k : Int) * step - 1, (k : Int) * step, (k : Int) * step + 1]
def candD (step : Int) (n : Nat) : List Int := (List.range n).flatMap (triD step)
theorem candD_succ (step : Int) (n : Nat) : candD step (n + 1) = candD step n ++ triD step n := by
  unfold candD; rw [List.range_succ, List.flatMap_append]; simp
theorem mem_candD {step d : Int} {n k : Nat} (hk : k < n) (h : d ∈ triD step k) : d ∈ candD step n := List.mem_flatMap.2 ⟨k, List.mem_range.2 hk, h⟩
def validD (step : Int) (ls hs : List Int) (t d : Int) : Bool := decide (0 ≤ d) && decide (d ≤ reachS step ls) && decide (at0 ls (loI step d) ≤ t) && decide (t ≤ at0 hs (upI step d))
def foundD (step : Int) (ls hs : List Int) (t : Int) (n : Nat) : Int × Int := (candD step n).foldl (updD (validD step ls hs t)) (-1, -1)
theorem foundD_succ (step : Int) (ls hs : List Int) (t : Int) (n : Nat) : foundD step ls hs t (n + 1) = (triD step n).foldl (updD (validD step ls hs t)) (foundD step ls hs t n) := by
  unfold foundD; rw [candD_succ, List.foldl_append]
theorem validD_iff {step : Int} {ls hs : List Int} {t d : Int} (h : tOk step ls hs) : validD step ls hs t d = true ↔ 0 ≤ d ∧ d ≤ reachS step ls ∧ dE step ls hs t = 0 ∧ dLeast step hs t ≤ d ∧ d ≤ dMost step ls t := by
  unfold validD
  simp only [Bool.and_eq_true, decide_eq_true_eq]
  constructor
  · rintro ⟨⟨⟨h0, h1⟩, h2⟩, h3⟩
    exact ⟨h0, h1, (back_plain h h0 h1).1 ⟨h2, h3⟩⟩
  · rintro ⟨h0, h1, h2⟩
    have := (back_plain h h0 h1).2 h2
    exact ⟨⟨⟨h0, h1⟩, this.1⟩, this.2⟩
theorem foundD_plain {step : Int} {ls hs : List Int} (t : Int) (h : tOk step ls hs) :
    (dE step ls hs t = 0 ∧ foundD step ls hs t ls.length = (dLeast step hs t, dMost step ls t) ∧ 0 ≤ dLeast step hs t) ∨ (dE step ls hs t = 24 ∧ foundD step ls hs t ls.length = (-1, -1)) := by
  have S := SeenD.fold (V := validD step ls hs t) (fun x hx => ((validD_iff h).1 hx).1) (candD step ls.length) [] (-1, -1) (.inl ⟨rfl, by simp⟩)
  rw [List.nil_append] at S
  change SeenD _ _ (foundD step ls hs t ls.length) at S
  have hstep := h.1; have hlen := h.2.2.1; have h2 := h.2.2.2.1
  rcases dE_or h t with ⟨e, h0, h1, hr⟩ | e
  · left
    have hF : dF hs t ≤ hs.length := lead_le _ _
    have hL : dL ls t ≤ ls.length := lead_le _ _
    have hne : ¬ (dF hs t = hs.length ∨ dL ls t = 0 ∨ dMost step ls t < dLeast step hs t) := by
      intro hc
      unfold dE at e
      rw [if_neg (by simpa using h), if_pos hc] at e
      cases e
    have m1 : dLeast step hs t ∈ candD step ls.length := by
      unfold dLeast
      split
      · exact mem_candD (k := 0) (by omega) (by simp [triD])
      · rename_i hf
        have hp : 0 ≤ ((dF hs t : Int) - 1) * step := Int.mul_nonneg (by omega) (by omega)
        rw [show max 0 (((dF hs t : Int) - 1) * step + 1) = ((dF hs t : Int) - 1) * step + 1 by omega]
        refine mem_candD (k := dF hs t - 1) (by omega) ?_
        rw [show ((dF hs t : Int) - 1) = ((dF hs t - 1 : Nat) : Int) by omega]
        simp [triD]
    have m2 : dMost step ls t ∈ candD step ls.length := by
      unfold dMost reachS
      by_cases hl : dL ls t = ls.length
      · refine mem_candD (k := ls.length - 1) (by omega) ?_
        have e1 : step * ((ls.length : Int) - 1) = ((ls.length - 1 : Nat) : Int) * step := by rw [show ((ls.length - 1 : Nat) : Int) = (ls.length : Int) - 1 by omega, Int.mul_comm]
        have e2 : (dL ls t : Int) * step = ((ls.length - 1 : Nat) : Int) * step + step := by rw [hl, show (ls.length : Int) = ((ls.length - 1 : Nat) : Int) + 1 by omega, Int.add_mul]; simp
        rw [e1, e2, show min (((ls.length - 1 : Nat) : Int) * step) (((ls.length - 1 : Nat) : Int) * step + step - 1) = ((ls.length - 1 : Nat) : Int) * step by omega]
        simp [triD]
      · refine mem_candD (k := dL ls t) (by omega) ?_
        have e1 : step * ((ls.length : Int) - 1) = ((ls.length : Int) - 1) * step := Int.mul_comm _ _
        have e2 : (dL ls t : Int) * step ≤ ((ls.length : Int) - 1) * step := Int.mul_le_mul_of_nonneg_right (by omega) (by omega)
        rw [e1, show min (((ls.length : Int) - 1) * step) ((dL ls t : Int) * step - 1) = (dL ls t : Int) * step - 1 by omega]
        simp [triD]
    have v1 : validD step ls hs t (dLeast step hs t) = true := (validD_iff h).2 ⟨h0, by omega, e, by omega, h1⟩
    have v2 : validD step ls hs t (dMost step ls t) = true := (validD_iff h).2 ⟨by omega, hr, e, h1, by omega⟩
    rcases S with ⟨-, hS⟩ | ⟨s1, s2, s3, s4, s5⟩
    · rw [hS _ m1] at v1; cases v1
    · have a := (validD_iff h).1 s2; have b := (validD_iff h).1 s4
      have c := s5 _ m1 v1; have d := s5 _ m2 v2
      exact ⟨e, Prod.ext (by show _ = dLeast step hs t; omega) (by show _ = dMost step ls t; omega), h0⟩
  · right
    rcases S with ⟨hS, -⟩ | ⟨s1, s2, -⟩
    · exact ⟨e, hS⟩
    · have a := (validD_iff h).1 s2
      rw [e] at a; exact absurd a.2.2.1 (by decide)
theorem fold_take {α β : Type} (f : β → α → β) (s : β) (l : List α) (j : Nat) (h : j < l.length) : (l.take (j + 1)).foldl f s = f ((l.take j).foldl f s) l[j] := by
  rw [List.take_succ_eq_append_getElem h, List.foldl_append]; rfl
end Go.Proofs.Ytelmeggcgocmlaa
