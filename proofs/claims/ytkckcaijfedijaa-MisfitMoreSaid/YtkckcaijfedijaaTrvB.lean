/- Layer 25: the reference's Validate; reach, Reach, the reference's Reach. -/
import Derived.Test.YtkckcaijfedijaaTrvA
namespace Go.Proofs.Ytkckcaijfedijaa
set_option linter.all false
open Go.RowKit

def okR (ls hs : List Int) (k : Nat) : Prop := 0 ≤ at0 ls k ∧ at0 hs k ≤ 1099511627776 ∧ at0 ls k ≤ at0 hs k ∧ (0 < k → at0 ls (k - 1) ≤ at0 ls k ∧ at0 hs (k - 1) ≤ at0 hs k)

theorem okAt_nonneg {ls hs : List Int} {n : Nat} (h : ∀ k, k < n → okAt ls hs k) : ∀ k, k < n → 0 ≤ at0 ls k
  | 0, hk => by have := (h 0 hk).1; simpa using this
  | k + 1, hk => by
    have a := (h (k + 1) hk).1
    have b := okAt_nonneg h k (by omega)
    simp at a; omega
theorem okAt_iff {ls hs : List Int} {n : Nat} : (∀ k, k < n → okAt ls hs k) ↔ ∀ k, k < n → okR ls hs k := by
  constructor
  · intro h k hk
    obtain ⟨h1, h2, h3, h4⟩ := h k hk
    refine ⟨okAt_nonneg h k hk, h4, h3, fun h0 => ?_⟩
    rw [if_neg (by omega)] at h1 h2
    exact ⟨h1, h2⟩
  · intro h k hk
    obtain ⟨h1, h2, h3, h4⟩ := h k hk
    by_cases h0 : k = 0
    · subst h0; exact ⟨by simpa using h1, by simp; omega, h3, h2⟩
    · have := h4 (by omega)
      unfold okAt
      rw [if_neg h0, if_neg h0]
      exact ⟨this.1, this.2, h3, h2⟩

theorem tOk_R {step : Int} {ls hs : List Int} (h : tOk step ls hs) : ∀ k, k < ls.length → okR ls hs k := okAt_iff.1 h.2.2.2.2.2

set_option maxHeartbeats 2000000 in
theorem rvalidate_any (step : Int) (vl vh : Value) (ls hs : List Int) (w : World) (h1 : Sl w vl ls) (h2 : Sl w vh hs) :
    Calls Try.prog 68 #[.agg #[.int .i64 step, vl, vh]] w fun e w' => e = .returned (.int .i64 (tE step ls hs)) ∧ w.grownBy w' none := by
  have go : (step < 1 ∨ 1048576 < step ∨ ls.length ≠ hs.length ∨ ls.length < 2 ∨ 256 < ls.length) ∨ (1 ≤ step ∧ step ≤ 1048576 ∧ ls.length = hs.length ∧ 2 ≤ ls.length ∧ ls.length ≤ 256) := by omega
  rcases go with hbad | ⟨hs1, hs2, hlen, hl2, hl3⟩
  · obtain ⟨a, c, rfl⟩ := h1.shape
    obtain ⟨a', c', rfl⟩ := h2.shape
    have hno : ¬ tOk step ls hs := by rintro ⟨t1, t2, t3, t4, t5, _⟩; omega
    have HNO := Lib.hid hno; clear hno h1 h2
    by_cases b1 : step < 1
    rotate_left
    by_cases b2 : 1048576 < step
    rotate_left
    by_cases b3 : (ls.length : Int) = hs.length
    by_cases b4 : ls.length < 2
    rotate_left
    have b5 : 256 < ls.length := by omega
    all_goals
      go_enter Try.func68, Try.ntmps68
      go_wp2
    all_goals
      first | (exfalso; omega) | skip
      go_ret
      refine ⟨ret_int (tE_bad HNO.out), ?_⟩
      repeat (first | exact gb_refl _ _ | refine gb_alloc ?_ _)
  · obtain ⟨b, off, cap, rfl, hb, hcap, hcap2, hcell⟩ := h1.block (by omega)
    obtain ⟨b', off', cap', rfl, hb', hcap', hcap2', hcell'⟩ := h2.block (by omega)
    have HC := Lib.hid hcell; have HC' := Lib.hid hcell'; clear hcell hcell' h1 h2
    have HT := Lib.hid (show (∀ k, k < ls.length → okR ls hs k) → tOk step ls hs from fun h => ⟨hs1, hs2, hlen, hl2, hl3, okAt_iff.2 h⟩)
    have HF := Lib.hid (show ∀ k, k < ls.length → ¬ okR ls hs k → ¬ tOk step ls hs from fun k hk h t => h (tOk_R t k hk))
    generalize hn : ls.length = n at *
    have HNL := Lib.hid hn; have HNL' := Lib.hid hlen; clear hn
    rw [← hlen] at HC' hcap' ⊢; clear hlen
    go_enter Try.func68, Try.ntmps68
    go_wp2
    go_loopw [3] (fun i wr => ∃ k m : Nat, k ≤ n ∧ i = .int .i64 k ∧ (∀ j, j < k → okR ls hs j) ∧ wr = (w.alloc (.cells #[.int .i64 step, .slice (some ⟨b, off, none⟩) n cap, .slice (some ⟨b', off', none⟩) n cap'] 24)).drewN m)
      (fun i _ => n - (intOf i).toNat)
    case atStart => exact ⟨0, 0, by omega, rfl, fun j hj => by omega, rfl⟩
    case round =>
      obtain ⟨k, m, hk, rfl, hp, rfl⟩ := hrel
      have HP := Lib.hid hp; clear hp
      by_cases hlt : k < n
      · have hcl := HC.out k hlt
        have hch := HC'.out k hlt
        rcases k with _ | j
        · simp only [Nat.add_zero, Int.natCast_zero] at hcl hch ⊢
          have HO := Lib.hid (show okR ls hs 0 ↔ 0 ≤ at0 ls 0 ∧ at0 hs 0 ≤ 1099511627776 ∧ at0 ls 0 ≤ at0 hs 0 from ⟨fun h => ⟨h.1, h.2.1, h.2.2.1⟩, fun h => ⟨h.1, h.2.1, h.2.2, fun h0 => by omega⟩⟩)
          generalize at0 ls 0 = l at *
          generalize at0 hs 0 = h at *
          have bads : ∀ {Q : Prop}, Q = Q → ¬ (0 ≤ l ∧ h ≤ 1099511627776 ∧ l ≤ h) → ¬ tOk step ls hs := fun _ hq => HF.out 0 hlt (fun ho => hq (HO.out.1 ho))
          have HB := Lib.hid (bads (Q := True) rfl); clear bads
          by_cases c1 : l < 0
          · have d1 : decide (l < 0) = true := decide_eq_true c1
            go_wp2
            go_quiet (fail)
            go_wp2
            go_ret
            refine ⟨ret_int (tE_bad (HB.out (by omega))), ?_⟩
            repeat (first | exact gb_refl _ _ | refine gb_alloc ?_ _ | refine gb_drewN ?_ _ | refine gb_drew ?_)
          have d1 : decide (l < 0) = false := decide_eq_false c1
          by_cases c2 : 1099511627776 < h
          · have d2 : decide (1099511627776 < h) = true := decide_eq_true c2
            go_wp2
            go_quiet (fail)
            go_wp2
            go_ret
            refine ⟨ret_int (tE_bad (HB.out (by omega))), ?_⟩
            repeat (first | exact gb_refl _ _ | refine gb_alloc ?_ _ | refine gb_drewN ?_ _ | refine gb_drew ?_)
          have d2 : decide (1099511627776 < h) = false := decide_eq_false c2
          by_cases c3 : h < l
          · have d3 : decide (h < l) = true := decide_eq_true c3
            go_wp2
            go_quiet (fail)
            go_wp2
            go_ret
            refine ⟨ret_int (tE_bad (HB.out (by omega))), ?_⟩
            repeat (first | exact gb_refl _ _ | refine gb_alloc ?_ _ | refine gb_drewN ?_ _ | refine gb_drew ?_)
          have d3 : decide (h < l) = false := decide_eq_false c3
          have HOK := Lib.hid (HO.out.2 ⟨by omega, by omega, by omega⟩)
          go_wp2
          go_quiet (fail)
          go_wp2
          go_quiet (fail)
          go_wp2
          go_roundw
          case rel =>
            refine ⟨1, _, by omega, by go_num, fun j hj => ?_, rfl⟩
            obtain rfl : j = 0 := by omega
            exact HOK.out
          case measure => simp [intOf]; omega
        · have hcl' := HC.out j (by omega)
          have hch' := HC'.out j (by omega)
          have hkp : decide ((0 : Int) < (j : Int) + 1) = true := decide_eq_true (by omega)
          simp only [Nat.add_sub_cancel, Int.natCast_add, Int.natCast_one] at hcl' hch' ⊢
          have HO := Lib.hid (show okR ls hs (j + 1) ↔ 0 ≤ at0 ls (j + 1) ∧ at0 hs (j + 1) ≤ 1099511627776 ∧ at0 ls (j + 1) ≤ at0 hs (j + 1) ∧ at0 ls j ≤ at0 ls (j + 1) ∧ at0 hs j ≤ at0 hs (j + 1) from ⟨fun h => ⟨h.1, h.2.1, h.2.2.1, h.2.2.2 (Nat.succ_pos j)⟩, fun h => ⟨h.1, h.2.1, h.2.2.1, fun _ => h.2.2.2⟩⟩)
          generalize at0 ls j = lo at *
          generalize at0 hs j = hi at *
          generalize at0 ls (j + 1) = l at *
          generalize at0 hs (j + 1) = h at *
          have bads : ∀ {Q : Prop}, Q = Q → ¬ (0 ≤ l ∧ h ≤ 1099511627776 ∧ l ≤ h ∧ lo ≤ l ∧ hi ≤ h) → ¬ tOk step ls hs := fun _ hq => HF.out (j + 1) hlt (fun ho => hq (HO.out.1 ho))
          have HB := Lib.hid (bads (Q := True) rfl); clear bads
          by_cases c1 : l < 0
          · have d1 : decide (l < 0) = true := decide_eq_true c1
            go_wp2
            go_quiet (fail)
            go_wp2
            go_ret
            refine ⟨ret_int (tE_bad (HB.out (by omega))), ?_⟩
            repeat (first | exact gb_refl _ _ | refine gb_alloc ?_ _ | refine gb_drewN ?_ _ | refine gb_drew ?_)
          have d1 : decide (l < 0) = false := decide_eq_false c1
          by_cases c2 : 1099511627776 < h
          · have d2 : decide (1099511627776 < h) = true := decide_eq_true c2
            go_wp2
            go_quiet (fail)
            go_wp2
            go_ret
            refine ⟨ret_int (tE_bad (HB.out (by omega))), ?_⟩
            repeat (first | exact gb_refl _ _ | refine gb_alloc ?_ _ | refine gb_drewN ?_ _ | refine gb_drew ?_)
          have d2 : decide (1099511627776 < h) = false := decide_eq_false c2
          by_cases c3 : h < l
          · have d3 : decide (h < l) = true := decide_eq_true c3
            go_wp2
            go_quiet (fail)
            go_wp2
            go_ret
            refine ⟨ret_int (tE_bad (HB.out (by omega))), ?_⟩
            repeat (first | exact gb_refl _ _ | refine gb_alloc ?_ _ | refine gb_drewN ?_ _ | refine gb_drew ?_)
          have d3 : decide (h < l) = false := decide_eq_false c3
          by_cases c4 : l < lo
          · have d4 : decide (l < lo) = true := decide_eq_true c4
            go_wp2
            go_quiet (fail)
            go_wp2
            go_quiet (fail)
            go_wp2
            go_ret
            refine ⟨ret_int (tE_bad (HB.out (by omega))), ?_⟩
            repeat (first | exact gb_refl _ _ | refine gb_alloc ?_ _ | refine gb_drewN ?_ _ | refine gb_drew ?_)
          have d4 : decide (l < lo) = false := decide_eq_false c4
          by_cases c5 : h < hi
          · have d5 : decide (h < hi) = true := decide_eq_true c5
            go_wp2
            go_quiet (fail)
            go_wp2
            go_quiet (fail)
            go_wp2
            go_ret
            refine ⟨ret_int (tE_bad (HB.out (by omega))), ?_⟩
            repeat (first | exact gb_refl _ _ | refine gb_alloc ?_ _ | refine gb_drewN ?_ _ | refine gb_drew ?_)
          have d5 : decide (h < hi) = false := decide_eq_false c5
          have HOK := Lib.hid (HO.out.2 ⟨by omega, by omega, by omega, by omega, by omega⟩)
          go_wp2
          go_quiet (fail)
          go_wp2
          go_quiet (fail)
          go_wp2
          go_roundw
          case rel =>
            refine ⟨j + 1 + 1, _, by omega, by go_num, fun i hj => ?_, rfl⟩
            by_cases hjk : i = j + 1
            · subst hjk; exact HOK.out
            · exact HP.out i (by omega)
          case measure => simp [intOf]; omega
      · go_wp2
        go_ret
        refine ⟨ret_int (tE_ok (HT.out fun j hj => HP.out j (by omega))), ?_⟩
        repeat (first | exact gb_refl _ _ | refine gb_alloc ?_ _ | refine gb_drewN ?_ _ | refine gb_drew ?_)
end Go.Proofs.Ytkckcaijfedijaa
