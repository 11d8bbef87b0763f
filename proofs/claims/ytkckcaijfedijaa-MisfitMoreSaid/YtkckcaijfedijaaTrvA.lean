/- Layer 25: Validate, reach, Reach. -/
import Derived.Test.YtkckcaijfedijaaInts
import Derived.Test.YtkckcaijfedijaaSl
import Derived.Test.YtkckcaijfedijaaShelf
namespace Go.Proofs.Ytkckcaijfedijaa
set_option linter.all false
open Go.RowKit

/-- The number at a place of a list. -/
def at0 (xs : List Int) (k : Nat) : Int := xs[k]?.getD 0

theorem Sl.shape {w : World} {v : Value} {xs : List Int} (h : Sl w v xs) : ∃ a cap, v = .slice a xs.length cap := by
  rcases h with ⟨rfl, a, cap, rfl⟩ | ⟨b, off, cap, rfl, _⟩
  · exact ⟨a, cap, rfl⟩
  · exact ⟨_, _, rfl⟩
theorem Sl.block {w : World} {v : Value} {xs : List Int} (h : Sl w v xs) (h0 : 0 < xs.length) : ∃ b off cap, v = .slice (some ⟨b, off, none⟩) xs.length cap ∧ b < w.heap.size ∧ xs.length ≤ cap ∧ cap ≤ 9223372036854775807 ∧ ∀ k, k < xs.length → w.cell? ⟨b, off + k, none⟩ = some (.int .i64 (at0 xs k)) := by
  rcases h with ⟨rfl, a, cap, rfl⟩ | h
  · simp at h0
  · exact h
theorem Sl.after {w w' : World} {v : Value} {xs : List Int} (h : Sl w v xs) (hg : w.grownBy w' none) : Sl w' v xs := h.later hg (by simp)

/-- An entry of a table is in order with the one ahead of it. -/
def okAt (ls hs : List Int) (k : Nat) : Prop := (if k = 0 then 0 else at0 ls (k - 1)) ≤ at0 ls k ∧ (if k = 0 then 0 else at0 hs (k - 1)) ≤ at0 hs k ∧ at0 ls k ≤ at0 hs k ∧ at0 hs k ≤ 1099511627776
instance (ls hs : List Int) (k : Nat) : Decidable (okAt ls hs k) := by unfold okAt; infer_instance
/-- The table is valid. -/
def tOk (step : Int) (ls hs : List Int) : Prop := 1 ≤ step ∧ step ≤ 1048576 ∧ ls.length = hs.length ∧ 2 ≤ ls.length ∧ ls.length ≤ 256 ∧ ∀ k, k < ls.length → okAt ls hs k
instance (step : Int) (ls hs : List Int) : Decidable (tOk step ls hs) := by unfold tOk; infer_instance
def tE (step : Int) (ls hs : List Int) : Int := if tOk step ls hs then 0 else 21

theorem tE_bad {step : Int} {ls hs : List Int} (h : ¬ tOk step ls hs) : 21 = tE step ls hs := by simp [tE, h]
theorem tE_ok {step : Int} {ls hs : List Int} (h : tOk step ls hs) : 0 = tE step ls hs := by simp [tE, h]

set_option maxHeartbeats 1000000 in
theorem validate_any (step : Int) (vl vh : Value) (ls hs : List Int) (w : World) (h1 : Sl w vl ls) (h2 : Sl w vh hs) :
    Calls Try.prog 63 #[.agg #[.int .i64 step, vl, vh]] w fun e w' => e = .returned (.int .i64 (tE step ls hs)) ∧ w.grownBy w' none := by
  have go : (step < 1 ∨ 1048576 < step ∨ ls.length ≠ hs.length ∨ ls.length < 2 ∨ 256 < ls.length) ∨ (1 ≤ step ∧ step ≤ 1048576 ∧ ls.length = hs.length ∧ 2 ≤ ls.length ∧ ls.length ≤ 256) := by omega
  rcases go with hbad | ⟨hs1, hs2, hlen, hl2, hl3⟩
  · obtain ⟨a, c, rfl⟩ := h1.shape
    obtain ⟨a', c', rfl⟩ := h2.shape
    have hno : ¬ tOk step ls hs := by rintro ⟨t1, t2, t3, t4, t5, _⟩; omega
    have HNO := Lib.hid hno; clear hno h1 h2
    by_cases b1 : step < 1
    rotate_left
    by_cases b2 : 1048576 < step
    rotate_left
    by_cases b3 : (ls.length : Int) = hs.length
    by_cases b4 : ls.length < 2
    rotate_left
    have b5 : 256 < ls.length := by omega
    all_goals
      go_enter Try.func63, Try.ntmps63
      go_wp2
    all_goals
      first | (exfalso; omega) | skip
      go_ret
      refine ⟨ret_int (tE_bad HNO.out), ?_⟩
      repeat (first | exact gb_refl _ _ | refine gb_alloc ?_ _)
  · obtain ⟨b, off, cap, rfl, hb, hcap, hcap2, hcell⟩ := h1.block (by omega)
    obtain ⟨b', off', cap', rfl, hb', hcap', hcap2', hcell'⟩ := h2.block (by omega)
    have HC := Lib.hid hcell; have HC' := Lib.hid hcell'; clear hcell hcell' h1 h2
    have HT := Lib.hid (show (∀ k, k < ls.length → okAt ls hs k) → tOk step ls hs from fun h => ⟨hs1, hs2, hlen, hl2, hl3, h⟩)
    have HF := Lib.hid (show ∀ k, k < ls.length → ¬ okAt ls hs k → ¬ tOk step ls hs from fun k hk h t => h (t.2.2.2.2.2 k hk))
    generalize hn : ls.length = n at *
    have HNL := Lib.hid hn; have HNL' := Lib.hid hlen; clear hn
    rw [← hlen] at HC' hcap' ⊢; clear hlen
    go_enter Try.func63, Try.ntmps63
    go_wp2
    go_loopw [4, 5, 34] (fun lo hi i wr => ∃ k m : Nat, k ≤ n ∧ i = .int .i64 k ∧ lo = .int .i64 (if k = 0 then 0 else at0 ls (k - 1)) ∧ hi = .int .i64 (if k = 0 then 0 else at0 hs (k - 1)) ∧ (∀ j, j < k → okAt ls hs j) ∧ wr = (w.alloc (.cells #[.int .i64 step, .slice (some ⟨b, off, none⟩) n cap, .slice (some ⟨b', off', none⟩) n cap'] 24)).drewN m)
      (fun _ _ i _ => n - (intOf i).toNat)
    case atStart => exact ⟨0, 0, by omega, rfl, rfl, rfl, fun j hj => by omega, rfl⟩
    case round =>
      obtain ⟨k, m, hk, rfl, rfl, rfl, hp, rfl⟩ := hrel
      have HP := Lib.hid hp; clear hp
      by_cases hlt : k < n
      · have hcl := HC.out k hlt
        have hch := HC'.out k hlt
        have HO := Lib.hid (show okAt ls hs k ↔ (if k = 0 then 0 else at0 ls (k - 1)) ≤ at0 ls k ∧ (if k = 0 then 0 else at0 hs (k - 1)) ≤ at0 hs k ∧ at0 ls k ≤ at0 hs k ∧ at0 hs k ≤ 1099511627776 from Iff.rfl)
        generalize (if k = 0 then 0 else at0 ls (k - 1)) = lo at *
        generalize (if k = 0 then 0 else at0 hs (k - 1)) = hi at *
        have HL0 := Lib.hid (show at0 ls k = (if k + 1 = 0 then 0 else at0 ls (k + 1 - 1)) from by simp)
        have HH0 := Lib.hid (show at0 hs k = (if k + 1 = 0 then 0 else at0 hs (k + 1 - 1)) from by simp)
        generalize at0 ls k = l at *
        generalize at0 hs k = h at *
        have bads : ∀ {Q : Prop}, Q = Q → ¬ (lo ≤ l ∧ hi ≤ h ∧ l ≤ h ∧ h ≤ 1099511627776) → ¬ tOk step ls hs := fun _ hq => HF.out k hlt (fun ho => hq (HO.out.1 ho))
        have HB := Lib.hid (bads (Q := True) rfl); clear bads
        by_cases c1 : l < lo
        · have d1 : decide (l < lo) = true := decide_eq_true c1
          go_wp2
          go_quiet (fail)
          go_wp2
          go_ret
          refine ⟨ret_int (tE_bad (HB.out (by omega))), ?_⟩
          repeat (first | exact gb_refl _ _ | refine gb_alloc ?_ _ | refine gb_drewN ?_ _ | refine gb_drew ?_)
        have d1 : decide (l < lo) = false := decide_eq_false c1
        by_cases c2 : h < hi
        · have d2 : decide (h < hi) = true := decide_eq_true c2
          go_wp2
          go_quiet (fail)
          go_wp2
          go_ret
          refine ⟨ret_int (tE_bad (HB.out (by omega))), ?_⟩
          repeat (first | exact gb_refl _ _ | refine gb_alloc ?_ _ | refine gb_drewN ?_ _ | refine gb_drew ?_)
        have d2 : decide (h < hi) = false := decide_eq_false c2
        by_cases c3 : h < l
        · have d3 : decide (h < l) = true := decide_eq_true c3
          go_wp2
          go_quiet (fail)
          go_wp2
          go_ret
          refine ⟨ret_int (tE_bad (HB.out (by omega))), ?_⟩
          repeat (first | exact gb_refl _ _ | refine gb_alloc ?_ _ | refine gb_drewN ?_ _ | refine gb_drew ?_)
        have d3 : decide (h < l) = false := decide_eq_false c3
        by_cases c4 : 1099511627776 < h
        · have d4 : decide (1099511627776 < h) = true := decide_eq_true c4
          go_wp2
          go_quiet (fail)
          go_wp2
          go_ret
          refine ⟨ret_int (tE_bad (HB.out (by omega))), ?_⟩
          repeat (first | exact gb_refl _ _ | refine gb_alloc ?_ _ | refine gb_drewN ?_ _ | refine gb_drew ?_)
        have d4 : decide (1099511627776 < h) = false := decide_eq_false c4
        have hok := HO.out.2 ⟨by omega, by omega, by omega, by omega⟩
        have HOK := Lib.hid hok; clear hok
        go_wp2
        go_quiet (fail)
        go_wp2
        go_quiet (fail)
        go_wp2
        go_roundw
        case rel =>
          refine ⟨k + 1, _, by omega, by go_num, by rw [HL0.out], by rw [HH0.out], fun j hj => ?_, rfl⟩
          by_cases hjk : j = k
          · subst hjk; exact HOK.out
          · exact HP.out j (by omega)
        case measure => simp [intOf]; omega
      · go_wp2
        go_ret
        refine ⟨ret_int (tE_ok (HT.out fun j hj => HP.out j (by omega))), ?_⟩
        repeat (first | exact gb_refl _ _ | refine gb_alloc ?_ _ | refine gb_drewN ?_ _ | refine gb_drew ?_)
end Go.Proofs.Ytkckcaijfedijaa
