/- Layer 25: Distances. -/
import Derived.Test.YtkmikiljpajaaaaTrvE
namespace Go.Proofs.Ytkmikiljpajaaaa
set_option linter.all false
open Go.RowKit

/-- How many numbers stand ahead of the first one that does not satisfy p. -/
def lead (p : Int → Bool) (xs : List Int) : Nat := (xs.takeWhile p).length
theorem lead_unique {p : Int → Bool} : ∀ {xs : List Int} {f : Nat}, f ≤ xs.length → (∀ j, j < f → p (at0 xs j) = true) → (f < xs.length → p (at0 xs f) = false) → f = lead p xs
  | [], f, h, _, _ => by simp at h; simp [lead, h]
  | x :: xs, 0, _, _, h2 => by
    have := h2 (by simp)
    simp [at0] at this
    simp [lead, this]
  | x :: xs, f + 1, h, h1, h2 => by
    have h0 := h1 0 (by omega)
    simp [at0] at h0
    have := lead_unique (p := p) (xs := xs) (f := f) (by simpa using h) (fun j hj => by have := h1 (j + 1) (by omega); simpa [at0] using this) (fun hf => by have := h2 (by simpa using hf); simpa [at0] using this)
    rw [this]; simp [lead, h0]
theorem lead_spec {p : Int → Bool} : ∀ (xs : List Int), (∀ j, j < lead p xs → p (at0 xs j) = true) ∧ (lead p xs < xs.length → p (at0 xs (lead p xs)) = false)
  | [] => by simp [lead]
  | x :: xs => by
    cases hx : p x
    · simp [lead, hx, at0]
    · have e : lead p (x :: xs) = lead p xs + 1 := by simp [lead, hx]
      rw [e]
      obtain ⟨h1, h2⟩ := lead_spec (p := p) xs
      refine ⟨fun j hj => ?_, fun h => ?_⟩
      · cases j with
        | zero => simpa [at0] using hx
        | succ j => simpa [at0] using h1 j (by omega)
      · simpa [at0] using h2 (by simpa using h)
theorem lead_le (p : Int → Bool) (xs : List Int) : lead p xs ≤ xs.length := (List.takeWhile_sublist p).length_le

def dF (hs : List Int) (t : Int) : Nat := lead (fun x => decide (x < t)) hs
def dL (ls : List Int) (t : Int) : Nat := lead (fun x => decide (x ≤ t)) ls
def dLeast (step : Int) (hs : List Int) (t : Int) : Int := if dF hs t = 0 then 0 else max 0 (((dF hs t : Int) - 1) * step + 1)
def dMost (step : Int) (ls : List Int) (t : Int) : Int := min (reachS step ls) ((dL ls t : Int) * step - 1)
def dE (step : Int) (ls hs : List Int) (t : Int) : Int := if ¬ tOk step ls hs then 21 else if dF hs t = hs.length ∨ dL ls t = 0 ∨ dMost step ls t < dLeast step hs t then 24 else 0
def dV (step : Int) (ls hs : List Int) (t : Int) : Value :=
  .tuple (if dE step ls hs t = 0 then #[.int .i64 (dLeast step hs t), .int .i64 (dMost step ls t), .int .i64 0] else #[.int .i64 0, .int .i64 0, .int .i64 (dE step ls hs t)])
theorem dV_err {step : Int} {ls hs : List Int} {t c : Int} (hc : c ≠ 0) (h : dE step ls hs t = c) : Ending.returned (.tuple #[.int .i64 0, .int .i64 0, .int .i64 c]) = .returned (dV step ls hs t) := by
  unfold dV; rw [h, if_neg hc]
theorem dV_ok {step : Int} {ls hs : List Int} {t a b : Int} (h : dE step ls hs t = 0) (ha : a = dLeast step hs t) (hb : b = dMost step ls t) : Ending.returned (.tuple #[.int .i64 a, .int .i64 b, .int .i64 0]) = .returned (dV step ls hs t) := by
  unfold dV; rw [h, if_pos rfl, ha, hb]

set_option maxHeartbeats 1000000 in
theorem distances_any (step t : Int) (vl vh : Value) (ls hs : List Int) (w : World) (h1 : Sl w vl ls) (h2 : Sl w vh hs) :
    Calls Try.prog 22 #[.agg #[.int .i64 step, vl, vh], .int .i64 t] w fun e w' => e = .returned (dV step ls hs t) ∧ w.grownBy w' none := by
  go_enter Try.func22, Try.ntmps22
  have hg0 := gb_alloc (gb_refl w none) (.cells #[.int .i64 step, vl, vh] 26)
  go_wp2_with fail
  (with_reducible refine (validate_any _ _ _ ls hs _ (h1.after hg0) (h2.after hg0)).mono ?_)
  rintro e w1 ⟨rfl, hg⟩
  obtain ⟨cb, hz⟩ := gb_at hg (b := w.heap.size) (by simp)
  have hg1 := gb_trans hg0 hg
  have S1 := Lib.hid (h1.after hg1); have S2 := Lib.hid (h2.after hg1); have HG := Lib.hid hg1; clear hg hg0 hg1 h1 h2
  by_cases hok : tOk step ls hs
  rotate_left
  · have he : tE step ls hs = 21 := (tE_bad hok).symm
    go_wp2
    refine bodyPost_ret (v := .tuple #[.int .i64 0, .int .i64 0, .int .i64 21]) (by simp [results, Try.results22, go_sem]) rfl ⟨dV_err (by decide) (by simp [dE, hok]), HG.out⟩
  have he : tE step ls hs = 0 := (tE_ok hok).symm
  have HOK := Lib.hid hok; clear hok
  obtain ⟨t1, t2, t3, t4, t5, -⟩ := HOK.out
  obtain ⟨b1, off1, cap1, rfl, hb1, hcap1, hcapb1, hcell1⟩ := S1.out.block (by omega)
  obtain ⟨b2, off2, cap2, rfl, hb2, hcap2, hcapb2, hcell2⟩ := S2.out.block (by omega)
  have HC1 := Lib.hid hcell1; have HC2 := Lib.hid hcell2; clear hcell1 hcell2
  have HR := Lib.hid (reachS_le HOK.out)
  have HN := Lib.hid (show (ls.length = hs.length) from t3)
  generalize hn : ls.length = n at *
  have HNL := Lib.hid hn; clear hn
  rw [← t3] at HC2 hcap2 cb ⊢; clear t3
  obtain ⟨hF1, hF2⟩ := lead_spec (p := fun x => decide (x < t)) hs
  obtain ⟨hL1, hL2⟩ := lead_spec (p := fun x => decide (x ≤ t)) ls
  change ∀ j, j < dF hs t → _ at hF1
  change dF hs t < _ → decide (at0 hs (dF hs t) < t) = false at hF2
  change ∀ j, j < dL ls t → _ at hL1
  change dL ls t < _ → decide (at0 ls (dL ls t) ≤ t) = false at hL2
  have hFn : dF hs t ≤ n := by rw [HN.out]; exact lead_le _ _
  have hLn : dL ls t ≤ n := by rw [← HNL.out]; exact lead_le _ _
  rw [← HN.out] at hF2
  rw [HNL.out] at hL2
  have hD := dV_err (step := step) (ls := ls) (hs := hs) (t := t) (c := 24) (by decide)
  have hD0 := fun a b => dV_ok (step := step) (ls := ls) (hs := hs) (t := t) (a := a) (b := b)
  have hDE : dE step ls hs t = if dF hs t = n ∨ dL ls t = 0 ∨ dMost step ls t < dLeast step hs t then 24 else 0 := by simp [dE, HOK.out, HN.out]
  have hdl : dLeast step hs t = if dF hs t = 0 then 0 else max 0 (((dF hs t : Int) - 1) * step + 1) := rfl
  have hdm : dMost step ls t = min (reachS step ls) ((dL ls t : Int) * step - 1) := rfl
  generalize dF hs t = F at *
  generalize dL ls t = L at *
  have HF1 := Lib.hid hF1; have HF2 := Lib.hid hF2; have HL1 := Lib.hid hL1; have HL2 := Lib.hid hL2
  have HD := Lib.hid hD; have HD0 := Lib.hid hD0; have HDE := Lib.hid hDE; have HDL := Lib.hid hdl; have HDM := Lib.hid hdm
  clear hF1 hF2 hL1 hL2 hD hD0 hDE hdl hdm
  go_upto_block 0 with fail
  go_cut [7] (fun f wc => f = .int .i64 F ∧ wc = w1)
  case first =>
    go_wp2_with fail
    go_loop [7] (fun i => ∃ f : Nat, f ≤ F ∧ i = .int .i64 f) (fun i => n - (intOf i).toNat)
    case atStart => exact ⟨0, by omega, rfl⟩
    case round =>
      obtain ⟨f, hf, rfl⟩ := hrel
      by_cases c1 : f < F
      · have hc := HC2.out f (by omega)
        have hd := HF1.out f c1
        have c2 : (f : Int) < (n : Int) := by omega
        have d2 : decide ((f : Int) < (n : Int)) = true := decide_eq_true c2
        go_wp2
        go_round
        case rel => exact ⟨f + 1, by omega, by go_num⟩
        case measure => simp [intOf]; omega
      · obtain rfl : f = F := by omega
        by_cases c2 : f < n
        · have hc := HC2.out f (by omega)
          have hd := HF2.out c2
          have d2 : decide ((f : Int) < (n : Int)) = true := decide_eq_true (by omega)
          go_wp2
          go_meet
          case rel => exact ⟨rfl, rfl⟩
        · have d2 : decide ((f : Int) < (n : Int)) = false := decide_eq_false (by omega)
          go_wp2
          go_meet
          case rel => exact ⟨rfl, rfl⟩
  case rest =>
    obtain ⟨rfl, hwc⟩ := hcut; obtain rfl : w1 = wc := hwc.symm
    go_upto_block 2 with fail
    go_cut [8] (fun f wc => f = .int .i64 L ∧ wc = w1)
    case first =>
      go_wp2_with fail
      go_loop [8] (fun i => ∃ f : Nat, f ≤ L ∧ i = .int .i64 f) (fun i => n - (intOf i).toNat)
      case atStart => exact ⟨0, by omega, rfl⟩
      case round =>
        obtain ⟨f, hf, rfl⟩ := hrel
        by_cases c1 : f < L
        · have hc := HC1.out f (by omega)
          have hd := HL1.out f c1
          have c2 : (f : Int) < (n : Int) := by omega
          have d2 : decide ((f : Int) < (n : Int)) = true := decide_eq_true c2
          go_wp2
          go_round
          case rel => exact ⟨f + 1, by omega, by go_num⟩
          case measure => simp [intOf]; omega
        · obtain rfl : f = L := by omega
          by_cases c2 : f < n
          · have hc := HC1.out f (by omega)
            have hd := HL2.out c2
            have d2 : decide ((f : Int) < (n : Int)) = true := decide_eq_true (by omega)
            go_wp2
            go_meet
            case rel => exact ⟨rfl, rfl⟩
          · have d2 : decide ((f : Int) < (n : Int)) = false := decide_eq_false (by omega)
            go_wp2
            go_meet
            case rel => exact ⟨rfl, rfl⟩
    case rest =>
      obtain ⟨rfl, hwc⟩ := hcut; obtain rfl : w1 = wc := hwc.symm
      obtain ⟨p1, p2⟩ : -1048576 ≤ ((F : Int) - 1) * step ∧ ((F : Int) - 1) * step ≤ 268435456 := by
        rcases Nat.eq_zero_or_pos F with rfl | h0
        · simp; omega
        · have := mul_small (a := (F : Int) - 1) (b := step) (A := 256) (B := 1048576) (by omega) (by omega) (by omega) (by omega)
          generalize ((F : Int) - 1) * step = q at *
          omega
      obtain ⟨q1, q2⟩ := mul_small (a := (L : Int)) (b := step) (A := 256) (B := 1048576) (by omega) (by omega) (by omega) (by omega)
      obtain ⟨r1, r2, r3⟩ := HR.out
      generalize hP : ((F : Int) - 1) * step = pf at *
      generalize hQ : (L : Int) * step = pl at *
      go_wp2_with fail
      have hnt := fun (x : Up w1) (o : Nat) => (ever_cell x (b := w.heap.size) (o := o) hz).trans (cb o)
      (refine wp_region_grown (by kernel_rfl) (by kernel_rfl) ?_; (repeat (go_big_quiet_step (first | (go_at_call 68; exact Calls.grown_of (reach_any _ _ _ ls hs _ (S1.out.after (ever_up _)) HOK.out))))); refine wpQuiet_nil ?_; intro wq hq)
      obtain ⟨wt, hzt⟩ := gb_at hq (b := w.heap.size) hz
      have HG2 := Lib.hid (gb_trans HG.out hq); clear hnt hq HG S1 S2
      have HP := Lib.hid hP; have HQ := Lib.hid hQ; clear hP hQ
      by_cases z : F = 0
      · subst z
        have hdl := HDL.out; rw [if_pos rfl] at hdl
        have hdm := HDM.out
        have z1 : ((0 : Int) == (n : Int)) = false := by simp; omega
        by_cases z2 : L = 0
        · subst z2
          go_wp2
          refine bodyPost_ret (v := .tuple #[.int .i64 0, .int .i64 0, .int .i64 24]) (by simp [results, Try.results22, go_sem]) rfl ⟨HD.out (by rw [HDE.out, if_pos (by simp)]), HG2.out⟩
        have y2 : ((L : Int) == 0) = false := by simp; omega
        by_cases z3 : min (reachS step ls) (pl - 1) < 0
        · go_wp2
          refine bodyPost_ret (v := .tuple #[.int .i64 0, .int .i64 0, .int .i64 24]) (by simp [results, Try.results22, go_sem]) rfl ⟨HD.out (by rw [HDE.out, if_pos (.inr (.inr (by rw [hdl, hdm]; exact z3)))]), HG2.out⟩
        · go_wp2
          refine bodyPost_ret (v := .tuple #[.int .i64 0, .int .i64 (min (reachS step ls) (pl - 1)), .int .i64 0]) (by simp [results, Try.results22, go_sem]) rfl ⟨HD0.out _ _ (by rw [HDE.out, if_neg (by rw [hdl, hdm]; omega)]) hdl.symm hdm.symm, HG2.out⟩
      · have hdl := HDL.out; rw [if_neg z] at hdl
        have hdm := HDM.out
        have y0 : ((F : Int) == 0) = false := by simp; omega
        by_cases z1 : F = n
        · subst z1
          go_wp2
          refine bodyPost_ret (v := .tuple #[.int .i64 0, .int .i64 0, .int .i64 24]) (by simp [results, Try.results22, go_sem]) rfl ⟨HD.out (by rw [HDE.out, if_pos (by simp)]), HG2.out⟩
        have y1 : ((F : Int) == (n : Int)) = false := by simp; omega
        by_cases z2 : L = 0
        · subst z2
          go_wp2
          refine bodyPost_ret (v := .tuple #[.int .i64 0, .int .i64 0, .int .i64 24]) (by simp [results, Try.results22, go_sem]) rfl ⟨HD.out (by rw [HDE.out, if_pos (by simp)]), HG2.out⟩
        have y2 : ((L : Int) == 0) = false := by simp; omega
        by_cases z3 : min (reachS step ls) (pl - 1) < max 0 (pf + 1)
        · go_wp2
          refine bodyPost_ret (v := .tuple #[.int .i64 0, .int .i64 0, .int .i64 24]) (by simp [results, Try.results22, go_sem]) rfl ⟨HD.out (by rw [HDE.out, if_pos (.inr (.inr (by rw [hdl, hdm]; exact z3)))]), HG2.out⟩
        · go_wp2
          refine bodyPost_ret (v := .tuple #[.int .i64 (max 0 (pf + 1)), .int .i64 (min (reachS step ls) (pl - 1)), .int .i64 0]) (by simp [results, Try.results22, go_sem]) rfl ⟨HD0.out _ _ (by rw [HDE.out, if_neg (by rw [hdl, hdm]; omega)]) hdl.symm hdm.symm, HG2.out⟩
end Go.Proofs.Ytkmikiljpajaaaa
