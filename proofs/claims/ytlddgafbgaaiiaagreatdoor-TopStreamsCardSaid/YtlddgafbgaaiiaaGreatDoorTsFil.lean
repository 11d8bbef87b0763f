/- Fil -/
import Derived.Test.YtlddgafbgaaiiaaGreatDoorTsDicF
namespace Go.Proofs.YtlddgafbgaaiiaaGreatDoor
set_option linter.all false
open Go.RowKit Rg
theorem fin_any (n lo hi : Int) (w : World) :
    Calls Tryz.prog 29 #[.int .i64 n, .int .i64 lo, .int .i64 hi] w fun e w' => e = .returned (.bool (decide (lo ≤ n ∧ n ≤ hi))) ∧ w = w' := by
  go_enter Tryz.func29, Tryz.ntmps29
  go_wp2
  all_goals go_ret
  all_goals exact ⟨ret_bool (by first | (symm; apply decide_eq_true; omega) | (symm; apply decide_eq_false; omega) | (simp; omega)), rfl⟩
theorem din_any (n lo hi : Int) (w : World) :
    Calls Tryz.prog 67 #[.int .i64 n, .int .i64 lo, .int .i64 hi] w fun e w' => e = .returned (.bool (decide (lo ≤ n ∧ n ≤ hi))) ∧ w = w' := by
  go_enter Tryz.func67, Tryz.ntmps67
  go_wp2
  all_goals go_ret
  all_goals exact ⟨ret_bool (by first | (symm; apply decide_eq_true; omega) | (symm; apply decide_eq_false; omega) | (simp; omega)), rfl⟩
def badS (n : Int) : Bool := !decide (-1073741823 ≤ n) || !decide (n ≤ 1073741823)
def badA (n : Int) : Bool := !decide (0 ≤ n) || !decide (n ≤ 1073741823)
theorem fwrong_any (n : Int) (w : World) : Calls Tryz.prog 63 #[.int .i64 n] w fun e w' => e = .returned (.bool (badS n)) ∧ w = w' := by
  go_enter Tryz.func63, Tryz.ntmps63
  go_wp2_with (go_at_call 29; refine (fin_any _ _ _ _).mono ?_; rintro e w' ⟨rfl, rfl⟩)
  go_ret
  exact ⟨ret_bool (by unfold badS; rfl), rfl⟩
theorem dwrong_any (n : Int) (w : World) : Calls Tryz.prog 38 #[.int .i64 n] w fun e w' => e = .returned (.bool (badS n)) ∧ w = w' := by
  go_enter Tryz.func38, Tryz.ntmps38
  go_wp2_with (go_at_call 67; refine (din_any _ _ _ _).mono ?_; rintro e w' ⟨rfl, rfl⟩)
  go_ret
  exact ⟨ret_bool (by unfold badS; rfl), rfl⟩
theorem dabsent_any (n : Int) (w : World) : Calls Tryz.prog 66 #[.int .i64 n] w fun e w' => e = .returned (.bool (badA n)) ∧ w = w' := by
  go_enter Tryz.func66, Tryz.ntmps66
  go_wp2_with (go_at_call 67; refine (din_any _ _ _ _).mono ?_; rintro e w' ⟨rfl, rfl⟩)
  go_ret
  exact ⟨ret_bool (by unfold badA; rfl), rfl⟩
set_option maxRecDepth 100000 in
set_option maxHeartbeats 400000 in
theorem cindexF_any (xs : List Int) (v : Value) (w : World) (hs : Sl w v xs) :
    Calls Tryz.prog 68 #[v, .func (.func 63) #[] #[]] w fun e w' => ∃ r : Int, e = .returned (.int .i64 r) ∧ w = w' ∧ (0 ≤ r → xs.any badS = true) ∧ (r < 0 → xs.any badS = false) := by
  rcases hs with ⟨rfl, a, cap, rfl⟩ | ⟨b, off, cap, rfl, hb, hcap, hcap2, hc⟩
  · go_enter Tryz.func68, Tryz.ntmps68
    go_wp2
    go_rounds 1
    go_ret
    exact ⟨_, rfl, rfl, by simp, by simp⟩
  · have HC := Lib.hid hc; clear hc
    go_enter Tryz.func68, Tryz.ntmps68
    go_wp2
    go_loop [5, 8] (fun _ i => ∃ k : Nat, k ≤ xs.length ∧ i = .int .i64 k ∧ (xs.take k).any badS = false) (fun _ i => xs.length - (intOf i).toNat)
    case atStart => exact ⟨0, by omega, rfl, rfl⟩
    case round =>
      obtain ⟨k, hk, rfl, hp⟩ := hrel
      have HP := Lib.hid hp; clear hp
      by_cases hlt : k < xs.length
      · obtain ⟨x, hx⟩ : ∃ x, xs[k] = x := ⟨_, rfl⟩
        have hcell := (HC.out k hlt).trans (by rw [List.getElem?_eq_getElem hlt, Option.getD_some, hx])
        have HX := Lib.hid hx
        clear hx
        go_wp2_with (go_at_call 63; refine (fwrong_any _ _).mono ?_; rintro e w' ⟨rfl, rfl⟩)
        · go_ret
          have h : badS x = true := by assumption
          exact ⟨_, rfl, rfl, fun _ => List.any_eq_true.2 ⟨_, List.getElem_mem hlt, by rw [HX.out]; exact h⟩, fun h => by omega⟩
        · have h : badS x = false := by assumption
          go_round
          case rel => exact ⟨k + 1, by omega, by go_num, by rw [List.take_succ_eq_append_getElem hlt, List.any_append, HP.out]; simp [HX.out, h]⟩
          case measure => simp [intOf]; omega
      · go_wp2
        go_ret
        exact ⟨_, rfl, rfl, fun h => by omega, fun _ => by have := HP.out; rw [List.take_of_length_le (by omega)] at this; simpa using this⟩
theorem ccontainsF_any (xs : List Int) (v : Value) (w : World) (hs : Sl w v xs) :
    Calls Tryz.prog 37 #[v, .func (.func 63) #[] #[]] w fun e w' => e = .returned (.bool (xs.any badS)) ∧ w = w' := by
  have HS := Lib.hid hs; clear hs
  have HI := Lib.hid (cindexF_any xs v w HS.out)
  have ho : ∃ a n c, v = .slice a n c := by rcases HS.out with ⟨-, a, c, e⟩ | ⟨b', off', cap', e, -⟩ <;> exact ⟨_, _, _, e⟩
  obtain ⟨a, n, c, rfl⟩ := ho
  go_enter Tryz.func37, Tryz.ntmps37
  go_wp2_with fail
  refine HI.out.mono ?_
  rintro e w' ⟨r, rfl, rfl, h1, h2⟩
  have H1 := Lib.hid h1; have H2 := Lib.hid h2; clear h1 h2
  by_cases hr : 0 ≤ r
  · go_wp2
    go_ret
    exact ⟨by rw [H1.out hr]; rfl, rfl⟩
  · go_wp2
    go_ret
    exact ⟨by rw [H2.out (by omega)]; simp; omega, rfl⟩
set_option maxRecDepth 100000 in
set_option maxHeartbeats 400000 in
theorem cindexD_any (xs : List Int) (v : Value) (w : World) (hs : Sl w v xs) :
    Calls Tryz.prog 68 #[v, .func (.func 38) #[] #[]] w fun e w' => ∃ r : Int, e = .returned (.int .i64 r) ∧ w = w' ∧ (0 ≤ r → xs.any badS = true) ∧ (r < 0 → xs.any badS = false) := by
  rcases hs with ⟨rfl, a, cap, rfl⟩ | ⟨b, off, cap, rfl, hb, hcap, hcap2, hc⟩
  · go_enter Tryz.func68, Tryz.ntmps68
    go_wp2
    go_rounds 1
    go_ret
    exact ⟨_, rfl, rfl, by simp, by simp⟩
  · have HC := Lib.hid hc; clear hc
    go_enter Tryz.func68, Tryz.ntmps68
    go_wp2
    go_loop [5, 8] (fun _ i => ∃ k : Nat, k ≤ xs.length ∧ i = .int .i64 k ∧ (xs.take k).any badS = false) (fun _ i => xs.length - (intOf i).toNat)
    case atStart => exact ⟨0, by omega, rfl, rfl⟩
    case round =>
      obtain ⟨k, hk, rfl, hp⟩ := hrel
      have HP := Lib.hid hp; clear hp
      by_cases hlt : k < xs.length
      · obtain ⟨x, hx⟩ : ∃ x, xs[k] = x := ⟨_, rfl⟩
        have hcell := (HC.out k hlt).trans (by rw [List.getElem?_eq_getElem hlt, Option.getD_some, hx])
        have HX := Lib.hid hx
        clear hx
        go_wp2_with (go_at_call 38; refine (dwrong_any _ _).mono ?_; rintro e w' ⟨rfl, rfl⟩)
        · go_ret
          have h : badS x = true := by assumption
          exact ⟨_, rfl, rfl, fun _ => List.any_eq_true.2 ⟨_, List.getElem_mem hlt, by rw [HX.out]; exact h⟩, fun h => by omega⟩
        · have h : badS x = false := by assumption
          go_round
          case rel => exact ⟨k + 1, by omega, by go_num, by rw [List.take_succ_eq_append_getElem hlt, List.any_append, HP.out]; simp [HX.out, h]⟩
          case measure => simp [intOf]; omega
      · go_wp2
        go_ret
        exact ⟨_, rfl, rfl, fun h => by omega, fun _ => by have := HP.out; rw [List.take_of_length_le (by omega)] at this; simpa using this⟩
theorem ccontainsD_any (xs : List Int) (v : Value) (w : World) (hs : Sl w v xs) :
    Calls Tryz.prog 37 #[v, .func (.func 38) #[] #[]] w fun e w' => e = .returned (.bool (xs.any badS)) ∧ w = w' := by
  have HS := Lib.hid hs; clear hs
  have HI := Lib.hid (cindexD_any xs v w HS.out)
  have ho : ∃ a n c, v = .slice a n c := by rcases HS.out with ⟨-, a, c, e⟩ | ⟨b', off', cap', e, -⟩ <;> exact ⟨_, _, _, e⟩
  obtain ⟨a, n, c, rfl⟩ := ho
  go_enter Tryz.func37, Tryz.ntmps37
  go_wp2_with fail
  refine HI.out.mono ?_
  rintro e w' ⟨r, rfl, rfl, h1, h2⟩
  have H1 := Lib.hid h1; have H2 := Lib.hid h2; clear h1 h2
  by_cases hr : 0 ≤ r
  · go_wp2
    go_ret
    exact ⟨by rw [H1.out hr]; rfl, rfl⟩
  · go_wp2
    go_ret
    exact ⟨by rw [H2.out (by omega)]; simp; omega, rfl⟩
set_option maxRecDepth 100000 in
set_option maxHeartbeats 400000 in
theorem cindexA_any (xs : List Int) (v : Value) (w : World) (hs : Sl w v xs) :
    Calls Tryz.prog 68 #[v, .func (.func 66) #[] #[]] w fun e w' => ∃ r : Int, e = .returned (.int .i64 r) ∧ w = w' ∧ (0 ≤ r → xs.any badA = true) ∧ (r < 0 → xs.any badA = false) := by
  rcases hs with ⟨rfl, a, cap, rfl⟩ | ⟨b, off, cap, rfl, hb, hcap, hcap2, hc⟩
  · go_enter Tryz.func68, Tryz.ntmps68
    go_wp2
    go_rounds 1
    go_ret
    exact ⟨_, rfl, rfl, by simp, by simp⟩
  · have HC := Lib.hid hc; clear hc
    go_enter Tryz.func68, Tryz.ntmps68
    go_wp2
    go_loop [5, 8] (fun _ i => ∃ k : Nat, k ≤ xs.length ∧ i = .int .i64 k ∧ (xs.take k).any badA = false) (fun _ i => xs.length - (intOf i).toNat)
    case atStart => exact ⟨0, by omega, rfl, rfl⟩
    case round =>
      obtain ⟨k, hk, rfl, hp⟩ := hrel
      have HP := Lib.hid hp; clear hp
      by_cases hlt : k < xs.length
      · obtain ⟨x, hx⟩ : ∃ x, xs[k] = x := ⟨_, rfl⟩
        have hcell := (HC.out k hlt).trans (by rw [List.getElem?_eq_getElem hlt, Option.getD_some, hx])
        have HX := Lib.hid hx
        clear hx
        go_wp2_with (go_at_call 66; refine (dabsent_any _ _).mono ?_; rintro e w' ⟨rfl, rfl⟩)
        · go_ret
          have h : badA x = true := by assumption
          exact ⟨_, rfl, rfl, fun _ => List.any_eq_true.2 ⟨_, List.getElem_mem hlt, by rw [HX.out]; exact h⟩, fun h => by omega⟩
        · have h : badA x = false := by assumption
          go_round
          case rel => exact ⟨k + 1, by omega, by go_num, by rw [List.take_succ_eq_append_getElem hlt, List.any_append, HP.out]; simp [HX.out, h]⟩
          case measure => simp [intOf]; omega
      · go_wp2
        go_ret
        exact ⟨_, rfl, rfl, fun h => by omega, fun _ => by have := HP.out; rw [List.take_of_length_le (by omega)] at this; simpa using this⟩
theorem ccontainsA_any (xs : List Int) (v : Value) (w : World) (hs : Sl w v xs) :
    Calls Tryz.prog 37 #[v, .func (.func 66) #[] #[]] w fun e w' => e = .returned (.bool (xs.any badA)) ∧ w = w' := by
  have HS := Lib.hid hs; clear hs
  have HI := Lib.hid (cindexA_any xs v w HS.out)
  have ho : ∃ a n c, v = .slice a n c := by rcases HS.out with ⟨-, a, c, e⟩ | ⟨b', off', cap', e, -⟩ <;> exact ⟨_, _, _, e⟩
  obtain ⟨a, n, c, rfl⟩ := ho
  go_enter Tryz.func37, Tryz.ntmps37
  go_wp2_with fail
  refine HI.out.mono ?_
  rintro e w' ⟨r, rfl, rfl, h1, h2⟩
  have H1 := Lib.hid h1; have H2 := Lib.hid h2; clear h1 h2
  by_cases hr : 0 ≤ r
  · go_wp2
    go_ret
    exact ⟨by rw [H1.out hr]; rfl, rfl⟩
  · go_wp2
    go_ret
    exact ⟨by rw [H2.out (by omega)]; simp; omega, rfl⟩
theorem any_bad {l : List Int} {bad : Int → Bool} (h : ∀ x ∈ l, bad x = false) : l.any bad = false := by
  rw [List.any_eq_false]; exact fun x hx => by rw [h x hx]; decide
/-- check. -/
theorem fcheck_any (xs : List Int) (v : Value) (num most : Int) (w : World) (hs : Sl w v xs) (hx : ∀ x ∈ xs, -1000 ≤ x ∧ x ≤ 1000) (hl : xs.length ≤ 1000) (hn : 0 ≤ num ∧ num ≤ most) :
    Calls Tryz.prog 33 #[v, .int .i64 num, .int .i64 most] w fun e w' => e = .returned (.int .i64 0) ∧ w = w' := by
  have hb : xs.any badS = false := any_bad fun x h => by have := hx x h; simp [badS]; omega
  have HC := Lib.hid (hb ▸ ccontainsF_any xs v w hs)
  have ho : ∃ a c, v = .slice a xs.length c := by rcases hs with ⟨rfl, a, c, e⟩ | ⟨b', off', cap', e, -⟩ <;> exact ⟨_, _, e⟩
  obtain ⟨a, c, rfl⟩ := ho
  have hd : decide (0 ≤ num ∧ num ≤ most) = true := decide_eq_true hn
  clear hs hx hb
  go_enter Tryz.func33, Tryz.ntmps33
  go_wp2_with (first | (go_at_call 29; refine (fin_any _ _ _ _).mono ?_; rintro e w' ⟨rfl, rfl⟩) | (go_at_call 37; refine HC.out.mono ?_; rintro e w' ⟨rfl, rfl⟩))
  go_ret
  exact ⟨rfl, rfl⟩
end Go.Proofs.YtlddgafbgaaiiaaGreatDoor
