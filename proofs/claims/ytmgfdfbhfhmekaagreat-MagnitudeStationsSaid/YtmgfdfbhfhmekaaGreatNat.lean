/- nat.Valid and the reference's: a slice of ints as a list. -/
import Derived.Test.YtmgfdfbhfhmekaaGreatBase
namespace Go.Proofs.YtmgfdfbhfhmekaaGreat
set_option linter.all false
open Go.RowKit

def bad (x : Int) : Bool := decide (x < 0) || decide (1073741824 ≤ x)
def IdxOf (xs : List Int) (w : World) (e : Ending) (w' : World) : Prop := ∃ r : Int, e = .returned (.int .i64 r) ∧ w = w' ∧ (0 ≤ r → xs.any bad = true) ∧ (r < 0 → xs.any bad = false)

theorem bad_any (x : Int) (w : World) :
    Calls Tryz.prog 89 #[.int .i64 x] w fun e w' => e = .returned (.bool (bad x)) ∧ w = w' := by
  by_cases h1 : x < 0
  · go_enter Tryz.func89, Tryz.ntmps89
    go_wp2
    go_ret
    exact ⟨by simp [bad, h1], rfl⟩
  · go_enter Tryz.func89, Tryz.ntmps89
    go_wp2
    go_ret
    exact ⟨by simp [bad]; omega, rfl⟩

set_option maxHeartbeats 400000 in
theorem index_any (xs : List Int) (v : Value) (w : World) (hs : Sl w v xs) :
    Calls Tryz.prog 113 #[v, .func (.func 89) #[] #[]] w (IdxOf xs w) := by
  rcases hs with ⟨rfl, a, cap, rfl⟩ | ⟨b, off, cap, rfl, hb, hcap, hcap2, hc⟩
  · go_enter Tryz.func113, Tryz.ntmps113
    go_wp2
    go_rounds 1
    go_ret
    exact ⟨_, rfl, rfl, by simp, by simp⟩
  · have HC := Lib.hid hc; clear hc
    go_enter Tryz.func113, Tryz.ntmps113
    go_wp2
    go_loop [5, 8] (fun _ i => ∃ k : Nat, k ≤ xs.length ∧ i = .int .i64 k ∧ (xs.take k).any bad = false) (fun _ i => xs.length - (intOf i).toNat)
    case atStart => exact ⟨0, by omega, rfl, rfl⟩
    case round =>
      obtain ⟨k, hk, rfl, hp⟩ := hrel
      have HP := Lib.hid hp; clear hp
      by_cases hlt : k < xs.length
      · have hcell := HC.out k hlt
        go_wp2_with (go_at_call 89; refine (bad_any _ _).mono ?_; rintro e w' ⟨rfl, rfl⟩)
        · go_ret
          have h : bad xs[k] = true := by assumption
          exact ⟨_, rfl, rfl, fun _ => List.any_eq_true.2 ⟨_, List.getElem_mem hlt, h⟩, fun h => by omega⟩
        · have h : bad xs[k] = false := by assumption
          go_round
          case rel => exact ⟨k + 1, by omega, by go_num, by rw [List.take_succ_eq_append_getElem hlt, List.any_append, HP.out]; simp [h]⟩
          case measure => simp [intOf]; omega
      · go_wp2
        go_ret
        exact ⟨_, rfl, rfl, fun h => by omega, fun _ => by have := HP.out; rwa [List.take_of_length_le (by omega)] at this⟩

theorem ncontains_any (xs : List Int) (v : Value) (w : World) (hs : Sl w v xs) :
    Calls Tryz.prog 88 #[v, .func (.func 89) #[] #[]] w fun e w' => e = .returned (.bool (xs.any bad)) ∧ w = w' := by
  have HS := Lib.hid hs; clear hs
  go_enter Tryz.func88, Tryz.ntmps88
  go_wp2_with fail
  refine (index_any xs v w HS.out).mono ?_
  rintro e w' ⟨r, rfl, rfl, h1, h2⟩
  have H1 := Lib.hid h1; have H2 := Lib.hid h2; clear h1 h2
  by_cases hr : 0 ≤ r
  · go_wp2
    go_ret
    exact ⟨by rw [H1.out hr]; rfl, rfl⟩
  · go_wp2
    go_ret
    exact ⟨by rw [H2.out (by omega)]; simp; omega, rfl⟩

def validS (xs : List Int) : Bool := !(decide (64 < xs.length) || xs.getLast? == some 0) && !xs.any bad

theorem last_get (xs : List Int) (h : 0 < xs.length) : xs.getLast? = some (xs[xs.length - 1]?.getD 0) := by
  rw [List.getLast?_eq_getElem?, List.getElem?_eq_getElem (by omega)]; rfl

set_option maxHeartbeats 400000 in
theorem nvalid_any (xs : List Int) (v : Value) (w : World) (hs : Sl w v xs) :
    Calls Tryz.prog 68 #[v] w fun e w' => e = .returned (.bool (validS xs)) ∧ w = w' := by
  have HS := Lib.hid hs
  rcases hs with ⟨rfl, a, cap, rfl⟩ | ⟨b, off, cap, rfl, hb, hcap, hcap2, hc⟩
  · go_enter Tryz.func68, Tryz.ntmps68
    go_wp2_with (go_at_call 88; refine (ncontains_any _ _ _ HS.out).mono ?_; rintro e w' ⟨rfl, rfl⟩)
    go_ret
    exact ⟨rfl, rfl⟩
  · have HC := Lib.hid hc; clear hc
    by_cases h64 : 64 < xs.length
    · go_enter Tryz.func68, Tryz.ntmps68
      go_wp2
      go_ret
      exact ⟨by simp [validS, h64], rfl⟩
    by_cases h0 : 0 < xs.length
    · have hlast := last_get xs h0
      have hcell := HC.out (xs.length - 1) (by omega)
      generalize hz : xs[xs.length - 1]?.getD 0 = z at hlast hcell
      have HL := Lib.hid hlast
      clear hlast hz
      by_cases hz0 : z = 0
      · subst hz0
        have hi : IntKind.i64.wrap (↑xs.length - 1) = (↑xs.length : Int) - 1 := IntWalk.i64_in _ (by omega)
        have hi2 : ((↑xs.length : Int) - 1).toNat = xs.length - 1 := by omega
        go_enter Tryz.func68, Tryz.ntmps68
        go_wp2
        go_ret
        exact ⟨by simp [validS, HL.out], rfl⟩
      · have hzb : (z == 0) = false := by simpa using hz0
        go_enter Tryz.func68, Tryz.ntmps68
        go_wp2_with (go_at_call 88; refine (ncontains_any _ _ _ HS.out).mono ?_; rintro e w' ⟨rfl, rfl⟩)
        go_ret
        exact ⟨by simp [validS, HL.out, h64, hz0], rfl⟩
    · obtain rfl : xs = [] := List.length_eq_zero_iff.1 (by omega)
      go_enter Tryz.func68, Tryz.ntmps68
      go_wp2_with (go_at_call 88; refine (ncontains_any _ _ _ HS.out).mono ?_; rintro e w' ⟨rfl, rfl⟩)
      go_ret
      exact ⟨rfl, rfl⟩

theorem in_any (n lo hi : Int) (w : World) :
    Calls Tryz.prog 51 #[.int .i64 n, .int .i64 lo, .int .i64 hi] w fun e w' => e = .returned (.bool (decide (lo ≤ n) && decide (n ≤ hi))) ∧ w = w' := by
  by_cases h1 : lo ≤ n
  · go_enter Tryz.func51, Tryz.ntmps51
    go_wp2
    go_ret
    exact ⟨by simp [h1], rfl⟩
  · go_enter Tryz.func51, Tryz.ntmps51
    go_wp2
    go_ret
    exact ⟨by simp; omega, rfl⟩

theorem bad_in (x : Int) : bad x = !(decide (0 ≤ x) && decide (x ≤ 1073741823)) := by
  unfold bad; rw [Bool.eq_iff_iff]; simp; omega

set_option maxHeartbeats 400000 in
theorem rnvalid_any (xs : List Int) (v : Value) (w : World) (hs : Sl w v xs) :
    Calls Tryz.prog 61 #[v] w fun e w' => e = .returned (.bool (validS xs)) ∧ w = w' := by
  rcases hs with ⟨rfl, a, cap, rfl⟩ | ⟨b, off, cap, rfl, hb, hcap, hcap2, hc⟩
  · go_enter Tryz.func61, Tryz.ntmps61
    go_wp2
    go_rounds 1
    go_ret
    exact ⟨rfl, rfl⟩
  · have HC := Lib.hid hc; clear hc
    go_enter Tryz.func61, Tryz.ntmps61
    go_wp2
    go_loop [3] (fun i => ∃ k : Nat, k ≤ xs.length ∧ i = .int .i64 k ∧ (xs.take k).any bad = false) (fun i => xs.length - (intOf i).toNat)
    case atStart => exact ⟨0, by omega, rfl, rfl⟩
    case round =>
      obtain ⟨k, hk, rfl, hp⟩ := hrel
      have HP := Lib.hid hp; clear hp
      by_cases hlt : k < xs.length
      · have hcell := HC.out k hlt
        go_wp2_with (go_at_call 51; refine (in_any _ _ _ _).mono ?_; rintro e w' ⟨rfl, rfl⟩; rw [← Bool.not_not (decide _ && decide _), ← bad_in])
        · go_ret
          have h : bad xs[k] = true := by assumption
          refine ⟨?_, rfl⟩
          have : xs.any bad = true := List.any_eq_true.2 ⟨_, List.getElem_mem hlt, h⟩
          simp [validS, this]
        · have h : bad xs[k] = false := by assumption
          go_round
          case rel => exact ⟨k + 1, by omega, by go_num, by rw [List.take_succ_eq_append_getElem hlt, List.any_append, HP.out]; simp [h]⟩
          case measure => simp [intOf]; omega
      · have hb : xs.any bad = false := by have := HP.out; rwa [List.take_of_length_le (by omega)] at this
        have HB := Lib.hid hb; clear hb
        clear HP
        obtain rfl : k = xs.length := by omega
        by_cases h64 : xs.length ≤ 64
        · by_cases h0 : 0 < xs.length
          · have hlast := last_get xs h0
            have hcell := HC.out (xs.length - 1) (by omega)
            generalize hz : xs[xs.length - 1]?.getD 0 = z at hlast hcell
            have HL := Lib.hid hlast
            clear hlast hz
            have hi : IntKind.i64.wrap (↑xs.length - 1) = (↑xs.length : Int) - 1 := IntWalk.i64_in _ (by omega)
            have hi2 : ((↑xs.length : Int) - 1).toNat = xs.length - 1 := by omega
            have hn : ((xs.length : Int) == 0) = false := beq_eq_false_iff_ne.2 (by omega)
            go_wp2
            go_ret
            refine ⟨?_, rfl⟩
            simp [validS, HL.out, HB.out, show ¬ 64 < xs.length from by omega]
            rw [Bool.eq_iff_iff]; simp
          · obtain rfl : xs = [] := List.length_eq_zero_iff.1 (by omega)
            go_wp2
            go_ret
            exact ⟨rfl, rfl⟩
        · go_wp2
          go_ret
          exact ⟨by simp [validS, show 64 < xs.length from by omega], rfl⟩
end Go.Proofs.YtmgfdfbhfhmekaaGreat
