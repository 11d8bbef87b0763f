/- Layer 25: reach, Reach, the reference's Reach; sort.Search over the bounds of a table. -/
import Derived.Test.YtkckcaijfedijaaTrvB
namespace Go.Proofs.Ytkckcaijfedijaa
set_option linter.all false
open Go.RowKit

def reachS (step : Int) (ls : List Int) : Int := step * ((ls.length : Int) - 1)
def reachV (step : Int) (ls hs : List Int) : Int := if tOk step ls hs then reachS step ls else 0

theorem mul_small {a b A B : Int} (h0 : 0 ≤ a) (h1 : a ≤ A) (h2 : 0 ≤ b) (h3 : b ≤ B) : 0 ≤ a * b ∧ a * b ≤ A * B :=
  ⟨Int.mul_nonneg h0 h2, Int.mul_le_mul h1 h3 h2 (by omega)⟩
theorem reachS_le {step : Int} {ls hs : List Int} (h : tOk step ls hs) : 0 ≤ reachS step ls ∧ reachS step ls ≤ 267386880 ∧ wrap64 (reachS step ls) = reachS step ls := by
  obtain ⟨h1, h2, h3, h4, h5, _⟩ := h
  have := mul_small (a := step) (b := (ls.length : Int) - 1) (A := 1048576) (B := 255) (by omega) h2 (by omega) (by omega)
  unfold reachS
  generalize step * ((ls.length : Int) - 1) = q at *
  exact ⟨by omega, by omega, IntWalk.wrap64_in _ (by omega)⟩

theorem reach_any (step : Int) (vl vh : Value) (ls hs : List Int) (w : World) (h1 : Sl w vl ls) (h : tOk step ls hs) :
    Calls Try.prog 87 #[.agg #[.int .i64 step, vl, vh]] w fun e w' => e = .returned (.int .i64 (reachS step ls)) ∧ w.grownBy w' none := by
  obtain ⟨a, c, rfl⟩ := h1.shape
  obtain ⟨r1, r2, r3⟩ := reachS_le h
  obtain ⟨t1, t2, -, t4, t5, -⟩ := h
  unfold reachS at *
  generalize hr : step * ((ls.length : Int) - 1) = r at *
  go_enter Try.func87, Try.ntmps87
  go_wp2
  go_ret
  refine ⟨rfl, ?_⟩
  repeat (first | exact gb_refl _ _ | refine gb_alloc ?_ _)

theorem rReach_any (step : Int) (vl vh : Value) (ls hs : List Int) (w : World) (h1 : Sl w vl ls) (h2 : Sl w vh hs) :
    Calls Try.prog 94 #[.agg #[.int .i64 step, vl, vh]] w fun e w' => e = .returned (.int .i64 (reachV step ls hs)) ∧ w.grownBy w' none := by
  go_enter Try.func94, Try.ntmps94
  have hg0 := gb_alloc (gb_refl w none) (.cells #[.int .i64 step, vl, vh] 24)
  go_wp2_with fail
  (with_reducible refine (rvalidate_any _ _ _ ls hs _ (h1.after hg0) (h2.after hg0)).mono ?_)
  rintro e w1 ⟨rfl, hg⟩
  obtain ⟨cb, hz⟩ := gb_at hg (b := w.heap.size) (by simp)
  have HG := Lib.hid (gb_trans hg0 hg); clear hg hg0 h2
  by_cases hok : tOk step ls hs
  · have he : tE step ls hs = 0 := (tE_ok hok).symm
    have HV := Lib.hid (show reachV step ls hs = reachS step ls from by simp [reachV, hok])
    obtain ⟨a, c, rfl⟩ := h1.shape
    obtain ⟨r1, r2, r3⟩ := reachS_le hok
    obtain ⟨t1, t2, -, t4, t5, -⟩ := hok
    clear h1
    unfold reachS at *
    generalize hr : step * ((ls.length : Int) - 1) = r at *
    go_wp2
    go_ret
    exact ⟨ret_int HV.out.symm, HG.out⟩
  · have he : tE step ls hs = 21 := (tE_bad hok).symm
    clear h1
    go_wp2
    go_ret
    exact ⟨ret_int (by simp [reachV, hok]), HG.out⟩

/-- 'k*t.Step >= d'. -/
theorem clo_any (step k d : Int) (b b' : Nat) (w : World) (hk : 0 ≤ k) (hk2 : k ≤ 256) (hs : 0 ≤ step) (hs2 : step ≤ 1048576)
    (hc : w.cell? ⟨b, 0, none⟩ = some (.int .i64 step)) (hd : w.cell? ⟨b', 0, none⟩ = some (.int .i64 d)) :
    Calls Try.prog 89 #[.int .i64 k, .pointer (some ⟨b, 0, none⟩), .pointer (some ⟨b', 0, none⟩)] w fun e w' => e = .returned (.bool (decide (d ≤ k * step))) ∧ w = w' := by
  have hm := mul_small hk hk2 hs hs2
  have hw : wrap64 (k * step) = k * step := by
    generalize k * step = q at *
    exact IntWalk.wrap64_in _ (by omega)
  clear hm
  generalize hr : k * step = q at *
  go_enter Try.func89, Try.ntmps89
  go_wp2
  go_ret
  exact ⟨rfl, rfl⟩

theorem search_any (n : Nat) (step d : Int) (b b' : Nat) (w : World) (hn : n ≤ 256) (hs : 0 ≤ step) (hs2 : step ≤ 1048576)
    (hc : w.cell? ⟨b, 0, none⟩ = some (.int .i64 step)) (hd : w.cell? ⟨b', 0, none⟩ = some (.int .i64 d)) :
    Calls Try.prog 88 #[.int .i64 n, .func (.func 89) #[] #[.pointer (some ⟨b, 0, none⟩), .pointer (some ⟨b', 0, none⟩)]] w
      fun e w' => ∃ u : Nat, e = .returned (.int .i64 u) ∧ u ≤ n ∧ (0 < u → ((u : Int) - 1) * step < d) ∧ (u < n → d ≤ (u : Int) * step) ∧ w = w' := by
  go_enter Try.func88, Try.ntmps88
  go_wp2
  go_loop [5, 6] (fun i j => ∃ x y : Nat, i = .int .i64 x ∧ j = .int .i64 y ∧ x ≤ y ∧ y ≤ n ∧ (0 < x → ((x : Int) - 1) * step < d) ∧ (y < n → d ≤ (y : Int) * step))
    (fun i j => (intOf j).toNat - (intOf i).toNat)
  case atStart => exact ⟨0, n, rfl, rfl, by omega, by omega, by omega, by omega⟩
  case round =>
    obtain ⟨x, y, rfl, rfl, hxy, hy, hlo, hhi⟩ := hrel
    have HLO := Lib.hid hlo; have HHI := Lib.hid hhi; clear hlo hhi
    by_cases hlt : x < y
    · obtain ⟨m, hm, hm1, hm2⟩ : ∃ m : Nat, ((x : Int) + (y : Int)) / 2 = (m : Int) ∧ x ≤ m ∧ m < y := ⟨(x + y) / 2, by omega, by omega, by omega⟩
      go_wp2_with fail
      (with_reducible refine (clo_any step m d b b' w (by omega) (by omega) hs hs2 hc hd).mono ?_)
      rintro e w' ⟨rfl, rfl⟩
      by_cases hc2 : d ≤ (m : Int) * step
      · have HC2 := Lib.hid hc2
        have dd : decide (d ≤ (m : Int) * step) = true := decide_eq_true hc2
        clear hc2
        go_wp2
        go_round
        case rel => exact ⟨x, m, by go_num, by go_num, by omega, by omega, HLO.out, fun _ => HC2.out⟩
        case measure => simp [intOf]; omega
      · have HC2 := Lib.hid hc2
        have dd : decide (d ≤ (m : Int) * step) = false := decide_eq_false hc2
        clear hc2
        go_wp2
        go_round
        case rel => exact ⟨m + 1, y, by go_num, by go_num, by omega, by omega, fun _ => by have := HC2.out; rw [show ((m + 1 : Nat) : Int) - 1 = (m : Int) from by omega]; omega, HHI.out⟩
        case measure => simp [intOf]; omega
    · go_wp2
      go_ret
      obtain rfl : x = y := by omega
      exact ⟨x, rfl, hy, HLO.out, HHI.out, rfl⟩
end Go.Proofs.Ytkckcaijfedijaa
