/- Layer 25's awake: the examples of the chapter. -/
import Derived.Test.YtelmeggcgocmlaaTrv
namespace Go.Proofs.Ytelmeggcgocmlaa
set_option linter.all false
open Go.RowKit

theorem Sl.of_cells {w : World} {b n cap : Nat} {xs : List Int} (hb : b < w.heap.size) (hn : xs.length = n) (hc : n ≤ cap) (hc2 : cap ≤ 9223372036854775807) (h : ∀ k, k < n → w.cell? ⟨b, k, none⟩ = some (.int .i64 (xs[k]?.getD 0))) : Sl w (.slice (some ⟨b, 0, none⟩) n cap) xs := by
  subst hn
  exact .inr ⟨b, 0, cap, rfl, hb, hc, hc2, fun k hk => by rw [Nat.zero_add]; exact h k hk⟩

theorem sample_any (w : World) : Calls Try.prog 68 #[] w fun e w' => ∃ vl vh, e = .returned (.agg #[.int .i64 1000, vl, vh]) ∧ Sl w' vl [0, 150, 320] ∧ Sl w' vh [0, 200, 400] ∧ w.grownBy w' none := by
  go_enter Try.func68, Try.ntmps68
  go_wp2
  refine bodyPost_ret (v := .agg #[.int .i64 1000, .slice (some ⟨w.heap.size + 1, 0, none⟩) 3 3, .slice (some ⟨w.heap.size + 2, 0, none⟩) 3 3]) (by simp [results, Try.results68, go_sem]) rfl ⟨_, _, rfl, ?_, ?_, ?_⟩
  · refine Sl.of_cells (by simp <;> omega) rfl (by omega) (by omega) fun k hk => ?_
    match k, hk with
    | 0, _ => simp [go_sem]
    | 1, _ => simp [go_sem]
    | 2, _ => simp [go_sem]
  · refine Sl.of_cells (by simp) rfl (by omega) (by omega) fun k hk => ?_
    match k, hk with
    | 0, _ => simp [go_sem]
    | 1, _ => simp [go_sem]
    | 2, _ => simp [go_sem]
  · repeat (first | exact gb_refl _ _ | refine gb_alloc ?_ _ | refine gb_setCell ?_ (.inl (by first | exact Nat.le_refl _ | (simp; done) | (simp <;> omega))) _)

theorem fl1500 : floorI 2250000 = 1500 := (floorI_unique (by decide) (by decide) (by decide)).symm
theorem ce1500 : ceilI 2250000 = 1500 := by unfold ceilI; rw [fl1500]; rfl
theorem fl2001 : floorI 4004001 = 2001 := (floorI_unique (by decide) (by decide) (by decide)).symm
theorem ce2001 : ceilI 4004001 = 2001 := by unfold ceilI; rw [fl2001]; rfl
theorem sample_ok : tOk 1000 [0, 150, 320] [0, 200, 400] := by decide +kernel
theorem btw_1500 : btw 1000 [0, 150, 320] [0, 200, 400] 2250000 2250000 = .tuple #[.int .i64 150, .int .i64 400, .int .i64 0] := by
  have e : btwE 1000 [0, 150, 320] [0, 200, 400] 2250000 2250000 = 0 := by unfold btwE; rw [ce1500]; simp [sample_ok]; decide
  have h := btw_ok (i := 1) (j := 2) e (by rw [fl1500]; decide) (by rw [ce1500]; decide)
  exact (Ending.returned.inj h).symm
theorem btw_2001 : btw 1000 [0, 150, 320] [0, 200, 400] 0 4004001 = .tuple #[.int .i64 0, .int .i64 0, .int .i64 22] := by
  have e : btwE 1000 [0, 150, 320] [0, 200, 400] 0 4004001 = 22 := by unfold btwE; rw [ce2001]; simp [sample_ok]; decide
  unfold btw btwA btwB; rw [e]; rfl
theorem dV_180 : dV 1000 [0, 150, 320] [0, 200, 400] 180 = .tuple #[.int .i64 1, .int .i64 1999, .int .i64 0] := by
  kernel_rfl
theorem reachV_sample : reachV 1000 [0, 150, 320] [0, 200, 400] = 2000 := by decide +kernel

theorem awake25_any (w : World) : Calls Try.prog 30 #[] w fun e w' => e = .returned (.bool true) ∧ w.grownBy w' none := by
  go_enter Try.func30, Try.ntmps30
  go_wp2_with fail
  (with_reducible refine (sample_any _).mono ?_)
  rintro e w1 ⟨vl, vh, rfl, hl, hh, hg1⟩
  have HG1 := Lib.hid hg1; clear hg1
  go_wp2_with fail
  (with_reducible refine (between_any _ _ _ _ _ _ _ w1 hl hh (by decide)).mono ?_)
  rintro e w2 ⟨rfl, hg2⟩
  rw [btw_1500]
  have HG2 := Lib.hid (gb_trans HG1.out hg2); clear hg2 HG1 hl hh
  go_wp2_with fail
  (with_reducible refine (sample_any _).mono ?_)
  rintro e w3 ⟨vl, vh, rfl, hl, hh, hg3⟩
  have HG3 := Lib.hid (gb_trans HG2.out hg3); clear hg3 HG2
  go_wp2_with fail
  (with_reducible refine (between_any _ _ _ _ _ _ _ w3 hl hh (by decide)).mono ?_)
  rintro e w4 ⟨rfl, hg4⟩
  rw [btw_2001]
  have HG4 := Lib.hid (gb_trans HG3.out hg4); clear hg4 HG3 hl hh
  go_wp2_with fail
  (with_reducible refine (sample_any _).mono ?_)
  rintro e w5 ⟨vl, vh, rfl, hl, hh, hg5⟩
  have HG5 := Lib.hid (gb_trans HG4.out hg5); clear hg5 HG4
  go_wp2_with fail
  (with_reducible refine (distances_any _ _ _ _ _ _ w5 hl hh).mono ?_)
  rintro e w6 ⟨rfl, hg6⟩
  rw [dV_180]
  have HG6 := Lib.hid (gb_trans HG5.out hg6); clear hg6 HG5 hl hh
  go_wp2_with fail
  (with_reducible refine (sample_any _).mono ?_)
  rintro e w7 ⟨vl, vh, rfl, hl, hh, hg7⟩
  have HG7 := Lib.hid (gb_trans HG6.out hg7); clear hg7 HG6
  go_wp2_with fail
  (with_reducible refine (Reach_any _ _ _ _ _ w7 hl hh).mono ?_)
  rintro e w8 ⟨rfl, hg8⟩
  rw [reachV_sample]
  have HG8 := Lib.hid (gb_trans HG7.out hg8); clear hg8 HG7 hl hh
  go_wp2
  go_ret
  exact ⟨rfl, HG8.out⟩
end Go.Proofs.Ytelmeggcgocmlaa
