/- Layer 24's awake: the examples of the chapter. -/
import Derived.Test.YtelmeggcgocmlaaGeoS
import Derived.Test.YtelmeggcgocmlaaTrv
namespace Go.Proofs.Ytelmeggcgocmlaa
set_option linter.all false
open Go.RowKit

theorem sample24_any (w : World) : Calls Try.prog 65 #[] w fun e w' => e = .returned (.agg #[.int .i64 0, .int .i64 0, .int .i64 0, .int .i64 9, .int .i64 4, .int .i64 4]) ∧ w.grownBy w' none := by
  go_enter Try.func65, Try.ntmps65
  go_wp2
  refine bodyPost_ret (v := .agg #[.int .i64 0, .int .i64 0, .int .i64 0, .int .i64 9, .int .i64 4, .int .i64 4]) (by simp [results, Try.results65, go_sem]) rfl ⟨rfl, ?_⟩
  repeat (first | exact gb_refl _ _ | refine gb_alloc ?_ _ | refine gb_setCell ?_ (.inl (by first | exact Nat.le_refl _ | (simp; done) | (simp <;> omega))) _)

theorem fl10 : floorI 10 = 3 := (floorI_unique (by decide) (by decide) (by decide)).symm
theorem ce10 : ceilI 10 = 4 := by unfold ceilI; rw [fl10]; rfl
theorem spl_sample : splV (splOk 0 0 0 9 4 4) (axis (9 - 0) (4 - 0) (4 - 0)) 0 0 0 9 4 4 = .tuple #[.agg #[.int .i64 0, .int .i64 0, .int .i64 0, .int .i64 4, .int .i64 4, .int .i64 4], .agg #[.int .i64 5, .int .i64 0, .int .i64 0, .int .i64 9, .int .i64 4, .int .i64 4], .bool true] := by kernel_rfl
theorem near_sample : nearP 0 0 0 9 4 4 12 2 0 = 9 := by decide +kernel
theorem far_sample : farP 0 0 0 9 4 4 12 2 0 = 164 := by decide +kernel
theorem cen_sample : (Value.agg #[.int .i64 (cen (bP 0 0 0 9 4 4) 0 9), .int .i64 (cen (bP 0 0 0 9 4 4) 0 4), .int .i64 (cen (bP 0 0 0 9 4 4) 0 4)]) = .agg #[.int .i64 4, .int .i64 2, .int .i64 2] := by kernel_rfl
theorem pts_sample : ptsP 0 0 0 9 4 4 = 250 := by decide +kernel

set_option maxRecDepth 100000 in
set_option maxHeartbeats 400000 in
theorem awake24_any (w : World) : Calls Try.prog 28 #[] w fun e w' => e = .returned (.bool true) ∧ w.grownBy w' none := by
  go_enter Try.func28, Try.ntmps28
  go_wp2_with fail
  (with_reducible refine (sample24_any _).mono ?_)
  rintro e w1 ⟨rfl, hg1⟩
  have HG1 := Lib.hid hg1; clear hg1
  go_wp2_with fail
  (with_reducible refine (split_any _ _ _ _ _ _ _).mono ?_)
  rintro e w2 ⟨rfl, hg2⟩
  rw [spl_sample]
  obtain ⟨c2, z2⟩ := gb_at hg2 (b := w1.heap.size) (by first | omega | (simp <;> omega))
  obtain ⟨d2, y2⟩ := gb_at hg2 (b := w1.heap.size + 1) (by first | omega | (simp <;> omega))
  have HG2 := Lib.hid (gb_trans (gb_alloc (gb_alloc HG1.out _) _) hg2); clear hg2 HG1
  go_wp2_with fail
  (with_reducible refine (gfloor_any 10 _ (by omega)).mono ?_)
  rintro e w3 ⟨rfl, rfl⟩
  rw [fl10]
  go_wp2_with fail
  (with_reducible refine (gceil_any 10 _ (by omega)).mono ?_)
  rintro e w3 ⟨rfl, rfl⟩
  rw [ce10]
  go_wp2_with fail
  (with_reducible refine (near_any _ _ _ _ _ _ _ _ _ _).mono ?_)
  rintro e w3 ⟨rfl, hg3⟩
  rw [near_sample]
  obtain ⟨c3, z3⟩ := gb_at hg3 (b := w1.heap.size) (by first | omega | (simp <;> omega))
  obtain ⟨d3, y3⟩ := gb_at hg3 (b := w1.heap.size + 1) (by first | omega | (simp <;> omega))
  obtain ⟨e3, x3⟩ := gb_at hg3 (b := w2.heap.size) (by first | omega | (simp <;> omega))
  obtain ⟨f3, v3⟩ := gb_at hg3 (b := w2.heap.size + 1) (by first | omega | (simp <;> omega))
  have HG3 := Lib.hid (gb_trans (gb_alloc (gb_alloc HG2.out _) _) hg3); clear hg3 HG2
  go_wp2_with fail
  (with_reducible refine (far_any _ _ _ _ _ _ _ _ _ _).mono ?_)
  rintro e w4 ⟨rfl, hg4⟩
  rw [far_sample]
  obtain ⟨c4, z4⟩ := gb_at hg4 z3
  obtain ⟨e4, x4⟩ := gb_at hg4 x3
  obtain ⟨f4, v4⟩ := gb_at hg4 v3
  have HG4 := Lib.hid (gb_trans HG3.out hg4); clear hg4 HG3
  go_wp2_with fail
  (with_reducible refine (center_any _ _ _ _ _ _ _).mono ?_)
  rintro e w5 ⟨rfl, hg5⟩
  rw [cen_sample]
  obtain ⟨c5, z5⟩ := gb_at hg5 z4
  have HG5 := Lib.hid (gb_trans HG4.out hg5); clear hg5 HG4
  go_wp2_with fail
  (with_reducible refine (points_any _ _ _ _ _ _ _).mono ?_)
  rintro e w6 ⟨rfl, hg6⟩
  rw [pts_sample]
  have HG6 := Lib.hid (gb_trans HG5.out hg6); clear hg6 HG5
  go_wp2
  go_ret
  exact ⟨rfl, HG6.out⟩
end Go.Proofs.Ytelmeggcgocmlaa
