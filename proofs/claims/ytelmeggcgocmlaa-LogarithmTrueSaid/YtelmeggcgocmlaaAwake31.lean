/- Layer 31's awake: the examples of the chapter. -/
import Derived.Test.YtelmeggcgocmlaaLogNat
import Derived.Test.YtelmeggcgocmlaaBase
namespace Go.Proofs.Ytelmeggcgocmlaa
set_option linter.all false
open Go.RowKit

theorem log_1024 (w : World) : Calls Try.prog 45 #[.int .i64 1024] w fun e w' => e = .returned (.tuple #[.int .i64 2560, .int .i64 0]) ∧ w = w' := by
  have h : logS 1024 = 2560 := by decide
  have := log_any 1024 w (by decide) (by decide)
  rw [h] at this; exact this
theorem log_3 (w : World) : Calls Try.prog 45 #[.int .i64 3] w fun e w' => e = .returned (.tuple #[.int .i64 405, .int .i64 0]) ∧ w = w' := by
  have h : logS 3 = 405 := by decide
  have := log_any 3 w (by decide) (by decide)
  rw [h] at this; exact this
theorem lognat_04 (w : World) (e : TypeId) : Calls Try.prog 85 #[.slice (some ⟨w.heap.size, 0, none⟩) 2 2] (w.alloc (.cells #[.int .i64 0, .int .i64 4] e)) fun e w' => e = .returned (.tuple #[.int .i64 8192, .int .i64 0]) ∧ w.grownBy w' none := by
  have h : logNatS [0, 4] = 8192 := by decide
  have hs : Sl (w.alloc (.cells #[.int .i64 0, .int .i64 4] e)) (.slice (some ⟨w.heap.size, 0, none⟩) 2 2) [0, 4] := by
    refine .inr ⟨w.heap.size, 0, 2, rfl, by simp, by simp, by omega, fun k hk => ?_⟩
    rw [cell_new]
    match k, hk with
    | 0, _ => rfl
    | 1, _ => rfl
  refine (lognat_any [0, 4] _ _ hs (by decide) (by decide)).mono ?_
  rintro e w' ⟨rfl, n, rfl⟩
  exact ⟨by rw [h], gb_drewN (gb_alloc (gb_refl _ _) _) _⟩
theorem floor_256 (w : World) : Calls Try.prog 86 #[.int .i64 256] w fun e w' => e = .returned (.int .i64 30) ∧ w = w' := by
  have h : floorS 256 = 30 := by decide
  have := floor_any 256 w
  rw [h] at this; exact this
theorem floor_m256 (w : World) : Calls Try.prog 86 #[.int .i64 (-256)] w fun e w' => e = .returned (.int .i64 (-31)) ∧ w = w' := by
  have h : floorS (-256) = -31 := by decide
  have := floor_any (-256) w
  rw [h] at this; exact this
theorem ceil_256 (w : World) : Calls Try.prog 87 #[.int .i64 256] w fun e w' => e = .returned (.int .i64 31) ∧ w = w' := by
  have h : - floorS (wrap64 (-256)) = 31 := by decide +kernel
  have := ceil_any 256 w
  rw [h] at this; exact this

theorem awake_any (w : World) : Calls Try.prog 50 #[] w fun e w' => e = .returned (.bool true) ∧ w.grownBy w' none := by
  go_enter Try.func50, Try.ntmps50
  go_wp2_with fail
  refine (log_1024 _).mono ?_
  rintro e w' ⟨rfl, rfl⟩
  go_wp2_with fail
  refine (log_3 _).mono ?_
  rintro e w' ⟨rfl, rfl⟩
  go_wp2_with fail
  refine (lognat_04 w _).mono ?_
  rintro e w1 ⟨rfl, hg⟩
  have HG := Lib.hid hg; clear hg
  go_wp2_with fail
  refine (floor_256 _).mono ?_
  rintro e w' ⟨rfl, rfl⟩
  go_wp2_with fail
  refine (ceil_256 _).mono ?_
  rintro e w' ⟨rfl, rfl⟩
  go_wp2_with fail
  refine (floor_m256 _).mono ?_
  rintro e w' ⟨rfl, rfl⟩
  go_wp2
  go_ret
  exact ⟨rfl, HG.out⟩

end Go.Proofs.Ytelmeggcgocmlaa
