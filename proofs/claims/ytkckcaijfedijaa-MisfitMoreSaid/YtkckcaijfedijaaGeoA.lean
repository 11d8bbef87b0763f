/- Layer 24: the walks of the program's functions. -/
import Derived.Test.YtkckcaijfedijaaInts
import Derived.Test.YtkckcaijfedijaaShelf
namespace Go.Proofs.Ytkckcaijfedijaa
set_option linter.all false
open Go.RowKit

def vP (x y z : Int) : Bool := decide (-1048576 ≤ x) && decide (x ≤ 1048576) && decide (-1048576 ≤ y) && decide (y ≤ 1048576) && decide (-16384 ≤ z) && decide (z ≤ 1048576)

theorem tri_ix0 (a b c : Int) (w : World) : (Instr.index 104 (.agg #[.int .i64 a, .int .i64 b, .int .i64 c]) (.int .i64 0)).run Try.prog w = .ok (.int .i64 a) w := by kernel_rfl
theorem tri_ix1 (a b c : Int) (w : World) : (Instr.index 104 (.agg #[.int .i64 a, .int .i64 b, .int .i64 c]) (.int .i64 1)).run Try.prog w = .ok (.int .i64 b) w := by kernel_rfl
theorem tri_ix2 (a b c : Int) (w : World) : (Instr.index 104 (.agg #[.int .i64 a, .int .i64 b, .int .i64 c]) (.int .i64 2)).run Try.prog w = .ok (.int .i64 c) w := by kernel_rfl
attribute [go_sem] tri_ix0 tri_ix1 tri_ix2

theorem three (x lo hi : Int) : x < lo ∨ (lo ≤ x ∧ hi < x) ∨ (lo ≤ x ∧ x ≤ hi) := by omega

set_option maxHeartbeats 1000000 in
theorem valid_any (x y z : Int) (w : World) :
    Calls Try.prog 65 #[.agg #[.int .i64 x, .int .i64 y, .int .i64 z]] w fun e w' => e = .returned (.bool (vP x y z)) ∧ w.grownBy w' none := by
  rcases three x (-1048576) 1048576 with hx | ⟨hx1, hx2⟩ | ⟨hx1, hx2⟩
  rotate_left 2
  rcases three y (-1048576) 1048576 with hy | ⟨hy1, hy2⟩ | ⟨hy1, hy2⟩
  rotate_left 2
  rcases three z (-16384) 1048576 with hz | ⟨hz1, hz2⟩ | ⟨hz1, hz2⟩
  all_goals
    go_enter Try.func65, Try.ntmps65
    go_wp2
    refine wp_loop_rounds 4 ?_
    repeat any_goals (rw [rounds_succ]; go_wp2)
  all_goals
    go_ret
    refine ⟨ret_bool (by unfold vP; simp; omega), ?_⟩
    repeat (first | exact gb_refl _ _ | refine gb_alloc ?_ _)

theorem of_any (x y z : Int) (w : World) :
    Calls Try.prog 78 #[.agg #[.int .i64 x, .int .i64 y, .int .i64 z]] w fun e w' => e = .returned (.agg #[.int .i64 x, .int .i64 y, .int .i64 z]) ∧ w.grownBy w' none := by
  go_enter Try.func78, Try.ntmps78
  go_wp2
  refine bodyPost_ret (v := .agg #[.int .i64 x, .int .i64 y, .int .i64 z]) (by simp [results, Try.results78, go_sem]) rfl ⟨rfl, ?_⟩
  repeat (first | exact gb_refl _ _ | refine gb_alloc ?_ _)

theorem position_any (x y z : Int) (w : World) :
    Calls Try.prog 80 #[.agg #[.int .i64 x, .int .i64 y, .int .i64 z]] w fun e w' => e = .returned (.agg #[.int .i64 x, .int .i64 y, .int .i64 z]) ∧ w.grownBy w' none := by
  go_enter Try.func80, Try.ntmps80
  go_wp2
  refine bodyPost_ret (v := .agg #[.int .i64 x, .int .i64 y, .int .i64 z]) (by simp [results, Try.results80, go_sem]) rfl ⟨rfl, ?_⟩
  repeat (first | exact gb_refl _ _ | refine gb_alloc ?_ _)

end Go.Proofs.Ytkckcaijfedijaa
