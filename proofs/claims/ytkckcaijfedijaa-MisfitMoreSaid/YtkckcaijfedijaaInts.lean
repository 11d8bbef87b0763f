/- Walks of small functions on integers: keep.Mod. -/
import Derived.Test.YtkckcaijfedijaaRows
import Derived.Test.YtkckcaijfedijaaGen
namespace Go.Proofs.Ytkckcaijfedijaa
set_option linter.all false
open Go.RowKit

theorem mod_any (x n : Int) (w : World) (hn : n ≤ 9223372036854775807) (h1 : 1 ≤ n) :
    Calls Try.prog 44 #[.int .i64 x, .int .i64 n] w fun e w' => e = .returned (.int .i64 (x % n)) ∧ w = w' := by
  go_enter Try.func44, Try.ntmps44
  go_wp2
  · go_ret
    have h : x.tmod n < 0 := by assumption
    have h2 := tmod_neg_iff x n h1 h
    have h3 := Int.emod_nonneg x (by omega : n ≠ 0)
    have h4 := Int.emod_lt_of_pos x (by omega : 0 < n)
    exact ⟨ret_int (by rw [h2, IntWalk.wrap64_in _ (by omega)]), rfl⟩
  · go_ret
    exact ⟨ret_int (tmod_nonneg_iff x n h1 (by assumption)), rfl⟩
end Go.Proofs.Ytkckcaijfedijaa
