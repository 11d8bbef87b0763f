/- geometry.Compare; reference 24's Hull; keep.Bent. -/
import Derived.Test.YtoconichgdlmcaaRef
import Derived.Test.YtoconichgdlmcaaGeoS
namespace Go.Proofs.Ytoconichgdlmcaa
set_option linter.all false
open Go.RowKit Rg

theorem isNaN_any (a : Int) (w : World) :
    Calls Try.prog 86 #[.int .i64 a] w fun e w' => e = .returned (.bool false) ∧ w = w' := by
  go_enter Try.func86, Try.ntmps86
  go_wp2
  go_ret
  exact ⟨rfl, rfl⟩
end Go.Proofs.Ytoconichgdlmcaa
