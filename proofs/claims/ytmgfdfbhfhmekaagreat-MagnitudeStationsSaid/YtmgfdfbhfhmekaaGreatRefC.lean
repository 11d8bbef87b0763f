/- geometry.Compare; reference 24's Hull; keep.Bent. -/
import Derived.Test.YtmgfdfbhfhmekaaGreatRef
import Derived.Test.YtmgfdfbhfhmekaaGreatGeoS
namespace Go.Proofs.YtmgfdfbhfhmekaaGreat
set_option linter.all false
open Go.RowKit Rg

theorem isNaN_any (a : Int) (w : World) :
    Calls Tryz.prog 120 #[.int .i64 a] w fun e w' => e = .returned (.bool false) ∧ w = w' := by
  go_enter Tryz.func120, Tryz.ntmps120
  go_wp2
  go_ret
  exact ⟨rfl, rfl⟩
end Go.Proofs.YtmgfdfbhfhmekaaGreat
