/- AwkR9 -/
import Derived.Test.YtlddgafbgaaiiaaGreatDoorTsAwkR
set_option linter.all false
set_option maxRecDepth 100000
set_option maxHeartbeats 0
namespace Go.Proofs.YtlddgafbgaaiiaaGreatDoor.Awk
open Go Go.Proofs Go.Proofs.YtlddgafbgaaiiaaGreatDoor Go.Proofs.YtlddgafbgaaiiaaGreatDoor.Evl
theorem run9 : probe (V10.map (·.1)) (B10.map (·.1)) (evC Tryz.prog tab EV 105 2000 (nthC 9 body) (layK V9) ⟨layB B9, 1223, 16384⟩) = some (V10.map fun p => some p.2, B10.map fun p => some p.2, 1329) := by kernel_rfl
end Go.Proofs.YtlddgafbgaaiiaaGreatDoor.Awk
