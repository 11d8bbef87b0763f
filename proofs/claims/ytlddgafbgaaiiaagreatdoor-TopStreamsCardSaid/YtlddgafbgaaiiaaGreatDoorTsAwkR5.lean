/- AwkR5 -/
import Derived.Test.YtlddgafbgaaiiaaGreatDoorTsAwkR
set_option linter.all false
set_option maxRecDepth 100000
set_option maxHeartbeats 0
namespace Go.Proofs.YtlddgafbgaaiiaaGreatDoor.Awk
open Go Go.Proofs Go.Proofs.YtlddgafbgaaiiaaGreatDoor Go.Proofs.YtlddgafbgaaiiaaGreatDoor.Evl
theorem run5 : probe (V6.map (·.1)) (B6.map (·.1)) (evC Tryz.prog tab EV 105 2000 (nthC 5 body) (layK V5) ⟨layB B5, 151, 16384⟩) = some (V6.map fun p => some p.2, B6.map fun p => some p.2, 984) := by kernel_rfl
end Go.Proofs.YtlddgafbgaaiiaaGreatDoor.Awk
