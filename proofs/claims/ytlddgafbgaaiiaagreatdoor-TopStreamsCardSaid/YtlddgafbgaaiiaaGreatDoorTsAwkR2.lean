/- AwkR2 -/
import Derived.Test.YtlddgafbgaaiiaaGreatDoorTsAwkR
set_option linter.all false
set_option maxRecDepth 100000
set_option maxHeartbeats 0
namespace Go.Proofs.YtlddgafbgaaiiaaGreatDoor.Awk
open Go Go.Proofs Go.Proofs.YtlddgafbgaaiiaaGreatDoor Go.Proofs.YtlddgafbgaaiiaaGreatDoor.Evl
theorem run2 : probe (V3.map (·.1)) (B3.map (·.1)) (evC Tryz.prog tab EV 105 2000 (nthC 2 body) (layK V2) ⟨layB B2, 2, 16384⟩) = some (V3.map fun p => some p.2, B3.map fun p => some p.2, 118) := by kernel_rfl
end Go.Proofs.YtlddgafbgaaiiaaGreatDoor.Awk
