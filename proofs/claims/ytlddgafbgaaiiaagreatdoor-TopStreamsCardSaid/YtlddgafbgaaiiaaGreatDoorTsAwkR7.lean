/- AwkR7 -/
import Derived.Test.YtlddgafbgaaiiaaGreatDoorTsAwkR
set_option linter.all false
set_option maxRecDepth 100000
set_option maxHeartbeats 0
namespace Go.Proofs.YtlddgafbgaaiiaaGreatDoor.Awk
open Go Go.Proofs Go.Proofs.YtlddgafbgaaiiaaGreatDoor Go.Proofs.YtlddgafbgaaiiaaGreatDoor.Evl
theorem run7 : probe (V8.map (·.1)) (B8.map (·.1)) (evC Tryz.prog tab EV 105 2000 (nthC 7 body) (layK V7) ⟨layB B7, 984, 16384⟩) = some (V8.map fun p => some p.2, B8.map fun p => some p.2, 1169) := by kernel_rfl
end Go.Proofs.YtlddgafbgaaiiaaGreatDoor.Awk
