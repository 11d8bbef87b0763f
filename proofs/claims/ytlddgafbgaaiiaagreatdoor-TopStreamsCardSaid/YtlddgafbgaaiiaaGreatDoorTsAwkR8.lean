/- AwkR8 -/
import Derived.Test.YtlddgafbgaaiiaaGreatDoorTsAwkR
set_option linter.all false
set_option maxRecDepth 100000
set_option maxHeartbeats 0
namespace Go.Proofs.YtlddgafbgaaiiaaGreatDoor.Awk
open Go Go.Proofs Go.Proofs.YtlddgafbgaaiiaaGreatDoor Go.Proofs.YtlddgafbgaaiiaaGreatDoor.Evl
theorem run8 : probe (V9.map (·.1)) (B9.map (·.1)) (evC Tryz.prog tab EV 105 2000 (nthC 8 body) (layK V8) ⟨layB B8, 1169, 16384⟩) = some (V9.map fun p => some p.2, B9.map fun p => some p.2, 1223) := by kernel_rfl
end Go.Proofs.YtlddgafbgaaiiaaGreatDoor.Awk
