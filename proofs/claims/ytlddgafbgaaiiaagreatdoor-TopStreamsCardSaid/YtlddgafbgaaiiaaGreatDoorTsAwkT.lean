/- AwkT -/
import Derived.Test.YtlddgafbgaaiiaaGreatDoorTsAwkB
set_option linter.all false
set_option maxRecDepth 100000
set_option maxHeartbeats 0
namespace Go.Proofs.YtlddgafbgaaiiaaGreatDoor.Awk
open Go Go.Proofs Go.Proofs.YtlddgafbgaaiiaaGreatDoor Go.Proofs.YtlddgafbgaaiiaaGreatDoor.Evl
theorem table_run : pureRes (evF Tryz.prog tab 2000 40 176 [] s0) = some (.agg (tblV.map (Value.int .i64)).toArray) := by kernel_rfl
end Go.Proofs.YtlddgafbgaaiiaaGreatDoor.Awk
