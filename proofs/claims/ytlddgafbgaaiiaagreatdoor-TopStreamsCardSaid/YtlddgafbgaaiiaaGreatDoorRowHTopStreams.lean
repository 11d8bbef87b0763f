import Derived.Test.YtlddgafbgaaiiaaGreatDoorRows
import Derived.JoinedOf
import Derived.KernelRfl
set_option linter.all false
set_option maxRecDepth 100000
namespace Go.Proofs.YtlddgafbgaaiiaaGreatDoor.topStreamsLaw
open Go
theorem k_sh : Tryz.prog.stopsHeard = true := by kernel_rfl
theorem k_pk : (Rows.topStreamsRow.plainKeys == Tryz.prog.plainKeys) = true := by kernel_rfl
end Go.Proofs.YtlddgafbgaaiiaaGreatDoor.topStreamsLaw
