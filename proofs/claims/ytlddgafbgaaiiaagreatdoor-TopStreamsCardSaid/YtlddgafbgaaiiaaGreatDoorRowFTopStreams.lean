import Derived.Test.YtlddgafbgaaiiaaGreatDoorRows
import Derived.JoinedOf
import Derived.KernelRfl
/- The law's function by its name. -/
set_option linter.all false
set_option maxRecDepth 100000
namespace Go.Proofs.YtlddgafbgaaiiaaGreatDoor.topStreamsLaw
open Go
theorem named_fn : Tryz.prog.funcNamed Rows.topStreamsRow.func = some 3 := by kernel_rfl
end Go.Proofs.YtlddgafbgaaiiaaGreatDoor.topStreamsLaw
