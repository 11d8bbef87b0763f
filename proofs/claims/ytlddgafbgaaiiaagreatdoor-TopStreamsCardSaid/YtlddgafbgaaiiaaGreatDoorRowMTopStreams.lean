import Derived.Test.YtlddgafbgaaiiaaGreatDoorRows
import Derived.JoinedOf
import Derived.KernelRfl
set_option linter.all false
set_option maxRecDepth 100000
namespace Go.Proofs.YtlddgafbgaaiiaaGreatDoor.topStreamsLaw
open Go
theorem k_ma : mapsRowed Tryz.prog = true := by kernel_rfl
end Go.Proofs.YtlddgafbgaaiiaaGreatDoor.topStreamsLaw
