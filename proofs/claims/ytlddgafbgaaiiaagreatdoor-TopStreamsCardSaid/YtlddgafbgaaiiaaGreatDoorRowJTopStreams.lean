import Derived.Test.YtlddgafbgaaiiaaGreatDoorRows
import Derived.Test.YtlddgafbgaaiiaaGreatDoorClo
import Derived.Test.YtlddgafbgaaiiaaGreatDoorChecked
import Derived.Test.YtlddgafbgaaiiaaGreatDoorRowLTopStreams
import Derived.Test.YtlddgafbgaaiiaaGreatDoorRowMTopStreams
import Derived.Test.YtlddgafbgaaiiaaGreatDoorRowHTopStreams
import Derived.Test.YtlddgafbgaaiiaaGreatDoorRowETopStreams
import Derived.JoinedOf
import Derived.KernelRfl
/- What the row says of the program as a whole: each fact by the kernel. -/
set_option linter.all false
set_option maxRecDepth 100000
namespace Go.Proofs.YtlddgafbgaaiiaaGreatDoor.topStreamsLaw
open Go
theorem k_in : (Rows.topStreamsRow.inPlace == Tryz.prog.inPlace 3) = true := by unfold Program.inPlace; rw [closure_top]; kernel_rfl
theorem k_un : (Rows.topStreamsRow.unfollowed == Tryz.prog.unfollowed 3) = true := by unfold Program.unfollowed; rw [closure_top]; kernel_rfl
theorem k_re : (Rows.topStreamsRow.recurses == Tryz.prog.recurses 3) = true := by unfold Program.recurses Program.unfollowed; rw [closure_top]; kernel_rfl
theorem k_na : (Rows.topStreamsRow.named == Tryz.prog.varsNamed 3) = true := by unfold Program.varsNamed; rw [closure_top]; kernel_rfl
theorem joined : joinedFacts Tryz.prog 3 Tryz.f3 Rows.topStreamsSpec Rows.topStreamsRow = true := by unfold joinedFacts; rw [k_in, k_un, k_re, k_na, laidOut, k_ma, k_pk, k_sh, k_me]; kernel_rfl
end Go.Proofs.YtlddgafbgaaiiaaGreatDoor.topStreamsLaw
