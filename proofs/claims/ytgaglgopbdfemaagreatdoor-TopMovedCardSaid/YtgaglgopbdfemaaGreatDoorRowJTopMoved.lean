import Derived.Test.YtgaglgopbdfemaaGreatDoorRows
import Derived.Test.YtgaglgopbdfemaaGreatDoorClo
import Derived.Test.YtgaglgopbdfemaaGreatDoorChecked
import Derived.Test.YtgaglgopbdfemaaGreatDoorRowLTopMoved
import Derived.Test.YtgaglgopbdfemaaGreatDoorRowMTopMoved
import Derived.Test.YtgaglgopbdfemaaGreatDoorRowHTopMoved
import Derived.Test.YtgaglgopbdfemaaGreatDoorRowETopMoved
import Derived.JoinedOf
import Derived.KernelRfl
/- What the row says of the program as a whole: each fact by the kernel. -/
set_option linter.all false
set_option maxRecDepth 100000
namespace Go.Proofs.YtgaglgopbdfemaaGreatDoor.topMovedLaw
open Go
theorem k_in : (Rows.topMovedRow.inPlace == Tryz.prog.inPlace 3) = true := by unfold Program.inPlace; rw [closure_top]; kernel_rfl
theorem k_un : (Rows.topMovedRow.unfollowed == Tryz.prog.unfollowed 3) = true := by unfold Program.unfollowed; rw [closure_top]; kernel_rfl
theorem k_re : (Rows.topMovedRow.recurses == Tryz.prog.recurses 3) = true := by unfold Program.recurses Program.unfollowed; rw [closure_top]; kernel_rfl
theorem k_na : (Rows.topMovedRow.named == Tryz.prog.varsNamed 3) = true := by unfold Program.varsNamed; rw [closure_top]; kernel_rfl
theorem joined : joinedFacts Tryz.prog 3 Tryz.f3 Rows.topMovedSpec Rows.topMovedRow = true := by unfold joinedFacts; rw [k_in, k_un, k_re, k_na, laidOut, k_ma, k_pk, k_sh, k_me]; kernel_rfl
end Go.Proofs.YtgaglgopbdfemaaGreatDoor.topMovedLaw
