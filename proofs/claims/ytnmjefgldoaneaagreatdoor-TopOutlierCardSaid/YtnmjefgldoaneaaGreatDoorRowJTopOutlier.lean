import Derived.Test.YtnmjefgldoaneaaGreatDoorRows
import Derived.Test.YtnmjefgldoaneaaGreatDoorClo
import Derived.Test.YtnmjefgldoaneaaGreatDoorChecked
import Derived.Test.YtnmjefgldoaneaaGreatDoorRowLTopOutlier
import Derived.Test.YtnmjefgldoaneaaGreatDoorRowMTopOutlier
import Derived.Test.YtnmjefgldoaneaaGreatDoorRowHTopOutlier
import Derived.Test.YtnmjefgldoaneaaGreatDoorRowETopOutlier
import Derived.JoinedOf
import Derived.KernelRfl
/- What the row says of the program as a whole: each fact by the kernel. -/
set_option linter.all false
set_option maxRecDepth 100000
namespace Go.Proofs.YtnmjefgldoaneaaGreatDoor.topOutlierLaw
open Go
theorem k_in : (Rows.topOutlierRow.inPlace == Tryz.prog.inPlace 3) = true := by unfold Program.inPlace; rw [closure_top]; kernel_rfl
theorem k_un : (Rows.topOutlierRow.unfollowed == Tryz.prog.unfollowed 3) = true := by unfold Program.unfollowed; rw [closure_top]; kernel_rfl
theorem k_re : (Rows.topOutlierRow.recurses == Tryz.prog.recurses 3) = true := by unfold Program.recurses Program.unfollowed; rw [closure_top]; kernel_rfl
theorem k_na : (Rows.topOutlierRow.named == Tryz.prog.varsNamed 3) = true := by unfold Program.varsNamed; rw [closure_top]; kernel_rfl
theorem joined : joinedFacts Tryz.prog 3 Tryz.f3 Rows.topOutlierSpec Rows.topOutlierRow = true := by unfold joinedFacts; rw [k_in, k_un, k_re, k_na, laidOut, k_ma, k_pk, k_sh, k_me]; kernel_rfl
end Go.Proofs.YtnmjefgldoaneaaGreatDoor.topOutlierLaw
