/- MagnitudeTens: for every input the call returns true, and the arguments read as they did. No condition. -/
import Derived.Test.YtoconichgdlmcaaLaws32t
import Derived.Test.YtoconichgdlmcaaClose
namespace Go.Proofs.Ytoconichgdlmcaa.magnitudeTensLaw
set_option linter.all false
open Go.ChangeShapes Go.WideShapes Go.ChangeAt Go.RowKit

theorem own : ownKnob Try.prog.godebug = none := by kernel_rfl
theorem laidOut : laidOutB Try.prog = true := by kernel_rfl
theorem cellsInt : Try.prog.cellsOf 3 = 1 := by kernel_rfl
theorem read_ints : Try.prog.readableRec 22 = true ∧ 22 < Try.prog.types.size := ⟨by kernel_rfl, of_decide_eq_true (by kernel_rfl)⟩

end Go.Proofs.Ytoconichgdlmcaa.magnitudeTensLaw
