import Derived.Test.YtgaglgopbdfemaaGreatDoorLv
set_option linter.all false
set_option maxRecDepth 100000
set_option maxHeartbeats 0
namespace Go.Proofs.YtgaglgopbdfemaaGreatDoor.Liv
open Go Go.Proofs Go.Proofs.YtgaglgopbdfemaaGreatDoor.Evl
theorem run5 : probeS (V6.map (·.1)) (B6.map (·.1)) (stepsX Tryz.prog tab EV 75 (opsOf (nthC 5 body)) (((opsOf (nthC 5 body)).toList.drop 0).take 4) (layK V5) ⟨layB B5, 1875, 16384⟩) = some (V6.map fun p => some p.2, B6.map fun p => some p.2, 2295) := by kernel_rfl
end Go.Proofs.YtgaglgopbdfemaaGreatDoor.Liv
