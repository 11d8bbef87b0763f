import Derived.Test.YtgaglgopbdfemaaGreatDoorLv
set_option linter.all false
set_option maxRecDepth 100000
set_option maxHeartbeats 0
namespace Go.Proofs.YtgaglgopbdfemaaGreatDoor.Liv
open Go Go.Proofs Go.Proofs.YtgaglgopbdfemaaGreatDoor.Evl
theorem run6 : probeS (V7.map (·.1)) (B7.map (·.1)) (stepsX Tryz.prog tab EV 75 (opsOf (nthC 5 body)) (((opsOf (nthC 5 body)).toList.drop 4).take 7) (layK V6) ⟨layB B6, 2295, 16384⟩) = some (V7.map fun p => some p.2, B7.map fun p => some p.2, 2530) := by kernel_rfl
end Go.Proofs.YtgaglgopbdfemaaGreatDoor.Liv
