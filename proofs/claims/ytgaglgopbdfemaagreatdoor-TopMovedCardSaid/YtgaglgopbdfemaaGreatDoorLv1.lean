import Derived.Test.YtgaglgopbdfemaaGreatDoorLv
set_option linter.all false
set_option maxRecDepth 100000
set_option maxHeartbeats 0
namespace Go.Proofs.YtgaglgopbdfemaaGreatDoor.Liv
open Go Go.Proofs Go.Proofs.YtgaglgopbdfemaaGreatDoor.Evl
theorem run1 : probe (V2.map (·.1)) (B2.map (·.1)) (evC Tryz.prog tab EV 75 2000 (nthC 1 body) (layK V1) ⟨layB B1, 0, 16384⟩) = some (V2.map fun p => some p.2, B2.map fun p => some p.2, 4) := by kernel_rfl
end Go.Proofs.YtgaglgopbdfemaaGreatDoor.Liv
