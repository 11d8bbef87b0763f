import Derived.Test.YtgaglgopbdfemaaGreatDoorLv
set_option linter.all false
set_option maxRecDepth 100000
set_option maxHeartbeats 0
namespace Go.Proofs.YtgaglgopbdfemaaGreatDoor.Liv
open Go Go.Proofs Go.Proofs.YtgaglgopbdfemaaGreatDoor.Evl
theorem run3 : probe (V4.map (·.1)) (B4.map (·.1)) (evC Tryz.prog tab EV 75 2000 (nthC 3 body) (layK V3) ⟨layB B3, 963, 16384⟩) = some (V4.map fun p => some p.2, B4.map fun p => some p.2, 1874) := by kernel_rfl
end Go.Proofs.YtgaglgopbdfemaaGreatDoor.Liv
