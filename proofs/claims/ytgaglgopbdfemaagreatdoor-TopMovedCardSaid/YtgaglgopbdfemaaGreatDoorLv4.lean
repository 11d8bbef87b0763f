import Derived.Test.YtgaglgopbdfemaaGreatDoorLv
set_option linter.all false
set_option maxRecDepth 100000
set_option maxHeartbeats 0
namespace Go.Proofs.YtgaglgopbdfemaaGreatDoor.Liv
open Go Go.Proofs Go.Proofs.YtgaglgopbdfemaaGreatDoor.Evl
theorem run4 : probe (V5.map (·.1)) (B5.map (·.1)) (evC Tryz.prog tab EV 75 2000 (nthC 4 body) (layK V4) ⟨layB B4, 1874, 16384⟩) = some (V5.map fun p => some p.2, B5.map fun p => some p.2, 1875) := by kernel_rfl
end Go.Proofs.YtgaglgopbdfemaaGreatDoor.Liv
