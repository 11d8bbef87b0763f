import Derived.Test.YtgaglgopbdfemaaGreatDoorLv
set_option linter.all false
set_option maxRecDepth 100000
set_option maxHeartbeats 0
namespace Go.Proofs.YtgaglgopbdfemaaGreatDoor.Liv
open Go Go.Proofs Go.Proofs.YtgaglgopbdfemaaGreatDoor.Evl
theorem run0 : probe (V1.map (·.1)) (B1.map (·.1)) (evC Tryz.prog tab EV 75 2000 (nthC 0 body) (layK V0) ⟨layB B0, 0, 16384⟩) = some (V1.map fun p => some p.2, B1.map fun p => some p.2, 0) := by kernel_rfl
end Go.Proofs.YtgaglgopbdfemaaGreatDoor.Liv
