import Derived.Test.YtgaglgopbdfemaaGreatDoorLv
set_option linter.all false
set_option maxRecDepth 100000
set_option maxHeartbeats 0
namespace Go.Proofs.YtgaglgopbdfemaaGreatDoor.Liv
open Go Go.Proofs Go.Proofs.YtgaglgopbdfemaaGreatDoor.Evl
theorem run2 : probe (V3.map (·.1)) (B3.map (·.1)) (evC Tryz.prog tab EV 75 2000 (nthC 2 body) (layK V2) ⟨layB B2, 4, 16384⟩) = some (V3.map fun p => some p.2, B3.map fun p => some p.2, 963) := by kernel_rfl
end Go.Proofs.YtgaglgopbdfemaaGreatDoor.Liv
