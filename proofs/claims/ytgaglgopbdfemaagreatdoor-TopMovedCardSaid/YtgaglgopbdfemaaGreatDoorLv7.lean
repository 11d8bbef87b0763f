import Derived.Test.YtgaglgopbdfemaaGreatDoorLv
set_option linter.all false
set_option maxRecDepth 100000
set_option maxHeartbeats 0
namespace Go.Proofs.YtgaglgopbdfemaaGreatDoor.Liv
open Go Go.Proofs Go.Proofs.YtgaglgopbdfemaaGreatDoor.Evl
theorem run7 : probe (V8.map (·.1)) (B8.map (·.1)) (evC Tryz.prog tab EV 75 2000 (nthC 6 body) (layK V7) ⟨layB B7, 2530, 16384⟩) = some (V8.map fun p => some p.2, B8.map fun p => some p.2, 3062) := by kernel_rfl
end Go.Proofs.YtgaglgopbdfemaaGreatDoor.Liv
