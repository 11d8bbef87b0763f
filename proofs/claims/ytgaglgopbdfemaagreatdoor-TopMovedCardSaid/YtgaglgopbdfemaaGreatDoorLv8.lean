import Derived.Test.YtgaglgopbdfemaaGreatDoorLv
set_option linter.all false
set_option maxRecDepth 100000
set_option maxHeartbeats 0
namespace Go.Proofs.YtgaglgopbdfemaaGreatDoor.Liv
open Go Go.Proofs Go.Proofs.YtgaglgopbdfemaaGreatDoor.Evl
theorem run8 : probe (V9.map (·.1)) (B9.map (·.1)) (evC Tryz.prog tab EV 75 2000 (nthC 7 body) (layK V8) ⟨layB B8, 3062, 16384⟩) = some (V9.map fun p => some p.2, B9.map fun p => some p.2, 3972) := by kernel_rfl
end Go.Proofs.YtgaglgopbdfemaaGreatDoor.Liv
