/- TopMoved: for every input the call returns true, and the arguments read as they did; the card: what the row lists is tied to the program's text. No condition. -/
import Derived.Test.YtgaglgopbdfemaaGreatDoorCards
import Derived.Test.YtgaglgopbdfemaaGreatDoorTie
import Derived.Test.YtgaglgopbdfemaaGreatDoorRowGTopMoved
import Derived.SevenTiedAt
import Derived.Test.YtgaglgopbdfemaaGreatDoorTmRowTopMoved
namespace Go.Proofs.YtgaglgopbdfemaaGreatDoor.topMovedLaw
set_option linter.all false
open Go
theorem holds : Rows.TopMovedCardSaid :=
  Claim7.holds_tied_plain_at .later [] [.data, .data, .data, .data, .data, .data, .data] true (true, "32f64174adf8c1a8333650b8b3548b4620701ea385886b68e2f82eff1b417f26") true
    row_holds (fun _ h => by cases h) (by kernel_rfl) (fun _ h => by cases h) topMoved_row_tie rfl ⟨rfl, rfl⟩ (by kernel_rfl) rfl
    (fun f fn hf hfn => by
      obtain rfl : f = 3 := Option.some.inj (named_fn.symm.trans hf) |>.symm
      obtain rfl : fn = Tryz.f3 := (Option.some.inj (Tryz.func3.symm.trans hfn)).symm
      exact ⟨by kernel_rfl, fun j t ht => by
        rw [Tryz.params3] at ht
        have hm : t ∈ [3, 22] := by have h := Array.mem_of_getElem? ht; simp at h ⊢; first | exact h | exact h.symm
        have hall : ([3, 22].all fun u => !Tryz.prog.wantsStandIn u) = true := by kernel_rfl
        exact (show Tryz.prog.wantsStandIn t = false by simpa using List.all_eq_true.1 hall t hm)⟩)
    (goesBy_none no_go rfl)
#print axioms holds
end Go.Proofs.YtgaglgopbdfemaaGreatDoor.topMovedLaw
