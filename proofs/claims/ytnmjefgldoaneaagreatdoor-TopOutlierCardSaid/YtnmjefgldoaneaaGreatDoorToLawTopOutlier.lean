/- TopOutlier: for every input the call returns true, and the arguments read as they did; the card: what the row lists is tied to the program's text. No condition. -/
import Derived.Test.YtnmjefgldoaneaaGreatDoorCards
import Derived.Test.YtnmjefgldoaneaaGreatDoorTie
import Derived.Test.YtnmjefgldoaneaaGreatDoorRowGTopOutlier
import Derived.SevenTiedAt
import Derived.Test.YtnmjefgldoaneaaGreatDoorToRowTopOutlier
namespace Go.Proofs.YtnmjefgldoaneaaGreatDoor.topOutlierLaw
set_option linter.all false
open Go
theorem holds : Rows.TopOutlierCardSaid :=
  Claim7.holds_tied_plain_at .later [] [.data, .data, .data, .data, .data, .data, .data] true (true, "ff183d044b9bd4543a70618fa809ea6ba1282391d89a9a2860384efdea9144bc") true
    row_holds (fun _ h => by cases h) (by kernel_rfl) (fun _ h => by cases h) topOutlier_row_tie rfl ⟨rfl, rfl⟩ (by kernel_rfl) rfl
    (fun f fn hf hfn => by
      obtain rfl : f = 3 := Option.some.inj (named_fn.symm.trans hf) |>.symm
      obtain rfl : fn = Tryz.f3 := (Option.some.inj (Tryz.func3.symm.trans hfn)).symm
      exact ⟨by kernel_rfl, fun j t ht => by
        rw [Tryz.params3] at ht
        have hm : t ∈ [22] := by simpa using Array.mem_of_getElem? ht
        have hall : ([22].all fun u => !Tryz.prog.wantsStandIn u) = true := by kernel_rfl
        exact (show Tryz.prog.wantsStandIn t = false by simpa using List.all_eq_true.1 hall t hm)⟩)
    (goesBy_none no_go rfl)
#print axioms holds
end Go.Proofs.YtnmjefgldoaneaaGreatDoor.topOutlierLaw
