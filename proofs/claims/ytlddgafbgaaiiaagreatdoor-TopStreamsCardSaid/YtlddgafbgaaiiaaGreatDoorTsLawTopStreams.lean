/- TopStreams: for every input the call returns true, and the arguments read as they did; the card: what the row lists is tied to the program's text. No condition. -/
import Derived.Test.YtlddgafbgaaiiaaGreatDoorCards
import Derived.Test.YtlddgafbgaaiiaaGreatDoorTie
import Derived.Test.YtlddgafbgaaiiaaGreatDoorRowGTopStreams
import Derived.SevenTiedAt
import Derived.Test.YtlddgafbgaaiiaaGreatDoorTsRowTopStreams
namespace Go.Proofs.YtlddgafbgaaiiaaGreatDoor.topStreamsLaw
set_option linter.all false
open Go
theorem holds : Rows.TopStreamsCardSaid :=
  Claim7.holds_tied_plain_at .later [] [.data, .pinned] true (true, "331b25890f6065aa36628743c1f7903030ded4de467fd687b46976d44b6d4c5a") false
    row_holds (fun _ h => by cases h) (by kernel_rfl) (fun _ h => by cases h) topStreams_row_tie rfl ⟨rfl, rfl⟩ (by kernel_rfl) rfl
    (fun f fn hf hfn => by
      obtain rfl : f = 3 := Option.some.inj (named_fn.symm.trans hf) |>.symm
      obtain rfl : fn = Tryz.f3 := (Option.some.inj (Tryz.func3.symm.trans hfn)).symm
      exact ⟨by kernel_rfl, fun j t ht => by
        rw [Tryz.params3] at ht
        have hm : t ∈ [22] := by have h := Array.mem_of_getElem? ht; simp at h ⊢; first | exact h | exact h.symm
        have hall : ([22].all fun u => !Tryz.prog.wantsStandIn u) = true := by kernel_rfl
        exact (show Tryz.prog.wantsStandIn t = false by simpa using List.all_eq_true.1 hall t hm)⟩)
    (goesBy_none no_go rfl)
#print axioms holds
end Go.Proofs.YtlddgafbgaaiiaaGreatDoor.topStreamsLaw
