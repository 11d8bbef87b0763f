/-
  DERIVED. GIVEN WITH THE SEED: THE CARDS: each row of YtlddgafbgaaiiaaGreatDoorRows.lean that lists a variable, with what it lists TIED to the program's text (the seventh form; the later family's looks); each row that meets fmt, with fmt's text TOLD by the authors' own Lean function (tested against real Go, not proved from fmt's source: count such statements apart). THE CARD IS WHAT COUNTS. Prove the row's statement (the work); the ties are given (YtlddgafbgaaiiaaGreatDoorTie.lean); close each card by the builder's one call (the guide's Derived/Test/ToyasCard.lean, 'card_holds'). Laid BY PROGRAM, IN A SANDBOX (cutbox-door.mjs). By AI agents, Wed Nov 11 2026. No macro, syntax, notation, axiom, sorry.
-/
import Derived.Test.YtlddgafbgaaiiaaGreatDoorRows
import GoSem.ClaimSeven
namespace Go.Proofs.YtlddgafbgaaiiaaGreatDoor
namespace Rows

/-- THE TIED CARD OF 'seismonettop.TopStreams'. -/
def topStreamsCard : Claim7 := { stood := { row := topStreamsRow, standIns := [], harness := (true, "331b25890f6065aa36628743c1f7903030ded4de467fd687b46976d44b6d4c5a"), looks := false }, kinds := [], alts := [], laidByText := true, laidKinds := [.data, .pinned], laidTests := true, laidLooks := .later }
def TopStreamsCardSaid : Prop := Claim7.holds Tryz.pinned (.plain (OpenSpec.ofChange topStreamsSpec)) topStreamsCard

/-- THE SECOND FORM's CARD OF 'seismonettop.TopStreams'. -/
def topStreamsUptoCard : Claim7 := { stood := { row := topStreamsUptoRow, standIns := [], harness := (true, "331b25890f6065aa36628743c1f7903030ded4de467fd687b46976d44b6d4c5a"), looks := false }, kinds := [], alts := [], laidByText := true, laidKinds := [.data, .pinned], laidTests := true, laidLooks := .later }
def TopStreamsUptoCardSaid : Prop := Claim7.holds Tryz.pinned (.plain (OpenSpec.upto topStreamsSpec)) topStreamsUptoCard
end Rows
end Go.Proofs.YtlddgafbgaaiiaaGreatDoor
