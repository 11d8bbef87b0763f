/-
  DERIVED. GIVEN WITH THE SEED: THE CARDS: each row of YtgaglgopbdfemaaGreatDoorRows.lean that lists a variable, with what it lists TIED to the program's text (the seventh form; the later family's looks); each row that meets fmt, with fmt's text TOLD by the authors' own Lean function (tested against real Go, not proved from fmt's source: count such statements apart). THE CARD IS WHAT COUNTS. Prove the row's statement (the work); the ties are given (YtgaglgopbdfemaaGreatDoorTie.lean); close each card by the builder's one call (the guide's Derived/Test/ToyasCard.lean, 'card_holds'). Laid BY PROGRAM, IN A SANDBOX (cutbox-door.mjs). By AI agents, Wed Nov 11 2026. No macro, syntax, notation, axiom, sorry.
-/
import Derived.Test.YtgaglgopbdfemaaGreatDoorRows
import GoSem.ClaimSeven
namespace Go.Proofs.YtgaglgopbdfemaaGreatDoor
namespace Rows

/-- THE TIED CARD OF 'seismonettop.TopMoved'. -/
def topMovedCard : Claim7 := { stood := { row := topMovedRow, standIns := [], harness := (true, "32f64174adf8c1a8333650b8b3548b4620701ea385886b68e2f82eff1b417f26"), looks := true }, kinds := [], alts := [], laidByText := true, laidKinds := [.data, .data, .data, .data, .data, .data, .data], laidTests := true, laidLooks := .later }
def TopMovedCardSaid : Prop := Claim7.holds Tryz.pinned (.plain (OpenSpec.ofChange topMovedSpec)) topMovedCard

/-- THE SECOND FORM's CARD OF 'seismonettop.TopMoved'. -/
def topMovedUptoCard : Claim7 := { stood := { row := topMovedUptoRow, standIns := [], harness := (true, "32f64174adf8c1a8333650b8b3548b4620701ea385886b68e2f82eff1b417f26"), looks := true }, kinds := [], alts := [], laidByText := true, laidKinds := [.data, .data, .data, .data, .data, .data, .data], laidTests := true, laidLooks := .later }
def TopMovedUptoCardSaid : Prop := Claim7.holds Tryz.pinned (.plain (OpenSpec.upto topMovedSpec)) topMovedUptoCard
end Rows
end Go.Proofs.YtgaglgopbdfemaaGreatDoor
