/-
  DERIVED. GIVEN WITH THE SEED: THE CARDS: each row of YtnmjefgldoaneaaGreatDoorRows.lean that lists a variable, with what it lists TIED to the program's text (the seventh form; the later family's looks); each row that meets fmt, with fmt's text TOLD by the authors' own Lean function (tested against real Go, not proved from fmt's source: count such statements apart). THE CARD IS WHAT COUNTS. Prove the row's statement (the work); the ties are given (YtnmjefgldoaneaaGreatDoorTie.lean); close each card by the builder's one call (the guide's Derived/Test/ToyasCard.lean, 'card_holds'). Laid BY PROGRAM, IN A SANDBOX (cutbox-door.mjs). By AI agents, Wed Nov 11 2026. No macro, syntax, notation, axiom, sorry.
-/
import Derived.Test.YtnmjefgldoaneaaGreatDoorRows
import GoSem.ClaimSeven
namespace Go.Proofs.YtnmjefgldoaneaaGreatDoor
namespace Rows

/-- THE TIED CARD OF 'seismonettop.TopOutlier'. -/
def topOutlierCard : Claim7 := { stood := { row := topOutlierRow, standIns := [], harness := (true, "ff183d044b9bd4543a70618fa809ea6ba1282391d89a9a2860384efdea9144bc"), looks := true }, kinds := [], alts := [], laidByText := true, laidKinds := [.data, .data, .data, .data, .data, .data, .data], laidTests := true, laidLooks := .later }
def TopOutlierCardSaid : Prop := Claim7.holds Tryz.pinned (.plain (OpenSpec.ofChange topOutlierSpec)) topOutlierCard

/-- THE SECOND FORM's CARD OF 'seismonettop.TopOutlier'. -/
def topOutlierUptoCard : Claim7 := { stood := { row := topOutlierUptoRow, standIns := [], harness := (true, "ff183d044b9bd4543a70618fa809ea6ba1282391d89a9a2860384efdea9144bc"), looks := true }, kinds := [], alts := [], laidByText := true, laidKinds := [.data, .data, .data, .data, .data, .data, .data], laidTests := true, laidLooks := .later }
def TopOutlierUptoCardSaid : Prop := Claim7.holds Tryz.pinned (.plain (OpenSpec.upto topOutlierSpec)) topOutlierUptoCard
end Rows
end Go.Proofs.YtnmjefgldoaneaaGreatDoor
