/-
  No cell of these rows narrows 'for every input' (looked for: loops, veiled, ifaces, maps, wideKeys, modest, calm, conditions, laid).
  DERIVED. THE GIVEN ROWS OF THIS SEAT. 3 by the template 'for every input the law returns true; each argument reads behind the call as it read before'; 0 by the template 'total and deterministic' (their statements: YtelmeggcgocmlaaTotals.lean).
  GIVEN WITH THE SEED: the statements are not yours to turn. If you find one false, say at which input.
  Laid BY PROGRAM, IN A SANDBOX (cutbox-rows.mjs): the forced cells as the released guide's own fill.sh prints them over the translation 407ccc259b7fe905… (all of the seat's roots in one cut). By AI agents, Wed Nov 11 2026. No macro, syntax, notation, axiom, sorry.
-/
import Derived.Test.YtelmeggcgocmlaaChecked
import GoSem.Claim
import GoSem.ClaimJoined
import GoSem.ClaimMapViews
import Derived.JoinedTies
import Derived.KernelRfl
namespace Go.Proofs.Ytelmeggcgocmlaa
/- THE CELL 'sum', in the pinned program and in every row, IS THE sha256 OF THE DUMP (.gsa) THAT YtelmeggcgocmlaaProg.lean LOADS. Nothing in Lean hashes anything: it is a label: what it is worth is what the hold of that sum in a sandbox is worth. -/
noncomputable def Try.pinned : Pinned := { name := "ytelmeggcgocmlaa", sum := "407ccc259b7fe905660d9208ad99b6e4d7bacf06e402b41909db27fbd8aaa789", checked := Try.checked }
namespace Rows
def none {H : Type} : Left H := { results := [], args := [] }

/-- 'seismonetlaw24.GeometryBoxes': WHATEVER THE INPUT: true; the input reads as it did. -/
def geometryBoxesSpec : ChangeSpec := { name := "geometryBoxes", fn := fun _ => fun
  | [d1, d2, d3, d4] => { results := [.lit (.bool true)], args := [d1, d2, d3, d4] }
  | _ => none }
def geometryBoxesRow : OpenClaim := { program := "ytelmeggcgocmlaa", sum := "407ccc259b7fe905660d9208ad99b6e4d7bacf06e402b41909db27fbd8aaa789", func := "seismonet/seismonetlaw24.GeometryBoxes", spec := "geometryBoxes", unfollowed := true, recurses := true, apart := false }
def GeometryBoxesSaid : Prop := geometryBoxesRow.holds Try.pinned (OpenSpec.ofChange geometryBoxesSpec)

/-- ITS FALSE NEIGHBOUR: 'it returns false'. Refute it at one input. -/
def geometryBoxesWrong : ChangeSpec := { name := "geometryBoxes", fn := fun _ => fun
  | [d1, d2, d3, d4] => { results := [.lit (.bool false)], args := [d1, d2, d3, d4] }
  | _ => none }
def GeometryBoxesWrongFalsely : Prop := geometryBoxesRow.holds Try.pinned (OpenSpec.ofChange geometryBoxesWrong)

/-- 'seismonetlaw25.TravelTables': WHATEVER THE INPUT: true; the input reads as it did. -/
def travelTablesSpec : ChangeSpec := { name := "travelTables", fn := fun _ => fun
  | [d1, d2, d3, d4, d5, d6, d7] => { results := [.lit (.bool true)], args := [d1, d2, d3, d4, d5, d6, d7] }
  | _ => none }
def travelTablesRow : OpenClaim := { program := "ytelmeggcgocmlaa", sum := "407ccc259b7fe905660d9208ad99b6e4d7bacf06e402b41909db27fbd8aaa789", func := "seismonet/seismonetlaw25.TravelTables", spec := "travelTables", unfollowed := true, recurses := true, apart := false }
def TravelTablesSaid : Prop := travelTablesRow.holds Try.pinned (OpenSpec.ofChange travelTablesSpec)

/-- ITS FALSE NEIGHBOUR: 'it returns false'. Refute it at one input. -/
def travelTablesWrong : ChangeSpec := { name := "travelTables", fn := fun _ => fun
  | [d1, d2, d3, d4, d5, d6, d7] => { results := [.lit (.bool false)], args := [d1, d2, d3, d4, d5, d6, d7] }
  | _ => none }
def TravelTablesWrongFalsely : Prop := travelTablesRow.holds Try.pinned (OpenSpec.ofChange travelTablesWrong)

/-- 'seismonetlaw31.LogarithmTrue': WHATEVER THE INPUT: true; the input reads as it did. -/
def logarithmTrueSpec : ChangeSpec := { name := "logarithmTrue", fn := fun _ => fun
  | [d] => { results := [.lit (.bool true)], args := [d] }
  | _ => none }
def logarithmTrueRow : OpenClaim := { program := "ytelmeggcgocmlaa", sum := "407ccc259b7fe905660d9208ad99b6e4d7bacf06e402b41909db27fbd8aaa789", func := "seismonet/seismonetlaw31.LogarithmTrue", spec := "logarithmTrue", unfollowed := true, recurses := true, apart := false }
def LogarithmTrueSaid : Prop := logarithmTrueRow.holds Try.pinned (OpenSpec.ofChange logarithmTrueSpec)

/-- ITS FALSE NEIGHBOUR: 'it returns false'. Refute it at one input. -/
def logarithmTrueWrong : ChangeSpec := { name := "logarithmTrue", fn := fun _ => fun
  | [d] => { results := [.lit (.bool false)], args := [d] }
  | _ => none }
def LogarithmTrueWrongFalsely : Prop := logarithmTrueRow.holds Try.pinned (OpenSpec.ofChange logarithmTrueWrong)

/- THE SECOND FORM. 'bulk': how many values and letters a reading holds, each counted each time it is reached (what is shared counts as often as it is met; a slice's spare places count too). A statement '..UptoSaid' is the law's where the arguments, and the package variables that the reading takes, are together of bulk at most 1048576: NARROWER than '..Said'. Prove '..Said' where nothing that the law and all that it calls make is longer than what came in: it says more and counts as full. Else prove '..UptoSaid'. A law counts once. -/
mutual
def uptoBulk {H : Type} : DataW H → Nat
  | .lit (.string bytes) => bytes.length + 1
  | .lit _ => 1
  | .nil => 1
  | .ptr d => uptoBulk d + 1
  | .slice elems spare => uptoBulkAll elems + uptoBulkAll spare + 1
  | .agg parts => uptoBulkAll parts + 1
  | .iface _ d => uptoBulk d + 1
  | .map entries => uptoBulkEntries entries + 1
  | .held _ => 1
def uptoBulkAll {H : Type} : List (DataW H) → Nat
  | [] => 0
  | d :: r => uptoBulk d + uptoBulkAll r
def uptoBulkEntries {H : Type} : List (Lit × DataW H) → Nat
  | [] => 0
  | x :: r => uptoBulkEntry x + uptoBulkEntries r
def uptoBulkEntry {H : Type} : Lit × DataW H → Nat
  | (.string bytes, d) => bytes.length + uptoBulk d + 1
  | (_, d) => uptoBulk d + 1
 end
def uptoSmall : (H : Type) → List (DataW H) → Bool := fun _ ds => decide (uptoBulkAll ds ≤ 1048576)
def OpenSpec.upto (s : _root_.Go.ChangeSpec) : _root_.Go.OpenSpec := { _root_.Go.OpenSpec.ofChange s with cond := some uptoSmall }

/-- 'seismonetlaw24.GeometryBoxes', WHERE WHAT IT READS IS OF BULK AT MOST 1048576: true; the input reads as it did. -/
def geometryBoxesUptoRow : OpenClaim := { program := "ytelmeggcgocmlaa", sum := "407ccc259b7fe905660d9208ad99b6e4d7bacf06e402b41909db27fbd8aaa789", func := "seismonet/seismonetlaw24.GeometryBoxes", spec := "geometryBoxes", unfollowed := true, recurses := true, apart := false, narrowed := true }
def GeometryBoxesUptoSaid : Prop := geometryBoxesUptoRow.holds Try.pinned (OpenSpec.upto geometryBoxesSpec)

/-- 'seismonetlaw25.TravelTables', WHERE WHAT IT READS IS OF BULK AT MOST 1048576: true; the input reads as it did. -/
def travelTablesUptoRow : OpenClaim := { program := "ytelmeggcgocmlaa", sum := "407ccc259b7fe905660d9208ad99b6e4d7bacf06e402b41909db27fbd8aaa789", func := "seismonet/seismonetlaw25.TravelTables", spec := "travelTables", unfollowed := true, recurses := true, apart := false, narrowed := true }
def TravelTablesUptoSaid : Prop := travelTablesUptoRow.holds Try.pinned (OpenSpec.upto travelTablesSpec)

/-- 'seismonetlaw31.LogarithmTrue', WHERE WHAT IT READS IS OF BULK AT MOST 1048576: true; the input reads as it did. -/
def logarithmTrueUptoRow : OpenClaim := { program := "ytelmeggcgocmlaa", sum := "407ccc259b7fe905660d9208ad99b6e4d7bacf06e402b41909db27fbd8aaa789", func := "seismonet/seismonetlaw31.LogarithmTrue", spec := "logarithmTrue", unfollowed := true, recurses := true, apart := false, narrowed := true }
def LogarithmTrueUptoSaid : Prop := logarithmTrueUptoRow.holds Try.pinned (OpenSpec.upto logarithmTrueSpec)

end Rows
end Go.Proofs.Ytelmeggcgocmlaa
