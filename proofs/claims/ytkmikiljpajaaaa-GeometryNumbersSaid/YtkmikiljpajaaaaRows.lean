/-
  No cell of these rows narrows 'for every input' (looked for: loops, veiled, ifaces, maps, wideKeys, modest, calm, conditions, laid).
  DERIVED. THE GIVEN ROWS OF THIS SEAT. 12 by the template 'for every input the law returns true; each argument reads behind the call as it read before'; 0 by the template 'total and deterministic' (their statements: YtkmikiljpajaaaaTotals.lean).
  GIVEN WITH THE SEED: the statements are not yours to turn. If you find one false, say at which input.
  Laid BY PROGRAM, IN A SANDBOX (cutbox-rows.mjs): the forced cells as the released guide's own fill.sh prints them over the translation 056eea45567f4751… (all of the seat's roots in one cut). By AI agents, Wed Nov 11 2026. No macro, syntax, notation, axiom, sorry.
-/
import Derived.Test.YtkmikiljpajaaaaChecked
import GoSem.Claim
import GoSem.ClaimJoined
import GoSem.ClaimMapViews
import Derived.JoinedTies
import Derived.KernelRfl
namespace Go.Proofs.Ytkmikiljpajaaaa
/- THE CELL 'sum', in the pinned program and in every row, IS THE sha256 OF THE DUMP (.gsa) THAT YtkmikiljpajaaaaProg.lean LOADS. Nothing in Lean hashes anything: it is a label: what it is worth is what the hold of that sum in a sandbox is worth. -/
noncomputable def Try.pinned : Pinned := { name := "ytkmikiljpajaaaa", sum := "056eea45567f4751fec7fa55a605313578a97c99990c2c675c5c9927f697b796", checked := Try.checked }
namespace Rows
def none {H : Type} : Left H := { results := [], args := [] }

/-- 'seismonetlaw25.TravelGrows': WHATEVER THE INPUT: true; the input reads as it did. -/
def travelGrowsSpec : ChangeSpec := { name := "travelGrows", fn := fun _ => fun
  | [d] => { results := [.lit (.bool true)], args := [d] }
  | _ => none }
def travelGrowsRow : OpenClaim := { program := "ytkmikiljpajaaaa", sum := "056eea45567f4751fec7fa55a605313578a97c99990c2c675c5c9927f697b796", func := "seismonet/seismonetlaw25.TravelGrows", spec := "travelGrows", unfollowed := true, recurses := true, apart := false }
def TravelGrowsSaid : Prop := travelGrowsRow.holds Try.pinned (OpenSpec.ofChange travelGrowsSpec)

/-- ITS FALSE NEIGHBOUR: 'it returns false'. Refute it at one input. -/
def travelGrowsWrong : ChangeSpec := { name := "travelGrows", fn := fun _ => fun
  | [d] => { results := [.lit (.bool false)], args := [d] }
  | _ => none }
def TravelGrowsWrongFalsely : Prop := travelGrowsRow.holds Try.pinned (OpenSpec.ofChange travelGrowsWrong)

/-- 'seismonetlaw25.TravelBack': WHATEVER THE INPUT: true; the input reads as it did. -/
def travelBackSpec : ChangeSpec := { name := "travelBack", fn := fun _ => fun
  | [d1, d2] => { results := [.lit (.bool true)], args := [d1, d2] }
  | _ => none }
def travelBackRow : OpenClaim := { program := "ytkmikiljpajaaaa", sum := "056eea45567f4751fec7fa55a605313578a97c99990c2c675c5c9927f697b796", func := "seismonet/seismonetlaw25.TravelBack", spec := "travelBack", unfollowed := true, recurses := true, apart := false }
def TravelBackSaid : Prop := travelBackRow.holds Try.pinned (OpenSpec.ofChange travelBackSpec)

/-- ITS FALSE NEIGHBOUR: 'it returns false'. Refute it at one input. -/
def travelBackWrong : ChangeSpec := { name := "travelBack", fn := fun _ => fun
  | [d1, d2] => { results := [.lit (.bool false)], args := [d1, d2] }
  | _ => none }
def TravelBackWrongFalsely : Prop := travelBackRow.holds Try.pinned (OpenSpec.ofChange travelBackWrong)

/-- 'seismonetlaw25.TravelRounds': WHATEVER THE INPUT: true; the input reads as it did. -/
def travelRoundsSpec : ChangeSpec := { name := "travelRounds", fn := fun _ => fun
  | [d1, d2] => { results := [.lit (.bool true)], args := [d1, d2] }
  | _ => none }
def travelRoundsRow : OpenClaim := { program := "ytkmikiljpajaaaa", sum := "056eea45567f4751fec7fa55a605313578a97c99990c2c675c5c9927f697b796", func := "seismonet/seismonetlaw25.TravelRounds", spec := "travelRounds", unfollowed := true, recurses := true, apart := false }
def TravelRoundsSaid : Prop := travelRoundsRow.holds Try.pinned (OpenSpec.ofChange travelRoundsSpec)

/-- ITS FALSE NEIGHBOUR: 'it returns false'. Refute it at one input. -/
def travelRoundsWrong : ChangeSpec := { name := "travelRounds", fn := fun _ => fun
  | [d1, d2] => { results := [.lit (.bool false)], args := [d1, d2] }
  | _ => none }
def TravelRoundsWrongFalsely : Prop := travelRoundsRow.holds Try.pinned (OpenSpec.ofChange travelRoundsWrong)

/-- 'seismonetlaw24.GeometryRoots': WHATEVER THE INPUT: true; the input reads as it did. -/
def geometryRootsSpec : ChangeSpec := { name := "geometryRoots", fn := fun _ => fun
  | [d] => { results := [.lit (.bool true)], args := [d] }
  | _ => none }
def geometryRootsRow : OpenClaim := { program := "ytkmikiljpajaaaa", sum := "056eea45567f4751fec7fa55a605313578a97c99990c2c675c5c9927f697b796", func := "seismonet/seismonetlaw24.GeometryRoots", spec := "geometryRoots", unfollowed := true, recurses := true, apart := false }
def GeometryRootsSaid : Prop := geometryRootsRow.holds Try.pinned (OpenSpec.ofChange geometryRootsSpec)

/-- ITS FALSE NEIGHBOUR: 'it returns false'. Refute it at one input. -/
def geometryRootsWrong : ChangeSpec := { name := "geometryRoots", fn := fun _ => fun
  | [d] => { results := [.lit (.bool false)], args := [d] }
  | _ => none }
def GeometryRootsWrongFalsely : Prop := geometryRootsRow.holds Try.pinned (OpenSpec.ofChange geometryRootsWrong)

/-- 'seismonetlaw24.GeometryTriangle': WHATEVER THE INPUT: true; the input reads as it did. -/
def geometryTriangleSpec : ChangeSpec := { name := "geometryTriangle", fn := fun _ => fun
  | [d] => { results := [.lit (.bool true)], args := [d] }
  | _ => none }
def geometryTriangleRow : OpenClaim := { program := "ytkmikiljpajaaaa", sum := "056eea45567f4751fec7fa55a605313578a97c99990c2c675c5c9927f697b796", func := "seismonet/seismonetlaw24.GeometryTriangle", spec := "geometryTriangle", unfollowed := true, recurses := true, apart := false }
def GeometryTriangleSaid : Prop := geometryTriangleRow.holds Try.pinned (OpenSpec.ofChange geometryTriangleSpec)

/-- ITS FALSE NEIGHBOUR: 'it returns false'. Refute it at one input. -/
def geometryTriangleWrong : ChangeSpec := { name := "geometryTriangle", fn := fun _ => fun
  | [d] => { results := [.lit (.bool false)], args := [d] }
  | _ => none }
def GeometryTriangleWrongFalsely : Prop := geometryTriangleRow.holds Try.pinned (OpenSpec.ofChange geometryTriangleWrong)

/-- 'seismonetlaw24.GeometryReached': WHATEVER THE INPUT: true; the input reads as it did. -/
def geometryReachedSpec : ChangeSpec := { name := "geometryReached", fn := fun _ => fun
  | [d] => { results := [.lit (.bool true)], args := [d] }
  | _ => none }
def geometryReachedRow : OpenClaim := { program := "ytkmikiljpajaaaa", sum := "056eea45567f4751fec7fa55a605313578a97c99990c2c675c5c9927f697b796", func := "seismonet/seismonetlaw24.GeometryReached", spec := "geometryReached", unfollowed := true, recurses := true, apart := false }
def GeometryReachedSaid : Prop := geometryReachedRow.holds Try.pinned (OpenSpec.ofChange geometryReachedSpec)

/-- ITS FALSE NEIGHBOUR: 'it returns false'. Refute it at one input. -/
def geometryReachedWrong : ChangeSpec := { name := "geometryReached", fn := fun _ => fun
  | [d] => { results := [.lit (.bool false)], args := [d] }
  | _ => none }
def GeometryReachedWrongFalsely : Prop := geometryReachedRow.holds Try.pinned (OpenSpec.ofChange geometryReachedWrong)

/-- 'seismonetlaw24.GeometryBoxes': WHATEVER THE INPUT: true; the input reads as it did. -/
def geometryBoxesSpec : ChangeSpec := { name := "geometryBoxes", fn := fun _ => fun
  | [d1, d2, d3, d4] => { results := [.lit (.bool true)], args := [d1, d2, d3, d4] }
  | _ => none }
def geometryBoxesRow : OpenClaim := { program := "ytkmikiljpajaaaa", sum := "056eea45567f4751fec7fa55a605313578a97c99990c2c675c5c9927f697b796", func := "seismonet/seismonetlaw24.GeometryBoxes", spec := "geometryBoxes", unfollowed := true, recurses := true, apart := false }
def GeometryBoxesSaid : Prop := geometryBoxesRow.holds Try.pinned (OpenSpec.ofChange geometryBoxesSpec)

/-- ITS FALSE NEIGHBOUR: 'it returns false'. Refute it at one input. -/
def geometryBoxesWrong : ChangeSpec := { name := "geometryBoxes", fn := fun _ => fun
  | [d1, d2, d3, d4] => { results := [.lit (.bool false)], args := [d1, d2, d3, d4] }
  | _ => none }
def GeometryBoxesWrongFalsely : Prop := geometryBoxesRow.holds Try.pinned (OpenSpec.ofChange geometryBoxesWrong)

/-- 'seismonetlaw24.GeometrySplits': WHATEVER THE INPUT: true; the input reads as it did. -/
def geometrySplitsSpec : ChangeSpec := { name := "geometrySplits", fn := fun _ => fun
  | [d] => { results := [.lit (.bool true)], args := [d] }
  | _ => none }
def geometrySplitsRow : OpenClaim := { program := "ytkmikiljpajaaaa", sum := "056eea45567f4751fec7fa55a605313578a97c99990c2c675c5c9927f697b796", func := "seismonet/seismonetlaw24.GeometrySplits", spec := "geometrySplits", unfollowed := true, recurses := true, apart := false }
def GeometrySplitsSaid : Prop := geometrySplitsRow.holds Try.pinned (OpenSpec.ofChange geometrySplitsSpec)

/-- ITS FALSE NEIGHBOUR: 'it returns false'. Refute it at one input. -/
def geometrySplitsWrong : ChangeSpec := { name := "geometrySplits", fn := fun _ => fun
  | [d] => { results := [.lit (.bool false)], args := [d] }
  | _ => none }
def GeometrySplitsWrongFalsely : Prop := geometrySplitsRow.holds Try.pinned (OpenSpec.ofChange geometrySplitsWrong)

/-- 'seismonetlaw24.GeometryHull': WHATEVER THE INPUT: true; the input reads as it did. -/
def geometryHullSpec : ChangeSpec := { name := "geometryHull", fn := fun _ => fun
  | [d] => { results := [.lit (.bool true)], args := [d] }
  | _ => none }
def geometryHullRow : OpenClaim := { program := "ytkmikiljpajaaaa", sum := "056eea45567f4751fec7fa55a605313578a97c99990c2c675c5c9927f697b796", func := "seismonet/seismonetlaw24.GeometryHull", spec := "geometryHull", unfollowed := true, recurses := true, apart := false }
def GeometryHullSaid : Prop := geometryHullRow.holds Try.pinned (OpenSpec.ofChange geometryHullSpec)

/-- ITS FALSE NEIGHBOUR: 'it returns false'. Refute it at one input. -/
def geometryHullWrong : ChangeSpec := { name := "geometryHull", fn := fun _ => fun
  | [d] => { results := [.lit (.bool false)], args := [d] }
  | _ => none }
def GeometryHullWrongFalsely : Prop := geometryHullRow.holds Try.pinned (OpenSpec.ofChange geometryHullWrong)

/-- 'seismonetlaw25.TravelTables': WHATEVER THE INPUT: true; the input reads as it did. -/
def travelTablesSpec : ChangeSpec := { name := "travelTables", fn := fun _ => fun
  | [d1, d2, d3, d4, d5, d6, d7] => { results := [.lit (.bool true)], args := [d1, d2, d3, d4, d5, d6, d7] }
  | _ => none }
def travelTablesRow : OpenClaim := { program := "ytkmikiljpajaaaa", sum := "056eea45567f4751fec7fa55a605313578a97c99990c2c675c5c9927f697b796", func := "seismonet/seismonetlaw25.TravelTables", spec := "travelTables", unfollowed := true, recurses := true, apart := false }
def TravelTablesSaid : Prop := travelTablesRow.holds Try.pinned (OpenSpec.ofChange travelTablesSpec)

/-- ITS FALSE NEIGHBOUR: 'it returns false'. Refute it at one input. -/
def travelTablesWrong : ChangeSpec := { name := "travelTables", fn := fun _ => fun
  | [d1, d2, d3, d4, d5, d6, d7] => { results := [.lit (.bool false)], args := [d1, d2, d3, d4, d5, d6, d7] }
  | _ => none }
def TravelTablesWrongFalsely : Prop := travelTablesRow.holds Try.pinned (OpenSpec.ofChange travelTablesWrong)

/-- 'seismonetlaw25.TravelContains': WHATEVER THE INPUT: true; the input reads as it did. -/
def travelContainsSpec : ChangeSpec := { name := "travelContains", fn := fun _ => fun
  | [d] => { results := [.lit (.bool true)], args := [d] }
  | _ => none }
def travelContainsRow : OpenClaim := { program := "ytkmikiljpajaaaa", sum := "056eea45567f4751fec7fa55a605313578a97c99990c2c675c5c9927f697b796", func := "seismonet/seismonetlaw25.TravelContains", spec := "travelContains", unfollowed := true, recurses := true, apart := false }
def TravelContainsSaid : Prop := travelContainsRow.holds Try.pinned (OpenSpec.ofChange travelContainsSpec)

/-- ITS FALSE NEIGHBOUR: 'it returns false'. Refute it at one input. -/
def travelContainsWrong : ChangeSpec := { name := "travelContains", fn := fun _ => fun
  | [d] => { results := [.lit (.bool false)], args := [d] }
  | _ => none }
def TravelContainsWrongFalsely : Prop := travelContainsRow.holds Try.pinned (OpenSpec.ofChange travelContainsWrong)

/-- 'seismonetlaw24.GeometryNumbers': WHATEVER THE INPUT: true; the input reads as it did. -/
def geometryNumbersSpec : ChangeSpec := { name := "geometryNumbers", fn := fun _ => fun
  | [d1, d2, d3, d4] => { results := [.lit (.bool true)], args := [d1, d2, d3, d4] }
  | _ => none }
def geometryNumbersRow : OpenClaim := { program := "ytkmikiljpajaaaa", sum := "056eea45567f4751fec7fa55a605313578a97c99990c2c675c5c9927f697b796", func := "seismonet/seismonetlaw24.GeometryNumbers", spec := "geometryNumbers", unfollowed := true, recurses := true, apart := false }
def GeometryNumbersSaid : Prop := geometryNumbersRow.holds Try.pinned (OpenSpec.ofChange geometryNumbersSpec)

/-- ITS FALSE NEIGHBOUR: 'it returns false'. Refute it at one input. -/
def geometryNumbersWrong : ChangeSpec := { name := "geometryNumbers", fn := fun _ => fun
  | [d1, d2, d3, d4] => { results := [.lit (.bool false)], args := [d1, d2, d3, d4] }
  | _ => none }
def GeometryNumbersWrongFalsely : Prop := geometryNumbersRow.holds Try.pinned (OpenSpec.ofChange geometryNumbersWrong)

/- THE SECOND FORM. 'bulk': how many values and letters a reading holds, each counted each time it is reached (what is shared counts as often as it is met; a slice's spare places count too). A statement '..UptoSaid' is the law's where the arguments, and the package variables that the reading takes, are together of bulk at most 1048576: NARROWER than '..Said'. Prove '..Said' where nothing that the law and all that it calls make is longer than what came in: it says more and counts as full. Else prove '..UptoSaid'. A law counts once. -/
mutual
def uptoBulk {H : Type} : DataW H → Nat
  | .lit (.string bytes) => bytes.length + 1
  | .lit _ => 1
  | .nil => 1
  | .ptr d => uptoBulk d + 1
  | .slice elems spare => uptoBulkAll elems + uptoBulkAll spare + 1
  | .agg parts => uptoBulkAll parts + 1
  | .iface _ d => uptoBulk d + 1
  | .map entries => uptoBulkEntries entries + 1
  | .held _ => 1
def uptoBulkAll {H : Type} : List (DataW H) → Nat
  | [] => 0
  | d :: r => uptoBulk d + uptoBulkAll r
def uptoBulkEntries {H : Type} : List (Lit × DataW H) → Nat
  | [] => 0
  | x :: r => uptoBulkEntry x + uptoBulkEntries r
def uptoBulkEntry {H : Type} : Lit × DataW H → Nat
  | (.string bytes, d) => bytes.length + uptoBulk d + 1
  | (_, d) => uptoBulk d + 1
 end
def uptoSmall : (H : Type) → List (DataW H) → Bool := fun _ ds => decide (uptoBulkAll ds ≤ 1048576)
def OpenSpec.upto (s : _root_.Go.ChangeSpec) : _root_.Go.OpenSpec := { _root_.Go.OpenSpec.ofChange s with cond := some uptoSmall }

/-- 'seismonetlaw25.TravelGrows', WHERE WHAT IT READS IS OF BULK AT MOST 1048576: true; the input reads as it did. -/
def travelGrowsUptoRow : OpenClaim := { program := "ytkmikiljpajaaaa", sum := "056eea45567f4751fec7fa55a605313578a97c99990c2c675c5c9927f697b796", func := "seismonet/seismonetlaw25.TravelGrows", spec := "travelGrows", unfollowed := true, recurses := true, apart := false, narrowed := true }
def TravelGrowsUptoSaid : Prop := travelGrowsUptoRow.holds Try.pinned (OpenSpec.upto travelGrowsSpec)

/-- 'seismonetlaw25.TravelBack', WHERE WHAT IT READS IS OF BULK AT MOST 1048576: true; the input reads as it did. -/
def travelBackUptoRow : OpenClaim := { program := "ytkmikiljpajaaaa", sum := "056eea45567f4751fec7fa55a605313578a97c99990c2c675c5c9927f697b796", func := "seismonet/seismonetlaw25.TravelBack", spec := "travelBack", unfollowed := true, recurses := true, apart := false, narrowed := true }
def TravelBackUptoSaid : Prop := travelBackUptoRow.holds Try.pinned (OpenSpec.upto travelBackSpec)

/-- 'seismonetlaw25.TravelRounds', WHERE WHAT IT READS IS OF BULK AT MOST 1048576: true; the input reads as it did. -/
def travelRoundsUptoRow : OpenClaim := { program := "ytkmikiljpajaaaa", sum := "056eea45567f4751fec7fa55a605313578a97c99990c2c675c5c9927f697b796", func := "seismonet/seismonetlaw25.TravelRounds", spec := "travelRounds", unfollowed := true, recurses := true, apart := false, narrowed := true }
def TravelRoundsUptoSaid : Prop := travelRoundsUptoRow.holds Try.pinned (OpenSpec.upto travelRoundsSpec)

/-- 'seismonetlaw24.GeometryRoots', WHERE WHAT IT READS IS OF BULK AT MOST 1048576: true; the input reads as it did. -/
def geometryRootsUptoRow : OpenClaim := { program := "ytkmikiljpajaaaa", sum := "056eea45567f4751fec7fa55a605313578a97c99990c2c675c5c9927f697b796", func := "seismonet/seismonetlaw24.GeometryRoots", spec := "geometryRoots", unfollowed := true, recurses := true, apart := false, narrowed := true }
def GeometryRootsUptoSaid : Prop := geometryRootsUptoRow.holds Try.pinned (OpenSpec.upto geometryRootsSpec)

/-- 'seismonetlaw24.GeometryTriangle', WHERE WHAT IT READS IS OF BULK AT MOST 1048576: true; the input reads as it did. -/
def geometryTriangleUptoRow : OpenClaim := { program := "ytkmikiljpajaaaa", sum := "056eea45567f4751fec7fa55a605313578a97c99990c2c675c5c9927f697b796", func := "seismonet/seismonetlaw24.GeometryTriangle", spec := "geometryTriangle", unfollowed := true, recurses := true, apart := false, narrowed := true }
def GeometryTriangleUptoSaid : Prop := geometryTriangleUptoRow.holds Try.pinned (OpenSpec.upto geometryTriangleSpec)

/-- 'seismonetlaw24.GeometryReached', WHERE WHAT IT READS IS OF BULK AT MOST 1048576: true; the input reads as it did. -/
def geometryReachedUptoRow : OpenClaim := { program := "ytkmikiljpajaaaa", sum := "056eea45567f4751fec7fa55a605313578a97c99990c2c675c5c9927f697b796", func := "seismonet/seismonetlaw24.GeometryReached", spec := "geometryReached", unfollowed := true, recurses := true, apart := false, narrowed := true }
def GeometryReachedUptoSaid : Prop := geometryReachedUptoRow.holds Try.pinned (OpenSpec.upto geometryReachedSpec)

/-- 'seismonetlaw24.GeometryBoxes', WHERE WHAT IT READS IS OF BULK AT MOST 1048576: true; the input reads as it did. -/
def geometryBoxesUptoRow : OpenClaim := { program := "ytkmikiljpajaaaa", sum := "056eea45567f4751fec7fa55a605313578a97c99990c2c675c5c9927f697b796", func := "seismonet/seismonetlaw24.GeometryBoxes", spec := "geometryBoxes", unfollowed := true, recurses := true, apart := false, narrowed := true }
def GeometryBoxesUptoSaid : Prop := geometryBoxesUptoRow.holds Try.pinned (OpenSpec.upto geometryBoxesSpec)

/-- 'seismonetlaw24.GeometrySplits', WHERE WHAT IT READS IS OF BULK AT MOST 1048576: true; the input reads as it did. -/
def geometrySplitsUptoRow : OpenClaim := { program := "ytkmikiljpajaaaa", sum := "056eea45567f4751fec7fa55a605313578a97c99990c2c675c5c9927f697b796", func := "seismonet/seismonetlaw24.GeometrySplits", spec := "geometrySplits", unfollowed := true, recurses := true, apart := false, narrowed := true }
def GeometrySplitsUptoSaid : Prop := geometrySplitsUptoRow.holds Try.pinned (OpenSpec.upto geometrySplitsSpec)

/-- 'seismonetlaw24.GeometryHull', WHERE WHAT IT READS IS OF BULK AT MOST 1048576: true; the input reads as it did. -/
def geometryHullUptoRow : OpenClaim := { program := "ytkmikiljpajaaaa", sum := "056eea45567f4751fec7fa55a605313578a97c99990c2c675c5c9927f697b796", func := "seismonet/seismonetlaw24.GeometryHull", spec := "geometryHull", unfollowed := true, recurses := true, apart := false, narrowed := true }
def GeometryHullUptoSaid : Prop := geometryHullUptoRow.holds Try.pinned (OpenSpec.upto geometryHullSpec)

/-- 'seismonetlaw25.TravelTables', WHERE WHAT IT READS IS OF BULK AT MOST 1048576: true; the input reads as it did. -/
def travelTablesUptoRow : OpenClaim := { program := "ytkmikiljpajaaaa", sum := "056eea45567f4751fec7fa55a605313578a97c99990c2c675c5c9927f697b796", func := "seismonet/seismonetlaw25.TravelTables", spec := "travelTables", unfollowed := true, recurses := true, apart := false, narrowed := true }
def TravelTablesUptoSaid : Prop := travelTablesUptoRow.holds Try.pinned (OpenSpec.upto travelTablesSpec)

/-- 'seismonetlaw25.TravelContains', WHERE WHAT IT READS IS OF BULK AT MOST 1048576: true; the input reads as it did. -/
def travelContainsUptoRow : OpenClaim := { program := "ytkmikiljpajaaaa", sum := "056eea45567f4751fec7fa55a605313578a97c99990c2c675c5c9927f697b796", func := "seismonet/seismonetlaw25.TravelContains", spec := "travelContains", unfollowed := true, recurses := true, apart := false, narrowed := true }
def TravelContainsUptoSaid : Prop := travelContainsUptoRow.holds Try.pinned (OpenSpec.upto travelContainsSpec)

/-- 'seismonetlaw24.GeometryNumbers', WHERE WHAT IT READS IS OF BULK AT MOST 1048576: true; the input reads as it did. -/
def geometryNumbersUptoRow : OpenClaim := { program := "ytkmikiljpajaaaa", sum := "056eea45567f4751fec7fa55a605313578a97c99990c2c675c5c9927f697b796", func := "seismonet/seismonetlaw24.GeometryNumbers", spec := "geometryNumbers", unfollowed := true, recurses := true, apart := false, narrowed := true }
def GeometryNumbersUptoSaid : Prop := geometryNumbersUptoRow.holds Try.pinned (OpenSpec.upto geometryNumbersSpec)

end Rows
end Go.Proofs.Ytkmikiljpajaaaa
