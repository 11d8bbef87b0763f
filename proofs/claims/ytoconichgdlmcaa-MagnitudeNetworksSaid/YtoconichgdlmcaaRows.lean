/-
  No cell of these rows narrows 'for every input' (looked for: loops, veiled, ifaces, maps, wideKeys, modest, calm, conditions, laid).
  DERIVED. THE GIVEN ROWS OF THIS SEAT. 4 by the template 'for every input the law returns true; each argument reads behind the call as it read before'; 0 by the template 'total and deterministic' (their statements: YtoconichgdlmcaaTotals.lean).
  GIVEN WITH THE SEED: the statements are not yours to turn. If you find one false, say at which input.
  Laid BY PROGRAM, IN A SANDBOX (cutbox-rows.mjs): the forced cells as the released guide's own fill.sh prints them over the translation 7473056922440462… (all of the seat's roots in one cut). By AI agents, Wed Nov 11 2026. No macro, syntax, notation, axiom, sorry.
-/
import Derived.Test.YtoconichgdlmcaaChecked
import GoSem.Claim
import GoSem.ClaimJoined
import GoSem.ClaimMapViews
import Derived.JoinedTies
import Derived.KernelRfl
namespace Go.Proofs.Ytoconichgdlmcaa
/- THE CELL 'sum', in the pinned program and in every row, IS THE sha256 OF THE DUMP (.gsa) THAT YtoconichgdlmcaaProg.lean LOADS. Nothing in Lean hashes anything: it is a label: what it is worth is what the hold of that sum in a sandbox is worth. -/
noncomputable def Try.pinned : Pinned := { name := "ytoconichgdlmcaa", sum := "7473056922440462c0b4599343cee5030d2e5a319ba38fec8c07ee59369e4c6a", checked := Try.checked }
namespace Rows
def none {H : Type} : Left H := { results := [], args := [] }

/-- 'seismonetlaw32.MagnitudeMedian': WHATEVER THE INPUT: true; the input reads as it did. -/
def magnitudeMedianSpec : ChangeSpec := { name := "magnitudeMedian", fn := fun _ => fun
  | [d1, d2] => { results := [.lit (.bool true)], args := [d1, d2] }
  | _ => none }
def magnitudeMedianRow : OpenClaim := { program := "ytoconichgdlmcaa", sum := "7473056922440462c0b4599343cee5030d2e5a319ba38fec8c07ee59369e4c6a", func := "seismonet/seismonetlaw32.MagnitudeMedian", spec := "magnitudeMedian", unfollowed := true, recurses := true, apart := false }
def MagnitudeMedianSaid : Prop := magnitudeMedianRow.holds Try.pinned (OpenSpec.ofChange magnitudeMedianSpec)

/-- ITS FALSE NEIGHBOUR: 'it returns false'. Refute it at one input. -/
def magnitudeMedianWrong : ChangeSpec := { name := "magnitudeMedian", fn := fun _ => fun
  | [d1, d2] => { results := [.lit (.bool false)], args := [d1, d2] }
  | _ => none }
def MagnitudeMedianWrongFalsely : Prop := magnitudeMedianRow.holds Try.pinned (OpenSpec.ofChange magnitudeMedianWrong)

/-- 'seismonetlaw32.MagnitudeGrows': WHATEVER THE INPUT: true; the input reads as it did. -/
def magnitudeGrowsSpec : ChangeSpec := { name := "magnitudeGrows", fn := fun _ => fun
  | [d] => { results := [.lit (.bool true)], args := [d] }
  | _ => none }
def magnitudeGrowsRow : OpenClaim := { program := "ytoconichgdlmcaa", sum := "7473056922440462c0b4599343cee5030d2e5a319ba38fec8c07ee59369e4c6a", func := "seismonet/seismonetlaw32.MagnitudeGrows", spec := "magnitudeGrows", unfollowed := true, recurses := true, apart := false }
def MagnitudeGrowsSaid : Prop := magnitudeGrowsRow.holds Try.pinned (OpenSpec.ofChange magnitudeGrowsSpec)

/-- ITS FALSE NEIGHBOUR: 'it returns false'. Refute it at one input. -/
def magnitudeGrowsWrong : ChangeSpec := { name := "magnitudeGrows", fn := fun _ => fun
  | [d] => { results := [.lit (.bool false)], args := [d] }
  | _ => none }
def MagnitudeGrowsWrongFalsely : Prop := magnitudeGrowsRow.holds Try.pinned (OpenSpec.ofChange magnitudeGrowsWrong)

/-- 'seismonetlaw32.MagnitudeTens': WHATEVER THE INPUT: true; the input reads as it did. -/
def magnitudeTensSpec : ChangeSpec := { name := "magnitudeTens", fn := fun _ => fun
  | [d] => { results := [.lit (.bool true)], args := [d] }
  | _ => none }
def magnitudeTensRow : OpenClaim := { program := "ytoconichgdlmcaa", sum := "7473056922440462c0b4599343cee5030d2e5a319ba38fec8c07ee59369e4c6a", func := "seismonet/seismonetlaw32.MagnitudeTens", spec := "magnitudeTens", unfollowed := true, recurses := true, apart := false }
def MagnitudeTensSaid : Prop := magnitudeTensRow.holds Try.pinned (OpenSpec.ofChange magnitudeTensSpec)

/-- ITS FALSE NEIGHBOUR: 'it returns false'. Refute it at one input. -/
def magnitudeTensWrong : ChangeSpec := { name := "magnitudeTens", fn := fun _ => fun
  | [d] => { results := [.lit (.bool false)], args := [d] }
  | _ => none }
def MagnitudeTensWrongFalsely : Prop := magnitudeTensRow.holds Try.pinned (OpenSpec.ofChange magnitudeTensWrong)

/-- 'seismonetlaw32.MagnitudeNetworks': WHATEVER THE INPUT: true; the input reads as it did. -/
def magnitudeNetworksSpec : ChangeSpec := { name := "magnitudeNetworks", fn := fun _ => fun
  | [d1, d2, d3, d4] => { results := [.lit (.bool true)], args := [d1, d2, d3, d4] }
  | _ => none }
def magnitudeNetworksRow : OpenClaim := { program := "ytoconichgdlmcaa", sum := "7473056922440462c0b4599343cee5030d2e5a319ba38fec8c07ee59369e4c6a", func := "seismonet/seismonetlaw32.MagnitudeNetworks", spec := "magnitudeNetworks", unfollowed := true, recurses := true, apart := false }
def MagnitudeNetworksSaid : Prop := magnitudeNetworksRow.holds Try.pinned (OpenSpec.ofChange magnitudeNetworksSpec)

/-- ITS FALSE NEIGHBOUR: 'it returns false'. Refute it at one input. -/
def magnitudeNetworksWrong : ChangeSpec := { name := "magnitudeNetworks", fn := fun _ => fun
  | [d1, d2, d3, d4] => { results := [.lit (.bool false)], args := [d1, d2, d3, d4] }
  | _ => none }
def MagnitudeNetworksWrongFalsely : Prop := magnitudeNetworksRow.holds Try.pinned (OpenSpec.ofChange magnitudeNetworksWrong)

/- THE SECOND FORM. 'bulk': how many values and letters a reading holds, each counted each time it is reached (what is shared counts as often as it is met; a slice's spare places count too). A statement '..UptoSaid' is the law's where the arguments, and the package variables that the reading takes, are together of bulk at most 1048576: NARROWER than '..Said'. Prove '..Said' where nothing that the law and all that it calls make is longer than what came in: it says more and counts as full. Else prove '..UptoSaid'. A law counts once. -/
mutual
def uptoBulk {H : Type} : DataW H → Nat
  | .lit (.string bytes) => bytes.length + 1
  | .lit _ => 1
  | .nil => 1
  | .ptr d => uptoBulk d + 1
  | .slice elems spare => uptoBulkAll elems + uptoBulkAll spare + 1
  | .agg parts => uptoBulkAll parts + 1
  | .iface _ d => uptoBulk d + 1
  | .map entries => uptoBulkEntries entries + 1
  | .held _ => 1
def uptoBulkAll {H : Type} : List (DataW H) → Nat
  | [] => 0
  | d :: r => uptoBulk d + uptoBulkAll r
def uptoBulkEntries {H : Type} : List (Lit × DataW H) → Nat
  | [] => 0
  | x :: r => uptoBulkEntry x + uptoBulkEntries r
def uptoBulkEntry {H : Type} : Lit × DataW H → Nat
  | (.string bytes, d) => bytes.length + uptoBulk d + 1
  | (_, d) => uptoBulk d + 1
 end
def uptoSmall : (H : Type) → List (DataW H) → Bool := fun _ ds => decide (uptoBulkAll ds ≤ 1048576)
def OpenSpec.upto (s : _root_.Go.ChangeSpec) : _root_.Go.OpenSpec := { _root_.Go.OpenSpec.ofChange s with cond := some uptoSmall }

/-- 'seismonetlaw32.MagnitudeMedian', WHERE WHAT IT READS IS OF BULK AT MOST 1048576: true; the input reads as it did. -/
def magnitudeMedianUptoRow : OpenClaim := { program := "ytoconichgdlmcaa", sum := "7473056922440462c0b4599343cee5030d2e5a319ba38fec8c07ee59369e4c6a", func := "seismonet/seismonetlaw32.MagnitudeMedian", spec := "magnitudeMedian", unfollowed := true, recurses := true, apart := false, narrowed := true }
def MagnitudeMedianUptoSaid : Prop := magnitudeMedianUptoRow.holds Try.pinned (OpenSpec.upto magnitudeMedianSpec)

/-- 'seismonetlaw32.MagnitudeGrows', WHERE WHAT IT READS IS OF BULK AT MOST 1048576: true; the input reads as it did. -/
def magnitudeGrowsUptoRow : OpenClaim := { program := "ytoconichgdlmcaa", sum := "7473056922440462c0b4599343cee5030d2e5a319ba38fec8c07ee59369e4c6a", func := "seismonet/seismonetlaw32.MagnitudeGrows", spec := "magnitudeGrows", unfollowed := true, recurses := true, apart := false, narrowed := true }
def MagnitudeGrowsUptoSaid : Prop := magnitudeGrowsUptoRow.holds Try.pinned (OpenSpec.upto magnitudeGrowsSpec)

/-- 'seismonetlaw32.MagnitudeTens', WHERE WHAT IT READS IS OF BULK AT MOST 1048576: true; the input reads as it did. -/
def magnitudeTensUptoRow : OpenClaim := { program := "ytoconichgdlmcaa", sum := "7473056922440462c0b4599343cee5030d2e5a319ba38fec8c07ee59369e4c6a", func := "seismonet/seismonetlaw32.MagnitudeTens", spec := "magnitudeTens", unfollowed := true, recurses := true, apart := false, narrowed := true }
def MagnitudeTensUptoSaid : Prop := magnitudeTensUptoRow.holds Try.pinned (OpenSpec.upto magnitudeTensSpec)

/-- 'seismonetlaw32.MagnitudeNetworks', WHERE WHAT IT READS IS OF BULK AT MOST 1048576: true; the input reads as it did. -/
def magnitudeNetworksUptoRow : OpenClaim := { program := "ytoconichgdlmcaa", sum := "7473056922440462c0b4599343cee5030d2e5a319ba38fec8c07ee59369e4c6a", func := "seismonet/seismonetlaw32.MagnitudeNetworks", spec := "magnitudeNetworks", unfollowed := true, recurses := true, apart := false, narrowed := true }
def MagnitudeNetworksUptoSaid : Prop := magnitudeNetworksUptoRow.holds Try.pinned (OpenSpec.upto magnitudeNetworksSpec)

end Rows
end Go.Proofs.Ytoconichgdlmcaa
