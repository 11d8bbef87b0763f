/-
  No cell of these rows narrows 'for every input' (looked for: loops, veiled, ifaces, maps, wideKeys, modest, calm, conditions, laid).
  DERIVED. THE GIVEN ROWS OF THIS SEAT. 11 by the template 'for every input the law returns true; each argument reads behind the call as it read before'; 0 by the template 'total and deterministic' (their statements: YtkckcaijfedijaaTotals.lean).
  GIVEN WITH THE SEED: the statements are not yours to turn. If you find one false, say at which input.
  Laid BY PROGRAM, IN A SANDBOX (cutbox-rows.mjs): the forced cells as the released guide's own fill.sh prints them over the translation b81e515eae449e1e… (all of the seat's roots in one cut). By AI agents, Wed Nov 11 2026. No macro, syntax, notation, axiom, sorry.
-/
import Derived.Test.YtkckcaijfedijaaChecked
import GoSem.Claim
import GoSem.ClaimJoined
import GoSem.ClaimMapViews
import Derived.JoinedTies
import Derived.KernelRfl
namespace Go.Proofs.Ytkckcaijfedijaa
/- THE CELL 'sum', in the pinned program and in every row, IS THE sha256 OF THE DUMP (.gsa) THAT YtkckcaijfedijaaProg.lean LOADS. Nothing in Lean hashes anything: it is a label: what it is worth is what the hold of that sum in a sandbox is worth. -/
noncomputable def Try.pinned : Pinned := { name := "ytkckcaijfedijaa", sum := "b81e515eae449e1e98092fe8bd374f5d2f0b5075488f6c97ff0c573016c1cb80", checked := Try.checked }
namespace Rows
def none {H : Type} : Left H := { results := [], args := [] }

/-- 'seismonetlaw26.BoundIntervals': WHATEVER THE INPUT: true; the input reads as it did. -/
def boundIntervalsSpec : ChangeSpec := { name := "boundIntervals", fn := fun _ => fun
  | [d1, d2, d3, d4, d5, d6, d7] => { results := [.lit (.bool true)], args := [d1, d2, d3, d4, d5, d6, d7] }
  | _ => none }
def boundIntervalsRow : OpenClaim := { program := "ytkckcaijfedijaa", sum := "b81e515eae449e1e98092fe8bd374f5d2f0b5075488f6c97ff0c573016c1cb80", func := "seismonet/seismonetlaw26.BoundIntervals", spec := "boundIntervals", unfollowed := true, recurses := true, apart := false }
def BoundIntervalsSaid : Prop := boundIntervalsRow.holds Try.pinned (OpenSpec.ofChange boundIntervalsSpec)

/-- ITS FALSE NEIGHBOUR: 'it returns false'. Refute it at one input. -/
def boundIntervalsWrong : ChangeSpec := { name := "boundIntervals", fn := fun _ => fun
  | [d1, d2, d3, d4, d5, d6, d7] => { results := [.lit (.bool false)], args := [d1, d2, d3, d4, d5, d6, d7] }
  | _ => none }
def BoundIntervalsWrongFalsely : Prop := boundIntervalsRow.holds Try.pinned (OpenSpec.ofChange boundIntervalsWrong)

/-- 'seismonetlaw26.BoundMeets': WHATEVER THE INPUT: true; the input reads as it did. -/
def boundMeetsSpec : ChangeSpec := { name := "boundMeets", fn := fun _ => fun
  | [d1, d2, d3, d4] => { results := [.lit (.bool true)], args := [d1, d2, d3, d4] }
  | _ => none }
def boundMeetsRow : OpenClaim := { program := "ytkckcaijfedijaa", sum := "b81e515eae449e1e98092fe8bd374f5d2f0b5075488f6c97ff0c573016c1cb80", func := "seismonet/seismonetlaw26.BoundMeets", spec := "boundMeets", unfollowed := true, recurses := true, apart := false }
def BoundMeetsSaid : Prop := boundMeetsRow.holds Try.pinned (OpenSpec.ofChange boundMeetsSpec)

/-- ITS FALSE NEIGHBOUR: 'it returns false'. Refute it at one input. -/
def boundMeetsWrong : ChangeSpec := { name := "boundMeets", fn := fun _ => fun
  | [d1, d2, d3, d4] => { results := [.lit (.bool false)], args := [d1, d2, d3, d4] }
  | _ => none }
def BoundMeetsWrongFalsely : Prop := boundMeetsRow.holds Try.pinned (OpenSpec.ofChange boundMeetsWrong)

/-- 'seismonetlaw26.BoundExplains': WHATEVER THE INPUT: true; the input reads as it did. -/
def boundExplainsSpec : ChangeSpec := { name := "boundExplains", fn := fun _ => fun
  | [d] => { results := [.lit (.bool true)], args := [d] }
  | _ => none }
def boundExplainsRow : OpenClaim := { program := "ytkckcaijfedijaa", sum := "b81e515eae449e1e98092fe8bd374f5d2f0b5075488f6c97ff0c573016c1cb80", func := "seismonet/seismonetlaw26.BoundExplains", spec := "boundExplains", unfollowed := true, recurses := true, apart := false }
def BoundExplainsSaid : Prop := boundExplainsRow.holds Try.pinned (OpenSpec.ofChange boundExplainsSpec)

/-- ITS FALSE NEIGHBOUR: 'it returns false'. Refute it at one input. -/
def boundExplainsWrong : ChangeSpec := { name := "boundExplains", fn := fun _ => fun
  | [d] => { results := [.lit (.bool false)], args := [d] }
  | _ => none }
def BoundExplainsWrongFalsely : Prop := boundExplainsRow.holds Try.pinned (OpenSpec.ofChange boundExplainsWrong)

/-- 'seismonetlaw26.BoundTight': WHATEVER THE INPUT: true; the input reads as it did. -/
def boundTightSpec : ChangeSpec := { name := "boundTight", fn := fun _ => fun
  | [d] => { results := [.lit (.bool true)], args := [d] }
  | _ => none }
def boundTightRow : OpenClaim := { program := "ytkckcaijfedijaa", sum := "b81e515eae449e1e98092fe8bd374f5d2f0b5075488f6c97ff0c573016c1cb80", func := "seismonet/seismonetlaw26.BoundTight", spec := "boundTight", unfollowed := true, recurses := true, apart := false }
def BoundTightSaid : Prop := boundTightRow.holds Try.pinned (OpenSpec.ofChange boundTightSpec)

/-- ITS FALSE NEIGHBOUR: 'it returns false'. Refute it at one input. -/
def boundTightWrong : ChangeSpec := { name := "boundTight", fn := fun _ => fun
  | [d] => { results := [.lit (.bool false)], args := [d] }
  | _ => none }
def BoundTightWrongFalsely : Prop := boundTightRow.holds Try.pinned (OpenSpec.ofChange boundTightWrong)

/-- 'seismonetlaw26.BoundContains': WHATEVER THE INPUT: true; the input reads as it did. -/
def boundContainsSpec : ChangeSpec := { name := "boundContains", fn := fun _ => fun
  | [d] => { results := [.lit (.bool true)], args := [d] }
  | _ => none }
def boundContainsRow : OpenClaim := { program := "ytkckcaijfedijaa", sum := "b81e515eae449e1e98092fe8bd374f5d2f0b5075488f6c97ff0c573016c1cb80", func := "seismonet/seismonetlaw26.BoundContains", spec := "boundContains", unfollowed := true, recurses := true, apart := false }
def BoundContainsSaid : Prop := boundContainsRow.holds Try.pinned (OpenSpec.ofChange boundContainsSpec)

/-- ITS FALSE NEIGHBOUR: 'it returns false'. Refute it at one input. -/
def boundContainsWrong : ChangeSpec := { name := "boundContains", fn := fun _ => fun
  | [d] => { results := [.lit (.bool false)], args := [d] }
  | _ => none }
def BoundContainsWrongFalsely : Prop := boundContainsRow.holds Try.pinned (OpenSpec.ofChange boundContainsWrong)

/-- 'seismonetlaw27.MisfitBest': WHATEVER THE INPUT: true; the input reads as it did. -/
def misfitBestSpec : ChangeSpec := { name := "misfitBest", fn := fun _ => fun
  | [d1, d2] => { results := [.lit (.bool true)], args := [d1, d2] }
  | _ => none }
def misfitBestRow : OpenClaim := { program := "ytkckcaijfedijaa", sum := "b81e515eae449e1e98092fe8bd374f5d2f0b5075488f6c97ff0c573016c1cb80", func := "seismonet/seismonetlaw27.MisfitBest", spec := "misfitBest", unfollowed := true, recurses := true, apart := false }
def MisfitBestSaid : Prop := misfitBestRow.holds Try.pinned (OpenSpec.ofChange misfitBestSpec)

/-- ITS FALSE NEIGHBOUR: 'it returns false'. Refute it at one input. -/
def misfitBestWrong : ChangeSpec := { name := "misfitBest", fn := fun _ => fun
  | [d1, d2] => { results := [.lit (.bool false)], args := [d1, d2] }
  | _ => none }
def MisfitBestWrongFalsely : Prop := misfitBestRow.holds Try.pinned (OpenSpec.ofChange misfitBestWrong)

/-- 'seismonetlaw27.MisfitMore': WHATEVER THE INPUT: true; the input reads as it did. -/
def misfitMoreSpec : ChangeSpec := { name := "misfitMore", fn := fun _ => fun
  | [d] => { results := [.lit (.bool true)], args := [d] }
  | _ => none }
def misfitMoreRow : OpenClaim := { program := "ytkckcaijfedijaa", sum := "b81e515eae449e1e98092fe8bd374f5d2f0b5075488f6c97ff0c573016c1cb80", func := "seismonet/seismonetlaw27.MisfitMore", spec := "misfitMore", unfollowed := true, recurses := true, apart := false }
def MisfitMoreSaid : Prop := misfitMoreRow.holds Try.pinned (OpenSpec.ofChange misfitMoreSpec)

/-- ITS FALSE NEIGHBOUR: 'it returns false'. Refute it at one input. -/
def misfitMoreWrong : ChangeSpec := { name := "misfitMore", fn := fun _ => fun
  | [d] => { results := [.lit (.bool false)], args := [d] }
  | _ => none }
def MisfitMoreWrongFalsely : Prop := misfitMoreRow.holds Try.pinned (OpenSpec.ofChange misfitMoreWrong)

/-- 'seismonetlaw27.MisfitShift': WHATEVER THE INPUT: true; the input reads as it did. -/
def misfitShiftSpec : ChangeSpec := { name := "misfitShift", fn := fun _ => fun
  | [d1, d2] => { results := [.lit (.bool true)], args := [d1, d2] }
  | _ => none }
def misfitShiftRow : OpenClaim := { program := "ytkckcaijfedijaa", sum := "b81e515eae449e1e98092fe8bd374f5d2f0b5075488f6c97ff0c573016c1cb80", func := "seismonet/seismonetlaw27.MisfitShift", spec := "misfitShift", unfollowed := true, recurses := true, apart := false }
def MisfitShiftSaid : Prop := misfitShiftRow.holds Try.pinned (OpenSpec.ofChange misfitShiftSpec)

/-- ITS FALSE NEIGHBOUR: 'it returns false'. Refute it at one input. -/
def misfitShiftWrong : ChangeSpec := { name := "misfitShift", fn := fun _ => fun
  | [d1, d2] => { results := [.lit (.bool false)], args := [d1, d2] }
  | _ => none }
def MisfitShiftWrongFalsely : Prop := misfitShiftRow.holds Try.pinned (OpenSpec.ofChange misfitShiftWrong)

/-- 'seismonetlaw27.MisfitZero': WHATEVER THE INPUT: true; the input reads as it did. -/
def misfitZeroSpec : ChangeSpec := { name := "misfitZero", fn := fun _ => fun
  | [d] => { results := [.lit (.bool true)], args := [d] }
  | _ => none }
def misfitZeroRow : OpenClaim := { program := "ytkckcaijfedijaa", sum := "b81e515eae449e1e98092fe8bd374f5d2f0b5075488f6c97ff0c573016c1cb80", func := "seismonet/seismonetlaw27.MisfitZero", spec := "misfitZero", unfollowed := true, recurses := true, apart := false }
def MisfitZeroSaid : Prop := misfitZeroRow.holds Try.pinned (OpenSpec.ofChange misfitZeroSpec)

/-- ITS FALSE NEIGHBOUR: 'it returns false'. Refute it at one input. -/
def misfitZeroWrong : ChangeSpec := { name := "misfitZero", fn := fun _ => fun
  | [d] => { results := [.lit (.bool false)], args := [d] }
  | _ => none }
def MisfitZeroWrongFalsely : Prop := misfitZeroRow.holds Try.pinned (OpenSpec.ofChange misfitZeroWrong)

/-- 'seismonetlaw27.MisfitProblems': WHATEVER THE INPUT: true; the input reads as it did. -/
def misfitProblemsSpec : ChangeSpec := { name := "misfitProblems", fn := fun _ => fun
  | [d1, d2, d3, d4, d5] => { results := [.lit (.bool true)], args := [d1, d2, d3, d4, d5] }
  | _ => none }
def misfitProblemsRow : OpenClaim := { program := "ytkckcaijfedijaa", sum := "b81e515eae449e1e98092fe8bd374f5d2f0b5075488f6c97ff0c573016c1cb80", func := "seismonet/seismonetlaw27.MisfitProblems", spec := "misfitProblems", unfollowed := true, recurses := true, apart := false }
def MisfitProblemsSaid : Prop := misfitProblemsRow.holds Try.pinned (OpenSpec.ofChange misfitProblemsSpec)

/-- ITS FALSE NEIGHBOUR: 'it returns false'. Refute it at one input. -/
def misfitProblemsWrong : ChangeSpec := { name := "misfitProblems", fn := fun _ => fun
  | [d1, d2, d3, d4, d5] => { results := [.lit (.bool false)], args := [d1, d2, d3, d4, d5] }
  | _ => none }
def MisfitProblemsWrongFalsely : Prop := misfitProblemsRow.holds Try.pinned (OpenSpec.ofChange misfitProblemsWrong)

/-- 'seismonetlaw27.MisfitBound': WHATEVER THE INPUT: true; the input reads as it did. -/
def misfitBoundSpec : ChangeSpec := { name := "misfitBound", fn := fun _ => fun
  | [d] => { results := [.lit (.bool true)], args := [d] }
  | _ => none }
def misfitBoundRow : OpenClaim := { program := "ytkckcaijfedijaa", sum := "b81e515eae449e1e98092fe8bd374f5d2f0b5075488f6c97ff0c573016c1cb80", func := "seismonet/seismonetlaw27.MisfitBound", spec := "misfitBound", unfollowed := true, recurses := true, apart := false }
def MisfitBoundSaid : Prop := misfitBoundRow.holds Try.pinned (OpenSpec.ofChange misfitBoundSpec)

/-- ITS FALSE NEIGHBOUR: 'it returns false'. Refute it at one input. -/
def misfitBoundWrong : ChangeSpec := { name := "misfitBound", fn := fun _ => fun
  | [d] => { results := [.lit (.bool false)], args := [d] }
  | _ => none }
def MisfitBoundWrongFalsely : Prop := misfitBoundRow.holds Try.pinned (OpenSpec.ofChange misfitBoundWrong)

/- THE SECOND FORM. 'bulk': how many values and letters a reading holds, each counted each time it is reached (what is shared counts as often as it is met; a slice's spare places count too). A statement '..UptoSaid' is the law's where the arguments, and the package variables that the reading takes, are together of bulk at most 1048576: NARROWER than '..Said'. Prove '..Said' where nothing that the law and all that it calls make is longer than what came in: it says more and counts as full. Else prove '..UptoSaid'. A law counts once. -/
mutual
def uptoBulk {H : Type} : DataW H → Nat
  | .lit (.string bytes) => bytes.length + 1
  | .lit _ => 1
  | .nil => 1
  | .ptr d => uptoBulk d + 1
  | .slice elems spare => uptoBulkAll elems + uptoBulkAll spare + 1
  | .agg parts => uptoBulkAll parts + 1
  | .iface _ d => uptoBulk d + 1
  | .map entries => uptoBulkEntries entries + 1
  | .held _ => 1
def uptoBulkAll {H : Type} : List (DataW H) → Nat
  | [] => 0
  | d :: r => uptoBulk d + uptoBulkAll r
def uptoBulkEntries {H : Type} : List (Lit × DataW H) → Nat
  | [] => 0
  | x :: r => uptoBulkEntry x + uptoBulkEntries r
def uptoBulkEntry {H : Type} : Lit × DataW H → Nat
  | (.string bytes, d) => bytes.length + uptoBulk d + 1
  | (_, d) => uptoBulk d + 1
 end
def uptoSmall : (H : Type) → List (DataW H) → Bool := fun _ ds => decide (uptoBulkAll ds ≤ 1048576)
def OpenSpec.upto (s : _root_.Go.ChangeSpec) : _root_.Go.OpenSpec := { _root_.Go.OpenSpec.ofChange s with cond := some uptoSmall }

/-- 'seismonetlaw26.BoundIntervals', WHERE WHAT IT READS IS OF BULK AT MOST 1048576: true; the input reads as it did. -/
def boundIntervalsUptoRow : OpenClaim := { program := "ytkckcaijfedijaa", sum := "b81e515eae449e1e98092fe8bd374f5d2f0b5075488f6c97ff0c573016c1cb80", func := "seismonet/seismonetlaw26.BoundIntervals", spec := "boundIntervals", unfollowed := true, recurses := true, apart := false, narrowed := true }
def BoundIntervalsUptoSaid : Prop := boundIntervalsUptoRow.holds Try.pinned (OpenSpec.upto boundIntervalsSpec)

/-- 'seismonetlaw26.BoundMeets', WHERE WHAT IT READS IS OF BULK AT MOST 1048576: true; the input reads as it did. -/
def boundMeetsUptoRow : OpenClaim := { program := "ytkckcaijfedijaa", sum := "b81e515eae449e1e98092fe8bd374f5d2f0b5075488f6c97ff0c573016c1cb80", func := "seismonet/seismonetlaw26.BoundMeets", spec := "boundMeets", unfollowed := true, recurses := true, apart := false, narrowed := true }
def BoundMeetsUptoSaid : Prop := boundMeetsUptoRow.holds Try.pinned (OpenSpec.upto boundMeetsSpec)

/-- 'seismonetlaw26.BoundExplains', WHERE WHAT IT READS IS OF BULK AT MOST 1048576: true; the input reads as it did. -/
def boundExplainsUptoRow : OpenClaim := { program := "ytkckcaijfedijaa", sum := "b81e515eae449e1e98092fe8bd374f5d2f0b5075488f6c97ff0c573016c1cb80", func := "seismonet/seismonetlaw26.BoundExplains", spec := "boundExplains", unfollowed := true, recurses := true, apart := false, narrowed := true }
def BoundExplainsUptoSaid : Prop := boundExplainsUptoRow.holds Try.pinned (OpenSpec.upto boundExplainsSpec)

/-- 'seismonetlaw26.BoundTight', WHERE WHAT IT READS IS OF BULK AT MOST 1048576: true; the input reads as it did. -/
def boundTightUptoRow : OpenClaim := { program := "ytkckcaijfedijaa", sum := "b81e515eae449e1e98092fe8bd374f5d2f0b5075488f6c97ff0c573016c1cb80", func := "seismonet/seismonetlaw26.BoundTight", spec := "boundTight", unfollowed := true, recurses := true, apart := false, narrowed := true }
def BoundTightUptoSaid : Prop := boundTightUptoRow.holds Try.pinned (OpenSpec.upto boundTightSpec)

/-- 'seismonetlaw26.BoundContains', WHERE WHAT IT READS IS OF BULK AT MOST 1048576: true; the input reads as it did. -/
def boundContainsUptoRow : OpenClaim := { program := "ytkckcaijfedijaa", sum := "b81e515eae449e1e98092fe8bd374f5d2f0b5075488f6c97ff0c573016c1cb80", func := "seismonet/seismonetlaw26.BoundContains", spec := "boundContains", unfollowed := true, recurses := true, apart := false, narrowed := true }
def BoundContainsUptoSaid : Prop := boundContainsUptoRow.holds Try.pinned (OpenSpec.upto boundContainsSpec)

/-- 'seismonetlaw27.MisfitBest', WHERE WHAT IT READS IS OF BULK AT MOST 1048576: true; the input reads as it did. -/
def misfitBestUptoRow : OpenClaim := { program := "ytkckcaijfedijaa", sum := "b81e515eae449e1e98092fe8bd374f5d2f0b5075488f6c97ff0c573016c1cb80", func := "seismonet/seismonetlaw27.MisfitBest", spec := "misfitBest", unfollowed := true, recurses := true, apart := false, narrowed := true }
def MisfitBestUptoSaid : Prop := misfitBestUptoRow.holds Try.pinned (OpenSpec.upto misfitBestSpec)

/-- 'seismonetlaw27.MisfitMore', WHERE WHAT IT READS IS OF BULK AT MOST 1048576: true; the input reads as it did. -/
def misfitMoreUptoRow : OpenClaim := { program := "ytkckcaijfedijaa", sum := "b81e515eae449e1e98092fe8bd374f5d2f0b5075488f6c97ff0c573016c1cb80", func := "seismonet/seismonetlaw27.MisfitMore", spec := "misfitMore", unfollowed := true, recurses := true, apart := false, narrowed := true }
def MisfitMoreUptoSaid : Prop := misfitMoreUptoRow.holds Try.pinned (OpenSpec.upto misfitMoreSpec)

/-- 'seismonetlaw27.MisfitShift', WHERE WHAT IT READS IS OF BULK AT MOST 1048576: true; the input reads as it did. -/
def misfitShiftUptoRow : OpenClaim := { program := "ytkckcaijfedijaa", sum := "b81e515eae449e1e98092fe8bd374f5d2f0b5075488f6c97ff0c573016c1cb80", func := "seismonet/seismonetlaw27.MisfitShift", spec := "misfitShift", unfollowed := true, recurses := true, apart := false, narrowed := true }
def MisfitShiftUptoSaid : Prop := misfitShiftUptoRow.holds Try.pinned (OpenSpec.upto misfitShiftSpec)

/-- 'seismonetlaw27.MisfitZero', WHERE WHAT IT READS IS OF BULK AT MOST 1048576: true; the input reads as it did. -/
def misfitZeroUptoRow : OpenClaim := { program := "ytkckcaijfedijaa", sum := "b81e515eae449e1e98092fe8bd374f5d2f0b5075488f6c97ff0c573016c1cb80", func := "seismonet/seismonetlaw27.MisfitZero", spec := "misfitZero", unfollowed := true, recurses := true, apart := false, narrowed := true }
def MisfitZeroUptoSaid : Prop := misfitZeroUptoRow.holds Try.pinned (OpenSpec.upto misfitZeroSpec)

/-- 'seismonetlaw27.MisfitProblems', WHERE WHAT IT READS IS OF BULK AT MOST 1048576: true; the input reads as it did. -/
def misfitProblemsUptoRow : OpenClaim := { program := "ytkckcaijfedijaa", sum := "b81e515eae449e1e98092fe8bd374f5d2f0b5075488f6c97ff0c573016c1cb80", func := "seismonet/seismonetlaw27.MisfitProblems", spec := "misfitProblems", unfollowed := true, recurses := true, apart := false, narrowed := true }
def MisfitProblemsUptoSaid : Prop := misfitProblemsUptoRow.holds Try.pinned (OpenSpec.upto misfitProblemsSpec)

/-- 'seismonetlaw27.MisfitBound', WHERE WHAT IT READS IS OF BULK AT MOST 1048576: true; the input reads as it did. -/
def misfitBoundUptoRow : OpenClaim := { program := "ytkckcaijfedijaa", sum := "b81e515eae449e1e98092fe8bd374f5d2f0b5075488f6c97ff0c573016c1cb80", func := "seismonet/seismonetlaw27.MisfitBound", spec := "misfitBound", unfollowed := true, recurses := true, apart := false, narrowed := true }
def MisfitBoundUptoSaid : Prop := misfitBoundUptoRow.holds Try.pinned (OpenSpec.upto misfitBoundSpec)

end Rows
end Go.Proofs.Ytkckcaijfedijaa
