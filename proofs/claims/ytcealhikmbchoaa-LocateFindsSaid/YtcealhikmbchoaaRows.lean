/-
  No cell of these rows narrows 'for every input' (looked for: loops, veiled, ifaces, maps, wideKeys, modest, calm, conditions, laid).
  DERIVED. THE GIVEN ROWS OF THIS SEAT. 6 by the template 'for every input the law returns true; each argument reads behind the call as it read before'; 0 by the template 'total and deterministic' (their statements: YtcealhikmbchoaaTotals.lean).
  GIVEN WITH THE SEED: the statements are not yours to turn. If you find one false, say at which input.
  Laid BY PROGRAM, IN A SANDBOX (cutbox-rows.mjs): the forced cells as the released guide's own fill.sh prints them over the translation e6b7eb47667d449a… (all of the seat's roots in one cut). By AI agents, Wed Nov 11 2026. No macro, syntax, notation, axiom, sorry.
-/
import Derived.Test.YtcealhikmbchoaaChecked
import GoSem.Claim
import GoSem.ClaimJoined
import GoSem.ClaimMapViews
import Derived.JoinedTies
import Derived.KernelRfl
namespace Go.Proofs.Ytcealhikmbchoaa
/- THE CELL 'sum', in the pinned program and in every row, IS THE sha256 OF THE DUMP (.gsa) THAT YtcealhikmbchoaaProg.lean LOADS. Nothing in Lean hashes anything: it is a label: what it is worth is what the hold of that sum in a sandbox is worth. -/
noncomputable def Try.pinned : Pinned := { name := "ytcealhikmbchoaa", sum := "e6b7eb47667d449ac1490d3f79c6c8c42404ec5f70c8cfd04c2e418524f29d64", checked := Try.checked }
namespace Rows
def none {H : Type} : Left H := { results := [], args := [] }

/-- 'seismonetlaw29.ProofSound': WHATEVER THE INPUT: true; the input reads as it did. -/
def proofSoundSpec : ChangeSpec := { name := "proofSound", fn := fun _ => fun
  | [d1, d2, d3] => { results := [.lit (.bool true)], args := [d1, d2, d3] }
  | _ => none }
def proofSoundRow : OpenClaim := { program := "ytcealhikmbchoaa", sum := "e6b7eb47667d449ac1490d3f79c6c8c42404ec5f70c8cfd04c2e418524f29d64", func := "seismonet/seismonetlaw29.ProofSound", spec := "proofSound", unfollowed := true, recurses := true, apart := false }
def ProofSoundSaid : Prop := proofSoundRow.holds Try.pinned (OpenSpec.ofChange proofSoundSpec)

/-- ITS FALSE NEIGHBOUR: 'it returns false'. Refute it at one input. -/
def proofSoundWrong : ChangeSpec := { name := "proofSound", fn := fun _ => fun
  | [d1, d2, d3] => { results := [.lit (.bool false)], args := [d1, d2, d3] }
  | _ => none }
def ProofSoundWrongFalsely : Prop := proofSoundRow.holds Try.pinned (OpenSpec.ofChange proofSoundWrong)

/-- 'seismonetlaw28.LocateLeast': WHATEVER THE INPUT: true; the input reads as it did. -/
def locateLeastSpec : ChangeSpec := { name := "locateLeast", fn := fun _ => fun
  | [d] => { results := [.lit (.bool true)], args := [d] }
  | _ => none }
def locateLeastRow : OpenClaim := { program := "ytcealhikmbchoaa", sum := "e6b7eb47667d449ac1490d3f79c6c8c42404ec5f70c8cfd04c2e418524f29d64", func := "seismonet/seismonetlaw28.LocateLeast", spec := "locateLeast", unfollowed := true, recurses := true, apart := false }
def LocateLeastSaid : Prop := locateLeastRow.holds Try.pinned (OpenSpec.ofChange locateLeastSpec)

/-- ITS FALSE NEIGHBOUR: 'it returns false'. Refute it at one input. -/
def locateLeastWrong : ChangeSpec := { name := "locateLeast", fn := fun _ => fun
  | [d] => { results := [.lit (.bool false)], args := [d] }
  | _ => none }
def LocateLeastWrongFalsely : Prop := locateLeastRow.holds Try.pinned (OpenSpec.ofChange locateLeastWrong)

/-- 'seismonetlaw28.LocateOrder': WHATEVER THE INPUT: true; the input reads as it did. -/
def locateOrderSpec : ChangeSpec := { name := "locateOrder", fn := fun _ => fun
  | [d1, d2] => { results := [.lit (.bool true)], args := [d1, d2] }
  | _ => none }
def locateOrderRow : OpenClaim := { program := "ytcealhikmbchoaa", sum := "e6b7eb47667d449ac1490d3f79c6c8c42404ec5f70c8cfd04c2e418524f29d64", func := "seismonet/seismonetlaw28.LocateOrder", spec := "locateOrder", unfollowed := true, recurses := true, apart := false }
def LocateOrderSaid : Prop := locateOrderRow.holds Try.pinned (OpenSpec.ofChange locateOrderSpec)

/-- ITS FALSE NEIGHBOUR: 'it returns false'. Refute it at one input. -/
def locateOrderWrong : ChangeSpec := { name := "locateOrder", fn := fun _ => fun
  | [d1, d2] => { results := [.lit (.bool false)], args := [d1, d2] }
  | _ => none }
def LocateOrderWrongFalsely : Prop := locateOrderRow.holds Try.pinned (OpenSpec.ofChange locateOrderWrong)

/-- 'seismonetlaw28.LocateFinds': WHATEVER THE INPUT: true; the input reads as it did. -/
def locateFindsSpec : ChangeSpec := { name := "locateFinds", fn := fun _ => fun
  | [d] => { results := [.lit (.bool true)], args := [d] }
  | _ => none }
def locateFindsRow : OpenClaim := { program := "ytcealhikmbchoaa", sum := "e6b7eb47667d449ac1490d3f79c6c8c42404ec5f70c8cfd04c2e418524f29d64", func := "seismonet/seismonetlaw28.LocateFinds", spec := "locateFinds", unfollowed := true, recurses := true, apart := false }
def LocateFindsSaid : Prop := locateFindsRow.holds Try.pinned (OpenSpec.ofChange locateFindsSpec)

/-- ITS FALSE NEIGHBOUR: 'it returns false'. Refute it at one input. -/
def locateFindsWrong : ChangeSpec := { name := "locateFinds", fn := fun _ => fun
  | [d] => { results := [.lit (.bool false)], args := [d] }
  | _ => none }
def LocateFindsWrongFalsely : Prop := locateFindsRow.holds Try.pinned (OpenSpec.ofChange locateFindsWrong)

/-- 'seismonetlaw29.ProofMakes': WHATEVER THE INPUT: true; the input reads as it did. -/
def proofMakesSpec : ChangeSpec := { name := "proofMakes", fn := fun _ => fun
  | [d] => { results := [.lit (.bool true)], args := [d] }
  | _ => none }
def proofMakesRow : OpenClaim := { program := "ytcealhikmbchoaa", sum := "e6b7eb47667d449ac1490d3f79c6c8c42404ec5f70c8cfd04c2e418524f29d64", func := "seismonet/seismonetlaw29.ProofMakes", spec := "proofMakes", unfollowed := true, recurses := true, apart := false }
def ProofMakesSaid : Prop := proofMakesRow.holds Try.pinned (OpenSpec.ofChange proofMakesSpec)

/-- ITS FALSE NEIGHBOUR: 'it returns false'. Refute it at one input. -/
def proofMakesWrong : ChangeSpec := { name := "proofMakes", fn := fun _ => fun
  | [d] => { results := [.lit (.bool false)], args := [d] }
  | _ => none }
def ProofMakesWrongFalsely : Prop := proofMakesRow.holds Try.pinned (OpenSpec.ofChange proofMakesWrong)

/-- 'seismonetlaw29.ProofShortest': WHATEVER THE INPUT: true; the input reads as it did. -/
def proofShortestSpec : ChangeSpec := { name := "proofShortest", fn := fun _ => fun
  | [d] => { results := [.lit (.bool true)], args := [d] }
  | _ => none }
def proofShortestRow : OpenClaim := { program := "ytcealhikmbchoaa", sum := "e6b7eb47667d449ac1490d3f79c6c8c42404ec5f70c8cfd04c2e418524f29d64", func := "seismonet/seismonetlaw29.ProofShortest", spec := "proofShortest", unfollowed := true, recurses := true, apart := false }
def ProofShortestSaid : Prop := proofShortestRow.holds Try.pinned (OpenSpec.ofChange proofShortestSpec)

/-- ITS FALSE NEIGHBOUR: 'it returns false'. Refute it at one input. -/
def proofShortestWrong : ChangeSpec := { name := "proofShortest", fn := fun _ => fun
  | [d] => { results := [.lit (.bool false)], args := [d] }
  | _ => none }
def ProofShortestWrongFalsely : Prop := proofShortestRow.holds Try.pinned (OpenSpec.ofChange proofShortestWrong)

/- THE SECOND FORM. 'bulk': how many values and letters a reading holds, each counted each time it is reached (what is shared counts as often as it is met; a slice's spare places count too). A statement '..UptoSaid' is the law's where the arguments, and the package variables that the reading takes, are together of bulk at most 1048576: NARROWER than '..Said'. Prove '..Said' where nothing that the law and all that it calls make is longer than what came in: it says more and counts as full. Else prove '..UptoSaid'. A law counts once. -/
mutual
def uptoBulk {H : Type} : DataW H → Nat
  | .lit (.string bytes) => bytes.length + 1
  | .lit _ => 1
  | .nil => 1
  | .ptr d => uptoBulk d + 1
  | .slice elems spare => uptoBulkAll elems + uptoBulkAll spare + 1
  | .agg parts => uptoBulkAll parts + 1
  | .iface _ d => uptoBulk d + 1
  | .map entries => uptoBulkEntries entries + 1
  | .held _ => 1
def uptoBulkAll {H : Type} : List (DataW H) → Nat
  | [] => 0
  | d :: r => uptoBulk d + uptoBulkAll r
def uptoBulkEntries {H : Type} : List (Lit × DataW H) → Nat
  | [] => 0
  | x :: r => uptoBulkEntry x + uptoBulkEntries r
def uptoBulkEntry {H : Type} : Lit × DataW H → Nat
  | (.string bytes, d) => bytes.length + uptoBulk d + 1
  | (_, d) => uptoBulk d + 1
 end
def uptoSmall : (H : Type) → List (DataW H) → Bool := fun _ ds => decide (uptoBulkAll ds ≤ 1048576)
def OpenSpec.upto (s : _root_.Go.ChangeSpec) : _root_.Go.OpenSpec := { _root_.Go.OpenSpec.ofChange s with cond := some uptoSmall }

/-- 'seismonetlaw29.ProofSound', WHERE WHAT IT READS IS OF BULK AT MOST 1048576: true; the input reads as it did. -/
def proofSoundUptoRow : OpenClaim := { program := "ytcealhikmbchoaa", sum := "e6b7eb47667d449ac1490d3f79c6c8c42404ec5f70c8cfd04c2e418524f29d64", func := "seismonet/seismonetlaw29.ProofSound", spec := "proofSound", unfollowed := true, recurses := true, apart := false, narrowed := true }
def ProofSoundUptoSaid : Prop := proofSoundUptoRow.holds Try.pinned (OpenSpec.upto proofSoundSpec)

/-- 'seismonetlaw28.LocateLeast', WHERE WHAT IT READS IS OF BULK AT MOST 1048576: true; the input reads as it did. -/
def locateLeastUptoRow : OpenClaim := { program := "ytcealhikmbchoaa", sum := "e6b7eb47667d449ac1490d3f79c6c8c42404ec5f70c8cfd04c2e418524f29d64", func := "seismonet/seismonetlaw28.LocateLeast", spec := "locateLeast", unfollowed := true, recurses := true, apart := false, narrowed := true }
def LocateLeastUptoSaid : Prop := locateLeastUptoRow.holds Try.pinned (OpenSpec.upto locateLeastSpec)

/-- 'seismonetlaw28.LocateOrder', WHERE WHAT IT READS IS OF BULK AT MOST 1048576: true; the input reads as it did. -/
def locateOrderUptoRow : OpenClaim := { program := "ytcealhikmbchoaa", sum := "e6b7eb47667d449ac1490d3f79c6c8c42404ec5f70c8cfd04c2e418524f29d64", func := "seismonet/seismonetlaw28.LocateOrder", spec := "locateOrder", unfollowed := true, recurses := true, apart := false, narrowed := true }
def LocateOrderUptoSaid : Prop := locateOrderUptoRow.holds Try.pinned (OpenSpec.upto locateOrderSpec)

/-- 'seismonetlaw28.LocateFinds', WHERE WHAT IT READS IS OF BULK AT MOST 1048576: true; the input reads as it did. -/
def locateFindsUptoRow : OpenClaim := { program := "ytcealhikmbchoaa", sum := "e6b7eb47667d449ac1490d3f79c6c8c42404ec5f70c8cfd04c2e418524f29d64", func := "seismonet/seismonetlaw28.LocateFinds", spec := "locateFinds", unfollowed := true, recurses := true, apart := false, narrowed := true }
def LocateFindsUptoSaid : Prop := locateFindsUptoRow.holds Try.pinned (OpenSpec.upto locateFindsSpec)

/-- 'seismonetlaw29.ProofMakes', WHERE WHAT IT READS IS OF BULK AT MOST 1048576: true; the input reads as it did. -/
def proofMakesUptoRow : OpenClaim := { program := "ytcealhikmbchoaa", sum := "e6b7eb47667d449ac1490d3f79c6c8c42404ec5f70c8cfd04c2e418524f29d64", func := "seismonet/seismonetlaw29.ProofMakes", spec := "proofMakes", unfollowed := true, recurses := true, apart := false, narrowed := true }
def ProofMakesUptoSaid : Prop := proofMakesUptoRow.holds Try.pinned (OpenSpec.upto proofMakesSpec)

/-- 'seismonetlaw29.ProofShortest', WHERE WHAT IT READS IS OF BULK AT MOST 1048576: true; the input reads as it did. -/
def proofShortestUptoRow : OpenClaim := { program := "ytcealhikmbchoaa", sum := "e6b7eb47667d449ac1490d3f79c6c8c42404ec5f70c8cfd04c2e418524f29d64", func := "seismonet/seismonetlaw29.ProofShortest", spec := "proofShortest", unfollowed := true, recurses := true, apart := false, narrowed := true }
def ProofShortestUptoSaid : Prop := proofShortestUptoRow.holds Try.pinned (OpenSpec.upto proofShortestSpec)

end Rows
end Go.Proofs.Ytcealhikmbchoaa
