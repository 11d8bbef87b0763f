/-
  No cell of these rows narrows 'for every input' (looked for: loops, veiled, ifaces, maps, wideKeys, modest, calm, conditions, laid).
  DERIVED. THE GIVEN ROWS OF THIS SEAT. 6 by the template 'for every input the law returns true; each argument reads behind the call as it read before'; 0 by the template 'total and deterministic' (their statements: YtiebljanpnadjaaGreatTotals.lean).
  GIVEN WITH THE SEED: the statements are not yours to turn. If you find one false, say at which input.
  Laid BY PROGRAM, IN A SANDBOX (cutbox-rows.mjs): the forced cells as the released guide's own fill.sh prints them over the translation ded194a8a90b6f0c… (all of the seat's roots in one cut). By AI agents, Wed Nov 11 2026. No macro, syntax, notation, axiom, sorry.
-/
import Derived.Test.YtiebljanpnadjaaGreatChecked
import GoSem.Claim
import GoSem.ClaimJoined
import GoSem.ClaimMapViews
import Derived.JoinedTies
import Derived.KernelRfl
namespace Go.Proofs.YtiebljanpnadjaaGreat
/- THE CELL 'sum', in the pinned program and in every row, IS THE sha256 OF THE DUMP (.gsa) THAT YtiebljanpnadjaaGreatProg.lean LOADS. Nothing in Lean hashes anything: it is a label: what it is worth is what the hold of that sum in a sandbox is worth. -/
noncomputable def Tryz.pinned : Pinned := { name := "ytiebljanpnadjaagreat", sum := "ded194a8a90b6f0c671b88bf50602fe6423416503603986f374546831571e345", checked := Tryz.checked }
namespace Rows
def none {H : Type} : Left H := { results := [], args := [] }

/-- 'seismonetlaw30.AssociateGroups': WHATEVER THE INPUT: true; the input reads as it did. -/
def associateGroupsSpec : ChangeSpec := { name := "associateGroups", fn := fun _ => fun
  | [d1, d2, d3] => { results := [.lit (.bool true)], args := [d1, d2, d3] }
  | _ => none }
def associateGroupsRow : OpenClaim := { program := "ytiebljanpnadjaagreat", sum := "ded194a8a90b6f0c671b88bf50602fe6423416503603986f374546831571e345", func := "seismonet/seismonetlaw30.AssociateGroups", spec := "associateGroups", unfollowed := true, recurses := true, apart := false }
def AssociateGroupsSaid : Prop := associateGroupsRow.holds Tryz.pinned (OpenSpec.ofChange associateGroupsSpec)

/-- ITS FALSE NEIGHBOUR: 'it returns false'. Refute it at one input. -/
def associateGroupsWrong : ChangeSpec := { name := "associateGroups", fn := fun _ => fun
  | [d1, d2, d3] => { results := [.lit (.bool false)], args := [d1, d2, d3] }
  | _ => none }
def AssociateGroupsWrongFalsely : Prop := associateGroupsRow.holds Tryz.pinned (OpenSpec.ofChange associateGroupsWrong)

/-- 'seismonetlaw30.AssociateApart': WHATEVER THE INPUT: true; the input reads as it did. -/
def associateApartSpec : ChangeSpec := { name := "associateApart", fn := fun _ => fun
  | [d] => { results := [.lit (.bool true)], args := [d] }
  | _ => none }
def associateApartRow : OpenClaim := { program := "ytiebljanpnadjaagreat", sum := "ded194a8a90b6f0c671b88bf50602fe6423416503603986f374546831571e345", func := "seismonet/seismonetlaw30.AssociateApart", spec := "associateApart", unfollowed := true, recurses := true, apart := false }
def AssociateApartSaid : Prop := associateApartRow.holds Tryz.pinned (OpenSpec.ofChange associateApartSpec)

/-- ITS FALSE NEIGHBOUR: 'it returns false'. Refute it at one input. -/
def associateApartWrong : ChangeSpec := { name := "associateApart", fn := fun _ => fun
  | [d] => { results := [.lit (.bool false)], args := [d] }
  | _ => none }
def AssociateApartWrongFalsely : Prop := associateApartRow.holds Tryz.pinned (OpenSpec.ofChange associateApartWrong)

/-- 'seismonetlaw30.AssociateOrder': WHATEVER THE INPUT: true; the input reads as it did. -/
def associateOrderSpec : ChangeSpec := { name := "associateOrder", fn := fun _ => fun
  | [d1, d2] => { results := [.lit (.bool true)], args := [d1, d2] }
  | _ => none }
def associateOrderRow : OpenClaim := { program := "ytiebljanpnadjaagreat", sum := "ded194a8a90b6f0c671b88bf50602fe6423416503603986f374546831571e345", func := "seismonet/seismonetlaw30.AssociateOrder", spec := "associateOrder", unfollowed := true, recurses := true, apart := false }
def AssociateOrderSaid : Prop := associateOrderRow.holds Tryz.pinned (OpenSpec.ofChange associateOrderSpec)

/-- ITS FALSE NEIGHBOUR: 'it returns false'. Refute it at one input. -/
def associateOrderWrong : ChangeSpec := { name := "associateOrder", fn := fun _ => fun
  | [d1, d2] => { results := [.lit (.bool false)], args := [d1, d2] }
  | _ => none }
def AssociateOrderWrongFalsely : Prop := associateOrderRow.holds Tryz.pinned (OpenSpec.ofChange associateOrderWrong)

/-- 'seismonetlaw30.AssociateExplains': WHATEVER THE INPUT: true; the input reads as it did. -/
def associateExplainsSpec : ChangeSpec := { name := "associateExplains", fn := fun _ => fun
  | [d1, d2, d3, d4] => { results := [.lit (.bool true)], args := [d1, d2, d3, d4] }
  | _ => none }
def associateExplainsRow : OpenClaim := { program := "ytiebljanpnadjaagreat", sum := "ded194a8a90b6f0c671b88bf50602fe6423416503603986f374546831571e345", func := "seismonet/seismonetlaw30.AssociateExplains", spec := "associateExplains", unfollowed := true, recurses := true, apart := false }
def AssociateExplainsSaid : Prop := associateExplainsRow.holds Tryz.pinned (OpenSpec.ofChange associateExplainsSpec)

/-- ITS FALSE NEIGHBOUR: 'it returns false'. Refute it at one input. -/
def associateExplainsWrong : ChangeSpec := { name := "associateExplains", fn := fun _ => fun
  | [d1, d2, d3, d4] => { results := [.lit (.bool false)], args := [d1, d2, d3, d4] }
  | _ => none }
def AssociateExplainsWrongFalsely : Prop := associateExplainsRow.holds Tryz.pinned (OpenSpec.ofChange associateExplainsWrong)

/-- 'seismonetlaw30.AssociateParts': WHATEVER THE INPUT: true; the input reads as it did. -/
def associatePartsSpec : ChangeSpec := { name := "associateParts", fn := fun _ => fun
  | [d] => { results := [.lit (.bool true)], args := [d] }
  | _ => none }
def associatePartsRow : OpenClaim := { program := "ytiebljanpnadjaagreat", sum := "ded194a8a90b6f0c671b88bf50602fe6423416503603986f374546831571e345", func := "seismonet/seismonetlaw30.AssociateParts", spec := "associateParts", unfollowed := true, recurses := true, apart := false }
def AssociatePartsSaid : Prop := associatePartsRow.holds Tryz.pinned (OpenSpec.ofChange associatePartsSpec)

/-- ITS FALSE NEIGHBOUR: 'it returns false'. Refute it at one input. -/
def associatePartsWrong : ChangeSpec := { name := "associateParts", fn := fun _ => fun
  | [d] => { results := [.lit (.bool false)], args := [d] }
  | _ => none }
def AssociatePartsWrongFalsely : Prop := associatePartsRow.holds Tryz.pinned (OpenSpec.ofChange associatePartsWrong)

/-- 'seismonetlaw30.AssociateWhole': WHATEVER THE INPUT: true; the input reads as it did. -/
def associateWholeSpec : ChangeSpec := { name := "associateWhole", fn := fun _ => fun
  | [d1, d2] => { results := [.lit (.bool true)], args := [d1, d2] }
  | _ => none }
def associateWholeRow : OpenClaim := { program := "ytiebljanpnadjaagreat", sum := "ded194a8a90b6f0c671b88bf50602fe6423416503603986f374546831571e345", func := "seismonet/seismonetlaw30.AssociateWhole", spec := "associateWhole", unfollowed := true, recurses := true, apart := false }
def AssociateWholeSaid : Prop := associateWholeRow.holds Tryz.pinned (OpenSpec.ofChange associateWholeSpec)

/-- ITS FALSE NEIGHBOUR: 'it returns false'. Refute it at one input. -/
def associateWholeWrong : ChangeSpec := { name := "associateWhole", fn := fun _ => fun
  | [d1, d2] => { results := [.lit (.bool false)], args := [d1, d2] }
  | _ => none }
def AssociateWholeWrongFalsely : Prop := associateWholeRow.holds Tryz.pinned (OpenSpec.ofChange associateWholeWrong)

/- THE SECOND FORM. 'bulk': how many values and letters a reading holds, each counted each time it is reached (what is shared counts as often as it is met; a slice's spare places count too). A statement '..UptoSaid' is the law's where the arguments, and the package variables that the reading takes, are together of bulk at most 1048576: NARROWER than '..Said'. Prove '..Said' where nothing that the law and all that it calls make is longer than what came in: it says more and counts as full. Else prove '..UptoSaid'. A law counts once. -/
mutual
def uptoBulk {H : Type} : DataW H → Nat
  | .lit (.string bytes) => bytes.length + 1
  | .lit _ => 1
  | .nil => 1
  | .ptr d => uptoBulk d + 1
  | .slice elems spare => uptoBulkAll elems + uptoBulkAll spare + 1
  | .agg parts => uptoBulkAll parts + 1
  | .iface _ d => uptoBulk d + 1
  | .map entries => uptoBulkEntries entries + 1
  | .held _ => 1
def uptoBulkAll {H : Type} : List (DataW H) → Nat
  | [] => 0
  | d :: r => uptoBulk d + uptoBulkAll r
def uptoBulkEntries {H : Type} : List (Lit × DataW H) → Nat
  | [] => 0
  | x :: r => uptoBulkEntry x + uptoBulkEntries r
def uptoBulkEntry {H : Type} : Lit × DataW H → Nat
  | (.string bytes, d) => bytes.length + uptoBulk d + 1
  | (_, d) => uptoBulk d + 1
 end
def uptoSmall : (H : Type) → List (DataW H) → Bool := fun _ ds => decide (uptoBulkAll ds ≤ 1048576)
def OpenSpec.upto (s : _root_.Go.ChangeSpec) : _root_.Go.OpenSpec := { _root_.Go.OpenSpec.ofChange s with cond := some uptoSmall }

/-- 'seismonetlaw30.AssociateGroups', WHERE WHAT IT READS IS OF BULK AT MOST 1048576: true; the input reads as it did. -/
def associateGroupsUptoRow : OpenClaim := { program := "ytiebljanpnadjaagreat", sum := "ded194a8a90b6f0c671b88bf50602fe6423416503603986f374546831571e345", func := "seismonet/seismonetlaw30.AssociateGroups", spec := "associateGroups", unfollowed := true, recurses := true, apart := false, narrowed := true }
def AssociateGroupsUptoSaid : Prop := associateGroupsUptoRow.holds Tryz.pinned (OpenSpec.upto associateGroupsSpec)

/-- 'seismonetlaw30.AssociateApart', WHERE WHAT IT READS IS OF BULK AT MOST 1048576: true; the input reads as it did. -/
def associateApartUptoRow : OpenClaim := { program := "ytiebljanpnadjaagreat", sum := "ded194a8a90b6f0c671b88bf50602fe6423416503603986f374546831571e345", func := "seismonet/seismonetlaw30.AssociateApart", spec := "associateApart", unfollowed := true, recurses := true, apart := false, narrowed := true }
def AssociateApartUptoSaid : Prop := associateApartUptoRow.holds Tryz.pinned (OpenSpec.upto associateApartSpec)

/-- 'seismonetlaw30.AssociateOrder', WHERE WHAT IT READS IS OF BULK AT MOST 1048576: true; the input reads as it did. -/
def associateOrderUptoRow : OpenClaim := { program := "ytiebljanpnadjaagreat", sum := "ded194a8a90b6f0c671b88bf50602fe6423416503603986f374546831571e345", func := "seismonet/seismonetlaw30.AssociateOrder", spec := "associateOrder", unfollowed := true, recurses := true, apart := false, narrowed := true }
def AssociateOrderUptoSaid : Prop := associateOrderUptoRow.holds Tryz.pinned (OpenSpec.upto associateOrderSpec)

/-- 'seismonetlaw30.AssociateExplains', WHERE WHAT IT READS IS OF BULK AT MOST 1048576: true; the input reads as it did. -/
def associateExplainsUptoRow : OpenClaim := { program := "ytiebljanpnadjaagreat", sum := "ded194a8a90b6f0c671b88bf50602fe6423416503603986f374546831571e345", func := "seismonet/seismonetlaw30.AssociateExplains", spec := "associateExplains", unfollowed := true, recurses := true, apart := false, narrowed := true }
def AssociateExplainsUptoSaid : Prop := associateExplainsUptoRow.holds Tryz.pinned (OpenSpec.upto associateExplainsSpec)

/-- 'seismonetlaw30.AssociateParts', WHERE WHAT IT READS IS OF BULK AT MOST 1048576: true; the input reads as it did. -/
def associatePartsUptoRow : OpenClaim := { program := "ytiebljanpnadjaagreat", sum := "ded194a8a90b6f0c671b88bf50602fe6423416503603986f374546831571e345", func := "seismonet/seismonetlaw30.AssociateParts", spec := "associateParts", unfollowed := true, recurses := true, apart := false, narrowed := true }
def AssociatePartsUptoSaid : Prop := associatePartsUptoRow.holds Tryz.pinned (OpenSpec.upto associatePartsSpec)

/-- 'seismonetlaw30.AssociateWhole', WHERE WHAT IT READS IS OF BULK AT MOST 1048576: true; the input reads as it did. -/
def associateWholeUptoRow : OpenClaim := { program := "ytiebljanpnadjaagreat", sum := "ded194a8a90b6f0c671b88bf50602fe6423416503603986f374546831571e345", func := "seismonet/seismonetlaw30.AssociateWhole", spec := "associateWhole", unfollowed := true, recurses := true, apart := false, narrowed := true }
def AssociateWholeUptoSaid : Prop := associateWholeUptoRow.holds Tryz.pinned (OpenSpec.upto associateWholeSpec)

end Rows
end Go.Proofs.YtiebljanpnadjaaGreat
