import Derived.Test.YtlddgafbgaaiiaaGreatDoorRows
import Derived.SevenTiedAt
import Derived.KernelRfl
set_option linter.all false
set_option maxRecDepth 100000
namespace Go.Proofs.YtlddgafbgaaiiaaGreatDoor.topStreamsLaw
open Go
/-- No function of the program has a go statement: so the call starts none. -/
theorem goesBy_none {P : Program} {c : OpenClaim} (h : P.funcs.any Func.goes = false) (hs : c.start = .entering) : false = c.goesBy P := by
  have h' : ∀ g : FuncId, (P.funcs[g]?).any Func.goes = false := fun g => by
    cases e : P.funcs[g]? with
    | none => rfl
    | some fn =>
      obtain ⟨hl, rfl⟩ := Array.getElem?_eq_some_iff.1 e
      have := Array.any_eq_false.1 h g hl
      simpa using this
  have hg : ∀ f : FuncId, P.goes f = false := fun f => by unfold Program.goes; simp [h, h']
  unfold OpenClaim.goesBy Program.goesAt Program.goesFrom
  rw [hs]
  cases P.funcNamed c.func with
  | none => rfl
  | some f => simp [hg f]
theorem no_go : Tryz.prog.funcs.any Func.goes = false := by kernel_rfl
end Go.Proofs.YtlddgafbgaaiiaaGreatDoor.topStreamsLaw
