/- AssociateWhole: for every input the call returns true, and the arguments read as they did. No condition. -/
import Derived.Test.YtiebljanpnadjaaGreatPdLaws30w
import Derived.Test.YtiebljanpnadjaaGreatPdBase
namespace Go.Proofs.YtiebljanpnadjaaGreat.associateWholeLaw
set_option linter.all false
open Go.ChangeShapes Go.WideShapes Go.ChangeAt Go.RowKit
theorem own : ownKnob Tryz.prog.godebug = none := by kernel_rfl
theorem laidOut : laidOutB Tryz.prog = true := by kernel_rfl
theorem cellsInt : Tryz.prog.cellsOf 3 = 1 := by kernel_rfl
theorem read_ints : Tryz.prog.readableRec 26 = true ∧ 26 < Tryz.prog.types.size := ⟨by kernel_rfl, of_decide_eq_true (by kernel_rfl)⟩
set_option maxRecDepth 100000 in
theorem lifted (os : Os) (started : os.Started) (H : Type) (enc : TypeId × Value → H) :
    ReturnsInHanded {} Tryz.checked os 8 .any (Rows.associateWholeSpec.pre6 enc Tryz.prog Tryz.f8 Rows.associateWholeRow.domain false) (Rows.associateWholeSpec.post enc Tryz.prog Tryz.f8 false true false false) := by
  refine returnsInHanded_of_change (C := Tryz.checked) own started (by kernel_rfl) Tryz.func8
    (ChangeSpec.witness6 (enc := enc) (C := Tryz.checked) false ⟨#[], #[.slice none 0 0, .slice none 0 0], []⟩ 8 (by kernel_rfl) (by kernel_rfl) (by kernel_rfl) (by kernel_rfl)) ?_
  intro W base args ds gs before hval0 hW hcnd _
  clear hcnd
  have hval : ∀ (j : Nat) t v, Tryz.f8.params[j]? = some t → args[j]? = some v → Value.okWide Tryz.prog W .any base t v := hval0
  have hW0 := hW
  obtain ⟨p, q, hA0, hV, rfl, hfz, hnd⟩ := hW0
  have hA : DataW.TrodAll enc Tryz.prog W 0 (fun _ => true) true Tryz.f8.params.toList args.toList ds p := hA0
  rw [Tryz.params8] at hA hval
  obtain ⟨v0, vs0, d0, ds0, p0, q0, hargs0, rfl, rfl, h0, r0⟩ := trodAll_cons hA
  obtain ⟨v1, vs1, d1, ds1, p1, q1, hargs1, rfl, rfl, h1, r1⟩ := trodAll_cons r0
  obtain ⟨rfl, rfl, rfl⟩ := trodAll_nil r1
  subst hargs1
  obtain rfl : args = #[v0, v1] := by cases args; simp_all
  obtain ⟨rfl, rfl⟩ := trodVars_none hV
  obtain ⟨xs0, sl0, rg0⟩ := open_sl Tryz.underlying26 Tryz.underlying3 cellsInt (hval 0 26 v0 rfl rfl) h0
  obtain ⟨xs1, sl1, rg1⟩ := open_sl Tryz.underlying26 Tryz.underlying3 cellsInt (hval 1 26 v1 rfl rfl) h1
  refine (associateWhole_walk W v0 xs0 sl0 rg0 v1 xs1 sl1 rg1).mono fun e W' ⟨he, hb⟩ => ?_
  subst he
  exact law_post hW rfl rfl Tryz.underlying4 rfl laidOut (by rw [Tryz.params8]; exact List.forall_mem_cons.2 ⟨read_ints, List.forall_mem_cons.2 ⟨read_ints, fun _ h => by cases h⟩⟩) hb
theorem holds : Rows.AssociateWholeSaid :=
  OpenClaim.holds_of_wide 8 Tryz.f8 rfl rfl rfl rfl rfl rfl rfl ⟨rfl, rfl, rfl, rfl, rfl⟩ rfl rfl rfl rfl rfl (by kernel_rfl) Tryz.func8 (by kernel_rfl)
    (of_decide_eq_true (by kernel_rfl)) (by unfold Func.isWrapper; first | (rw [if_pos (by decide +kernel)]; kernel_rfl) | (rw [if_neg (by decide +kernel)]; exact ⟨rfl, rfl⟩))
    (fun os started H enc _ => lifted os started H enc)
#print axioms holds
end Go.Proofs.YtiebljanpnadjaaGreat.associateWholeLaw
