/- MagnitudeNetworks: for every input the call returns true, and the arguments read as they did. No condition. -/
import Derived.Test.YtoconichgdlmcaaLaws32n
import Derived.Test.YtoconichgdlmcaaArgs
import Derived.Test.YtoconichgdlmcaaClose
namespace Go.Proofs.Ytoconichgdlmcaa.magnitudeNetworksLaw
set_option linter.all false
open Go.ChangeShapes Go.WideShapes Go.ChangeAt Go.RowKit

theorem own : ownKnob Try.prog.godebug = none := by kernel_rfl
theorem laidOut : laidOutB Try.prog = true := by kernel_rfl
theorem cellsInt : Try.prog.cellsOf 3 = 1 := by kernel_rfl
theorem read_est : Try.prog.readableRec 28 = true ∧ 28 < Try.prog.types.size := ⟨by kernel_rfl, of_decide_eq_true (by kernel_rfl)⟩
theorem read_ests : Try.prog.readableRec 25 = true ∧ 25 < Try.prog.types.size := ⟨by kernel_rfl, of_decide_eq_true (by kernel_rfl)⟩
theorem read_ints : Try.prog.readableRec 22 = true ∧ 22 < Try.prog.types.size := ⟨by kernel_rfl, of_decide_eq_true (by kernel_rfl)⟩

set_option maxRecDepth 100000 in
theorem lifted (os : Os) (started : os.Started) (H : Type) (enc : TypeId × Value → H) :
    ReturnsInHanded {} Try.checked os 6 .any (Rows.magnitudeNetworksSpec.pre6 enc Try.prog Try.f6 Rows.magnitudeNetworksRow.domain false) (Rows.magnitudeNetworksSpec.post enc Try.prog Try.f6 false true false false) := by
  refine returnsInHanded_of_change (C := Try.checked) own started (by kernel_rfl) Try.func6
    (ChangeSpec.witness6 (enc := enc) (C := Try.checked) false ⟨#[], #[.slice none 0 0, .agg #[.int .i64 0, .int .i64 0], .agg #[.int .i64 0, .int .i64 0], .slice none 0 0], []⟩ 8 (by kernel_rfl) (by kernel_rfl) (by kernel_rfl) (by kernel_rfl)) ?_
  intro W base args ds gs before hval0 hW hcnd _
  clear hcnd
  have hval : ∀ (j : Nat) t v, Try.f6.params[j]? = some t → args[j]? = some v → Value.okWide Try.prog W .any base t v := hval0
  have hW0 := hW
  obtain ⟨p, q, hA0, hV, rfl, hfz, hnd⟩ := hW0
  have hA : DataW.TrodAll enc Try.prog W 0 (fun _ => true) true Try.f6.params.toList args.toList ds p := hA0
  rw [Try.params6] at hA hval
  obtain ⟨v0, vs0, d0, ds0, p0, q0, hargs0, rfl, rfl, h0, r0⟩ := trodAll_cons hA
  obtain ⟨v1, vs1, d1, ds1, p1, q1, hargs1, rfl, rfl, h1, r1⟩ := trodAll_cons r0
  obtain ⟨v2, vs2, d2, ds2, p2, q2, hargs2, rfl, rfl, h2, r2⟩ := trodAll_cons r1
  obtain ⟨v3, vs3, d3, ds3, p3, q3, hargs3, rfl, rfl, h3, r3⟩ := trodAll_cons r2
  obtain ⟨rfl, rfl, rfl⟩ := trodAll_nil r3
  subst hargs1
  subst hargs2
  subst hargs3
  obtain rfl : args = #[v0, v1, v2, v3] := by cases args; simp_all
  obtain ⟨rfl, rfl⟩ := trodVars_none hV
  obtain ⟨ls0, se0⟩ := open_ests 6 Try.underlying25 (by kernel_rfl) (by kernel_rfl) (hval 0 25 v0 rfl rfl) h0
  obtain ⟨ns1, rfl, nl1, nb1⟩ := open_flat 2 6 Try.underlying28 (by kernel_rfl) (by kernel_rfl) (hval 1 28 v1 rfl rfl) h1
  obtain ⟨y1_0, y1_1, rfl⟩ := len2 nl1
  obtain ⟨ns2, rfl, nl2, nb2⟩ := open_flat 2 6 Try.underlying28 (by kernel_rfl) (by kernel_rfl) (hval 2 28 v2 rfl rfl) h2
  obtain ⟨y2_0, y2_1, rfl⟩ := len2 nl2
  obtain ⟨xs3, sl3, rg3⟩ := open_sl Try.underlying22 Try.underlying3 cellsInt (hval 3 22 v3 rfl rfl) h3
  refine (magnitudeNetworks_walk W v0 ls0 se0 y1_0 y1_1 y2_0 y2_1 v3 xs3 sl3 rg3).mono fun e W' ⟨he, hb⟩ => ?_
  subst he
  exact law_post hW rfl rfl Try.underlying4 rfl laidOut (by rw [Try.params6]; exact List.forall_mem_cons.2 ⟨read_ests, List.forall_mem_cons.2 ⟨read_est, List.forall_mem_cons.2 ⟨read_est, List.forall_mem_cons.2 ⟨read_ints, fun _ h => by cases h⟩⟩⟩⟩) hb

theorem holds : Rows.MagnitudeNetworksSaid :=
  OpenClaim.holds_of_wide 6 Try.f6 rfl rfl rfl rfl rfl rfl rfl ⟨rfl, rfl, rfl, rfl, rfl⟩ rfl rfl rfl rfl rfl (by kernel_rfl) Try.func6 (by kernel_rfl)
    (of_decide_eq_true (by kernel_rfl)) (by unfold Func.isWrapper; first | (rw [if_pos (by decide +kernel)]; kernel_rfl) | (rw [if_neg (by decide +kernel)]; exact ⟨rfl, rfl⟩))
    (fun os started H enc _ => lifted os started H enc)
#print axioms holds
end Go.Proofs.Ytoconichgdlmcaa.magnitudeNetworksLaw
