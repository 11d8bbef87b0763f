/- AssociateExplains: for every input the call returns true, and the arguments read as they did. No condition. -/
import Derived.Test.YtiebljanpnadjaaGreatPeLaws30e
import Derived.Test.YtiebljanpnadjaaGreatPeArgsA
import Derived.Test.YtiebljanpnadjaaGreatPeBase
namespace Go.Proofs.YtiebljanpnadjaaGreat.associateExplainsLaw
set_option linter.all false
open Go.ChangeShapes Go.WideShapes Go.ChangeAt Go.RowKit
theorem own : ownKnob Tryz.prog.godebug = none := by kernel_rfl
theorem laidOut : laidOutB Tryz.prog = true := by kernel_rfl
theorem cellsInt : Tryz.prog.cellsOf 3 = 1 := by kernel_rfl
theorem read_asc : Tryz.prog.readableRec 30 = true ∧ 30 < Tryz.prog.types.size := ⟨by kernel_rfl, of_decide_eq_true (by kernel_rfl)⟩
theorem read_group : Tryz.prog.readableRec 53 = true ∧ 53 < Tryz.prog.types.size := ⟨by kernel_rfl, of_decide_eq_true (by kernel_rfl)⟩
theorem read_ints : Tryz.prog.readableRec 26 = true ∧ 26 < Tryz.prog.types.size := ⟨by kernel_rfl, of_decide_eq_true (by kernel_rfl)⟩
theorem read_phs : Tryz.prog.readableRec 31 = true ∧ 31 < Tryz.prog.types.size := ⟨by kernel_rfl, of_decide_eq_true (by kernel_rfl)⟩
set_option maxRecDepth 100000 in
theorem lifted (os : Os) (started : os.Started) (H : Type) (enc : TypeId × Value → H) :
    ReturnsInHanded {} Tryz.checked os 6 .any (Rows.associateExplainsSpec.pre6 enc Tryz.prog Tryz.f6 Rows.associateExplainsRow.domain false) (Rows.associateExplainsSpec.post enc Tryz.prog Tryz.f6 false true false false) := by
  refine returnsInHanded_of_change (C := Tryz.checked) own started (by kernel_rfl) Tryz.func6
    (ChangeSpec.witness6 (enc := enc) (C := Tryz.checked) false ⟨#[], #[.agg #[.int .i64 0, .int .i64 0, .int .i64 0, .int .i64 0, .int .i64 0, .int .i64 0, .int .i64 0, .slice none 0 0, .slice none 0 0, .int .i64 0, .int .i64 0, .int .i64 0, .int .i64 0, .int .i64 0], .slice none 0 0, .agg #[.slice none 0 0, .int .i64 0, .int .i64 0, .int .i64 0, .int .i64 0], .slice none 0 0], []⟩ 8 (by kernel_rfl) (by kernel_rfl) (by kernel_rfl) (by kernel_rfl)) ?_
  intro W base args ds gs before hval0 hW hcnd _
  clear hcnd
  have hval : ∀ (j : Nat) t v, Tryz.f6.params[j]? = some t → args[j]? = some v → Value.okWide Tryz.prog W .any base t v := hval0
  have hW0 := hW
  obtain ⟨p, q, hA0, hV, rfl, hfz, hnd⟩ := hW0
  have hA : DataW.TrodAll enc Tryz.prog W 0 (fun _ => true) true Tryz.f6.params.toList args.toList ds p := hA0
  rw [Tryz.params6] at hA hval
  obtain ⟨v0, vs0, d0, ds0, p0, q0, hargs0, rfl, rfl, h0, r0⟩ := trodAll_cons hA
  obtain ⟨v1, vs1, d1, ds1, p1, q1, hargs1, rfl, rfl, h1, r1⟩ := trodAll_cons r0
  obtain ⟨v2, vs2, d2, ds2, p2, q2, hargs2, rfl, rfl, h2, r2⟩ := trodAll_cons r1
  obtain ⟨v3, vs3, d3, ds3, p3, q3, hargs3, rfl, rfl, h3, r3⟩ := trodAll_cons r2
  obtain ⟨rfl, rfl, rfl⟩ := trodAll_nil r3
  subst hargs1
  subst hargs2
  subst hargs3
  obtain rfl : args = #[v0, v1, v2, v3] := by cases args; simp_all
  obtain ⟨rfl, rfl⟩ := trodVars_none hV
  obtain ⟨A0, vl0, vh0, rfl, ai0⟩ := open_asc (tb := 25) Tryz.underlying30 (by kernel_rfl) 6 (by kernel_rfl) (by kernel_rfl) Tryz.underlying28 (by kernel_rfl) Tryz.underlying26 Tryz.underlying3 cellsInt (by kernel_rfl) (by kernel_rfl) (by kernel_rfl) (hval 0 30 v0 rfl rfl) h0
  obtain ⟨lp1, sp1⟩ := open_phs 6 Tryz.underlying31 (by kernel_rfl) (by kernel_rfl) (hval 1 31 v1 rfl rfl) h1
  obtain ⟨mv2, ms2, px2, py2, pz2, pt2, rfl, sm2⟩ := open_group (tp := 23) Tryz.underlying53 (by kernel_rfl) 6 (by kernel_rfl) (by kernel_rfl) Tryz.underlying26 Tryz.underlying3 cellsInt (by kernel_rfl) (by kernel_rfl) (hval 2 53 v2 rfl rfl) h2
  obtain ⟨xs3, sl3, rg3⟩ := open_sl Tryz.underlying26 Tryz.underlying3 cellsInt (hval 3 26 v3 rfl rfl) h3
  refine (associateExplains_walk W A0 vl0 vh0 ai0 v1 lp1 sp1 mv2 ms2 px2 py2 pz2 pt2 sm2 v3 xs3 sl3 rg3).mono fun e W' ⟨he, hb⟩ => ?_
  subst he
  exact law_post hW rfl rfl Tryz.underlying4 rfl laidOut (by rw [Tryz.params6]; exact List.forall_mem_cons.2 ⟨read_asc, List.forall_mem_cons.2 ⟨read_phs, List.forall_mem_cons.2 ⟨read_group, List.forall_mem_cons.2 ⟨read_ints, fun _ h => by cases h⟩⟩⟩⟩) hb
theorem holds : Rows.AssociateExplainsSaid :=
  OpenClaim.holds_of_wide 6 Tryz.f6 rfl rfl rfl rfl rfl rfl rfl ⟨rfl, rfl, rfl, rfl, rfl⟩ rfl rfl rfl rfl rfl (by kernel_rfl) Tryz.func6 (by kernel_rfl)
    (of_decide_eq_true (by kernel_rfl)) (by unfold Func.isWrapper; first | (rw [if_pos (by decide +kernel)]; kernel_rfl) | (rw [if_neg (by decide +kernel)]; exact ⟨rfl, rfl⟩))
    (fun os started H enc _ => lifted os started H enc)
#print axioms holds
end Go.Proofs.YtiebljanpnadjaaGreat.associateExplainsLaw
