/- LocateSearches: for every input the call returns true, and the arguments read as they did. No condition. -/
import Derived.Test.YtcealhikmbchoaaGreatLaws28s
import Derived.Test.YtcealhikmbchoaaGreatArgsP
import Derived.Test.YtcealhikmbchoaaGreatClose
namespace Go.Proofs.YtcealhikmbchoaaGreat.locateSearchesLaw
set_option linter.all false
open Go.ChangeShapes Go.WideShapes Go.ChangeAt Go.RowKit

theorem own : ownKnob Tryz.prog.godebug = none := by kernel_rfl
theorem laidOut : laidOutB Tryz.prog = true := by kernel_rfl
theorem cellsInt : Tryz.prog.cellsOf 3 = 1 := by kernel_rfl
theorem read_int : Tryz.prog.readableRec 3 = true ∧ 3 < Tryz.prog.types.size := ⟨by kernel_rfl, of_decide_eq_true (by kernel_rfl)⟩
theorem read_ints : Tryz.prog.readableRec 28 = true ∧ 28 < Tryz.prog.types.size := ⟨by kernel_rfl, of_decide_eq_true (by kernel_rfl)⟩
theorem read_problem : Tryz.prog.readableRec 36 = true ∧ 36 < Tryz.prog.types.size := ⟨by kernel_rfl, of_decide_eq_true (by kernel_rfl)⟩

set_option maxRecDepth 100000 in
theorem lifted (os : Os) (started : os.Started) (H : Type) (enc : TypeId × Value → H) :
    ReturnsInHanded {} Tryz.checked os 4 .any (Rows.locateSearchesSpec.pre6 enc Tryz.prog Tryz.f4 Rows.locateSearchesRow.domain false) (Rows.locateSearchesSpec.post enc Tryz.prog Tryz.f4 false true false false) := by
  refine returnsInHanded_of_change (C := Tryz.checked) own started (by kernel_rfl) Tryz.func4
    (ChangeSpec.witness6 (enc := enc) (C := Tryz.checked) false ⟨#[], #[.agg #[.int .i64 0, .int .i64 0, .int .i64 0, .int .i64 0, .int .i64 0, .int .i64 0, .int .i64 0, .slice none 0 0, .slice none 0 0, .slice none 0 0, .int .i64 0], .int .i64 0, .slice none 0 0], []⟩ 8 (by kernel_rfl) (by kernel_rfl) (by kernel_rfl) (by kernel_rfl)) ?_
  intro W base args ds gs before hval0 hW hcnd _
  clear hcnd
  have hval : ∀ (j : Nat) t v, Tryz.f4.params[j]? = some t → args[j]? = some v → Value.okWide Tryz.prog W .any base t v := hval0
  have hW0 := hW
  obtain ⟨p, q, hA0, hV, rfl, hfz, hnd⟩ := hW0
  have hA : DataW.TrodAll enc Tryz.prog W 0 (fun _ => true) true Tryz.f4.params.toList args.toList ds p := hA0
  rw [Tryz.params4] at hA hval
  obtain ⟨v0, vs0, d0, ds0, p0, q0, hargs0, rfl, rfl, h0, r0⟩ := trodAll_cons hA
  obtain ⟨v1, vs1, d1, ds1, p1, q1, hargs1, rfl, rfl, h1, r1⟩ := trodAll_cons r0
  obtain ⟨v2, vs2, d2, ds2, p2, q2, hargs2, rfl, rfl, h2, r2⟩ := trodAll_cons r1
  obtain ⟨rfl, rfl, rfl⟩ := trodAll_nil r2
  subst hargs1
  subst hargs2
  obtain rfl : args = #[v0, v1, v2] := by cases args; simp_all
  obtain ⟨rfl, rfl⟩ := trodVars_none hV
  obtain ⟨Q0, vl0, vh0, vp0, rfl, pi0, -, -⟩ := open_problem (tb := 25) Tryz.underlying36 (by kernel_rfl) 6 (by kernel_rfl) (by kernel_rfl) Tryz.underlying33 (by kernel_rfl) Tryz.underlying28 Tryz.underlying3 cellsInt (by kernel_rfl) (by kernel_rfl) 6 Tryz.underlying34 (by kernel_rfl) (by kernel_rfl) (by kernel_rfl) (by kernel_rfl) (hval 0 36 v0 rfl rfl) h0
  obtain ⟨x1, rfl, lo1, hi1⟩ := open_i64 Tryz.underlying3 (hval 1 3 v1 rfl rfl) h1
  obtain ⟨xs2, sl2, rg2⟩ := open_sl Tryz.underlying28 Tryz.underlying3 cellsInt (hval 2 28 v2 rfl rfl) h2
  refine (locateSearches_walk W Q0 vl0 vh0 vp0 pi0 x1 lo1 hi1 v2 xs2 sl2 rg2).mono fun e W' ⟨he, hb⟩ => ?_
  subst he
  exact law_post hW rfl rfl Tryz.underlying4 rfl laidOut (by rw [Tryz.params4]; exact List.forall_mem_cons.2 ⟨read_problem, List.forall_mem_cons.2 ⟨read_int, List.forall_mem_cons.2 ⟨read_ints, fun _ h => by cases h⟩⟩⟩) hb

theorem holds : Rows.LocateSearchesSaid :=
  OpenClaim.holds_of_wide 4 Tryz.f4 rfl rfl rfl rfl rfl rfl rfl ⟨rfl, rfl, rfl, rfl, rfl⟩ rfl rfl rfl rfl rfl (by kernel_rfl) Tryz.func4 (by kernel_rfl)
    (of_decide_eq_true (by kernel_rfl)) (by unfold Func.isWrapper; first | (rw [if_pos (by decide +kernel)]; kernel_rfl) | (rw [if_neg (by decide +kernel)]; exact ⟨rfl, rfl⟩))
    (fun os started H enc _ => lifted os started H enc)
#print axioms holds
end Go.Proofs.YtcealhikmbchoaaGreat.locateSearchesLaw
