/- MagnitudeStations: for every input the call returns true, and the arguments read as they did. No condition. -/
import Derived.Test.YtmgfdfbhfhmekaaGreatLaws32s
import Derived.Test.YtmgfdfbhfhmekaaGreatArgsR
import Derived.Test.YtmgfdfbhfhmekaaGreatClose
namespace Go.Proofs.YtmgfdfbhfhmekaaGreat.magnitudeStationsLaw
set_option linter.all false
open Go.ChangeShapes Go.WideShapes Go.ChangeAt Go.RowKit

theorem own : ownKnob Tryz.prog.godebug = none := by kernel_rfl
theorem laidOut : laidOutB Tryz.prog = true := by kernel_rfl
theorem cellsInt : Tryz.prog.cellsOf 3 = 1 := by kernel_rfl
theorem read_int : Tryz.prog.readableRec 3 = true ∧ 3 < Tryz.prog.types.size := ⟨by kernel_rfl, of_decide_eq_true (by kernel_rfl)⟩
theorem read_ints : Tryz.prog.readableRec 22 = true ∧ 22 < Tryz.prog.types.size := ⟨by kernel_rfl, of_decide_eq_true (by kernel_rfl)⟩
theorem read_response : Tryz.prog.readableRec 29 = true ∧ 29 < Tryz.prog.types.size := ⟨by kernel_rfl, of_decide_eq_true (by kernel_rfl)⟩
theorem read_scale : Tryz.prog.readableRec 26 = true ∧ 26 < Tryz.prog.types.size := ⟨by kernel_rfl, of_decide_eq_true (by kernel_rfl)⟩

set_option maxRecDepth 100000 in
theorem lifted (os : Os) (started : os.Started) (H : Type) (enc : TypeId × Value → H) :
    ReturnsInHanded {} Tryz.checked os 3 .any (Rows.magnitudeStationsSpec.pre6 enc Tryz.prog Tryz.f3 Rows.magnitudeStationsRow.domain false) (Rows.magnitudeStationsSpec.post enc Tryz.prog Tryz.f3 false true false false) := by
  refine returnsInHanded_of_change (C := Tryz.checked) own started (by kernel_rfl) Tryz.func3
    (ChangeSpec.witness6 (enc := enc) (C := Tryz.checked) false ⟨#[], #[.agg #[.int .i64 0, .slice none 0 0, .slice none 0 0, .int .i64 0, .int .i64 0], .agg #[.slice none 0 0], .int .i64 0, .int .i64 0, .int .i64 0, .slice none 0 0], []⟩ 8 (by kernel_rfl) (by kernel_rfl) (by kernel_rfl) (by kernel_rfl)) ?_
  intro W base args ds gs before hval0 hW hcnd _
  clear hcnd
  have hval : ∀ (j : Nat) t v, Tryz.f3.params[j]? = some t → args[j]? = some v → Value.okWide Tryz.prog W .any base t v := hval0
  have hW0 := hW
  obtain ⟨p, q, hA0, hV, rfl, hfz, hnd⟩ := hW0
  have hA : DataW.TrodAll enc Tryz.prog W 0 (fun _ => true) true Tryz.f3.params.toList args.toList ds p := hA0
  rw [Tryz.params3] at hA hval
  obtain ⟨v0, vs0, d0, ds0, p0, q0, hargs0, rfl, rfl, h0, r0⟩ := trodAll_cons hA
  obtain ⟨v1, vs1, d1, ds1, p1, q1, hargs1, rfl, rfl, h1, r1⟩ := trodAll_cons r0
  obtain ⟨v2, vs2, d2, ds2, p2, q2, hargs2, rfl, rfl, h2, r2⟩ := trodAll_cons r1
  obtain ⟨v3, vs3, d3, ds3, p3, q3, hargs3, rfl, rfl, h3, r3⟩ := trodAll_cons r2
  obtain ⟨v4, vs4, d4, ds4, p4, q4, hargs4, rfl, rfl, h4, r4⟩ := trodAll_cons r3
  obtain ⟨v5, vs5, d5, ds5, p5, q5, hargs5, rfl, rfl, h5, r5⟩ := trodAll_cons r4
  obtain ⟨rfl, rfl, rfl⟩ := trodAll_nil r5
  subst hargs1
  subst hargs2
  subst hargs3
  subst hargs4
  subst hargs5
  obtain rfl : args = #[v0, v1, v2, v3, v4, v5] := by cases args; simp_all
  obtain ⟨rfl, rfl⟩ := trodVars_none hV
  obtain ⟨st0, nu0, de0, vl0, vh0, ls0, hs0, rfl, sl0, sh0⟩ := open_scale Tryz.underlying26 (by kernel_rfl) Tryz.underlying24 (by kernel_rfl) Tryz.underlying22 Tryz.underlying3 cellsInt (by kernel_rfl) (by kernel_rfl) (by kernel_rfl) (hval 0 26 v0 rfl rfl) h0
  obtain ⟨vr1, L1, rfl, st1'⟩ := open_response Tryz.underlying29 (by kernel_rfl) (by kernel_rfl) (by kernel_rfl) Tryz.underlying27 Tryz.underlying53 (by kernel_rfl) Tryz.underlying3 Tryz.underlying51 Tryz.underlying22 cellsInt (by kernel_rfl) (by kernel_rfl) (by kernel_rfl) (hval 1 29 v1 rfl rfl) h1
  obtain ⟨x2, rfl, lo2, hi2⟩ := open_i64 Tryz.underlying3 (hval 2 3 v2 rfl rfl) h2
  obtain ⟨x3, rfl, lo3, hi3⟩ := open_i64 Tryz.underlying3 (hval 3 3 v3 rfl rfl) h3
  obtain ⟨x4, rfl, lo4, hi4⟩ := open_i64 Tryz.underlying3 (hval 4 3 v4 rfl rfl) h4
  obtain ⟨xs5, sl5, rg5⟩ := open_sl Tryz.underlying22 Tryz.underlying3 cellsInt (hval 5 22 v5 rfl rfl) h5
  refine (magnitudeStations_walk W st0 nu0 de0 vl0 vh0 ls0 hs0 sl0 sh0 vr1 L1 st1' x2 lo2 hi2 x3 lo3 hi3 x4 lo4 hi4 v5 xs5 sl5 rg5).mono fun e W' ⟨he, hb⟩ => ?_
  subst he
  exact law_post hW rfl rfl Tryz.underlying4 rfl laidOut (by rw [Tryz.params3]; exact List.forall_mem_cons.2 ⟨read_scale, List.forall_mem_cons.2 ⟨read_response, List.forall_mem_cons.2 ⟨read_int, List.forall_mem_cons.2 ⟨read_int, List.forall_mem_cons.2 ⟨read_int, List.forall_mem_cons.2 ⟨read_ints, fun _ h => by cases h⟩⟩⟩⟩⟩⟩) hb

theorem holds : Rows.MagnitudeStationsSaid :=
  OpenClaim.holds_of_wide 3 Tryz.f3 rfl rfl rfl rfl rfl rfl rfl ⟨rfl, rfl, rfl, rfl, rfl⟩ rfl rfl rfl rfl rfl (by kernel_rfl) Tryz.func3 (by kernel_rfl)
    (of_decide_eq_true (by kernel_rfl)) (by unfold Func.isWrapper; first | (rw [if_pos (by decide +kernel)]; kernel_rfl) | (rw [if_neg (by decide +kernel)]; exact ⟨rfl, rfl⟩))
    (fun os started H enc _ => lifted os started H enc)
#print axioms holds
end Go.Proofs.YtmgfdfbhfhmekaaGreat.magnitudeStationsLaw
