/- TravelTables: for every input the call returns true, and the arguments read as they did. No condition. -/
import Derived.Test.YtelmeggcgocmlaaLaws25x
import Derived.Test.YtelmeggcgocmlaaArgs
import Derived.Test.YtelmeggcgocmlaaClose
namespace Go.Proofs.Ytelmeggcgocmlaa.travelTablesLaw
set_option linter.all false
open Go.ChangeShapes Go.WideShapes Go.ChangeAt Go.RowKit

theorem own : ownKnob Try.prog.godebug = none := by kernel_rfl
theorem laidOut : laidOutB Try.prog = true := by kernel_rfl
theorem cellsInt : Try.prog.cellsOf 3 = 1 := by kernel_rfl
theorem read_int : Try.prog.readableRec 3 = true ∧ 3 < Try.prog.types.size := ⟨by kernel_rfl, of_decide_eq_true (by kernel_rfl)⟩
theorem read_ints : Try.prog.readableRec 26 = true ∧ 26 < Try.prog.types.size := ⟨by kernel_rfl, of_decide_eq_true (by kernel_rfl)⟩
theorem read_pos : Try.prog.readableRec 23 = true ∧ 23 < Try.prog.types.size := ⟨by kernel_rfl, of_decide_eq_true (by kernel_rfl)⟩
theorem read_table : Try.prog.readableRec 46 = true ∧ 46 < Try.prog.types.size := ⟨by kernel_rfl, of_decide_eq_true (by kernel_rfl)⟩

set_option maxRecDepth 100000 in
theorem lifted (os : Os) (started : os.Started) (H : Type) (enc : TypeId × Value → H) :
    ReturnsInHanded {} Try.checked os 4 .any (Rows.travelTablesSpec.pre6 enc Try.prog Try.f4 Rows.travelTablesRow.domain false) (Rows.travelTablesSpec.post enc Try.prog Try.f4 false true false false) := by
  refine returnsInHanded_of_change (C := Try.checked) own started (by kernel_rfl) Try.func4
    (ChangeSpec.witness6 (enc := enc) (C := Try.checked) false ⟨#[], #[.agg #[.int .i64 0, .slice none 0 0, .slice none 0 0], .int .i64 0, .int .i64 0, .int .i64 0, .agg #[.int .i64 0, .int .i64 0, .int .i64 0], .agg #[.int .i64 0, .int .i64 0, .int .i64 0], .slice none 0 0], []⟩ 8 (by kernel_rfl) (by kernel_rfl) (by kernel_rfl) (by kernel_rfl)) ?_
  intro W base args ds gs before hval0 hW hcnd _
  clear hcnd
  have hval : ∀ (j : Nat) t v, Try.f4.params[j]? = some t → args[j]? = some v → Value.okWide Try.prog W .any base t v := hval0
  have hW0 := hW
  obtain ⟨p, q, hA0, hV, rfl, hfz, hnd⟩ := hW0
  have hA : DataW.TrodAll enc Try.prog W 0 (fun _ => true) true Try.f4.params.toList args.toList ds p := hA0
  rw [Try.params4] at hA hval
  obtain ⟨v0, vs0, d0, ds0, p0, q0, hargs0, rfl, rfl, h0, r0⟩ := trodAll_cons hA
  obtain ⟨v1, vs1, d1, ds1, p1, q1, hargs1, rfl, rfl, h1, r1⟩ := trodAll_cons r0
  obtain ⟨v2, vs2, d2, ds2, p2, q2, hargs2, rfl, rfl, h2, r2⟩ := trodAll_cons r1
  obtain ⟨v3, vs3, d3, ds3, p3, q3, hargs3, rfl, rfl, h3, r3⟩ := trodAll_cons r2
  obtain ⟨v4, vs4, d4, ds4, p4, q4, hargs4, rfl, rfl, h4, r4⟩ := trodAll_cons r3
  obtain ⟨v5, vs5, d5, ds5, p5, q5, hargs5, rfl, rfl, h5, r5⟩ := trodAll_cons r4
  obtain ⟨v6, vs6, d6, ds6, p6, q6, hargs6, rfl, rfl, h6, r6⟩ := trodAll_cons r5
  obtain ⟨rfl, rfl, rfl⟩ := trodAll_nil r6
  subst hargs1
  subst hargs2
  subst hargs3
  subst hargs4
  subst hargs5
  subst hargs6
  obtain rfl : args = #[v0, v1, v2, v3, v4, v5, v6] := by cases args; simp_all
  obtain ⟨rfl, rfl⟩ := trodVars_none hV
  obtain ⟨st0, vl0, vh0, ls0, hs0, rfl, sl0, sh0, tb0⟩ := open_table Try.underlying46 (by kernel_rfl) Try.underlying26 Try.underlying3 cellsInt (by kernel_rfl) (by kernel_rfl) (hval 0 46 v0 rfl rfl) h0
  obtain ⟨x1, rfl, lo1, hi1⟩ := open_i64 Try.underlying3 (hval 1 3 v1 rfl rfl) h1
  obtain ⟨x2, rfl, lo2, hi2⟩ := open_i64 Try.underlying3 (hval 2 3 v2 rfl rfl) h2
  obtain ⟨x3, rfl, lo3, hi3⟩ := open_i64 Try.underlying3 (hval 3 3 v3 rfl rfl) h3
  obtain ⟨ns4, rfl, nl4, nb4⟩ := open_flat 3 6 Try.underlying23 (by kernel_rfl) (by kernel_rfl) (hval 4 23 v4 rfl rfl) h4
  obtain ⟨y4_0, y4_1, y4_2, rfl⟩ := len3 nl4
  obtain ⟨ns5, rfl, nl5, nb5⟩ := open_flat 3 6 Try.underlying23 (by kernel_rfl) (by kernel_rfl) (hval 5 23 v5 rfl rfl) h5
  obtain ⟨y5_0, y5_1, y5_2, rfl⟩ := len3 nl5
  obtain ⟨xs6, sl6, rg6⟩ := open_sl Try.underlying26 Try.underlying3 cellsInt (hval 6 26 v6 rfl rfl) h6
  refine (travelTables_walk W st0 vl0 vh0 ls0 hs0 sl0 sh0 x1 lo1 hi1 x2 lo2 hi2 x3 lo3 hi3 y4_0 y4_1 y4_2 y5_0 y5_1 y5_2 v6 xs6 sl6 rg6).mono fun e W' ⟨he, hb⟩ => ?_
  subst he
  exact law_post hW rfl rfl Try.underlying4 rfl laidOut (by rw [Try.params4]; exact List.forall_mem_cons.2 ⟨read_table, List.forall_mem_cons.2 ⟨read_int, List.forall_mem_cons.2 ⟨read_int, List.forall_mem_cons.2 ⟨read_int, List.forall_mem_cons.2 ⟨read_pos, List.forall_mem_cons.2 ⟨read_pos, List.forall_mem_cons.2 ⟨read_ints, fun _ h => by cases h⟩⟩⟩⟩⟩⟩⟩) hb

theorem holds : Rows.TravelTablesSaid :=
  OpenClaim.holds_of_wide 4 Try.f4 rfl rfl rfl rfl rfl rfl rfl ⟨rfl, rfl, rfl, rfl, rfl⟩ rfl rfl rfl rfl rfl (by kernel_rfl) Try.func4 (by kernel_rfl)
    (of_decide_eq_true (by kernel_rfl)) (by unfold Func.isWrapper; first | (rw [if_pos (by decide +kernel)]; kernel_rfl) | (rw [if_neg (by decide +kernel)]; exact ⟨rfl, rfl⟩))
    (fun os started H enc _ => lifted os started H enc)
#print axioms holds
end Go.Proofs.Ytelmeggcgocmlaa.travelTablesLaw
