/- ref25.Interval. -/
import Derived.Test.YtelmeggcgocmlaaRef
import Derived.Test.YtelmeggcgocmlaaBnd
namespace Go.Proofs.Ytelmeggcgocmlaa
set_option linter.all false
open Go.RowKit

set_option maxRecDepth 100000 in
set_option maxHeartbeats 1000000 in
theorem rinterval_any (step : Int) (vl vh : Value) (ls hs : List Int) (x0 y0 z0 x1 y1 z1 : Int) (w : World) (h1 : Sl w vl ls) (h2 : Sl w vh hs) :
    Calls Try.prog 41 #[.agg #[.int .i64 step, vl, vh], .agg #[.int .i64 x0, .int .i64 y0, .int .i64 z0], .agg #[.int .i64 x1, .int .i64 y1, .int .i64 z1]] w fun e w' => e = .returned (intV step ls hs x0 y0 z0 x1 y1 z1) ∧ w.grownBy w' none := by
  go_enter Try.func41, Try.ntmps41
  have hg0 := gb_alloc (gb_alloc (gb_alloc (gb_refl w none) (.cells #[.int .i64 step, vl, vh] 46)) (.cells #[.int .i64 x0, .int .i64 y0, .int .i64 z0] 23)) (.cells #[.int .i64 x1, .int .i64 y1, .int .i64 z1] 23)
  go_wp2_with fail
  (with_reducible refine (rvalidate_any _ _ _ ls hs _ (h1.after hg0) (h2.after hg0)).mono ?_)
  rintro e w1 ⟨rfl, hg⟩
  obtain ⟨ca, hza⟩ := gb_at hg (b := w.heap.size) (by simp <;> omega)
  obtain ⟨cb, hzb⟩ := gb_at hg (b := w.heap.size + 1) (by simp <;> omega)
  obtain ⟨cc, hzc⟩ := gb_at hg (b := w.heap.size + 1 + 1) (by simp <;> omega)
  have hg1 := gb_trans hg0 hg
  have S1 := Lib.hid (h1.after hg1); have S2 := Lib.hid (h2.after hg1); have HG := Lib.hid hg1; clear hg hg0 hg1 h1 h2
  by_cases hok : tOk step ls hs
  rotate_left
  · have he : tE step ls hs = 21 := (tE_bad hok).symm
    go_wp2
    refine bodyPost_ret (v := .tuple #[.int .i64 0, .int .i64 0, .int .i64 21]) (by simp [results, Try.results41, go_sem]) rfl ⟨by simp [intV, hok], HG.out⟩
  have he : tE step ls hs = 0 := (tE_ok hok).symm
  have HOK := Lib.hid hok; clear hok
  go_wp2_with fail
  (with_reducible refine (rvalid_any _ _ _ _).mono ?_)
  rintro e w2 ⟨rfl, hg2⟩
  obtain ⟨ca2, hza2⟩ := gb_at hg2 hza
  obtain ⟨cb2, hzb2⟩ := gb_at hg2 hzb
  obtain ⟨cc2, hzc2⟩ := gb_at hg2 hzc
  have S1b := Lib.hid (S1.out.after hg2); have S2b := Lib.hid (S2.out.after hg2); have HG2 := Lib.hid (gb_trans HG.out hg2); clear hg2 S1 S2 HG he
  cases hv0 : vP x0 y0 z0
  · go_wp2
    refine bodyPost_ret (v := .tuple #[.int .i64 0, .int .i64 0, .int .i64 20]) (by simp [results, Try.results41, go_sem]) rfl ⟨by simp [intV, HOK.out, hv0], HG2.out⟩
  go_wp2_with fail
  (with_reducible refine (rvalid_any _ _ _ _).mono ?_)
  rintro e w3 ⟨rfl, hg3⟩
  obtain ⟨ca3, hza3⟩ := gb_at hg3 hza2
  obtain ⟨cb3, hzb3⟩ := gb_at hg3 hzb2
  obtain ⟨cc3, hzc3⟩ := gb_at hg3 hzc2
  have S1c := Lib.hid (S1b.out.after hg3); have S2c := Lib.hid (S2b.out.after hg3); have HG3 := Lib.hid (gb_trans HG2.out hg3); clear hg3 S1b S2b HG2
  cases hv1 : vP x1 y1 z1
  · go_wp2
    refine bodyPost_ret (v := .tuple #[.int .i64 0, .int .i64 0, .int .i64 20]) (by simp [results, Try.results41, go_sem]) rfl ⟨by simp [intV, HOK.out, hv0, hv1], HG3.out⟩
  have hq : sqP x0 y0 z0 x1 y1 z1 = sqD x0 y0 z0 x1 y1 z1 := by simp [sqP, hv0, hv1]
  have hb : sqD x0 y0 z0 x1 y1 z1 ≤ 9223372036854775807 := by
    have a := vP_iff hv0; have b := vP_iff hv1
    have s0 := (sq_small (d := x0 - x1) (by omega) (by omega)).2.1
    have s1 := (sq_small (d := y0 - y1) (by omega) (by omega)).2.1
    have s2 := (sq_small (d := z0 - z1) (by omega) (by omega)).2.1
    unfold sqD; omega
  have HI := Lib.hid (show intV step ls hs x0 y0 z0 x1 y1 z1 = btw step ls hs (sqD x0 y0 z0 x1 y1 z1) (sqD x0 y0 z0 x1 y1 z1) from by simp [intV, HOK.out, hv0, hv1])
  have HQ := Lib.hid hq
  clear hv0 hv1 hq
  go_wp2_with fail
  (with_reducible refine (rsquare_any _ _ _ _ _ _ _).mono ?_)
  rintro e w4 ⟨rfl, hg4⟩
  rw [HQ.out]
  obtain ⟨ca4, hza4⟩ := gb_at hg4 hza3
  have S1d := Lib.hid (S1c.out.after hg4); have S2d := Lib.hid (S2c.out.after hg4); have HG4 := Lib.hid (gb_trans HG3.out hg4); clear hg4 S1c S2c HG3 cb cb2 cb3 cc cc2 cc3 hzb hzb2 hzb3 hzc hzc2 hzc3
  generalize sqD x0 y0 z0 x1 y1 z1 = d at *
  go_wp2_with fail
  (with_reducible refine (rbetween_any _ _ _ _ _ _ _ w4 S1d.out S2d.out hb).mono ?_)
  rintro e w5 ⟨rfl, hg5⟩
  have HG5 := Lib.hid (gb_trans HG4.out hg5); clear hg5
  rw [show btw step ls hs d d = .tuple #[.int .i64 (btwA step ls hs d d), .int .i64 (btwB step ls hs d d), .int .i64 (btwE step ls hs d d)] from rfl]
  go_wp2
  exact bodyPost_ret (v := .tuple #[.int .i64 (btwA step ls hs d d), .int .i64 (btwB step ls hs d d), .int .i64 (btwE step ls hs d d)]) (by simp [results, Try.results41, go_sem]) rfl ⟨by rw [HI.out]; rfl, HG5.out⟩
end Go.Proofs.Ytelmeggcgocmlaa
