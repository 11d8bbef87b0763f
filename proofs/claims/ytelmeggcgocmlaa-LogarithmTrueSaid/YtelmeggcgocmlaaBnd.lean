/- travel.Interval. -/
import Derived.Test.YtelmeggcgocmlaaTrv
import Derived.Test.YtelmeggcgocmlaaGeo
import Derived.Test.YtelmeggcgocmlaaGeoP
import Derived.Test.YtelmeggcgocmlaaRgMade
namespace Go.Proofs.Ytelmeggcgocmlaa
set_option linter.all false
section LTrvH
open Go.RowKit

/-- What Interval returns. -/
def intV (step : Int) (ls hs : List Int) (x0 y0 z0 x1 y1 z1 : Int) : Value :=
  if tOk step ls hs then (if vP x0 y0 z0 && vP x1 y1 z1 then btw step ls hs (sqD x0 y0 z0 x1 y1 z1) (sqD x0 y0 z0 x1 y1 z1) else .tuple #[.int .i64 0, .int .i64 0, .int .i64 20]) else .tuple #[.int .i64 0, .int .i64 0, .int .i64 21]

set_option maxRecDepth 100000 in
set_option maxHeartbeats 1000000 in
theorem interval_any (step : Int) (vl vh : Value) (ls hs : List Int) (x0 y0 z0 x1 y1 z1 : Int) (w : World) (h1 : Sl w vl ls) (h2 : Sl w vh hs) :
    Calls Try.prog 40 #[.agg #[.int .i64 step, vl, vh], .agg #[.int .i64 x0, .int .i64 y0, .int .i64 z0], .agg #[.int .i64 x1, .int .i64 y1, .int .i64 z1]] w fun e w' => e = .returned (intV step ls hs x0 y0 z0 x1 y1 z1) ∧ w.grownBy w' none := by
  go_enter Try.func40, Try.ntmps40
  have hg0 := gb_alloc (gb_alloc (gb_alloc (gb_refl w none) (.cells #[.int .i64 step, vl, vh] 46)) (.cells #[.int .i64 x0, .int .i64 y0, .int .i64 z0] 23)) (.cells #[.int .i64 x1, .int .i64 y1, .int .i64 z1] 23)
  go_wp2_with fail
  (with_reducible refine (validate_any _ _ _ ls hs _ (h1.after hg0) (h2.after hg0)).mono ?_)
  rintro e w1 ⟨rfl, hg⟩
  obtain ⟨ca, hza⟩ := gb_at hg (b := w.heap.size) (by simp <;> omega)
  obtain ⟨cb, hzb⟩ := gb_at hg (b := w.heap.size + 1) (by simp <;> omega)
  obtain ⟨cc, hzc⟩ := gb_at hg (b := w.heap.size + 1 + 1) (by simp <;> omega)
  have hg1 := gb_trans hg0 hg
  have S1 := Lib.hid (h1.after hg1); have S2 := Lib.hid (h2.after hg1); have HG := Lib.hid hg1; clear hg hg0 hg1 h1 h2
  by_cases hok : tOk step ls hs
  rotate_left
  · have he : tE step ls hs = 21 := (tE_bad hok).symm
    go_wp2
    refine bodyPost_ret (v := .tuple #[.int .i64 0, .int .i64 0, .int .i64 21]) (by simp [results, Try.results40, go_sem]) rfl ⟨by simp [intV, hok], HG.out⟩
  have he : tE step ls hs = 0 := (tE_ok hok).symm
  have HOK := Lib.hid hok; clear hok
  go_wp2_with fail
  (with_reducible refine (valid_any _ _ _ _).mono ?_)
  rintro e w2 ⟨rfl, hg2⟩
  obtain ⟨ca2, hza2⟩ := gb_at hg2 hza
  obtain ⟨cb2, hzb2⟩ := gb_at hg2 hzb
  obtain ⟨cc2, hzc2⟩ := gb_at hg2 hzc
  have S1b := Lib.hid (S1.out.after hg2); have S2b := Lib.hid (S2.out.after hg2); have HG2 := Lib.hid (gb_trans HG.out hg2); clear hg2 S1 S2 HG he
  cases hv0 : vP x0 y0 z0
  · go_wp2
    refine bodyPost_ret (v := .tuple #[.int .i64 0, .int .i64 0, .int .i64 20]) (by simp [results, Try.results40, go_sem]) rfl ⟨by simp [intV, HOK.out, hv0], HG2.out⟩
  go_wp2_with fail
  (with_reducible refine (valid_any _ _ _ _).mono ?_)
  rintro e w3 ⟨rfl, hg3⟩
  obtain ⟨ca3, hza3⟩ := gb_at hg3 hza2
  obtain ⟨cb3, hzb3⟩ := gb_at hg3 hzb2
  obtain ⟨cc3, hzc3⟩ := gb_at hg3 hzc2
  have S1c := Lib.hid (S1b.out.after hg3); have S2c := Lib.hid (S2b.out.after hg3); have HG3 := Lib.hid (gb_trans HG2.out hg3); clear hg3 S1b S2b HG2
  cases hv1 : vP x1 y1 z1
  · go_wp2
    refine bodyPost_ret (v := .tuple #[.int .i64 0, .int .i64 0, .int .i64 20]) (by simp [results, Try.results40, go_sem]) rfl ⟨by simp [intV, HOK.out, hv0, hv1], HG3.out⟩
  have hq : sqP x0 y0 z0 x1 y1 z1 = sqD x0 y0 z0 x1 y1 z1 := by simp [sqP, hv0, hv1]
  have hb : sqD x0 y0 z0 x1 y1 z1 ≤ 9223372036854775807 := by
    have a := vP_iff hv0; have b := vP_iff hv1
    have s0 := (sq_small (d := x0 - x1) (by omega) (by omega)).2.1
    have s1 := (sq_small (d := y0 - y1) (by omega) (by omega)).2.1
    have s2 := (sq_small (d := z0 - z1) (by omega) (by omega)).2.1
    unfold sqD; omega
  have HI := Lib.hid (show intV step ls hs x0 y0 z0 x1 y1 z1 = btw step ls hs (sqD x0 y0 z0 x1 y1 z1) (sqD x0 y0 z0 x1 y1 z1) from by simp [intV, HOK.out, hv0, hv1])
  have HQ := Lib.hid hq
  clear hv0 hv1 hq
  go_wp2_with fail
  (with_reducible refine (square_any _ _ _ _ _ _ _).mono ?_)
  rintro e w4 ⟨rfl, hg4⟩
  rw [HQ.out]
  obtain ⟨ca4, hza4⟩ := gb_at hg4 hza3
  have S1d := Lib.hid (S1c.out.after hg4); have S2d := Lib.hid (S2c.out.after hg4); have HG4 := Lib.hid (gb_trans HG3.out hg4); clear hg4 S1c S2c HG3 cb cb2 cb3 cc cc2 cc3 hzb hzb2 hzb3 hzc hzc2 hzc3
  generalize sqD x0 y0 z0 x1 y1 z1 = d at *
  go_wp2_with fail
  (with_reducible refine (between_any _ _ _ _ _ _ _ w4 S1d.out S2d.out hb).mono ?_)
  rintro e w5 ⟨rfl, hg5⟩
  have HG5 := Lib.hid (gb_trans HG4.out hg5); clear hg5
  rw [show btw step ls hs d d = .tuple #[.int .i64 (btwA step ls hs d d), .int .i64 (btwB step ls hs d d), .int .i64 (btwE step ls hs d d)] from rfl]
  go_wp2
  exact bodyPost_ret (v := .tuple #[.int .i64 (btwA step ls hs d d), .int .i64 (btwB step ls hs d d), .int .i64 (btwE step ls hs d d)]) (by simp [results, Try.results40, go_sem]) rfl ⟨by rw [HI.out]; rfl, HG5.out⟩
end LTrvH
section LBndA
open Go.RowKit Rg

def bndE (step : Int) (ls hs : List Int) (x0 y0 z0 x1 y1 z1 px py pz : Int) : Int :=
  if tOk step ls hs then (if bP x0 y0 z0 x1 y1 z1 && vP px py pz then btwE step ls hs (nearP x0 y0 z0 x1 y1 z1 px py pz) (farP x0 y0 z0 x1 y1 z1 px py pz) else 20) else 21
def bndA (step : Int) (ls hs : List Int) (x0 y0 z0 x1 y1 z1 px py pz : Int) : Int :=
  if bndE step ls hs x0 y0 z0 x1 y1 z1 px py pz = 0 then at0 ls (loI step (floorI (nearP x0 y0 z0 x1 y1 z1 px py pz))) else 0
def bndB (step : Int) (ls hs : List Int) (x0 y0 z0 x1 y1 z1 px py pz : Int) : Int :=
  if bndE step ls hs x0 y0 z0 x1 y1 z1 px py pz = 0 then at0 hs (upI step (ceilI (farP x0 y0 z0 x1 y1 z1 px py pz))) else 0
def bndV (step : Int) (ls hs : List Int) (x0 y0 z0 x1 y1 z1 px py pz : Int) : Value :=
  .tuple #[.int .i64 (bndA step ls hs x0 y0 z0 x1 y1 z1 px py pz), .int .i64 (bndB step ls hs x0 y0 z0 x1 y1 z1 px py pz), .int .i64 (bndE step ls hs x0 y0 z0 x1 y1 z1 px py pz)]
theorem bnd_table {step : Int} {ls hs : List Int} {x0 y0 z0 x1 y1 z1 px py pz : Int} (h : ¬ tOk step ls hs) : Value.tuple #[.int .i64 0, .int .i64 0, .int .i64 21] = bndV step ls hs x0 y0 z0 x1 y1 z1 px py pz := by
  have e : bndE step ls hs x0 y0 z0 x1 y1 z1 px py pz = 21 := by simp [bndE, h]
  simp [bndV, bndA, bndB, e]
theorem bnd_region {step : Int} {ls hs : List Int} {x0 y0 z0 x1 y1 z1 px py pz : Int} (h : tOk step ls hs) (h' : (bP x0 y0 z0 x1 y1 z1 && vP px py pz) = false) : Value.tuple #[.int .i64 0, .int .i64 0, .int .i64 20] = bndV step ls hs x0 y0 z0 x1 y1 z1 px py pz := by
  have e : bndE step ls hs x0 y0 z0 x1 y1 z1 px py pz = 20 := by simp only [bndE, h, h', if_true]; rfl
  simp [bndV, bndA, bndB, e]
theorem bnd_btw {step : Int} {ls hs : List Int} {x0 y0 z0 x1 y1 z1 px py pz : Int} (h : tOk step ls hs) (h' : (bP x0 y0 z0 x1 y1 z1 && vP px py pz) = true) : btw step ls hs (nearP x0 y0 z0 x1 y1 z1 px py pz) (farP x0 y0 z0 x1 y1 z1 px py pz) = bndV step ls hs x0 y0 z0 x1 y1 z1 px py pz := by
  have e : bndE step ls hs x0 y0 z0 x1 y1 z1 px py pz = btwE step ls hs (nearP x0 y0 z0 x1 y1 z1 px py pz) (farP x0 y0 z0 x1 y1 z1 px py pz) := by simp only [bndE, h, h', if_true]
  simp only [bndV, bndA, bndB, e, btw, btwA, btwB]
theorem far_small {x0 y0 z0 x1 y1 z1 px py pz : Int} (h : bP x0 y0 z0 x1 y1 z1 = true) (h' : vP px py pz = true) : 0 ≤ nearD x0 y0 z0 x1 y1 z1 px py pz ∧ nearD x0 y0 z0 x1 y1 z1 px py pz ≤ farD x0 y0 z0 x1 y1 z1 px py pz ∧ farD x0 y0 z0 x1 y1 z1 px py pz ≤ 52776558133248 := by
  obtain ⟨v0, v1, o0, o1, o2⟩ := bP_iff h
  have a := vP_iff v0; have b := vP_iff v1; have c := vP_iff h'
  have s0 := (sq_small (d := farS px x0 x1) (by unfold farS; omega) (by unfold farS; omega)).2.1
  have s1 := (sq_small (d := farS py y0 y1) (by unfold farS; omega) (by unfold farS; omega)).2.1
  have s2 := (sq_small (d := farS pz z0 z1) (by unfold farS; omega) (by unfold farS; omega)).2.1
  have n0 := sq_nn (nearS px x0 x1); have n1 := sq_nn (nearS py y0 y1); have n2 := sq_nn (nearS pz z0 z1)
  have u0 : nearS px x0 x1 * nearS px x0 x1 ≤ farS px x0 x1 * farS px x0 x1 := sq_up (by unfold nearS; omega) (by unfold nearS farS; omega)
  have u1 : nearS py y0 y1 * nearS py y0 y1 ≤ farS py y0 y1 * farS py y0 y1 := sq_up (by unfold nearS; omega) (by unfold nearS farS; omega)
  have u2 : nearS pz z0 z1 * nearS pz z0 z1 ≤ farS pz z0 z1 * farS pz z0 z1 := sq_up (by unfold nearS; omega) (by unfold nearS farS; omega)
  unfold nearD farD; omega
theorem farP_small (x0 y0 z0 x1 y1 z1 px py pz : Int) : farP x0 y0 z0 x1 y1 z1 px py pz ≤ 9223372036854775807 := by
  unfold farP
  split
  · rename_i h
    rw [Bool.and_eq_true] at h
    have := (far_small h.1 h.2).2.2; omega
  · omega
/-- The bounds are times. -/
theorem bnd_bounds (step : Int) (ls hs : List Int) (x0 y0 z0 x1 y1 z1 px py pz : Int) : 0 ≤ bndA step ls hs x0 y0 z0 x1 y1 z1 px py pz ∧ bndA step ls hs x0 y0 z0 x1 y1 z1 px py pz ≤ 1099511627776 ∧ 0 ≤ bndB step ls hs x0 y0 z0 x1 y1 z1 px py pz ∧ bndB step ls hs x0 y0 z0 x1 y1 z1 px py pz ≤ 1099511627776 := by
  by_cases he : bndE step ls hs x0 y0 z0 x1 y1 z1 px py pz = 0
  · have h1 : tOk step ls hs := by
      by_cases h : tOk step ls hs
      · exact h
      · exfalso; unfold bndE at he; rw [if_neg h] at he; omega
    have h2 : (bP x0 y0 z0 x1 y1 z1 && vP px py pz) = true := by
      cases h : (bP x0 y0 z0 x1 y1 z1 && vP px py pz)
      · exfalso; simp [bndE, h1, h] at he
      · rfl
    have h3 : btwE step ls hs (nearP x0 y0 z0 x1 y1 z1 px py pz) (farP x0 y0 z0 x1 y1 z1 px py pz) = 0 := by
      unfold bndE at he; rwa [if_pos h1, if_pos h2] at he
    have hf := farP_small x0 y0 z0 x1 y1 z1 px py pz
    unfold btwE at h3
    rw [if_neg (by simpa using h1)] at h3
    split at h3
    · omega
    rename_i hn
    split at h3
    · omega
    rename_i hc
    obtain ⟨q1, q2, q3, q4⟩ := between_fits h1 (by omega : 0 ≤ nearP x0 y0 z0 x1 y1 z1 px py pz) (by omega) hf (by omega)
    have t1 := tOk_at h1 q2
    have t2 := tOk_at h1 q4
    unfold bndA bndB; rw [if_pos he, if_pos he]; omega
  · unfold bndA bndB; rw [if_neg he, if_neg he]; omega

theorem sl_slice {w : World} {v : Value} {xs : List Int} (h : Sl w v xs) : ∃ a n c, v = .slice a n c := by
  rcases h with ⟨_, a, cap, rfl⟩ | ⟨b, off, cap, rfl, _⟩ <;> exact ⟨_, _, _, rfl⟩
theorem oneCell_of_sl {w : World} {v : Value} {xs : List Int} (h : Sl w v xs) : v.oneCell' = true := by
  rcases h with ⟨_, a, cap, rfl⟩ | ⟨b, off, cap, rfl, _⟩ <;> rfl

/-- A valid phase. -/
def phP (x y z e l n : Int) : Bool := vP x y z && decide (0 ≤ e) && decide (e ≤ l) && decide (l ≤ 18014398509481984) && decide (1 ≤ n) && decide (n ≤ 100)
end LBndA
section LBndB
open Go.RowKit Rg

def znE (step : Int) (ls hs : List Int) (x0 y0 z0 x1 y1 z1 px py pz e l n : Int) : Int :=
  if tOk step ls hs then (if bP x0 y0 z0 x1 y1 z1 then (if phP px py pz e l n then bndE step ls hs x0 y0 z0 x1 y1 z1 px py pz else 23) else 20) else 21
def znF (step : Int) (ls hs : List Int) (x0 y0 z0 x1 y1 z1 px py pz e l n : Int) : Int := if znE step ls hs x0 y0 z0 x1 y1 z1 px py pz e l n = 0 then e - bndB step ls hs x0 y0 z0 x1 y1 z1 px py pz else 0
def znT (step : Int) (ls hs : List Int) (x0 y0 z0 x1 y1 z1 px py pz e l n : Int) : Int := if znE step ls hs x0 y0 z0 x1 y1 z1 px py pz e l n = 0 then l - bndA step ls hs x0 y0 z0 x1 y1 z1 px py pz else 0
def znV (step : Int) (ls hs : List Int) (x0 y0 z0 x1 y1 z1 px py pz e l n : Int) : Value :=
  .tuple #[.agg #[.int .i64 (znF step ls hs x0 y0 z0 x1 y1 z1 px py pz e l n), .int .i64 (znT step ls hs x0 y0 z0 x1 y1 z1 px py pz e l n)], .int .i64 (znE step ls hs x0 y0 z0 x1 y1 z1 px py pz e l n)]
theorem zn_err {step : Int} {ls hs : List Int} {x0 y0 z0 x1 y1 z1 px py pz e l n : Int} (c : Int) (h : znE step ls hs x0 y0 z0 x1 y1 z1 px py pz e l n = c) (hc : c ≠ 0) : Value.tuple #[.agg #[.int .i64 0, .int .i64 0], .int .i64 c] = znV step ls hs x0 y0 z0 x1 y1 z1 px py pz e l n := by
  subst h; simp only [znV, znF, znT, if_neg hc]
theorem zn_ok {step : Int} {ls hs : List Int} {x0 y0 z0 x1 y1 z1 px py pz e l n : Int} (h : znE step ls hs x0 y0 z0 x1 y1 z1 px py pz e l n = 0) : Value.tuple #[.agg #[.int .i64 (e - bndB step ls hs x0 y0 z0 x1 y1 z1 px py pz), .int .i64 (l - bndA step ls hs x0 y0 z0 x1 y1 z1 px py pz)], .int .i64 0] = znV step ls hs x0 y0 z0 x1 y1 z1 px py pz e l n := by
  simp [znV, znF, znT, h]
theorem phP_iff {x y z e l n : Int} : phP x y z e l n = true ↔ vP x y z = true ∧ 0 ≤ e ∧ e ≤ l ∧ l ≤ 18014398509481984 ∧ 1 ≤ n ∧ n ≤ 100 := by simp [phP, and_assoc]
theorem cells2 {w : World} {b : Nat} {x y : Value} {t : TypeId} {fr : Nat × Nat} (h : w.heap[b]? = some (.cells #[x, y] t fr)) : w.cell? ⟨b, 0, none⟩ = some x ∧ w.cell? ⟨b, 1, none⟩ = some y := by simp [World.cell?, h]

/-- What Meets returns. -/
def meV (a b c d : Int) : Value := if min b d < max a c then .tuple #[.agg #[.int .i64 0, .int .i64 0], .bool false] else .tuple #[.agg #[.int .i64 (max a c), .int .i64 (min b d)], .bool true]

end LBndB
end Go.Proofs.Ytelmeggcgocmlaa
