/- travel.Interval. -/
import Derived.Test.YtmgfdfbhfhmekaaGreatTrv
import Derived.Test.YtmgfdfbhfhmekaaGreatGeo
import Derived.Test.YtmgfdfbhfhmekaaGreatGeoP
import Derived.Test.YtmgfdfbhfhmekaaGreatRgMade
namespace Go.Proofs.YtmgfdfbhfhmekaaGreat
set_option linter.all false
section LTrvH
open Go.RowKit

/-- What Interval returns. -/
def intV (step : Int) (ls hs : List Int) (x0 y0 z0 x1 y1 z1 : Int) : Value :=
  if tOk step ls hs then (if vP x0 y0 z0 && vP x1 y1 z1 then btw step ls hs (sqD x0 y0 z0 x1 y1 z1) (sqD x0 y0 z0 x1 y1 z1) else .tuple #[.int .i64 0, .int .i64 0, .int .i64 20]) else .tuple #[.int .i64 0, .int .i64 0, .int .i64 21]

end LTrvH
section LBndA
open Go.RowKit Rg

def bndE (step : Int) (ls hs : List Int) (x0 y0 z0 x1 y1 z1 px py pz : Int) : Int :=
  if tOk step ls hs then (if bP x0 y0 z0 x1 y1 z1 && vP px py pz then btwE step ls hs (nearP x0 y0 z0 x1 y1 z1 px py pz) (farP x0 y0 z0 x1 y1 z1 px py pz) else 20) else 21
def bndA (step : Int) (ls hs : List Int) (x0 y0 z0 x1 y1 z1 px py pz : Int) : Int :=
  if bndE step ls hs x0 y0 z0 x1 y1 z1 px py pz = 0 then at0 ls (loI step (floorI (nearP x0 y0 z0 x1 y1 z1 px py pz))) else 0
def bndB (step : Int) (ls hs : List Int) (x0 y0 z0 x1 y1 z1 px py pz : Int) : Int :=
  if bndE step ls hs x0 y0 z0 x1 y1 z1 px py pz = 0 then at0 hs (upI step (ceilI (farP x0 y0 z0 x1 y1 z1 px py pz))) else 0
def bndV (step : Int) (ls hs : List Int) (x0 y0 z0 x1 y1 z1 px py pz : Int) : Value :=
  .tuple #[.int .i64 (bndA step ls hs x0 y0 z0 x1 y1 z1 px py pz), .int .i64 (bndB step ls hs x0 y0 z0 x1 y1 z1 px py pz), .int .i64 (bndE step ls hs x0 y0 z0 x1 y1 z1 px py pz)]
theorem bnd_table {step : Int} {ls hs : List Int} {x0 y0 z0 x1 y1 z1 px py pz : Int} (h : ¬ tOk step ls hs) : Value.tuple #[.int .i64 0, .int .i64 0, .int .i64 21] = bndV step ls hs x0 y0 z0 x1 y1 z1 px py pz := by
  have e : bndE step ls hs x0 y0 z0 x1 y1 z1 px py pz = 21 := by simp [bndE, h]
  simp [bndV, bndA, bndB, e]
theorem bnd_region {step : Int} {ls hs : List Int} {x0 y0 z0 x1 y1 z1 px py pz : Int} (h : tOk step ls hs) (h' : (bP x0 y0 z0 x1 y1 z1 && vP px py pz) = false) : Value.tuple #[.int .i64 0, .int .i64 0, .int .i64 20] = bndV step ls hs x0 y0 z0 x1 y1 z1 px py pz := by
  have e : bndE step ls hs x0 y0 z0 x1 y1 z1 px py pz = 20 := by simp only [bndE, h, h', if_true]; rfl
  simp [bndV, bndA, bndB, e]
theorem bnd_btw {step : Int} {ls hs : List Int} {x0 y0 z0 x1 y1 z1 px py pz : Int} (h : tOk step ls hs) (h' : (bP x0 y0 z0 x1 y1 z1 && vP px py pz) = true) : btw step ls hs (nearP x0 y0 z0 x1 y1 z1 px py pz) (farP x0 y0 z0 x1 y1 z1 px py pz) = bndV step ls hs x0 y0 z0 x1 y1 z1 px py pz := by
  have e : bndE step ls hs x0 y0 z0 x1 y1 z1 px py pz = btwE step ls hs (nearP x0 y0 z0 x1 y1 z1 px py pz) (farP x0 y0 z0 x1 y1 z1 px py pz) := by simp only [bndE, h, h', if_true]
  simp only [bndV, bndA, bndB, e, btw, btwA, btwB]
theorem far_small {x0 y0 z0 x1 y1 z1 px py pz : Int} (h : bP x0 y0 z0 x1 y1 z1 = true) (h' : vP px py pz = true) : 0 ≤ nearD x0 y0 z0 x1 y1 z1 px py pz ∧ nearD x0 y0 z0 x1 y1 z1 px py pz ≤ farD x0 y0 z0 x1 y1 z1 px py pz ∧ farD x0 y0 z0 x1 y1 z1 px py pz ≤ 52776558133248 := by
  obtain ⟨v0, v1, o0, o1, o2⟩ := bP_iff h
  have a := vP_iff v0; have b := vP_iff v1; have c := vP_iff h'
  have s0 := (sq_small (d := farS px x0 x1) (by unfold farS; omega) (by unfold farS; omega)).2.1
  have s1 := (sq_small (d := farS py y0 y1) (by unfold farS; omega) (by unfold farS; omega)).2.1
  have s2 := (sq_small (d := farS pz z0 z1) (by unfold farS; omega) (by unfold farS; omega)).2.1
  have n0 := sq_nn (nearS px x0 x1); have n1 := sq_nn (nearS py y0 y1); have n2 := sq_nn (nearS pz z0 z1)
  have u0 : nearS px x0 x1 * nearS px x0 x1 ≤ farS px x0 x1 * farS px x0 x1 := sq_up (by unfold nearS; omega) (by unfold nearS farS; omega)
  have u1 : nearS py y0 y1 * nearS py y0 y1 ≤ farS py y0 y1 * farS py y0 y1 := sq_up (by unfold nearS; omega) (by unfold nearS farS; omega)
  have u2 : nearS pz z0 z1 * nearS pz z0 z1 ≤ farS pz z0 z1 * farS pz z0 z1 := sq_up (by unfold nearS; omega) (by unfold nearS farS; omega)
  unfold nearD farD; omega
theorem farP_small (x0 y0 z0 x1 y1 z1 px py pz : Int) : farP x0 y0 z0 x1 y1 z1 px py pz ≤ 9223372036854775807 := by
  unfold farP
  split
  · rename_i h
    rw [Bool.and_eq_true] at h
    have := (far_small h.1 h.2).2.2; omega
  · omega
/-- The bounds are times. -/
theorem bnd_bounds (step : Int) (ls hs : List Int) (x0 y0 z0 x1 y1 z1 px py pz : Int) : 0 ≤ bndA step ls hs x0 y0 z0 x1 y1 z1 px py pz ∧ bndA step ls hs x0 y0 z0 x1 y1 z1 px py pz ≤ 1099511627776 ∧ 0 ≤ bndB step ls hs x0 y0 z0 x1 y1 z1 px py pz ∧ bndB step ls hs x0 y0 z0 x1 y1 z1 px py pz ≤ 1099511627776 := by
  by_cases he : bndE step ls hs x0 y0 z0 x1 y1 z1 px py pz = 0
  · have h1 : tOk step ls hs := by
      by_cases h : tOk step ls hs
      · exact h
      · exfalso; unfold bndE at he; rw [if_neg h] at he; omega
    have h2 : (bP x0 y0 z0 x1 y1 z1 && vP px py pz) = true := by
      cases h : (bP x0 y0 z0 x1 y1 z1 && vP px py pz)
      · exfalso; simp [bndE, h1, h] at he
      · rfl
    have h3 : btwE step ls hs (nearP x0 y0 z0 x1 y1 z1 px py pz) (farP x0 y0 z0 x1 y1 z1 px py pz) = 0 := by
      unfold bndE at he; rwa [if_pos h1, if_pos h2] at he
    have hf := farP_small x0 y0 z0 x1 y1 z1 px py pz
    unfold btwE at h3
    rw [if_neg (by simpa using h1)] at h3
    split at h3
    · omega
    rename_i hn
    split at h3
    · omega
    rename_i hc
    obtain ⟨q1, q2, q3, q4⟩ := between_fits h1 (by omega : 0 ≤ nearP x0 y0 z0 x1 y1 z1 px py pz) (by omega) hf (by omega)
    have t1 := tOk_at h1 q2
    have t2 := tOk_at h1 q4
    unfold bndA bndB; rw [if_pos he, if_pos he]; omega
  · unfold bndA bndB; rw [if_neg he, if_neg he]; omega

theorem sl_slice {w : World} {v : Value} {xs : List Int} (h : Sl w v xs) : ∃ a n c, v = .slice a n c := by
  rcases h with ⟨_, a, cap, rfl⟩ | ⟨b, off, cap, rfl, _⟩ <;> exact ⟨_, _, _, rfl⟩
theorem oneCell_of_sl {w : World} {v : Value} {xs : List Int} (h : Sl w v xs) : v.oneCell' = true := by
  rcases h with ⟨_, a, cap, rfl⟩ | ⟨b, off, cap, rfl, _⟩ <;> rfl

/-- A valid phase. -/
def phP (x y z e l n : Int) : Bool := vP x y z && decide (0 ≤ e) && decide (e ≤ l) && decide (l ≤ 18014398509481984) && decide (1 ≤ n) && decide (n ≤ 100)
end LBndA
section LBndB
open Go.RowKit Rg

def znE (step : Int) (ls hs : List Int) (x0 y0 z0 x1 y1 z1 px py pz e l n : Int) : Int :=
  if tOk step ls hs then (if bP x0 y0 z0 x1 y1 z1 then (if phP px py pz e l n then bndE step ls hs x0 y0 z0 x1 y1 z1 px py pz else 23) else 20) else 21
def znF (step : Int) (ls hs : List Int) (x0 y0 z0 x1 y1 z1 px py pz e l n : Int) : Int := if znE step ls hs x0 y0 z0 x1 y1 z1 px py pz e l n = 0 then e - bndB step ls hs x0 y0 z0 x1 y1 z1 px py pz else 0
def znT (step : Int) (ls hs : List Int) (x0 y0 z0 x1 y1 z1 px py pz e l n : Int) : Int := if znE step ls hs x0 y0 z0 x1 y1 z1 px py pz e l n = 0 then l - bndA step ls hs x0 y0 z0 x1 y1 z1 px py pz else 0
def znV (step : Int) (ls hs : List Int) (x0 y0 z0 x1 y1 z1 px py pz e l n : Int) : Value :=
  .tuple #[.agg #[.int .i64 (znF step ls hs x0 y0 z0 x1 y1 z1 px py pz e l n), .int .i64 (znT step ls hs x0 y0 z0 x1 y1 z1 px py pz e l n)], .int .i64 (znE step ls hs x0 y0 z0 x1 y1 z1 px py pz e l n)]
theorem zn_err {step : Int} {ls hs : List Int} {x0 y0 z0 x1 y1 z1 px py pz e l n : Int} (c : Int) (h : znE step ls hs x0 y0 z0 x1 y1 z1 px py pz e l n = c) (hc : c ≠ 0) : Value.tuple #[.agg #[.int .i64 0, .int .i64 0], .int .i64 c] = znV step ls hs x0 y0 z0 x1 y1 z1 px py pz e l n := by
  subst h; simp only [znV, znF, znT, if_neg hc]
theorem zn_ok {step : Int} {ls hs : List Int} {x0 y0 z0 x1 y1 z1 px py pz e l n : Int} (h : znE step ls hs x0 y0 z0 x1 y1 z1 px py pz e l n = 0) : Value.tuple #[.agg #[.int .i64 (e - bndB step ls hs x0 y0 z0 x1 y1 z1 px py pz), .int .i64 (l - bndA step ls hs x0 y0 z0 x1 y1 z1 px py pz)], .int .i64 0] = znV step ls hs x0 y0 z0 x1 y1 z1 px py pz e l n := by
  simp [znV, znF, znT, h]
theorem phP_iff {x y z e l n : Int} : phP x y z e l n = true ↔ vP x y z = true ∧ 0 ≤ e ∧ e ≤ l ∧ l ≤ 18014398509481984 ∧ 1 ≤ n ∧ n ≤ 100 := by simp [phP, and_assoc]
theorem cells2 {w : World} {b : Nat} {x y : Value} {t : TypeId} {fr : Nat × Nat} (h : w.heap[b]? = some (.cells #[x, y] t fr)) : w.cell? ⟨b, 0, none⟩ = some x ∧ w.cell? ⟨b, 1, none⟩ = some y := by simp [World.cell?, h]

/-- What Meets returns. -/
def meV (a b c d : Int) : Value := if min b d < max a c then .tuple #[.agg #[.int .i64 0, .int .i64 0], .bool false] else .tuple #[.agg #[.int .i64 (max a c), .int .i64 (min b d)], .bool true]

end LBndB
end Go.Proofs.YtmgfdfbhfhmekaaGreat
