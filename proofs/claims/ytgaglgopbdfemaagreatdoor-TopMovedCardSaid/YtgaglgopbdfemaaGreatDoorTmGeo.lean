/- Geo -/
import Derived.Test.YtgaglgopbdfemaaGreatDoorTmTrv
import Derived.Test.YtgaglgopbdfemaaGreatDoorTmRgMade
import Derived.Test.YtgaglgopbdfemaaGreatDoorTmBase
namespace Go.Proofs.YtgaglgopbdfemaaGreatDoor
set_option linter.all false
section LGeoA
open Go.RowKit
def vP (x y z : Int) : Bool := decide (-1048576 ≤ x) && decide (x ≤ 1048576) && decide (-1048576 ≤ y) && decide (y ≤ 1048576) && decide (-16384 ≤ z) && decide (z ≤ 1048576)
theorem tri_ix0 (a b c : Int) (w : World) : (Instr.index 115 (.agg #[.int .i64 a, .int .i64 b, .int .i64 c]) (.int .i64 0)).run Tryz.prog w = .ok (.int .i64 a) w := by kernel_rfl
theorem tri_ix1 (a b c : Int) (w : World) : (Instr.index 115 (.agg #[.int .i64 a, .int .i64 b, .int .i64 c]) (.int .i64 1)).run Tryz.prog w = .ok (.int .i64 b) w := by kernel_rfl
theorem tri_ix2 (a b c : Int) (w : World) : (Instr.index 115 (.agg #[.int .i64 a, .int .i64 b, .int .i64 c]) (.int .i64 2)).run Tryz.prog w = .ok (.int .i64 c) w := by kernel_rfl
attribute [go_sem] tri_ix0 tri_ix1 tri_ix2
theorem three (x lo hi : Int) : x < lo ∨ (lo ≤ x ∧ hi < x) ∨ (lo ≤ x ∧ x ≤ hi) := by omega
set_option maxHeartbeats 1000000 in
theorem valid_any (x y z : Int) (w : World) :
    Calls Tryz.prog 62 #[.agg #[.int .i64 x, .int .i64 y, .int .i64 z]] w fun e w' => e = .returned (.bool (vP x y z)) ∧ w.grownBy w' none := by
  rcases three x (-1048576) 1048576 with hx | ⟨hx1, hx2⟩ | ⟨hx1, hx2⟩
  rotate_left 2
  rcases three y (-1048576) 1048576 with hy | ⟨hy1, hy2⟩ | ⟨hy1, hy2⟩
  rotate_left 2
  rcases three z (-16384) 1048576 with hz | ⟨hz1, hz2⟩ | ⟨hz1, hz2⟩
  all_goals
    go_enter Tryz.func62, Tryz.ntmps62
    go_wp2
    refine wp_loop_rounds 4 ?_
    repeat any_goals (rw [rounds_succ]; go_wp2)
  all_goals
    go_ret
    refine ⟨ret_bool (by unfold vP; simp; omega), ?_⟩
    repeat (first | exact gb_refl _ _ | refine gb_alloc ?_ _)
theorem of_any (x y z : Int) (w : World) :
    Calls Tryz.prog 33 #[.agg #[.int .i64 x, .int .i64 y, .int .i64 z]] w fun e w' => e = .returned (.agg #[.int .i64 x, .int .i64 y, .int .i64 z]) ∧ w.grownBy w' none := by
  go_enter Tryz.func33, Tryz.ntmps33
  go_wp2
  refine bodyPost_ret (v := .agg #[.int .i64 x, .int .i64 y, .int .i64 z]) (by simp [results, Tryz.results33, go_sem]) rfl ⟨rfl, ?_⟩
  repeat (first | exact gb_refl _ _ | refine gb_alloc ?_ _)
theorem position_any (x y z : Int) (w : World) :
    Calls Tryz.prog 34 #[.agg #[.int .i64 x, .int .i64 y, .int .i64 z]] w fun e w' => e = .returned (.agg #[.int .i64 x, .int .i64 y, .int .i64 z]) ∧ w.grownBy w' none := by
  go_enter Tryz.func34, Tryz.ntmps34
  go_wp2
  refine bodyPost_ret (v := .agg #[.int .i64 x, .int .i64 y, .int .i64 z]) (by simp [results, Tryz.results34, go_sem]) rfl ⟨rfl, ?_⟩
  repeat (first | exact gb_refl _ _ | refine gb_alloc ?_ _)
end LGeoA
section LGeoB
open Go.RowKit
def bP (x0 y0 z0 x1 y1 z1 : Int) : Bool := vP x0 y0 z0 && vP x1 y1 z1 && decide (x0 ≤ x1) && decide (y0 ≤ y1) && decide (z0 ≤ z1)
set_option maxHeartbeats 1000000 in
theorem validBox_any (x0 y0 z0 x1 y1 z1 : Int) (w : World) :
    Calls Tryz.prog 32 #[.agg #[.int .i64 x0, .int .i64 y0, .int .i64 z0, .int .i64 x1, .int .i64 y1, .int .i64 z1]] w fun e w' => e = .returned (.bool (bP x0 y0 z0 x1 y1 z1)) ∧ w.grownBy w' none := by
  go_enter Tryz.func32, Tryz.ntmps32
  go_wp2_with fail
  (with_reducible refine (valid_any _ _ _ _).mono ?_)
  rintro e w1 ⟨rfl, hg1⟩
  obtain ⟨cb, hz⟩ := gb_at hg1 (b := w.heap.size) (by simp)
  have HG1 := Lib.hid (gb_trans (gb_alloc (gb_refl _ _) _) hg1); clear hg1
  cases hv0 : vP x0 y0 z0
  · go_wp2
    go_ret
    exact ⟨ret_bool (by simp [bP, hv0]), HG1.out⟩
  go_wp2_with fail
  (with_reducible refine (valid_any _ _ _ _).mono ?_)
  rintro e w2 ⟨rfl, hg2⟩
  obtain ⟨cb2, hz2⟩ := gb_at hg2 hz
  have HG2 := Lib.hid (gb_trans HG1.out hg2); clear hg2 HG1
  cases hv1 : vP x1 y1 z1
  · go_wp2
    go_ret
    exact ⟨ret_bool (by simp [bP, hv1]), HG2.out⟩
  have HV0 := Lib.hid hv0; have HV1 := Lib.hid hv1; clear hv0 hv1
  go_wp2_with fail
  (with_reducible refine (of_any _ _ _ _).mono ?_)
  rintro e w3 ⟨rfl, hg3⟩
  obtain ⟨cb3, hz3⟩ := gb_at hg3 hz2
  have HG3 := Lib.hid (gb_trans HG2.out hg3); clear hg3 HG2
  go_wp2_with fail
  (with_reducible refine (of_any _ _ _ _).mono ?_)
  rintro e w4 ⟨rfl, hg4⟩
  obtain ⟨cb4, hz4⟩ := gb_at hg4 (b := w3.heap.size) (by simp)
  have HG4 := Lib.hid (gb_trans (gb_alloc HG3.out _) hg4); clear hg4 HG3
  go_wp2_with fail
  rcases Int.lt_or_le x1 x0 with hx | hx
  rotate_left
  rcases Int.lt_or_le y1 y0 with hy | hy
  rotate_left
  rcases Int.lt_or_le z1 z0 with hz | hz
  all_goals
    refine wp_loop_rounds 4 ?_
    repeat any_goals (rw [rounds_succ]; go_wp2)
  all_goals
    go_ret
    refine ⟨ret_bool (by simp [bP, HV0.out, HV1.out]; omega), HG4.out⟩
end LGeoB
section LGeoC
open Go.RowKit
theorem vP_iff {x y z : Int} (h : vP x y z = true) : -1048576 ≤ x ∧ x ≤ 1048576 ∧ -1048576 ≤ y ∧ y ≤ 1048576 ∧ -16384 ≤ z ∧ z ≤ 1048576 := by
  simp [vP] at h; omega
/-- The square of a difference of coordinates: small. -/
theorem sq_small {d : Int} (h1 : -4194304 ≤ d) (h2 : d ≤ 4194304) : 0 ≤ d * d ∧ d * d ≤ 17592186044416 ∧ wrap64 (d * d) = d * d := by
  have a : 0 ≤ d * d := by
    rcases Int.le_total 0 d with h | h
    · exact Int.mul_nonneg h h
    · have := Int.mul_nonneg (Int.neg_nonneg_of_nonpos h) (Int.neg_nonneg_of_nonpos h); rwa [Int.neg_mul_neg] at this
  have b : d * d ≤ 4194304 * 4194304 := by
    rcases Int.le_total 0 d with h | h
    · exact Int.mul_le_mul h2 h2 h (by omega)
    · have := Int.mul_le_mul (a := -d) (b := -d) (c := 4194304) (d := 4194304) (by omega) (by omega) (by omega) (by omega)
      rwa [Int.neg_mul_neg] at this
  generalize d * d = q at *
  exact ⟨a, by omega, IntWalk.wrap64_in _ (by omega)⟩
def sqD (x0 y0 z0 x1 y1 z1 : Int) : Int := (x0 - x1) * (x0 - x1) + (y0 - y1) * (y0 - y1) + (z0 - z1) * (z0 - z1)
end LGeoC
section LGeoD
open Go.RowKit Rg
def nearS (x lo hi : Int) : Int := max (max (lo - x) (x - hi)) 0
def farS (x lo hi : Int) : Int := max (hi - x) (x - lo)
theorem nearest_any (x lo hi : Int) (w : World) (h1 : -2000000 ≤ x) (h2 : x ≤ 2000000) (h3 : -2000000 ≤ lo) (h4 : lo ≤ 2000000) (h5 : -2000000 ≤ hi) (h6 : hi ≤ 2000000) :
    Calls Tryz.prog 245 #[.int .i64 x, .int .i64 lo, .int .i64 hi] w fun e w' => e = .returned (.int .i64 (nearS x lo hi)) ∧ w = w' := by
  go_enter Tryz.func245, Tryz.ntmps245
  go_wp2
  all_goals
    go_ret
    exact ⟨ret_int (by unfold nearS; omega), rfl⟩
theorem farthest_any (x lo hi : Int) (w : World) (h1 : -2000000 ≤ x) (h2 : x ≤ 2000000) (h3 : -2000000 ≤ lo) (h4 : lo ≤ 2000000) (h5 : -2000000 ≤ hi) (h6 : hi ≤ 2000000) :
    Calls Tryz.prog 314 #[.int .i64 x, .int .i64 lo, .int .i64 hi] w fun e w' => e = .returned (.int .i64 (farS x lo hi)) ∧ w = w' := by
  go_enter Tryz.func314, Tryz.ntmps314
  go_wp2
  all_goals
    go_ret
    exact ⟨ret_int (by unfold farS; omega), rfl⟩
def nearD (x0 y0 z0 x1 y1 z1 px py pz : Int) : Int := nearS px x0 x1 * nearS px x0 x1 + nearS py y0 y1 * nearS py y0 y1 + nearS pz z0 z1 * nearS pz z0 z1
def farD (x0 y0 z0 x1 y1 z1 px py pz : Int) : Int := farS px x0 x1 * farS px x0 x1 + farS py y0 y1 * farS py y0 y1 + farS pz z0 z1 * farS pz z0 z1
def nearP (x0 y0 z0 x1 y1 z1 px py pz : Int) : Int := if bP x0 y0 z0 x1 y1 z1 && vP px py pz then nearD x0 y0 z0 x1 y1 z1 px py pz else 0
def farP (x0 y0 z0 x1 y1 z1 px py pz : Int) : Int := if bP x0 y0 z0 x1 y1 z1 && vP px py pz then farD x0 y0 z0 x1 y1 z1 px py pz else 0
theorem bP_iff {x0 y0 z0 x1 y1 z1 : Int} (h : bP x0 y0 z0 x1 y1 z1 = true) : vP x0 y0 z0 = true ∧ vP x1 y1 z1 = true ∧ x0 ≤ x1 ∧ y0 ≤ y1 ∧ z0 ≤ z1 := by
  simp [bP] at h; exact ⟨h.1.1.1.1, h.1.1.1.2, h.1.1.2, h.1.2, h.2⟩
set_option maxRecDepth 100000 in
set_option maxHeartbeats 2000000 in
theorem reach_near (x0 y0 z0 x1 y1 z1 px py pz : Int) (w : World) :
    Calls Tryz.prog 244 #[.agg #[.int .i64 x0, .int .i64 y0, .int .i64 z0, .int .i64 x1, .int .i64 y1, .int .i64 z1], .agg #[.int .i64 px, .int .i64 py, .int .i64 pz], .func (.func 245) #[] #[]] w fun e w' => e = .returned (.int .i64 (nearP x0 y0 z0 x1 y1 z1 px py pz)) ∧ w.grownBy w' none := by
  go_enter Tryz.func244, Tryz.ntmps244
  go_wp2_with fail
  (with_reducible refine (validBox_any _ _ _ _ _ _ _).mono ?_)
  rintro e w1 ⟨rfl, hg1⟩
  obtain ⟨ca, hza⟩ := gb_at hg1 (b := w.heap.size) (by first | omega | (simp <;> omega))
  obtain ⟨cb, hzb⟩ := gb_at hg1 (b := w.heap.size + 1) (by first | omega | (simp <;> omega))
  have HG1 := Lib.hid (gb_trans (gb_alloc (gb_alloc (gb_refl _ _) _) _) hg1); clear hg1
  cases hv0 : bP x0 y0 z0 x1 y1 z1
  · go_wp2
    go_ret
    exact ⟨ret_int (by simp [nearP, hv0]), HG1.out⟩
  go_wp2_with fail
  (with_reducible refine (valid_any _ _ _ _).mono ?_)
  rintro e w2 ⟨rfl, hg2⟩
  obtain ⟨ca2, hza2⟩ := gb_at hg2 hza
  obtain ⟨cb2, hzb2⟩ := gb_at hg2 hzb
  have HG2 := Lib.hid (gb_trans HG1.out hg2); clear hg2 HG1
  cases hv1 : vP px py pz
  · go_wp2
    go_ret
    exact ⟨ret_int (by simp [nearP, hv1]), HG2.out⟩
  obtain ⟨b0, b1, b2, b3, b4⟩ := bP_iff hv0
  have hi0 := vP_iff b0
  have hi1 := vP_iff b1
  have hi2 := vP_iff hv1
  have HE := Lib.hid (show nearP x0 y0 z0 x1 y1 z1 px py pz = nearD x0 y0 z0 x1 y1 z1 px py pz from by simp [nearP, hv0, hv1])
  clear hv0 hv1 b0 b1
  obtain ⟨sx0, sx1, sx2⟩ := sq_small (d := nearS px x0 x1) (by unfold nearS; omega) (by unfold nearS; omega)
  obtain ⟨sy0, sy1, sy2⟩ := sq_small (d := nearS py y0 y1) (by unfold nearS; omega) (by unfold nearS; omega)
  obtain ⟨sz0, sz1, sz2⟩ := sq_small (d := nearS pz z0 z1) (by unfold nearS; omega) (by unfold nearS; omega)
  have hD : nearD x0 y0 z0 x1 y1 z1 px py pz = nearS px x0 x1 * nearS px x0 x1 + nearS py y0 y1 * nearS py y0 y1 + nearS pz z0 z1 * nearS pz z0 z1 := rfl
  have CX := Lib.hid (fun (u : World) => nearest_any px x0 x1 u (by omega) (by omega) (by omega) (by omega) (by omega) (by omega))
  have CY := Lib.hid (fun (u : World) => nearest_any py y0 y1 u (by omega) (by omega) (by omega) (by omega) (by omega) (by omega))
  have CZ := Lib.hid (fun (u : World) => nearest_any pz z0 z1 u (by omega) (by omega) (by omega) (by omega) (by omega) (by omega))
  generalize nearS px x0 x1 = dx at *
  generalize nearS py y0 y1 = dy at *
  generalize nearS pz z0 z1 = dz at *
  generalize hsx : dx * dx = sx at *
  generalize hsy : dy * dy = sy at *
  generalize hsz : dz * dz = sz at *
  have HD := Lib.hid hD; clear hD hi0 hi1 hi2 b2 b3 b4
  have HX := Lib.hid hsx; have HY := Lib.hid hsy; have HZ := Lib.hid hsz
  clear hsx hsy hsz
  have q0 : w2.cell? ⟨w.heap.size, 0, none⟩ = some (.int .i64 x0) := by rw [ca2, ca, cell_old _ _ _ (by simp), cell_new]; rfl
  have q1 : w2.cell? ⟨w.heap.size, 1, none⟩ = some (.int .i64 y0) := by rw [ca2, ca, cell_old _ _ _ (by simp), cell_new]; rfl
  have q2 : w2.cell? ⟨w.heap.size, 2, none⟩ = some (.int .i64 z0) := by rw [ca2, ca, cell_old _ _ _ (by simp), cell_new]; rfl
  have q3 : w2.cell? ⟨w.heap.size, 3, none⟩ = some (.int .i64 x1) := by rw [ca2, ca, cell_old _ _ _ (by simp), cell_new]; rfl
  have q4 : w2.cell? ⟨w.heap.size, 4, none⟩ = some (.int .i64 y1) := by rw [ca2, ca, cell_old _ _ _ (by simp), cell_new]; rfl
  have q5 : w2.cell? ⟨w.heap.size, 5, none⟩ = some (.int .i64 z1) := by rw [ca2, ca, cell_old _ _ _ (by simp), cell_new]; rfl
  have r0 : w2.cell? ⟨w.heap.size + 1, 0, none⟩ = some (.int .i64 px) := by rw [cb2, cb, cell_new' _ _ _ _ (by simp)]; rfl
  have r1 : w2.cell? ⟨w.heap.size + 1, 1, none⟩ = some (.int .i64 py) := by rw [cb2, cb, cell_new' _ _ _ _ (by simp)]; rfl
  have r2 : w2.cell? ⟨w.heap.size + 1, 2, none⟩ = some (.int .i64 pz) := by rw [cb2, cb, cell_new' _ _ _ _ (by simp)]; rfl
  clear ca ca2 cb cb2 hza hzb
  have cq := Made.cells hza2
  go_wp2_with fail
  refine Rg.region (Made w2) Makes (fun k => if k = 2 then some (isV (.agg #[.int .i64 x0, .int .i64 y0, .int .i64 z0])) else if k = 5 then some (isV (.agg #[.int .i64 x1, .int .i64 y1, .int .i64 z1])) else if k = 6 then some (isNew w2 #[.int .i64 0, .int .i64 0, .int .i64 0] 115) else if k = 7 then some (isNew w2 #[.int .i64 0, .int .i64 0, .int .i64 0] 115) else none)
    (fun k => k == 6 || k == 7) 0 9 (by kernel_rfl) (by kernel_rfl) (by kernel_rfl) (by kernel_rfl) (by kernel_rfl) (by kernel_rfl) (by kernel_rfl) Makes.size (Made.start w2) (fun hne => ?_)
  (repeat (refine rLexL_quiet (by rfl) (by rfl) (by rfl) (by rfl) ?_; go_big_quiet_step (fail); refine wpQuiet_nil ?_))
  refine rg_fix (.agg #[.int .i64 x0, .int .i64 y0, .int .i64 z0]) 33 #[.agg #[.int .i64 x0, .int .i64 y0, .int .i64 z0]] rfl rfl rfl (fun _ => by go_simp) (fun u hu => of_any _ _ _ u) ?_
  simp only [Act.put, List.setIfInBounds_toArray, List.set_cons_zero, List.set_cons_succ]
  (repeat (refine rLexL_quiet (by rfl) (by rfl) (by rfl) (by rfl) ?_; go_big_quiet_step (fail); refine wpQuiet_nil ?_))
  refine rg_fix (.agg #[.int .i64 x1, .int .i64 y1, .int .i64 z1]) 33 #[.agg #[.int .i64 x1, .int .i64 y1, .int .i64 z1]] rfl rfl rfl (fun _ => by go_simp) (fun u hu => of_any _ _ _ u) ?_
  simp only [Act.put, List.setIfInBounds_toArray, List.set_cons_zero, List.set_cons_succ]
  refine rg_new #[.int .i64 0, .int .i64 0, .int .i64 0] 115 rfl rfl (fun _ => by go_simp) (fun a ha => ?_)
  simp only [Act.put, List.setIfInBounds_toArray, List.set_cons_zero, List.set_cons_succ]
  refine rg_new #[.int .i64 0, .int .i64 0, .int .i64 0] 115 rfl rfl (fun _ => by go_simp) (fun b hb => ?_)
  simp only [Act.put, List.setIfInBounds_toArray, List.set_cons_zero, List.set_cons_succ]
  (repeat (refine rLexL_quiet (by rfl) (by rfl) (by rfl) (by rfl) ?_; go_big_quiet_step (fail); refine wpQuiet_nil ?_))
  rintro wq hq hf hD
  have ha5 := isNew.out (hf 6)
  have hb5 := isNew.out (hf 7)
  have hab : a ≠ b := (hD 6 _ _ rfl (by kernel_rfl) rfl rfl a rfl (Nat.zero_le _)).2 7 _ _ rfl (by decide) (by kernel_rfl) rfl rfl b rfl (Nat.zero_le _)
  refine wpList_store_row rfl _ _ _ rfl a #[.int .i64 x0, .int .i64 y0, .int .i64 z0] rfl rfl _ _ ha5 (by kernel_rfl) rfl (by simp [Value.oneCell']) ?_
  have hb6 := (setRow_far (cs := #[.int .i64 x0, .int .i64 y0, .int .i64 z0]) (Ne.symm hab)).trans hb5
  refine wpList_store_row rfl _ _ _ rfl b #[.int .i64 x1, .int .i64 y1, .int .i64 z1] rfl rfl _ _ hb6 (by kernel_rfl) rfl (by simp [Value.oneCell']) ?_
  have hb7 := setRow_at (cs := #[.int .i64 x1, .int .i64 y1, .int .i64 z1]) hb6
  have ha7 := (setRow_far (g := b) (cs := #[.int .i64 x1, .int .i64 y1, .int .i64 z1]) hab).trans (setRow_at (cs := #[.int .i64 x0, .int .i64 y0, .int .i64 z0]) ha5)
  have hg7 : w2.grownBy ((wq.setRow a #[.int .i64 x0, .int .i64 y0, .int .i64 z0]).setRow b #[.int .i64 x1, .int .i64 y1, .int .i64 z1]) none := gb_setRow (gb_setRow hq (.inl ha)) (.inl hb)
  generalize (wq.setRow a #[.int .i64 x0, .int .i64 y0, .int .i64 z0]).setRow b #[.int .i64 x1, .int .i64 y1, .int .i64 z1] = w3 at *
  obtain ⟨a0, a1, a2⟩ := cells3 ha7
  obtain ⟨b0, b1, b2⟩ := cells3 hb7
  have r0' := (gb_cell hg7 hzb2 (by simp)).trans r0
  have r1' := (gb_cell hg7 hzb2 (by simp)).trans r1
  have r2' := (gb_cell hg7 hzb2 (by simp)).trans r2
  have za : a < w3.heap.size := (Array.getElem?_eq_some_iff.1 ha7).1
  have zb : b < w3.heap.size := (Array.getElem?_eq_some_iff.1 hb7).1
  have HG7 := Lib.hid (gb_trans HG2.out hg7)
  clear hf hD ha5 hb5 hb6 ha7 hb7 hg7 hq cq q0 q1 q2 q3 q4 q5 r0 r1 r2 hne
  refine wpList_nil ?_
  simp only [Act.put, List.setIfInBounds_toArray, List.set_cons_zero, List.set_cons_succ]
  go_wp2_with fail
  (with_reducible refine (of_any _ _ _ _).mono ?_)
  rintro e w4 ⟨rfl, hg4⟩
  obtain ⟨ca4, za4⟩ := gb_at hg4 za
  obtain ⟨cb4, zb4⟩ := gb_at hg4 zb
  have HG4 := Lib.hid (gb_trans HG7.out hg4)
  clear hg4 HG7 r0' r1' r2'
  have hsx := HX.out; have hsy := HY.out; have hsz := HZ.out
  go_wp2_with fail
  refine wp_loop_rounds 4 ?_
  rw [rounds_succ]
  go_wp2
  go_quiet ((go_at_call 245; exact Calls.quiet_of_same ((CX.out _).mono fun _ _ h => ⟨h.1, h.2.symm⟩)))
  have ca5 : ∀ o, (w4.drewN nq).cell? ⟨a, o, none⟩ = w3.cell? ⟨a, o, none⟩ := ca4
  have cb5 : ∀ o, (w4.drewN nq).cell? ⟨b, o, none⟩ = w3.cell? ⟨b, o, none⟩ := cb4
  have HG5 := Lib.hid (gb_drewN HG4.out nq)
  generalize w4.drewN nq = w5 at *
  clear ca4 cb4 HG4
  go_wp2
  rw [rounds_succ]
  go_wp2
  go_quiet ((go_at_call 245; exact Calls.quiet_of_same ((CY.out _).mono fun _ _ h => ⟨h.1, h.2.symm⟩)))
  have ca6 : ∀ o, (w5.drewN nq).cell? ⟨a, o, none⟩ = w3.cell? ⟨a, o, none⟩ := ca5
  have cb6 : ∀ o, (w5.drewN nq).cell? ⟨b, o, none⟩ = w3.cell? ⟨b, o, none⟩ := cb5
  have HG6 := Lib.hid (gb_drewN HG5.out nq)
  generalize w5.drewN nq = w6 at *
  clear ca5 cb5 HG5
  go_wp2
  rw [rounds_succ]
  go_wp2
  go_quiet ((go_at_call 245; exact Calls.quiet_of_same ((CZ.out _).mono fun _ _ h => ⟨h.1, h.2.symm⟩)))
  have ca7 : ∀ o, (w6.drewN nq).cell? ⟨a, o, none⟩ = w3.cell? ⟨a, o, none⟩ := ca6
  have cb7 : ∀ o, (w6.drewN nq).cell? ⟨b, o, none⟩ = w3.cell? ⟨b, o, none⟩ := cb6
  have HG7 := Lib.hid (gb_drewN HG6.out nq)
  generalize w6.drewN nq = w7 at *
  clear ca6 cb6 HG6
  go_wp2
  rw [rounds_succ]
  go_wp2
  go_ret
  exact ⟨ret_int (by rw [HE.out, HD.out]), HG7.out⟩
theorem near_any (x0 y0 z0 x1 y1 z1 px py pz : Int) (w : World) :
    Calls Tryz.prog 177 #[.agg #[.int .i64 x0, .int .i64 y0, .int .i64 z0, .int .i64 x1, .int .i64 y1, .int .i64 z1], .agg #[.int .i64 px, .int .i64 py, .int .i64 pz]] w fun e w' => e = .returned (.int .i64 (nearP x0 y0 z0 x1 y1 z1 px py pz)) ∧ w.grownBy w' none := by
  go_enter Tryz.func177, Tryz.ntmps177
  go_wp2_with fail
  (with_reducible refine (reach_near _ _ _ _ _ _ _ _ _ _).mono ?_)
  rintro e w1 ⟨rfl, hg1⟩
  go_wp2
  go_ret
  refine ⟨rfl, gb_trans ?_ hg1⟩
  repeat (first | exact gb_refl _ _ | refine gb_alloc ?_ _)
set_option maxRecDepth 100000 in
set_option maxHeartbeats 2000000 in
theorem reach_far (x0 y0 z0 x1 y1 z1 px py pz : Int) (w : World) :
    Calls Tryz.prog 244 #[.agg #[.int .i64 x0, .int .i64 y0, .int .i64 z0, .int .i64 x1, .int .i64 y1, .int .i64 z1], .agg #[.int .i64 px, .int .i64 py, .int .i64 pz], .func (.func 314) #[] #[]] w fun e w' => e = .returned (.int .i64 (farP x0 y0 z0 x1 y1 z1 px py pz)) ∧ w.grownBy w' none := by
  go_enter Tryz.func244, Tryz.ntmps244
  go_wp2_with fail
  (with_reducible refine (validBox_any _ _ _ _ _ _ _).mono ?_)
  rintro e w1 ⟨rfl, hg1⟩
  obtain ⟨ca, hza⟩ := gb_at hg1 (b := w.heap.size) (by first | omega | (simp <;> omega))
  obtain ⟨cb, hzb⟩ := gb_at hg1 (b := w.heap.size + 1) (by first | omega | (simp <;> omega))
  have HG1 := Lib.hid (gb_trans (gb_alloc (gb_alloc (gb_refl _ _) _) _) hg1); clear hg1
  cases hv0 : bP x0 y0 z0 x1 y1 z1
  · go_wp2
    go_ret
    exact ⟨ret_int (by simp [farP, hv0]), HG1.out⟩
  go_wp2_with fail
  (with_reducible refine (valid_any _ _ _ _).mono ?_)
  rintro e w2 ⟨rfl, hg2⟩
  obtain ⟨ca2, hza2⟩ := gb_at hg2 hza
  obtain ⟨cb2, hzb2⟩ := gb_at hg2 hzb
  have HG2 := Lib.hid (gb_trans HG1.out hg2); clear hg2 HG1
  cases hv1 : vP px py pz
  · go_wp2
    go_ret
    exact ⟨ret_int (by simp [farP, hv1]), HG2.out⟩
  obtain ⟨b0, b1, b2, b3, b4⟩ := bP_iff hv0
  have hi0 := vP_iff b0
  have hi1 := vP_iff b1
  have hi2 := vP_iff hv1
  have HE := Lib.hid (show farP x0 y0 z0 x1 y1 z1 px py pz = farD x0 y0 z0 x1 y1 z1 px py pz from by simp [farP, hv0, hv1])
  clear hv0 hv1 b0 b1
  obtain ⟨sx0, sx1, sx2⟩ := sq_small (d := farS px x0 x1) (by unfold farS; omega) (by unfold farS; omega)
  obtain ⟨sy0, sy1, sy2⟩ := sq_small (d := farS py y0 y1) (by unfold farS; omega) (by unfold farS; omega)
  obtain ⟨sz0, sz1, sz2⟩ := sq_small (d := farS pz z0 z1) (by unfold farS; omega) (by unfold farS; omega)
  have hD : farD x0 y0 z0 x1 y1 z1 px py pz = farS px x0 x1 * farS px x0 x1 + farS py y0 y1 * farS py y0 y1 + farS pz z0 z1 * farS pz z0 z1 := rfl
  have CX := Lib.hid (fun (u : World) => farthest_any px x0 x1 u (by omega) (by omega) (by omega) (by omega) (by omega) (by omega))
  have CY := Lib.hid (fun (u : World) => farthest_any py y0 y1 u (by omega) (by omega) (by omega) (by omega) (by omega) (by omega))
  have CZ := Lib.hid (fun (u : World) => farthest_any pz z0 z1 u (by omega) (by omega) (by omega) (by omega) (by omega) (by omega))
  generalize farS px x0 x1 = dx at *
  generalize farS py y0 y1 = dy at *
  generalize farS pz z0 z1 = dz at *
  generalize hsx : dx * dx = sx at *
  generalize hsy : dy * dy = sy at *
  generalize hsz : dz * dz = sz at *
  have HD := Lib.hid hD; clear hD hi0 hi1 hi2 b2 b3 b4
  have HX := Lib.hid hsx; have HY := Lib.hid hsy; have HZ := Lib.hid hsz
  clear hsx hsy hsz
  have q0 : w2.cell? ⟨w.heap.size, 0, none⟩ = some (.int .i64 x0) := by rw [ca2, ca, cell_old _ _ _ (by simp), cell_new]; rfl
  have q1 : w2.cell? ⟨w.heap.size, 1, none⟩ = some (.int .i64 y0) := by rw [ca2, ca, cell_old _ _ _ (by simp), cell_new]; rfl
  have q2 : w2.cell? ⟨w.heap.size, 2, none⟩ = some (.int .i64 z0) := by rw [ca2, ca, cell_old _ _ _ (by simp), cell_new]; rfl
  have q3 : w2.cell? ⟨w.heap.size, 3, none⟩ = some (.int .i64 x1) := by rw [ca2, ca, cell_old _ _ _ (by simp), cell_new]; rfl
  have q4 : w2.cell? ⟨w.heap.size, 4, none⟩ = some (.int .i64 y1) := by rw [ca2, ca, cell_old _ _ _ (by simp), cell_new]; rfl
  have q5 : w2.cell? ⟨w.heap.size, 5, none⟩ = some (.int .i64 z1) := by rw [ca2, ca, cell_old _ _ _ (by simp), cell_new]; rfl
  have r0 : w2.cell? ⟨w.heap.size + 1, 0, none⟩ = some (.int .i64 px) := by rw [cb2, cb, cell_new' _ _ _ _ (by simp)]; rfl
  have r1 : w2.cell? ⟨w.heap.size + 1, 1, none⟩ = some (.int .i64 py) := by rw [cb2, cb, cell_new' _ _ _ _ (by simp)]; rfl
  have r2 : w2.cell? ⟨w.heap.size + 1, 2, none⟩ = some (.int .i64 pz) := by rw [cb2, cb, cell_new' _ _ _ _ (by simp)]; rfl
  clear ca ca2 cb cb2 hza hzb
  have cq := Made.cells hza2
  go_wp2_with fail
  refine Rg.region (Made w2) Makes (fun k => if k = 2 then some (isV (.agg #[.int .i64 x0, .int .i64 y0, .int .i64 z0])) else if k = 5 then some (isV (.agg #[.int .i64 x1, .int .i64 y1, .int .i64 z1])) else if k = 6 then some (isNew w2 #[.int .i64 0, .int .i64 0, .int .i64 0] 115) else if k = 7 then some (isNew w2 #[.int .i64 0, .int .i64 0, .int .i64 0] 115) else none)
    (fun k => k == 6 || k == 7) 0 9 (by kernel_rfl) (by kernel_rfl) (by kernel_rfl) (by kernel_rfl) (by kernel_rfl) (by kernel_rfl) (by kernel_rfl) Makes.size (Made.start w2) (fun hne => ?_)
  (repeat (refine rLexL_quiet (by rfl) (by rfl) (by rfl) (by rfl) ?_; go_big_quiet_step (fail); refine wpQuiet_nil ?_))
  refine rg_fix (.agg #[.int .i64 x0, .int .i64 y0, .int .i64 z0]) 33 #[.agg #[.int .i64 x0, .int .i64 y0, .int .i64 z0]] rfl rfl rfl (fun _ => by go_simp) (fun u hu => of_any _ _ _ u) ?_
  simp only [Act.put, List.setIfInBounds_toArray, List.set_cons_zero, List.set_cons_succ]
  (repeat (refine rLexL_quiet (by rfl) (by rfl) (by rfl) (by rfl) ?_; go_big_quiet_step (fail); refine wpQuiet_nil ?_))
  refine rg_fix (.agg #[.int .i64 x1, .int .i64 y1, .int .i64 z1]) 33 #[.agg #[.int .i64 x1, .int .i64 y1, .int .i64 z1]] rfl rfl rfl (fun _ => by go_simp) (fun u hu => of_any _ _ _ u) ?_
  simp only [Act.put, List.setIfInBounds_toArray, List.set_cons_zero, List.set_cons_succ]
  refine rg_new #[.int .i64 0, .int .i64 0, .int .i64 0] 115 rfl rfl (fun _ => by go_simp) (fun a ha => ?_)
  simp only [Act.put, List.setIfInBounds_toArray, List.set_cons_zero, List.set_cons_succ]
  refine rg_new #[.int .i64 0, .int .i64 0, .int .i64 0] 115 rfl rfl (fun _ => by go_simp) (fun b hb => ?_)
  simp only [Act.put, List.setIfInBounds_toArray, List.set_cons_zero, List.set_cons_succ]
  (repeat (refine rLexL_quiet (by rfl) (by rfl) (by rfl) (by rfl) ?_; go_big_quiet_step (fail); refine wpQuiet_nil ?_))
  rintro wq hq hf hD
  have ha5 := isNew.out (hf 6)
  have hb5 := isNew.out (hf 7)
  have hab : a ≠ b := (hD 6 _ _ rfl (by kernel_rfl) rfl rfl a rfl (Nat.zero_le _)).2 7 _ _ rfl (by decide) (by kernel_rfl) rfl rfl b rfl (Nat.zero_le _)
  refine wpList_store_row rfl _ _ _ rfl a #[.int .i64 x0, .int .i64 y0, .int .i64 z0] rfl rfl _ _ ha5 (by kernel_rfl) rfl (by simp [Value.oneCell']) ?_
  have hb6 := (setRow_far (cs := #[.int .i64 x0, .int .i64 y0, .int .i64 z0]) (Ne.symm hab)).trans hb5
  refine wpList_store_row rfl _ _ _ rfl b #[.int .i64 x1, .int .i64 y1, .int .i64 z1] rfl rfl _ _ hb6 (by kernel_rfl) rfl (by simp [Value.oneCell']) ?_
  have hb7 := setRow_at (cs := #[.int .i64 x1, .int .i64 y1, .int .i64 z1]) hb6
  have ha7 := (setRow_far (g := b) (cs := #[.int .i64 x1, .int .i64 y1, .int .i64 z1]) hab).trans (setRow_at (cs := #[.int .i64 x0, .int .i64 y0, .int .i64 z0]) ha5)
  have hg7 : w2.grownBy ((wq.setRow a #[.int .i64 x0, .int .i64 y0, .int .i64 z0]).setRow b #[.int .i64 x1, .int .i64 y1, .int .i64 z1]) none := gb_setRow (gb_setRow hq (.inl ha)) (.inl hb)
  generalize (wq.setRow a #[.int .i64 x0, .int .i64 y0, .int .i64 z0]).setRow b #[.int .i64 x1, .int .i64 y1, .int .i64 z1] = w3 at *
  obtain ⟨a0, a1, a2⟩ := cells3 ha7
  obtain ⟨b0, b1, b2⟩ := cells3 hb7
  have r0' := (gb_cell hg7 hzb2 (by simp)).trans r0
  have r1' := (gb_cell hg7 hzb2 (by simp)).trans r1
  have r2' := (gb_cell hg7 hzb2 (by simp)).trans r2
  have za : a < w3.heap.size := (Array.getElem?_eq_some_iff.1 ha7).1
  have zb : b < w3.heap.size := (Array.getElem?_eq_some_iff.1 hb7).1
  have HG7 := Lib.hid (gb_trans HG2.out hg7)
  clear hf hD ha5 hb5 hb6 ha7 hb7 hg7 hq cq q0 q1 q2 q3 q4 q5 r0 r1 r2 hne
  refine wpList_nil ?_
  simp only [Act.put, List.setIfInBounds_toArray, List.set_cons_zero, List.set_cons_succ]
  go_wp2_with fail
  (with_reducible refine (of_any _ _ _ _).mono ?_)
  rintro e w4 ⟨rfl, hg4⟩
  obtain ⟨ca4, za4⟩ := gb_at hg4 za
  obtain ⟨cb4, zb4⟩ := gb_at hg4 zb
  have HG4 := Lib.hid (gb_trans HG7.out hg4)
  clear hg4 HG7 r0' r1' r2'
  have hsx := HX.out; have hsy := HY.out; have hsz := HZ.out
  go_wp2_with fail
  refine wp_loop_rounds 4 ?_
  rw [rounds_succ]
  go_wp2
  go_quiet ((go_at_call 314; exact Calls.quiet_of_same ((CX.out _).mono fun _ _ h => ⟨h.1, h.2.symm⟩)))
  have ca5 : ∀ o, (w4.drewN nq).cell? ⟨a, o, none⟩ = w3.cell? ⟨a, o, none⟩ := ca4
  have cb5 : ∀ o, (w4.drewN nq).cell? ⟨b, o, none⟩ = w3.cell? ⟨b, o, none⟩ := cb4
  have HG5 := Lib.hid (gb_drewN HG4.out nq)
  generalize w4.drewN nq = w5 at *
  clear ca4 cb4 HG4
  go_wp2
  rw [rounds_succ]
  go_wp2
  go_quiet ((go_at_call 314; exact Calls.quiet_of_same ((CY.out _).mono fun _ _ h => ⟨h.1, h.2.symm⟩)))
  have ca6 : ∀ o, (w5.drewN nq).cell? ⟨a, o, none⟩ = w3.cell? ⟨a, o, none⟩ := ca5
  have cb6 : ∀ o, (w5.drewN nq).cell? ⟨b, o, none⟩ = w3.cell? ⟨b, o, none⟩ := cb5
  have HG6 := Lib.hid (gb_drewN HG5.out nq)
  generalize w5.drewN nq = w6 at *
  clear ca5 cb5 HG5
  go_wp2
  rw [rounds_succ]
  go_wp2
  go_quiet ((go_at_call 314; exact Calls.quiet_of_same ((CZ.out _).mono fun _ _ h => ⟨h.1, h.2.symm⟩)))
  have ca7 : ∀ o, (w6.drewN nq).cell? ⟨a, o, none⟩ = w3.cell? ⟨a, o, none⟩ := ca6
  have cb7 : ∀ o, (w6.drewN nq).cell? ⟨b, o, none⟩ = w3.cell? ⟨b, o, none⟩ := cb6
  have HG7 := Lib.hid (gb_drewN HG6.out nq)
  generalize w6.drewN nq = w7 at *
  clear ca6 cb6 HG6
  go_wp2
  rw [rounds_succ]
  go_wp2
  go_ret
  exact ⟨ret_int (by rw [HE.out, HD.out]), HG7.out⟩
theorem far_any (x0 y0 z0 x1 y1 z1 px py pz : Int) (w : World) :
    Calls Tryz.prog 241 #[.agg #[.int .i64 x0, .int .i64 y0, .int .i64 z0, .int .i64 x1, .int .i64 y1, .int .i64 z1], .agg #[.int .i64 px, .int .i64 py, .int .i64 pz]] w fun e w' => e = .returned (.int .i64 (farP x0 y0 z0 x1 y1 z1 px py pz)) ∧ w.grownBy w' none := by
  go_enter Tryz.func241, Tryz.ntmps241
  go_wp2_with fail
  (with_reducible refine (reach_far _ _ _ _ _ _ _ _ _ _).mono ?_)
  rintro e w1 ⟨rfl, hg1⟩
  go_wp2
  go_ret
  refine ⟨rfl, gb_trans ?_ hg1⟩
  repeat (first | exact gb_refl _ _ | refine gb_alloc ?_ _)
end LGeoD
section LGeoE
open Go.RowKit
def conP (x0 y0 z0 x1 y1 z1 px py pz : Int) : Bool := bP x0 y0 z0 x1 y1 z1 && vP px py pz && decide (nearP x0 y0 z0 x1 y1 z1 px py pz = 0)
def wiP (a0 b0 c0 a1 b1 c1 x0 y0 z0 x1 y1 z1 : Int) : Bool := bP a0 b0 c0 a1 b1 c1 && conP x0 y0 z0 x1 y1 z1 a0 b0 c0 && conP x0 y0 z0 x1 y1 z1 a1 b1 c1
def ptsD (x0 y0 z0 x1 y1 z1 : Int) : Int := (x1 - x0 + 1) * (y1 - y0 + 1) * (z1 - z0 + 1)
def ptsP (x0 y0 z0 x1 y1 z1 : Int) : Int := if bP x0 y0 z0 x1 y1 z1 then ptsD x0 y0 z0 x1 y1 z1 else 0
theorem contains_any (x0 y0 z0 x1 y1 z1 px py pz : Int) (w : World) :
    Calls Tryz.prog 112 #[.agg #[.int .i64 x0, .int .i64 y0, .int .i64 z0, .int .i64 x1, .int .i64 y1, .int .i64 z1], .agg #[.int .i64 px, .int .i64 py, .int .i64 pz]] w fun e w' => e = .returned (.bool (conP x0 y0 z0 x1 y1 z1 px py pz)) ∧ w.grownBy w' none := by
  go_enter Tryz.func112, Tryz.ntmps112
  go_wp2_with fail
  (with_reducible refine (validBox_any _ _ _ _ _ _ _).mono ?_)
  rintro e w1 ⟨rfl, hg1⟩
  obtain ⟨ca, hza⟩ := gb_at hg1 (b := w.heap.size) (by first | omega | (simp <;> omega))
  obtain ⟨cb, hzb⟩ := gb_at hg1 (b := w.heap.size + 1) (by first | omega | (simp <;> omega))
  have HG1 := Lib.hid (gb_trans (gb_alloc (gb_alloc (gb_refl _ _) _) _) hg1); clear hg1
  cases hv0 : bP x0 y0 z0 x1 y1 z1
  · go_wp2
    go_ret
    exact ⟨ret_bool (by simp [conP, hv0]), HG1.out⟩
  go_wp2_with fail
  (with_reducible refine (valid_any _ _ _ _).mono ?_)
  rintro e w2 ⟨rfl, hg2⟩
  obtain ⟨ca2, hza2⟩ := gb_at hg2 hza
  obtain ⟨cb2, hzb2⟩ := gb_at hg2 hzb
  have HG2 := Lib.hid (gb_trans HG1.out hg2); clear hg2 HG1
  cases hv1 : vP px py pz
  · go_wp2
    go_ret
    exact ⟨ret_bool (by simp [conP, hv1]), HG2.out⟩
  have H0 := Lib.hid hv0; have H1 := Lib.hid hv1; clear hv0 hv1
  go_wp2_with fail
  (with_reducible refine (near_any _ _ _ _ _ _ _ _ _ _).mono ?_)
  rintro e w3 ⟨rfl, hg3⟩
  have HG3 := Lib.hid (gb_trans HG2.out hg3); clear hg3 HG2
  go_wp2
  go_ret
  exact ⟨ret_bool (by simp [conP, H0.out, H1.out]; rfl), HG3.out⟩
theorem within_any (a0 b0 c0 a1 b1 c1 x0 y0 z0 x1 y1 z1 : Int) (w : World) :
    Calls Tryz.prog 64 #[.agg #[.int .i64 a0, .int .i64 b0, .int .i64 c0, .int .i64 a1, .int .i64 b1, .int .i64 c1], .agg #[.int .i64 x0, .int .i64 y0, .int .i64 z0, .int .i64 x1, .int .i64 y1, .int .i64 z1]] w fun e w' => e = .returned (.bool (wiP a0 b0 c0 a1 b1 c1 x0 y0 z0 x1 y1 z1)) ∧ w.grownBy w' none := by
  go_enter Tryz.func64, Tryz.ntmps64
  go_wp2_with fail
  (with_reducible refine (validBox_any _ _ _ _ _ _ _).mono ?_)
  rintro e w1 ⟨rfl, hg1⟩
  obtain ⟨ca, hza⟩ := gb_at hg1 (b := w.heap.size) (by first | omega | (simp <;> omega))
  obtain ⟨cb, hzb⟩ := gb_at hg1 (b := w.heap.size + 1) (by first | omega | (simp <;> omega))
  have HG1 := Lib.hid (gb_trans (gb_alloc (gb_alloc (gb_refl _ _) _) _) hg1); clear hg1
  cases hv0 : bP a0 b0 c0 a1 b1 c1
  · go_wp2
    go_ret
    exact ⟨ret_bool (by simp [wiP, hv0]), HG1.out⟩
  go_wp2_with fail
  (with_reducible refine (contains_any _ _ _ _ _ _ _ _ _ _).mono ?_)
  rintro e w2 ⟨rfl, hg2⟩
  obtain ⟨ca2, hza2⟩ := gb_at hg2 hza
  obtain ⟨cb2, hzb2⟩ := gb_at hg2 hzb
  have HG2 := Lib.hid (gb_trans HG1.out hg2); clear hg2 HG1
  cases hv1 : conP x0 y0 z0 x1 y1 z1 a0 b0 c0
  · go_wp2
    go_ret
    exact ⟨ret_bool (by simp [wiP, hv1]), HG2.out⟩
  have H0 := Lib.hid hv0; have H1 := Lib.hid hv1; clear hv0 hv1
  go_wp2_with fail
  (with_reducible refine (contains_any _ _ _ _ _ _ _ _ _ _).mono ?_)
  rintro e w3 ⟨rfl, hg3⟩
  have HG3 := Lib.hid (gb_trans HG2.out hg3); clear hg3 HG2
  go_wp2
  go_ret
  exact ⟨ret_bool (by simp [wiP, H0.out, H1.out]), HG3.out⟩
/-- The number of points of a valid box is an int. -/
theorem pts_small {a b c : Int} (ha : 1 ≤ a ∧ a ≤ 2097153) (hb : 1 ≤ b ∧ b ≤ 2097153) (hc : 1 ≤ c ∧ c ≤ 1064961) : 1 ≤ a * b ∧ a * b ≤ 4398050705409 ∧ 1 ≤ a * b * c ∧ a * b * c ≤ 4683752477283074049 := by
  have h1 : a * b ≤ 2097153 * 2097153 := Int.mul_le_mul ha.2 hb.2 (by omega) (by omega)
  have h2 : 1 * 1 ≤ a * b := Int.mul_le_mul ha.1 hb.1 (by omega) (by omega)
  have h3 : a * b * c ≤ 4398050705409 * 1064961 := Int.mul_le_mul (by omega) hc.2 (by omega) (by omega)
  have h4 : 1 * 1 ≤ a * b * c := Int.mul_le_mul (by omega) hc.1 (by omega) (by omega)
  omega
set_option maxHeartbeats 1000000 in
theorem points_any (x0 y0 z0 x1 y1 z1 : Int) (w : World) :
    Calls Tryz.prog 65 #[.agg #[.int .i64 x0, .int .i64 y0, .int .i64 z0, .int .i64 x1, .int .i64 y1, .int .i64 z1]] w fun e w' => e = .returned (.int .i64 (ptsP x0 y0 z0 x1 y1 z1)) ∧ w.grownBy w' none := by
  go_enter Tryz.func65, Tryz.ntmps65
  go_wp2_with fail
  (with_reducible refine (validBox_any _ _ _ _ _ _ _).mono ?_)
  rintro e w1 ⟨rfl, hg1⟩
  obtain ⟨ca, hza⟩ := gb_at hg1 (b := w.heap.size) (by first | omega | (simp <;> omega))
  have HG1 := Lib.hid (gb_trans (gb_alloc (gb_refl _ _) _) hg1); clear hg1
  cases hv0 : bP x0 y0 z0 x1 y1 z1
  · go_wp2
    go_ret
    exact ⟨ret_int (by simp [ptsP, hv0]), HG1.out⟩
  have HE := Lib.hid (show ptsP x0 y0 z0 x1 y1 z1 = (x1 - x0 + 1) * (y1 - y0 + 1) * (z1 - z0 + 1) from by simp [ptsP, hv0, ptsD])
  obtain ⟨b0, b1, b2, b3, b4⟩ := bP_iff hv0
  have hi0 := vP_iff b0
  have hi1 := vP_iff b1
  clear hv0 b0 b1
  obtain ⟨s1, s2, s3, s4⟩ := pts_small (a := x1 - x0 + 1) (b := y1 - y0 + 1) (c := z1 - z0 + 1) (by omega) (by omega) (by omega)
  have wb := IntWalk.wrap64_in ((x1 - x0 + 1) * (y1 - y0 + 1)) (by omega)
  have wc := IntWalk.wrap64_in ((x1 - x0 + 1) * (y1 - y0 + 1) * (z1 - z0 + 1)) (by omega)
  clear s1 s2 s3 s4
  go_wp2_with fail
  (with_reducible refine (of_any _ _ _ _).mono ?_)
  rintro e w2 ⟨rfl, hg2⟩
  obtain ⟨ca2, hza2⟩ := gb_at hg2 hza
  have HG2 := Lib.hid (gb_trans HG1.out hg2); clear hg2 HG1
  go_wp2_with fail
  (with_reducible refine (of_any _ _ _ _).mono ?_)
  rintro e w3 ⟨rfl, hg3⟩
  obtain ⟨cb3, hzb3⟩ := gb_at hg3 (b := w2.heap.size) (by simp)
  have HG3 := Lib.hid (gb_trans (gb_alloc HG2.out _) hg3); clear hg3 HG2
  go_wp2_with fail
  refine wp_loop_rounds 4 ?_
  rw [rounds_succ]
  go_wp2
  rw [rounds_succ]
  go_wp2
  rw [rounds_succ]
  go_wp2
  rw [rounds_succ]
  go_wp2
  go_ret
  exact ⟨ret_int (by rw [HE.out]; exact wc), HG3.out⟩
end LGeoE
section LGeoF
open Go.RowKit Rg
def midI (a b : Int) : Int := a + (b - a) / 2
theorem midI_in {a b : Int} (h : a ≤ b) : a ≤ midI a b ∧ midI a b ≤ b ∧ (a < b → midI a b < b) := by unfold midI; omega
theorem middle_any (a b : Int) (w : World) (h1 : -2000000 ≤ a) (h2 : a ≤ b) (h3 : b ≤ 2000000) :
    Calls Tryz.prog 66 #[.int .i64 a, .int .i64 b] w fun e w' => e = .returned (.int .i64 (midI a b)) ∧ w = w' := by
  go_enter Tryz.func66, Tryz.ntmps66
  go_wp2
  go_ret
  exact ⟨ret_int (by unfold midI; omega), rfl⟩
theorem middle_made (a b : Int) (w0 : World) (h1 : -2000000 ≤ a) (h2 : a ≤ b) (h3 : b ≤ 2000000) (u : World) (_ : w0.grownBy u none) :
    Calls Tryz.prog 66 #[.int .i64 a, .int .i64 b] u fun e w' => e = .returned (.int .i64 (midI a b)) ∧ u.grownBy w' none :=
  (middle_any a b u h1 h2 h3).mono fun _ _ ⟨h, e⟩ => ⟨h, e ▸ gb_refl _ _⟩
theorem block_kept {w w' : World} (h : w.grownBy w' none) {b : Nat} {x : Option Obj} (hb : w.heap[b]? = x) (hx : x.isSome = true) : w'.heap[b]? = x := by
  have hlt : b < w.heap.size := by
    rcases Nat.lt_or_ge b w.heap.size with h | h
    · exact h
    · rw [Array.getElem?_eq_none h] at hb; subst hb; cases hx
  exact (h.block b hlt (by simp)).trans hb
theorem frozen3 {w : World} {b : Nat} {cs : Array Value} {t : TypeId} (h : w.heap[b]? = some (.cells cs t (0, 0))) (o : Nat) : w.frozen? ⟨b, o, none⟩ = false := by simp [World.frozen?, h]
theorem block_lt {w : World} {b : Nat} {x : Obj} (h : w.heap[b]? = some x) : b < w.heap.size := (Array.getElem?_eq_some_iff.1 h).1
def cen (v : Bool) (a b : Int) : Int := if v then midI a b else 0
set_option maxRecDepth 100000 in
set_option maxHeartbeats 2000000 in
theorem center_any (x0 y0 z0 x1 y1 z1 : Int) (w : World) :
    Calls Tryz.prog 109 #[.agg #[.int .i64 x0, .int .i64 y0, .int .i64 z0, .int .i64 x1, .int .i64 y1, .int .i64 z1]] w fun e w' => e = .returned (.agg #[.int .i64 (cen (bP x0 y0 z0 x1 y1 z1) x0 x1), .int .i64 (cen (bP x0 y0 z0 x1 y1 z1) y0 y1), .int .i64 (cen (bP x0 y0 z0 x1 y1 z1) z0 z1)]) ∧ w.grownBy w' none := by
  go_enter Tryz.func109, Tryz.ntmps109
  go_wp2_with fail
  (with_reducible refine (validBox_any _ _ _ _ _ _ _).mono ?_)
  rintro e w1 ⟨rfl, hg1⟩
  obtain ⟨ca, hza⟩ := gb_at hg1 (b := w.heap.size) (by first | omega | (simp <;> omega))
  have hR : w1.heap[w.heap.size + 1]? = some (.cells #[.int .i64 0, .int .i64 0, .int .i64 0] 26 (0, 0)) := block_kept hg1 (by simpa using heap_alloc_new (w.alloc _) _) rfl
  have HG1 := Lib.hid (gb_trans (gb_alloc (gb_alloc (gb_refl _ _) _) _) hg1); clear hg1
  cases hv0 : bP x0 y0 z0 x1 y1 z1
  · obtain ⟨e0, e1, e2⟩ := cells3 hR
    have f3 := frozen3 hR
    have hn := setRow_at (cs := #[.int .i64 0, .int .i64 0, .int .i64 0]) hR
    have HN := Lib.hid hn
    have HGE := Lib.hid (gb_setRow (cs := #[.int .i64 0, .int .i64 0, .int .i64 0]) HG1.out (g := w.heap.size + 1) (.inl (by omega)))
    have HRR := Lib.hid hR
    clear hn hR e0 e1 e2 f3
    go_wp2_with (with_reducible refine wpList_store_row rfl _ _ _ rfl (w.heap.size + 1) #[.int .i64 0, .int .i64 0, .int .i64 0] rfl rfl _ _ HRR.out (by kernel_rfl) rfl (by simp [Value.oneCell']) ?_)
    obtain ⟨e0, e1, e2⟩ := cells3 HN.out
    refine bodyPost_ret (v := .agg #[.int .i64 0, .int .i64 0, .int .i64 0]) (by simp [results, Tryz.results109, go_sem, e0, e1, e2]) rfl ⟨by simp [cen, hv0], HGE.out⟩
  have HE := Lib.hid (show (Value.agg #[.int .i64 (cen (bP x0 y0 z0 x1 y1 z1) x0 x1), .int .i64 (cen (bP x0 y0 z0 x1 y1 z1) y0 y1), .int .i64 (cen (bP x0 y0 z0 x1 y1 z1) z0 z1)]) = .agg #[.int .i64 (midI x0 x1), .int .i64 (midI y0 y1), .int .i64 (midI z0 z1)] from by simp [cen, hv0])
  obtain ⟨b0, b1, b2, b3, b4⟩ := bP_iff hv0
  have hi0 := vP_iff b0
  have hi1 := vP_iff b1
  clear hv0 b0 b1
  have CX := Lib.hid (fun (u v : World) => middle_made x0 x1 u (by omega) (by omega) (by omega) v)
  have CY := Lib.hid (fun (u v : World) => middle_made y0 y1 u (by omega) (by omega) (by omega) v)
  have CZ := Lib.hid (fun (u v : World) => middle_made z0 z1 u (by omega) (by omega) (by omega) v)
  clear hi0 hi1 b2 b3 b4
  generalize midI x0 x1 = mx at *
  generalize midI y0 y1 = my at *
  generalize midI z0 z1 = mz at *
  have q0 : w1.cell? ⟨w.heap.size, 0, none⟩ = some (.int .i64 x0) := by rw [ca, cell_old _ _ _ (by simp), cell_new]; rfl
  have q1 : w1.cell? ⟨w.heap.size, 1, none⟩ = some (.int .i64 y0) := by rw [ca, cell_old _ _ _ (by simp), cell_new]; rfl
  have q2 : w1.cell? ⟨w.heap.size, 2, none⟩ = some (.int .i64 z0) := by rw [ca, cell_old _ _ _ (by simp), cell_new]; rfl
  have q3 : w1.cell? ⟨w.heap.size, 3, none⟩ = some (.int .i64 x1) := by rw [ca, cell_old _ _ _ (by simp), cell_new]; rfl
  have q4 : w1.cell? ⟨w.heap.size, 4, none⟩ = some (.int .i64 y1) := by rw [ca, cell_old _ _ _ (by simp), cell_new]; rfl
  have q5 : w1.cell? ⟨w.heap.size, 5, none⟩ = some (.int .i64 z1) := by rw [ca, cell_old _ _ _ (by simp), cell_new]; rfl
  clear ca
  have cq := Made.cells hza
  have HR1 := Lib.hid hR; clear hR
  go_wp2_with fail
  refine Rg.region (Made w1) Makes (fun k => if k = 2 then some (isV (.agg #[.int .i64 x0, .int .i64 y0, .int .i64 z0])) else if k = 5 then some (isV (.agg #[.int .i64 x1, .int .i64 y1, .int .i64 z1])) else if k = 6 then some (isNew w1 #[.int .i64 0, .int .i64 0, .int .i64 0] 115) else if k = 7 then some (isNew w1 #[.int .i64 0, .int .i64 0, .int .i64 0] 115) else none)
    (fun k => k == 6 || k == 7) 0 8 (by kernel_rfl) (by kernel_rfl) (by kernel_rfl) (by kernel_rfl) (by kernel_rfl) (by kernel_rfl) (by kernel_rfl) Makes.size (Made.start w1) (fun hne => ?_)
  (repeat (refine rLexL_quiet (by rfl) (by rfl) (by rfl) (by rfl) ?_; go_big_quiet_step (fail); refine wpQuiet_nil ?_))
  refine rg_fix (.agg #[.int .i64 x0, .int .i64 y0, .int .i64 z0]) 33 #[.agg #[.int .i64 x0, .int .i64 y0, .int .i64 z0]] rfl rfl rfl (fun _ => by go_simp) (fun u hu => of_any _ _ _ u) ?_
  simp only [Act.put, List.setIfInBounds_toArray, List.set_cons_zero, List.set_cons_succ]
  (repeat (refine rLexL_quiet (by rfl) (by rfl) (by rfl) (by rfl) ?_; go_big_quiet_step (fail); refine wpQuiet_nil ?_))
  refine rg_fix (.agg #[.int .i64 x1, .int .i64 y1, .int .i64 z1]) 33 #[.agg #[.int .i64 x1, .int .i64 y1, .int .i64 z1]] rfl rfl rfl (fun _ => by go_simp) (fun u hu => of_any _ _ _ u) ?_
  simp only [Act.put, List.setIfInBounds_toArray, List.set_cons_zero, List.set_cons_succ]
  refine rg_new #[.int .i64 0, .int .i64 0, .int .i64 0] 115 rfl rfl (fun _ => by go_simp) (fun a ha => ?_)
  simp only [Act.put, List.setIfInBounds_toArray, List.set_cons_zero, List.set_cons_succ]
  refine rg_new #[.int .i64 0, .int .i64 0, .int .i64 0] 115 rfl rfl (fun _ => by go_simp) (fun b hb => ?_)
  simp only [Act.put, List.setIfInBounds_toArray, List.set_cons_zero, List.set_cons_succ]
  rintro wq hq hf hD
  have ha5 := isNew.out (hf 6)
  have hb5 := isNew.out (hf 7)
  have hab : a ≠ b := (hD 6 _ _ rfl (by kernel_rfl) rfl rfl a rfl (Nat.zero_le _)).2 7 _ _ rfl (by decide) (by kernel_rfl) rfl rfl b rfl (Nat.zero_le _)
  refine wpList_store_row rfl _ _ _ rfl a #[.int .i64 x0, .int .i64 y0, .int .i64 z0] rfl rfl _ _ ha5 (by kernel_rfl) rfl (by simp [Value.oneCell']) ?_
  have hb6 := (setRow_far (cs := #[.int .i64 x0, .int .i64 y0, .int .i64 z0]) (Ne.symm hab)).trans hb5
  refine wpList_store_row rfl _ _ _ rfl b #[.int .i64 x1, .int .i64 y1, .int .i64 z1] rfl rfl _ _ hb6 (by kernel_rfl) rfl (by simp [Value.oneCell']) ?_
  have hb7 := setRow_at (cs := #[.int .i64 x1, .int .i64 y1, .int .i64 z1]) hb6
  have ha7 := (setRow_far (g := b) (cs := #[.int .i64 x1, .int .i64 y1, .int .i64 z1]) hab).trans (setRow_at (cs := #[.int .i64 x0, .int .i64 y0, .int .i64 z0]) ha5)
  have hg7 : w1.grownBy ((wq.setRow a #[.int .i64 x0, .int .i64 y0, .int .i64 z0]).setRow b #[.int .i64 x1, .int .i64 y1, .int .i64 z1]) none := gb_setRow (gb_setRow hq (.inl ha)) (.inl hb)
  generalize (wq.setRow a #[.int .i64 x0, .int .i64 y0, .int .i64 z0]).setRow b #[.int .i64 x1, .int .i64 y1, .int .i64 z1] = w3 at *
  clear hf hD ha5 hb5 hb6 hq hne
  refine wpList_nil ?_
  simp only [Act.put, List.setIfInBounds_toArray, List.set_cons_zero, List.set_cons_succ]
  have hR3 := block_kept hg7 HR1.out rfl
  have HG3 := Lib.hid (gb_trans HG1.out hg7)
  have hac : w.heap.size + 1 < a := by have := block_lt HR1.out; omega
  clear hg7 cq q0 q1 q2 q3 q4 q5 HR1 HG1
  have HA3 := Lib.hid ha7; have HB3 := Lib.hid hb7; have HR3 := Lib.hid hR3
  clear ha7 hb7 hR3
  go_wp2_with fail
  refine wp_loop_rounds 4 ?_
  rw [rounds_succ]
  obtain ⟨a0, a1, a2⟩ := cells3 HA3.out
  obtain ⟨b0, b1, b2⟩ := cells3 HB3.out
  have la := Made.cells (block_lt HA3.out)
  have lb := Made.cells (block_lt HB3.out)
  go_wp2_with fail
  refine Rg.region (Made w3) Makes (fun k => if k = 7 then some (isV (.int .i64 mx)) else none) (fun _ => false) 0 9 (by kernel_rfl) (by kernel_rfl) (by kernel_rfl) (by kernel_rfl) (by kernel_rfl) (by kernel_rfl) (by kernel_rfl) Makes.size (Made.start w3) (fun hne => ?_)
  (repeat (refine rLexL_quiet (by rfl) (by rfl) (by rfl) (by rfl) ?_; go_big_quiet_step (fail); refine wpQuiet_nil ?_))
  refine rg_fix (.int .i64 mx) 66 #[.int .i64 x0, .int .i64 x1] rfl rfl rfl (fun _ => by go_simp) (fun u hu => CX.out _ _ hu) ?_
  simp only [Act.put, List.setIfInBounds_toArray, List.set_cons_zero, List.set_cons_succ]
  (repeat (refine rLexL_quiet (by rfl) (by rfl) (by rfl) (by rfl) ?_; go_big_quiet_step (fail); refine wpQuiet_nil ?_))
  rintro wq hq - -
  have hA := block_kept hq HA3.out rfl
  have hB := block_kept hq HB3.out rfl
  have hR := block_kept hq HR3.out rfl
  have HQ := Lib.hid (gb_setCell (gb_trans HG3.out hq) (a := ⟨a, 0, none⟩) (.inl (by show w.heap.size ≤ a; omega)) (.int .i64 mx))
  have HA4 := Lib.hid (set_block hA 0 (.int .i64 mx))
  have HB4 := Lib.hid ((setCell_far (b := b) (a := ⟨a, 0, none⟩) (u := .int .i64 mx) (Ne.symm hab)).trans hB)
  have HR4 := Lib.hid ((setCell_far (b := w.heap.size + 1) (a := ⟨a, 0, none⟩) (u := .int .i64 mx) (by show w.heap.size + 1 ≠ a; omega)).trans hR)
  obtain ⟨p0, p1, p2⟩ := cells3 hA
  have p3 := frozen3 hA
  clear hA hB hR hq a0 a1 a2 b0 b1 b2 la lb hne HA3 HB3 HR3 HG3
  go_wp2_with fail
  generalize wq.setCell ⟨a, 0, none⟩ (.int .i64 mx) = w4 at *
  clear p0 p1 p2 p3
  have HG4 := HQ; clear HQ
  rw [rounds_succ]
  obtain ⟨a0, a1, a2⟩ := cells3 HA4.out
  obtain ⟨b0, b1, b2⟩ := cells3 HB4.out
  have la := Made.cells (block_lt HA4.out)
  have lb := Made.cells (block_lt HB4.out)
  go_wp2_with fail
  refine Rg.region (Made w4) Makes (fun k => if k = 7 then some (isV (.int .i64 my)) else none) (fun _ => false) 0 9 (by kernel_rfl) (by kernel_rfl) (by kernel_rfl) (by kernel_rfl) (by kernel_rfl) (by kernel_rfl) (by kernel_rfl) Makes.size (Made.start w4) (fun hne => ?_)
  (repeat (refine rLexL_quiet (by rfl) (by rfl) (by rfl) (by rfl) ?_; go_big_quiet_step (fail); refine wpQuiet_nil ?_))
  refine rg_fix (.int .i64 my) 66 #[.int .i64 y0, .int .i64 y1] rfl rfl rfl (fun _ => by go_simp) (fun u hu => CY.out _ _ hu) ?_
  simp only [Act.put, List.setIfInBounds_toArray, List.set_cons_zero, List.set_cons_succ]
  (repeat (refine rLexL_quiet (by rfl) (by rfl) (by rfl) (by rfl) ?_; go_big_quiet_step (fail); refine wpQuiet_nil ?_))
  rintro wq hq - -
  have hA := block_kept hq HA4.out rfl
  have hB := block_kept hq HB4.out rfl
  have hR := block_kept hq HR4.out rfl
  have HQ := Lib.hid (gb_setCell (gb_trans HG4.out hq) (a := ⟨a, 1, none⟩) (.inl (by show w.heap.size ≤ a; omega)) (.int .i64 my))
  have HA5 := Lib.hid (set_block hA 1 (.int .i64 my))
  have HB5 := Lib.hid ((setCell_far (b := b) (a := ⟨a, 1, none⟩) (u := .int .i64 my) (Ne.symm hab)).trans hB)
  have HR5 := Lib.hid ((setCell_far (b := w.heap.size + 1) (a := ⟨a, 1, none⟩) (u := .int .i64 my) (by show w.heap.size + 1 ≠ a; omega)).trans hR)
  obtain ⟨p0, p1, p2⟩ := cells3 hA
  have p3 := frozen3 hA
  clear hA hB hR hq a0 a1 a2 b0 b1 b2 la lb hne HA4 HB4 HR4 HG4
  go_wp2_with fail
  generalize wq.setCell ⟨a, 1, none⟩ (.int .i64 my) = w5 at *
  clear p0 p1 p2 p3
  have HG5 := HQ; clear HQ
  rw [rounds_succ]
  obtain ⟨a0, a1, a2⟩ := cells3 HA5.out
  obtain ⟨b0, b1, b2⟩ := cells3 HB5.out
  have la := Made.cells (block_lt HA5.out)
  have lb := Made.cells (block_lt HB5.out)
  go_wp2_with fail
  refine Rg.region (Made w5) Makes (fun k => if k = 7 then some (isV (.int .i64 mz)) else none) (fun _ => false) 0 9 (by kernel_rfl) (by kernel_rfl) (by kernel_rfl) (by kernel_rfl) (by kernel_rfl) (by kernel_rfl) (by kernel_rfl) Makes.size (Made.start w5) (fun hne => ?_)
  (repeat (refine rLexL_quiet (by rfl) (by rfl) (by rfl) (by rfl) ?_; go_big_quiet_step (fail); refine wpQuiet_nil ?_))
  refine rg_fix (.int .i64 mz) 66 #[.int .i64 z0, .int .i64 z1] rfl rfl rfl (fun _ => by go_simp) (fun u hu => CZ.out _ _ hu) ?_
  simp only [Act.put, List.setIfInBounds_toArray, List.set_cons_zero, List.set_cons_succ]
  (repeat (refine rLexL_quiet (by rfl) (by rfl) (by rfl) (by rfl) ?_; go_big_quiet_step (fail); refine wpQuiet_nil ?_))
  rintro wq hq - -
  have hA := block_kept hq HA5.out rfl
  have hB := block_kept hq HB5.out rfl
  have hR := block_kept hq HR5.out rfl
  have HQ := Lib.hid (gb_setCell (gb_trans HG5.out hq) (a := ⟨a, 2, none⟩) (.inl (by show w.heap.size ≤ a; omega)) (.int .i64 mz))
  have HA6 := Lib.hid (set_block hA 2 (.int .i64 mz))
  have HB6 := Lib.hid ((setCell_far (b := b) (a := ⟨a, 2, none⟩) (u := .int .i64 mz) (Ne.symm hab)).trans hB)
  have HR6 := Lib.hid ((setCell_far (b := w.heap.size + 1) (a := ⟨a, 2, none⟩) (u := .int .i64 mz) (by show w.heap.size + 1 ≠ a; omega)).trans hR)
  obtain ⟨p0, p1, p2⟩ := cells3 hA
  have p3 := frozen3 hA
  clear hA hB hR hq a0 a1 a2 b0 b1 b2 la lb hne HA5 HB5 HR5 HG5
  go_wp2_with fail
  generalize wq.setCell ⟨a, 2, none⟩ (.int .i64 mz) = w6 at *
  clear p0 p1 p2 p3
  have HG6 := HQ; clear HQ
  rw [rounds_succ]
  obtain ⟨a0, a1, a2⟩ := cells3 HA6.out
  have HRR := Lib.hid HR6.out
  go_wp2_with fail
  (with_reducible refine (position_any _ _ _ _).mono ?_)
  rintro e w7 ⟨rfl, hg8⟩
  have hR := block_kept hg8 HR6.out rfl
  have HN := Lib.hid (setRow_at (cs := #[.int .i64 mx, .int .i64 my, .int .i64 mz]) hR)
  have HGE := Lib.hid (gb_setRow (cs := #[.int .i64 mx, .int .i64 my, .int .i64 mz]) (gb_trans HG6.out hg8) (g := w.heap.size + 1) (.inl (by omega)))
  go_wp2_with (with_reducible refine wpList_store_row rfl _ _ _ rfl (w.heap.size + 1) #[.int .i64 mx, .int .i64 my, .int .i64 mz] rfl rfl _ _ hR (by kernel_rfl) rfl (by simp [Value.oneCell']) ?_)
  obtain ⟨e0, e1, e2⟩ := cells3 HN.out
  refine bodyPost_ret (v := .agg #[.int .i64 mx, .int .i64 my, .int .i64 mz]) (by simp [results, Tryz.results109, go_sem, e0, e1, e2]) rfl ⟨by rw [HE.out], HGE.out⟩
end LGeoF
end Go.Proofs.YtgaglgopbdfemaaGreatDoor
