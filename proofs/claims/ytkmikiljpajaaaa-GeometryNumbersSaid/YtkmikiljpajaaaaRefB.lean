/- Reference 24: Square, Near, Far, Center, Hull; geometry.Compare. -/
import Derived.Test.YtkmikiljpajaaaaRefA
import Derived.Test.YtkmikiljpajaaaaRgMore
namespace Go.Proofs.Ytkmikiljpajaaaa
set_option linter.all false
open Go.RowKit Rg

set_option maxRecDepth 100000 in
set_option maxHeartbeats 1000000 in
theorem rsquare_any (x0 y0 z0 x1 y1 z1 : Int) (w : World) :
    Calls Try.prog 66 #[.agg #[.int .i64 x0, .int .i64 y0, .int .i64 z0], .agg #[.int .i64 x1, .int .i64 y1, .int .i64 z1]] w fun e w' => e = .returned (.int .i64 (sqP x0 y0 z0 x1 y1 z1)) ∧ w.grownBy w' none := by
  go_enter Try.func66, Try.ntmps66
  go_wp2_with fail
  (with_reducible refine (rvalid_any _ _ _ _).mono ?_)
  rintro e w1 ⟨rfl, hg1⟩
  obtain ⟨ca, hza⟩ := gb_at hg1 (b := w.heap.size) (by first | omega | (simp <;> omega))
  obtain ⟨cb, hzb⟩ := gb_at hg1 (b := w.heap.size + 1) (by first | omega | (simp <;> omega))
  have HG1 := Lib.hid (gb_trans (gb_alloc (gb_alloc (gb_refl _ _) _) _) hg1); clear hg1
  cases hv0 : vP x0 y0 z0
  · go_wp2
    go_ret
    exact ⟨ret_int (by simp [sqP, hv0]), HG1.out⟩
  go_wp2_with fail
  (with_reducible refine (rvalid_any _ _ _ _).mono ?_)
  rintro e w2 ⟨rfl, hg2⟩
  obtain ⟨ca2, hza2⟩ := gb_at hg2 hza
  obtain ⟨cb2, hzb2⟩ := gb_at hg2 hzb
  have HG2 := Lib.hid (gb_trans HG1.out hg2); clear hg2 HG1
  cases hv1 : vP x1 y1 z1
  · go_wp2
    go_ret
    exact ⟨ret_int (by simp [sqP, hv1]), HG2.out⟩
  have hi0 := vP_iff hv0
  have hi1 := vP_iff hv1
  have HE := Lib.hid (show sqP x0 y0 z0 x1 y1 z1 = (x0 - x1) * (x0 - x1) + (y0 - y1) * (y0 - y1) + (z0 - z1) * (z0 - z1) from by simp [sqP, hv0, hv1, sqD])
  clear hv0 hv1
  obtain ⟨sx0, sx1, -⟩ := sq_small (d := x0 - x1) (by omega) (by omega)
  obtain ⟨sy0, sy1, -⟩ := sq_small (d := y0 - y1) (by omega) (by omega)
  obtain ⟨sz0, sz1, -⟩ := sq_small (d := z0 - z1) (by omega) (by omega)
  have CX := Lib.hid (fun (u : World) => rsq_any (x0 - x1) u (by omega) (by omega))
  have CY := Lib.hid (fun (u : World) => rsq_any (y0 - y1) u (by omega) (by omega))
  have CZ := Lib.hid (fun (u : World) => rsq_any (z0 - z1) u (by omega) (by omega))
  generalize (x0 - x1) * (x0 - x1) = sx at *
  generalize (y0 - y1) * (y0 - y1) = sy at *
  generalize (z0 - z1) * (z0 - z1) = sz at *
  have hnt := fun (x : Up w2) (o : Nat) => ever_cell x (b := w.heap.size) (o := o) hza2
  have hnu := fun (x : Up w2) (o : Nat) => ever_cell x (b := w.heap.size + 1) (o := o) hzb2
  go_wp2_with fail
  (refine wp_region_grown (by kernel_rfl) (by kernel_rfl) ?_; (repeat (go_big_quiet_step (first | (go_at_call 82; first | (with_reducible exact Calls.grown_same (CX.out _)) | (with_reducible exact Calls.grown_same (CY.out _)) | (with_reducible exact Calls.grown_same (CZ.out _)))))); refine wpQuiet_nil ?_; intro wq hq)
  go_wp2
  go_ret
  exact ⟨ret_int (by rw [HE.out]), gb_trans HG2.out hq⟩

set_option maxRecDepth 100000 in
set_option maxHeartbeats 2000000 in
theorem rNear_any (x0 y0 z0 x1 y1 z1 px py pz : Int) (w : World) :
    Calls Try.prog 43 #[.agg #[.int .i64 x0, .int .i64 y0, .int .i64 z0, .int .i64 x1, .int .i64 y1, .int .i64 z1], .agg #[.int .i64 px, .int .i64 py, .int .i64 pz]] w fun e w' => e = .returned (.int .i64 (nearP x0 y0 z0 x1 y1 z1 px py pz)) ∧ w.grownBy w' none := by
  go_enter Try.func43, Try.ntmps43
  go_wp2_with fail
  (with_reducible refine (rvalidBox_any _ _ _ _ _ _ _).mono ?_)
  rintro e w1 ⟨rfl, hg1⟩
  obtain ⟨ca, hza⟩ := gb_at hg1 (b := w.heap.size) (by first | omega | (simp <;> omega))
  obtain ⟨cb, hzb⟩ := gb_at hg1 (b := w.heap.size + 1) (by first | omega | (simp <;> omega))
  have HG1 := Lib.hid (gb_trans (gb_alloc (gb_alloc (gb_refl _ _) _) _) hg1); clear hg1
  cases hv0 : bP x0 y0 z0 x1 y1 z1
  · go_wp2
    go_ret
    exact ⟨ret_int (by simp [nearP, hv0]), HG1.out⟩
  go_wp2_with fail
  (with_reducible refine (rvalid_any _ _ _ _).mono ?_)
  rintro e w2 ⟨rfl, hg2⟩
  obtain ⟨ca2, hza2⟩ := gb_at hg2 hza
  obtain ⟨cb2, hzb2⟩ := gb_at hg2 hzb
  have HG2 := Lib.hid (gb_trans HG1.out hg2); clear hg2 HG1
  cases hv1 : vP px py pz
  · go_wp2
    go_ret
    exact ⟨ret_int (by simp [nearP, hv1]), HG2.out⟩
  have HE := Lib.hid (show nearP x0 y0 z0 x1 y1 z1 px py pz = nearS px x0 x1 * nearS px x0 x1 + nearS py y0 y1 * nearS py y0 y1 + nearS pz z0 z1 * nearS pz z0 z1 from by simp [nearP, hv0, hv1, nearD])
  obtain ⟨b0, b1, b2, b3, b4⟩ := bP_iff hv0
  have hi0 := vP_iff b0
  have hi1 := vP_iff b1
  have hi2 := vP_iff hv1
  clear hv0 hv1 b0 b1
  have bx : 0 ≤ nearS px x0 x1 ∧ nearS px x0 x1 ≤ 4194304 := by unfold nearS; omega
  have by' : 0 ≤ nearS py y0 y1 ∧ nearS py y0 y1 ≤ 4194304 := by unfold nearS; omega
  have bz : 0 ≤ nearS pz z0 z1 ∧ nearS pz z0 z1 ≤ 4194304 := by unfold nearS; omega
  have NX := Lib.hid (fun (u : World) => rnear_any px x0 x1 u (by omega) (by omega) (by omega) (by omega) (by omega) (by omega))
  have NY := Lib.hid (fun (u : World) => rnear_any py y0 y1 u (by omega) (by omega) (by omega) (by omega) (by omega) (by omega))
  have NZ := Lib.hid (fun (u : World) => rnear_any pz z0 z1 u (by omega) (by omega) (by omega) (by omega) (by omega) (by omega))
  clear hi0 hi1 hi2 b2 b3 b4
  generalize nearS px x0 x1 = sx at *
  generalize nearS py y0 y1 = sy at *
  generalize nearS pz z0 z1 = sz at *
  have CX := Lib.hid (fun (u : World) => rsq_any sx u (by omega) (by omega))
  have CY := Lib.hid (fun (u : World) => rsq_any sy u (by omega) (by omega))
  have CZ := Lib.hid (fun (u : World) => rsq_any sz u (by omega) (by omega))
  obtain ⟨sx0, sx1, -⟩ := sq_small (d := sx) (by omega) (by omega)
  obtain ⟨sy0, sy1, -⟩ := sq_small (d := sy) (by omega) (by omega)
  obtain ⟨sz0, sz1, -⟩ := sq_small (d := sz) (by omega) (by omega)
  generalize sx * sx = tx at *
  generalize sy * sy = ty at *
  generalize sz * sz = tz at *
  have hnt := fun (x : Up w2) (o : Nat) => ever_cell x (b := w.heap.size) (o := o) hza2
  have hnu := fun (x : Up w2) (o : Nat) => ever_cell x (b := w.heap.size + 1) (o := o) hzb2
  go_wp2_with fail
  (refine wp_region_grown (by kernel_rfl) (by kernel_rfl) ?_; (repeat (go_big_quiet_step (first
    | (go_at_call 83; first | (with_reducible exact Calls.grown_same (NX.out _)) | (with_reducible exact Calls.grown_same (NY.out _)) | (with_reducible exact Calls.grown_same (NZ.out _)))
    | (go_at_call 82; first | (with_reducible exact Calls.grown_same (CX.out _)) | (with_reducible exact Calls.grown_same (CY.out _)) | (with_reducible exact Calls.grown_same (CZ.out _)))))); refine wpQuiet_nil ?_; intro wq hq)
  go_wp2
  go_ret
  exact ⟨ret_int (by rw [HE.out]), gb_trans HG2.out hq⟩

set_option maxRecDepth 100000 in
set_option maxHeartbeats 2000000 in
theorem rFar_any (x0 y0 z0 x1 y1 z1 px py pz : Int) (w : World) :
    Calls Try.prog 44 #[.agg #[.int .i64 x0, .int .i64 y0, .int .i64 z0, .int .i64 x1, .int .i64 y1, .int .i64 z1], .agg #[.int .i64 px, .int .i64 py, .int .i64 pz]] w fun e w' => e = .returned (.int .i64 (farP x0 y0 z0 x1 y1 z1 px py pz)) ∧ w.grownBy w' none := by
  go_enter Try.func44, Try.ntmps44
  go_wp2_with fail
  (with_reducible refine (rvalidBox_any _ _ _ _ _ _ _).mono ?_)
  rintro e w1 ⟨rfl, hg1⟩
  obtain ⟨ca, hza⟩ := gb_at hg1 (b := w.heap.size) (by first | omega | (simp <;> omega))
  obtain ⟨cb, hzb⟩ := gb_at hg1 (b := w.heap.size + 1) (by first | omega | (simp <;> omega))
  have HG1 := Lib.hid (gb_trans (gb_alloc (gb_alloc (gb_refl _ _) _) _) hg1); clear hg1
  cases hv0 : bP x0 y0 z0 x1 y1 z1
  · go_wp2
    go_ret
    exact ⟨ret_int (by simp [farP, hv0]), HG1.out⟩
  go_wp2_with fail
  (with_reducible refine (rvalid_any _ _ _ _).mono ?_)
  rintro e w2 ⟨rfl, hg2⟩
  obtain ⟨ca2, hza2⟩ := gb_at hg2 hza
  obtain ⟨cb2, hzb2⟩ := gb_at hg2 hzb
  have HG2 := Lib.hid (gb_trans HG1.out hg2); clear hg2 HG1
  cases hv1 : vP px py pz
  · go_wp2
    go_ret
    exact ⟨ret_int (by simp [farP, hv1]), HG2.out⟩
  have HE := Lib.hid (show farP x0 y0 z0 x1 y1 z1 px py pz = farS px x0 x1 * farS px x0 x1 + farS py y0 y1 * farS py y0 y1 + farS pz z0 z1 * farS pz z0 z1 from by simp [farP, hv0, hv1, farD])
  obtain ⟨b0, b1, b2, b3, b4⟩ := bP_iff hv0
  have hi0 := vP_iff b0
  have hi1 := vP_iff b1
  have hi2 := vP_iff hv1
  clear hv0 hv1 b0 b1
  have bx : -4194304 ≤ farS px x0 x1 ∧ farS px x0 x1 ≤ 4194304 := by unfold farS; omega
  have by' : -4194304 ≤ farS py y0 y1 ∧ farS py y0 y1 ≤ 4194304 := by unfold farS; omega
  have bz : -4194304 ≤ farS pz z0 z1 ∧ farS pz z0 z1 ≤ 4194304 := by unfold farS; omega
  have NX := Lib.hid (fun (u : World) => rfar_any px x0 x1 u (by omega) (by omega) (by omega) (by omega) (by omega) (by omega))
  have NY := Lib.hid (fun (u : World) => rfar_any py y0 y1 u (by omega) (by omega) (by omega) (by omega) (by omega) (by omega))
  have NZ := Lib.hid (fun (u : World) => rfar_any pz z0 z1 u (by omega) (by omega) (by omega) (by omega) (by omega) (by omega))
  clear hi0 hi1 hi2 b2 b3 b4
  generalize farS px x0 x1 = sx at *
  generalize farS py y0 y1 = sy at *
  generalize farS pz z0 z1 = sz at *
  have CX := Lib.hid (fun (u : World) => rsq_any sx u (by omega) (by omega))
  have CY := Lib.hid (fun (u : World) => rsq_any sy u (by omega) (by omega))
  have CZ := Lib.hid (fun (u : World) => rsq_any sz u (by omega) (by omega))
  obtain ⟨sx0, sx1, -⟩ := sq_small (d := sx) (by omega) (by omega)
  obtain ⟨sy0, sy1, -⟩ := sq_small (d := sy) (by omega) (by omega)
  obtain ⟨sz0, sz1, -⟩ := sq_small (d := sz) (by omega) (by omega)
  generalize sx * sx = tx at *
  generalize sy * sy = ty at *
  generalize sz * sz = tz at *
  have hnt := fun (x : Up w2) (o : Nat) => ever_cell x (b := w.heap.size) (o := o) hza2
  have hnu := fun (x : Up w2) (o : Nat) => ever_cell x (b := w.heap.size + 1) (o := o) hzb2
  go_wp2_with fail
  (refine wp_region_grown (by kernel_rfl) (by kernel_rfl) ?_; (repeat (go_big_quiet_step (first
    | (go_at_call 84; first | (with_reducible exact Calls.grown_same (NX.out _)) | (with_reducible exact Calls.grown_same (NY.out _)) | (with_reducible exact Calls.grown_same (NZ.out _)))
    | (go_at_call 82; first | (with_reducible exact Calls.grown_same (CX.out _)) | (with_reducible exact Calls.grown_same (CY.out _)) | (with_reducible exact Calls.grown_same (CZ.out _)))))); refine wpQuiet_nil ?_; intro wq hq)
  go_wp2
  go_ret
  exact ⟨ret_int (by rw [HE.out]), gb_trans HG2.out hq⟩

set_option maxRecDepth 100000 in
set_option maxHeartbeats 2000000 in
theorem rcenter_any (x0 y0 z0 x1 y1 z1 : Int) (w : World) :
    Calls Try.prog 42 #[.agg #[.int .i64 x0, .int .i64 y0, .int .i64 z0, .int .i64 x1, .int .i64 y1, .int .i64 z1]] w fun e w' => e = .returned (.agg #[.int .i64 (cen (bP x0 y0 z0 x1 y1 z1) x0 x1), .int .i64 (cen (bP x0 y0 z0 x1 y1 z1) y0 y1), .int .i64 (cen (bP x0 y0 z0 x1 y1 z1) z0 z1)]) ∧ w.grownBy w' none := by
  go_enter Try.func42, Try.ntmps42
  go_wp2_with fail
  (with_reducible refine (rvalidBox_any _ _ _ _ _ _ _).mono ?_)
  rintro e w1 ⟨rfl, hg1⟩
  obtain ⟨ca, hza⟩ := gb_at hg1 (b := w.heap.size) (by first | omega | (simp <;> omega))
  have hR : w1.heap[w.heap.size + 1]? = some (.cells #[.int .i64 0, .int .i64 0, .int .i64 0] 40 (0, 0)) := block_kept hg1 (by simpa using heap_alloc_new (w.alloc _) _) rfl
  have HG1 := Lib.hid (gb_trans (gb_alloc (gb_alloc (gb_refl _ _) _) _) hg1); clear hg1
  cases hv0 : bP x0 y0 z0 x1 y1 z1
  · have HN := Lib.hid (setRow_at (cs := #[.int .i64 0, .int .i64 0, .int .i64 0]) hR)
    have HGE := Lib.hid (gb_setRow (cs := #[.int .i64 0, .int .i64 0, .int .i64 0]) HG1.out (g := w.heap.size + 1) (.inl (by omega)))
    have HRR := Lib.hid hR
    clear hR
    go_wp2_with (with_reducible refine wpList_store_row rfl _ _ _ rfl (w.heap.size + 1) #[.int .i64 0, .int .i64 0, .int .i64 0] rfl rfl _ _ HRR.out (by kernel_rfl) rfl (by simp [Value.oneCell']) ?_)
    obtain ⟨e0, e1, e2⟩ := cells3 HN.out
    refine bodyPost_ret (v := .agg #[.int .i64 0, .int .i64 0, .int .i64 0]) (by simp [results, Try.results42, go_sem, e0, e1, e2]) rfl ⟨by simp [cen, hv0], HGE.out⟩
  have HE := Lib.hid (show (Value.agg #[.int .i64 (cen (bP x0 y0 z0 x1 y1 z1) x0 x1), .int .i64 (cen (bP x0 y0 z0 x1 y1 z1) y0 y1), .int .i64 (cen (bP x0 y0 z0 x1 y1 z1) z0 z1)]) = .agg #[.int .i64 (midI x0 x1), .int .i64 (midI y0 y1), .int .i64 (midI z0 z1)] from by simp [cen, hv0])
  obtain ⟨b0, b1, b2, b3, b4⟩ := bP_iff hv0
  have hi0 := vP_iff b0
  have hi1 := vP_iff b1
  clear hv0 b0 b1
  have CX := Lib.hid (fun (u : World) => same_grown (rmiddle_any x0 x1 u (by omega) (by omega) (by omega)))
  have CY := Lib.hid (fun (u : World) => same_grown (rmiddle_any y0 y1 u (by omega) (by omega) (by omega)))
  have CZ := Lib.hid (fun (u : World) => same_grown (rmiddle_any z0 z1 u (by omega) (by omega) (by omega)))
  clear hi0 hi1 b2 b3 b4
  generalize midI x0 x1 = mx at *
  generalize midI y0 y1 = my at *
  generalize midI z0 z1 = mz at *
  have q0 : w1.cell? ⟨w.heap.size, 0, none⟩ = some (.int .i64 x0) := by rw [ca, cell_old _ _ _ (by simp), cell_new]; rfl
  have q1 : w1.cell? ⟨w.heap.size, 1, none⟩ = some (.int .i64 y0) := by rw [ca, cell_old _ _ _ (by simp), cell_new]; rfl
  have q2 : w1.cell? ⟨w.heap.size, 2, none⟩ = some (.int .i64 z0) := by rw [ca, cell_old _ _ _ (by simp), cell_new]; rfl
  have q3 : w1.cell? ⟨w.heap.size, 3, none⟩ = some (.int .i64 x1) := by rw [ca, cell_old _ _ _ (by simp), cell_new]; rfl
  have q4 : w1.cell? ⟨w.heap.size, 4, none⟩ = some (.int .i64 y1) := by rw [ca, cell_old _ _ _ (by simp), cell_new]; rfl
  have q5 : w1.cell? ⟨w.heap.size, 5, none⟩ = some (.int .i64 z1) := by rw [ca, cell_old _ _ _ (by simp), cell_new]; rfl
  clear ca
  have cq := Made.cells hza
  have HR1 := Lib.hid hR; clear hR
  go_wp2_with fail
  refine Rg.region (Made w1) Makes (fun k => if k = 6 then some (isV (.int .i64 mx)) else if k = 13 then some (isV (.int .i64 my)) else if k = 20 then some (isV (.int .i64 mz)) else none)
    (fun _ => false) 0 22 (by kernel_rfl) (by kernel_rfl) (by kernel_rfl) (by kernel_rfl) (by kernel_rfl) (by kernel_rfl) (by kernel_rfl) Makes.size (Made.start w1) (fun hne => ?_)
  (repeat (refine rLexL_quiet (by rfl) (by rfl) (by rfl) (by rfl) ?_; go_big_quiet_step (fail); refine wpQuiet_nil ?_))
  refine rg_fix (.int .i64 mx) 81 #[.int .i64 x0, .int .i64 x1] rfl rfl rfl (fun _ => by go_simp) (fun u hu => CX.out u) ?_
  simp only [Act.put, List.setIfInBounds_toArray, List.set_cons_zero, List.set_cons_succ]
  (repeat (refine rLexL_quiet (by rfl) (by rfl) (by rfl) (by rfl) ?_; go_big_quiet_step (fail); refine wpQuiet_nil ?_))
  refine rg_fix (.int .i64 my) 81 #[.int .i64 y0, .int .i64 y1] rfl rfl rfl (fun _ => by go_simp) (fun u hu => CY.out u) ?_
  simp only [Act.put, List.setIfInBounds_toArray, List.set_cons_zero, List.set_cons_succ]
  (repeat (refine rLexL_quiet (by rfl) (by rfl) (by rfl) (by rfl) ?_; go_big_quiet_step (fail); refine wpQuiet_nil ?_))
  refine rg_fix (.int .i64 mz) 81 #[.int .i64 z0, .int .i64 z1] rfl rfl rfl (fun _ => by go_simp) (fun u hu => CZ.out u) ?_
  simp only [Act.put, List.setIfInBounds_toArray, List.set_cons_zero, List.set_cons_succ]
  (repeat (refine rLexL_quiet (by rfl) (by rfl) (by rfl) (by rfl) ?_; go_big_quiet_step (fail); refine wpQuiet_nil ?_))
  rintro wq hq hf hD
  have hR2 := block_kept hq HR1.out rfl
  refine wpList_store_row rfl _ _ _ rfl (w.heap.size + 1) #[.int .i64 mx, .int .i64 my, .int .i64 mz] rfl rfl _ _ hR2 (by kernel_rfl) rfl (by simp [Value.oneCell']) ?_
  have HN := Lib.hid (setRow_at (cs := #[.int .i64 mx, .int .i64 my, .int .i64 mz]) hR2)
  have HGE := Lib.hid (gb_setRow (cs := #[.int .i64 mx, .int .i64 my, .int .i64 mz]) (gb_trans HG1.out hq) (g := w.heap.size + 1) (.inl (by omega)))
  clear hf hD hq hne hR2
  refine wpList_nil ?_
  simp only [Act.put, List.setIfInBounds_toArray, List.set_cons_zero, List.set_cons_succ]
  obtain ⟨e0, e1, e2⟩ := cells3 HN.out
  go_wp2_with fail
  refine bodyPost_ret (v := .agg #[.int .i64 mx, .int .i64 my, .int .i64 mz]) (by simp [results, Try.results42, go_sem, e0, e1, e2]) rfl ⟨by rw [HE.out], HGE.out⟩

end Go.Proofs.Ytkmikiljpajaaaa
