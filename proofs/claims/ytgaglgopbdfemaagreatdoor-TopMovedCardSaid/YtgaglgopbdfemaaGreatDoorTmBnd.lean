/- Bnd -/
import Derived.Test.YtgaglgopbdfemaaGreatDoorTmTrv
import Derived.Test.YtgaglgopbdfemaaGreatDoorTmRgMade
import Derived.Test.YtgaglgopbdfemaaGreatDoorTmGeo
import Derived.Test.YtgaglgopbdfemaaGreatDoorTmRgPos
namespace Go.Proofs.YtgaglgopbdfemaaGreatDoor
set_option linter.all false
section LTrvH
open Go.RowKit
/-- What Interval returns. -/
def intV (step : Int) (ls hs : List Int) (x0 y0 z0 x1 y1 z1 : Int) : Value :=
  if tOk step ls hs then (if vP x0 y0 z0 && vP x1 y1 z1 then btw step ls hs (sqD x0 y0 z0 x1 y1 z1) (sqD x0 y0 z0 x1 y1 z1) else .tuple #[.int .i64 0, .int .i64 0, .int .i64 20]) else .tuple #[.int .i64 0, .int .i64 0, .int .i64 21]
end LTrvH
section LBndA
open Go.RowKit Rg
def bndE (step : Int) (ls hs : List Int) (x0 y0 z0 x1 y1 z1 px py pz : Int) : Int :=
  if tOk step ls hs then (if bP x0 y0 z0 x1 y1 z1 && vP px py pz then btwE step ls hs (nearP x0 y0 z0 x1 y1 z1 px py pz) (farP x0 y0 z0 x1 y1 z1 px py pz) else 20) else 21
def bndA (step : Int) (ls hs : List Int) (x0 y0 z0 x1 y1 z1 px py pz : Int) : Int :=
  if bndE step ls hs x0 y0 z0 x1 y1 z1 px py pz = 0 then at0 ls (loI step (floorI (nearP x0 y0 z0 x1 y1 z1 px py pz))) else 0
def bndB (step : Int) (ls hs : List Int) (x0 y0 z0 x1 y1 z1 px py pz : Int) : Int :=
  if bndE step ls hs x0 y0 z0 x1 y1 z1 px py pz = 0 then at0 hs (upI step (ceilI (farP x0 y0 z0 x1 y1 z1 px py pz))) else 0
def bndV (step : Int) (ls hs : List Int) (x0 y0 z0 x1 y1 z1 px py pz : Int) : Value :=
  .tuple #[.int .i64 (bndA step ls hs x0 y0 z0 x1 y1 z1 px py pz), .int .i64 (bndB step ls hs x0 y0 z0 x1 y1 z1 px py pz), .int .i64 (bndE step ls hs x0 y0 z0 x1 y1 z1 px py pz)]
theorem bnd_table {step : Int} {ls hs : List Int} {x0 y0 z0 x1 y1 z1 px py pz : Int} (h : ¬ tOk step ls hs) : Value.tuple #[.int .i64 0, .int .i64 0, .int .i64 21] = bndV step ls hs x0 y0 z0 x1 y1 z1 px py pz := by
  have e : bndE step ls hs x0 y0 z0 x1 y1 z1 px py pz = 21 := by simp [bndE, h]
  simp [bndV, bndA, bndB, e]
theorem bnd_region {step : Int} {ls hs : List Int} {x0 y0 z0 x1 y1 z1 px py pz : Int} (h : tOk step ls hs) (h' : (bP x0 y0 z0 x1 y1 z1 && vP px py pz) = false) : Value.tuple #[.int .i64 0, .int .i64 0, .int .i64 20] = bndV step ls hs x0 y0 z0 x1 y1 z1 px py pz := by
  have e : bndE step ls hs x0 y0 z0 x1 y1 z1 px py pz = 20 := by simp only [bndE, h, h', if_true]; rfl
  simp [bndV, bndA, bndB, e]
theorem bnd_btw {step : Int} {ls hs : List Int} {x0 y0 z0 x1 y1 z1 px py pz : Int} (h : tOk step ls hs) (h' : (bP x0 y0 z0 x1 y1 z1 && vP px py pz) = true) : btw step ls hs (nearP x0 y0 z0 x1 y1 z1 px py pz) (farP x0 y0 z0 x1 y1 z1 px py pz) = bndV step ls hs x0 y0 z0 x1 y1 z1 px py pz := by
  have e : bndE step ls hs x0 y0 z0 x1 y1 z1 px py pz = btwE step ls hs (nearP x0 y0 z0 x1 y1 z1 px py pz) (farP x0 y0 z0 x1 y1 z1 px py pz) := by simp only [bndE, h, h', if_true]
  simp only [bndV, bndA, bndB, e, btw, btwA, btwB]
theorem far_small {x0 y0 z0 x1 y1 z1 px py pz : Int} (h : bP x0 y0 z0 x1 y1 z1 = true) (h' : vP px py pz = true) : 0 ≤ nearD x0 y0 z0 x1 y1 z1 px py pz ∧ nearD x0 y0 z0 x1 y1 z1 px py pz ≤ farD x0 y0 z0 x1 y1 z1 px py pz ∧ farD x0 y0 z0 x1 y1 z1 px py pz ≤ 52776558133248 := by
  obtain ⟨v0, v1, o0, o1, o2⟩ := bP_iff h
  have a := vP_iff v0; have b := vP_iff v1; have c := vP_iff h'
  have s0 := (sq_small (d := farS px x0 x1) (by unfold farS; omega) (by unfold farS; omega)).2.1
  have s1 := (sq_small (d := farS py y0 y1) (by unfold farS; omega) (by unfold farS; omega)).2.1
  have s2 := (sq_small (d := farS pz z0 z1) (by unfold farS; omega) (by unfold farS; omega)).2.1
  have n0 := sq_nn (nearS px x0 x1); have n1 := sq_nn (nearS py y0 y1); have n2 := sq_nn (nearS pz z0 z1)
  have u0 : nearS px x0 x1 * nearS px x0 x1 ≤ farS px x0 x1 * farS px x0 x1 := sq_up (by unfold nearS; omega) (by unfold nearS farS; omega)
  have u1 : nearS py y0 y1 * nearS py y0 y1 ≤ farS py y0 y1 * farS py y0 y1 := sq_up (by unfold nearS; omega) (by unfold nearS farS; omega)
  have u2 : nearS pz z0 z1 * nearS pz z0 z1 ≤ farS pz z0 z1 * farS pz z0 z1 := sq_up (by unfold nearS; omega) (by unfold nearS farS; omega)
  unfold nearD farD; omega
theorem farP_small (x0 y0 z0 x1 y1 z1 px py pz : Int) : farP x0 y0 z0 x1 y1 z1 px py pz ≤ 9223372036854775807 := by
  unfold farP
  split
  · rename_i h
    rw [Bool.and_eq_true] at h
    have := (far_small h.1 h.2).2.2; omega
  · omega
/-- The bounds are times. -/
theorem bnd_bounds (step : Int) (ls hs : List Int) (x0 y0 z0 x1 y1 z1 px py pz : Int) : 0 ≤ bndA step ls hs x0 y0 z0 x1 y1 z1 px py pz ∧ bndA step ls hs x0 y0 z0 x1 y1 z1 px py pz ≤ 1099511627776 ∧ 0 ≤ bndB step ls hs x0 y0 z0 x1 y1 z1 px py pz ∧ bndB step ls hs x0 y0 z0 x1 y1 z1 px py pz ≤ 1099511627776 := by
  by_cases he : bndE step ls hs x0 y0 z0 x1 y1 z1 px py pz = 0
  · have h1 : tOk step ls hs := by
      by_cases h : tOk step ls hs
      · exact h
      · exfalso; unfold bndE at he; rw [if_neg h] at he; omega
    have h2 : (bP x0 y0 z0 x1 y1 z1 && vP px py pz) = true := by
      cases h : (bP x0 y0 z0 x1 y1 z1 && vP px py pz)
      · exfalso; simp [bndE, h1, h] at he
      · rfl
    have h3 : btwE step ls hs (nearP x0 y0 z0 x1 y1 z1 px py pz) (farP x0 y0 z0 x1 y1 z1 px py pz) = 0 := by
      unfold bndE at he; rwa [if_pos h1, if_pos h2] at he
    have hf := farP_small x0 y0 z0 x1 y1 z1 px py pz
    unfold btwE at h3
    rw [if_neg (by simpa using h1)] at h3
    split at h3
    · omega
    rename_i hn
    split at h3
    · omega
    rename_i hc
    obtain ⟨q1, q2, q3, q4⟩ := between_fits h1 (by omega : 0 ≤ nearP x0 y0 z0 x1 y1 z1 px py pz) (by omega) hf (by omega)
    have t1 := tOk_at h1 q2
    have t2 := tOk_at h1 q4
    unfold bndA bndB; rw [if_pos he, if_pos he]; omega
  · unfold bndA bndB; rw [if_neg he, if_neg he]; omega
theorem sl_slice {w : World} {v : Value} {xs : List Int} (h : Sl w v xs) : ∃ a n c, v = .slice a n c := by
  rcases h with ⟨_, a, cap, rfl⟩ | ⟨b, off, cap, rfl, _⟩ <;> exact ⟨_, _, _, rfl⟩
set_option maxRecDepth 100000 in
set_option maxHeartbeats 1000000 in
theorem squares_any (step : Int) (vl vh : Value) (ls hs : List Int) (x0 y0 z0 x1 y1 z1 px py pz : Int) (w : World) (h1 : Sl w vl ls) (h2 : Sl w vh hs) :
    Calls Tryz.prog 173 #[.agg #[.int .i64 step, vl, vh], .agg #[.int .i64 x0, .int .i64 y0, .int .i64 z0, .int .i64 x1, .int .i64 y1, .int .i64 z1], .agg #[.int .i64 px, .int .i64 py, .int .i64 pz]] w fun e w' =>
      e = .returned (.tuple #[.agg #[.int .i64 step, vl, vh], .int .i64 (nearP x0 y0 z0 x1 y1 z1 px py pz), .int .i64 (farP x0 y0 z0 x1 y1 z1 px py pz)]) ∧ w.grownBy w' none := by
  obtain ⟨va, vb, vc, rfl⟩ := sl_slice h1; obtain ⟨ua, ub, uc, rfl⟩ := sl_slice h2
  go_enter Tryz.func173, Tryz.ntmps173
  go_wp2_with fail
  have HG : Hid (w.grownBy ((((w.alloc (.cells #[.int .i64 step, .slice va vb vc, .slice ua ub uc] 30)).alloc (.cells #[.int .i64 x0, .int .i64 y0, .int .i64 z0, .int .i64 x1, .int .i64 y1, .int .i64 z1] 28)).alloc (.cells #[.int .i64 px, .int .i64 py, .int .i64 pz] 26)).alloc (.cells #[.int .i64 0, .slice none 0 0, .slice none 0 0] 30)) none) := Lib.hid (gb_alloc (gb_alloc (gb_alloc (gb_alloc (gb_refl w none) _) _) _) _)
  have hT : ((((w.alloc (.cells #[.int .i64 step, .slice va vb vc, .slice ua ub uc] 30)).alloc (.cells #[.int .i64 x0, .int .i64 y0, .int .i64 z0, .int .i64 x1, .int .i64 y1, .int .i64 z1] 28)).alloc (.cells #[.int .i64 px, .int .i64 py, .int .i64 pz] 26)).alloc (.cells #[.int .i64 0, .slice none 0 0, .slice none 0 0] 30)).heap[w.heap.size]? = some (.cells #[.int .i64 step, .slice va vb vc, .slice ua ub uc] 30 (0, 0)) := by
    rw [heap_alloc_old _ _ (by simp <;> omega), heap_alloc_old _ _ (by simp <;> omega), heap_alloc_old _ _ (by simp), heap_alloc_new]
  have hB : ((((w.alloc (.cells #[.int .i64 step, .slice va vb vc, .slice ua ub uc] 30)).alloc (.cells #[.int .i64 x0, .int .i64 y0, .int .i64 z0, .int .i64 x1, .int .i64 y1, .int .i64 z1] 28)).alloc (.cells #[.int .i64 px, .int .i64 py, .int .i64 pz] 26)).alloc (.cells #[.int .i64 0, .slice none 0 0, .slice none 0 0] 30)).heap[w.heap.size + 1]? = some (.cells #[.int .i64 x0, .int .i64 y0, .int .i64 z0, .int .i64 x1, .int .i64 y1, .int .i64 z1] 28 (0, 0)) := by
    rw [heap_alloc_old _ _ (by simp <;> omega), heap_alloc_old _ _ (by simp)]; simpa using heap_alloc_new (w.alloc _) _
  have hP : ((((w.alloc (.cells #[.int .i64 step, .slice va vb vc, .slice ua ub uc] 30)).alloc (.cells #[.int .i64 x0, .int .i64 y0, .int .i64 z0, .int .i64 x1, .int .i64 y1, .int .i64 z1] 28)).alloc (.cells #[.int .i64 px, .int .i64 py, .int .i64 pz] 26)).alloc (.cells #[.int .i64 0, .slice none 0 0, .slice none 0 0] 30)).heap[w.heap.size + 1 + 1]? = some (.cells #[.int .i64 px, .int .i64 py, .int .i64 pz] 26 (0, 0)) := by
    rw [heap_alloc_old _ _ (by simp)]; simpa using heap_alloc_new ((w.alloc _).alloc _) _
  have hR : ((((w.alloc (.cells #[.int .i64 step, .slice va vb vc, .slice ua ub uc] 30)).alloc (.cells #[.int .i64 x0, .int .i64 y0, .int .i64 z0, .int .i64 x1, .int .i64 y1, .int .i64 z1] 28)).alloc (.cells #[.int .i64 px, .int .i64 py, .int .i64 pz] 26)).alloc (.cells #[.int .i64 0, .slice none 0 0, .slice none 0 0] 30)).heap[w.heap.size + 1 + 1 + 1]? = some (.cells #[.int .i64 0, .slice none 0 0, .slice none 0 0] 30 (0, 0)) := by
    simpa using heap_alloc_new (((w.alloc _).alloc _).alloc _) _
  generalize (((w.alloc (.cells #[.int .i64 step, .slice va vb vc, .slice ua ub uc] 30)).alloc (.cells #[.int .i64 x0, .int .i64 y0, .int .i64 z0, .int .i64 x1, .int .i64 y1, .int .i64 z1] 28)).alloc (.cells #[.int .i64 px, .int .i64 py, .int .i64 pz] 26)).alloc (.cells #[.int .i64 0, .slice none 0 0, .slice none 0 0] 30) = w1 at *
  obtain ⟨a0, a1, a2⟩ := cells3 hT
  obtain ⟨b0, b1, b2, b3, b4, b5⟩ := six hB
  obtain ⟨c0, c1, c2⟩ := cells3 hP
  have la := Made.cells (block_lt hT)
  have lb := Made.cells (block_lt hB)
  have lc := Made.cells (block_lt hP)
  have HR := Lib.hid hR
  clear hT hB hP hR
  refine Rg.region (Made w1) Makes (fun k => if k = 3 then some (isV (.int .i64 (nearP x0 y0 z0 x1 y1 z1 px py pz))) else if k = 6 then some (isV (.int .i64 (farP x0 y0 z0 x1 y1 z1 px py pz))) else none)
    (fun _ => false) 0 7 (by kernel_rfl) (by kernel_rfl) (by kernel_rfl) (by kernel_rfl) (by kernel_rfl) (by kernel_rfl) (by kernel_rfl) Makes.size (Made.start w1) (fun hne => ?_)
  (repeat (refine rLexL_quiet (by rfl) (by rfl) (by rfl) (by rfl) ?_; go_big_quiet_step (fail); refine wpQuiet_nil ?_))
  refine rg_fix (.int .i64 (nearP x0 y0 z0 x1 y1 z1 px py pz)) 177 #[.agg #[.int .i64 x0, .int .i64 y0, .int .i64 z0, .int .i64 x1, .int .i64 y1, .int .i64 z1], .agg #[.int .i64 px, .int .i64 py, .int .i64 pz]] rfl rfl rfl (fun _ => by go_simp) (fun u hu => near_any _ _ _ _ _ _ _ _ _ u) ?_
  simp only [Act.put, List.setIfInBounds_toArray, List.set_cons_zero, List.set_cons_succ]
  (repeat (refine rLexL_quiet (by rfl) (by rfl) (by rfl) (by rfl) ?_; go_big_quiet_step (fail); refine wpQuiet_nil ?_))
  refine rg_fix (.int .i64 (farP x0 y0 z0 x1 y1 z1 px py pz)) 241 #[.agg #[.int .i64 x0, .int .i64 y0, .int .i64 z0, .int .i64 x1, .int .i64 y1, .int .i64 z1], .agg #[.int .i64 px, .int .i64 py, .int .i64 pz]] rfl rfl rfl (fun _ => by go_simp) (fun u hu => far_any _ _ _ _ _ _ _ _ _ u) ?_
  simp only [Act.put, List.setIfInBounds_toArray, List.set_cons_zero, List.set_cons_succ]
  rintro wq hq hf hD
  have hR2 := block_kept hq HR.out rfl
  refine wpList_store_row rfl _ _ _ rfl (w.heap.size + 1 + 1 + 1) #[.int .i64 step, .slice va vb vc, .slice ua ub uc] rfl rfl _ _ hR2 (by kernel_rfl) rfl (by simp [Value.oneCell']) ?_
  have HN := Lib.hid (setRow_at (cs := #[.int .i64 step, .slice va vb vc, .slice ua ub uc]) hR2)
  have HGE := Lib.hid (gb_setRow (cs := #[.int .i64 step, .slice va vb vc, .slice ua ub uc]) (gb_trans HG.out hq) (g := w.heap.size + 1 + 1 + 1) (.inl (by omega)))
  clear hf hD hq hne hR2
  obtain ⟨e0, e1, e2⟩ := cells3 HN.out
  go_wp2_with fail
  exact bodyPost_ret (v := .tuple #[.agg #[.int .i64 step, .slice va vb vc, .slice ua ub uc], .int .i64 (nearP x0 y0 z0 x1 y1 z1 px py pz), .int .i64 (farP x0 y0 z0 x1 y1 z1 px py pz)]) (by simp [results, Tryz.results173, go_sem, e0, e1, e2]) rfl ⟨rfl, HGE.out⟩
set_option maxRecDepth 100000 in
set_option maxHeartbeats 1000000 in
theorem binterval_any (step : Int) (vl vh : Value) (ls hs : List Int) (x0 y0 z0 x1 y1 z1 px py pz : Int) (w : World) (h1 : Sl w vl ls) (h2 : Sl w vh hs) :
    Calls Tryz.prog 104 #[.agg #[.int .i64 step, vl, vh], .agg #[.int .i64 x0, .int .i64 y0, .int .i64 z0, .int .i64 x1, .int .i64 y1, .int .i64 z1], .agg #[.int .i64 px, .int .i64 py, .int .i64 pz]] w fun e w' =>
      e = .returned (bndV step ls hs x0 y0 z0 x1 y1 z1 px py pz) ∧ w.grownBy w' none := by
  go_enter Tryz.func104, Tryz.ntmps104
  have hg0 := gb_alloc (gb_alloc (gb_alloc (gb_refl w none) (.cells #[.int .i64 step, vl, vh] 30)) (.cells #[.int .i64 x0, .int .i64 y0, .int .i64 z0, .int .i64 x1, .int .i64 y1, .int .i64 z1] 28)) (.cells #[.int .i64 px, .int .i64 py, .int .i64 pz] 26)
  go_wp2_with fail
  (with_reducible refine (validate_any _ _ _ ls hs _ (h1.after hg0) (h2.after hg0)).mono ?_)
  rintro e w1 ⟨rfl, hg⟩
  obtain ⟨ca, hza⟩ := gb_at hg (b := w.heap.size) (by simp <;> omega)
  obtain ⟨cb, hzb⟩ := gb_at hg (b := w.heap.size + 1) (by simp <;> omega)
  obtain ⟨cc, hzc⟩ := gb_at hg (b := w.heap.size + 1 + 1) (by simp <;> omega)
  have hg1 := gb_trans hg0 hg
  have S1 := Lib.hid (h1.after hg1); have S2 := Lib.hid (h2.after hg1); have HG := Lib.hid hg1; clear hg hg0 hg1 h1 h2
  by_cases hok : tOk step ls hs
  rotate_left
  · have he : tE step ls hs = 21 := (tE_bad hok).symm
    go_wp2
    refine bodyPost_ret (v := .tuple #[.int .i64 0, .int .i64 0, .int .i64 21]) (by simp [results, Tryz.results104, go_sem]) rfl ⟨congrArg Ending.returned (bnd_table hok), HG.out⟩
  have he : tE step ls hs = 0 := (tE_ok hok).symm
  have HOK := Lib.hid hok; clear hok
  go_wp2_with fail
  (with_reducible refine (validBox_any _ _ _ _ _ _ _).mono ?_)
  rintro e w2 ⟨rfl, hg2⟩
  obtain ⟨ca2, hza2⟩ := gb_at hg2 hza
  obtain ⟨cb2, hzb2⟩ := gb_at hg2 hzb
  obtain ⟨cc2, hzc2⟩ := gb_at hg2 hzc
  have S1b := Lib.hid (S1.out.after hg2); have S2b := Lib.hid (S2.out.after hg2); have HG2 := Lib.hid (gb_trans HG.out hg2); clear hg2 S1 S2 HG he
  cases hv0 : bP x0 y0 z0 x1 y1 z1
  · go_wp2
    refine bodyPost_ret (v := .tuple #[.int .i64 0, .int .i64 0, .int .i64 20]) (by simp [results, Tryz.results104, go_sem]) rfl ⟨congrArg Ending.returned (bnd_region HOK.out (by simp [hv0])), HG2.out⟩
  go_wp2_with fail
  (with_reducible refine (valid_any _ _ _ _).mono ?_)
  rintro e w3 ⟨rfl, hg3⟩
  obtain ⟨ca3, hza3⟩ := gb_at hg3 hza2
  obtain ⟨cb3, hzb3⟩ := gb_at hg3 hzb2
  obtain ⟨cc3, hzc3⟩ := gb_at hg3 hzc2
  have S1c := Lib.hid (S1b.out.after hg3); have S2c := Lib.hid (S2b.out.after hg3); have HG3 := Lib.hid (gb_trans HG2.out hg3); clear hg3 S1b S2b HG2
  cases hv1 : vP px py pz
  · go_wp2
    refine bodyPost_ret (v := .tuple #[.int .i64 0, .int .i64 0, .int .i64 20]) (by simp [results, Tryz.results104, go_sem]) rfl ⟨congrArg Ending.returned (bnd_region HOK.out (by simp [hv0, hv1])), HG3.out⟩
  have HI := Lib.hid (bnd_btw (x0 := x0) (y0 := y0) (z0 := z0) (x1 := x1) (y1 := y1) (z1 := z1) (px := px) (py := py) (pz := pz) HOK.out (by simp [hv0, hv1]))
  have HF := Lib.hid (farP_small x0 y0 z0 x1 y1 z1 px py pz)
  clear hv0 hv1
  go_wp2_with fail
  (with_reducible refine (squares_any _ _ _ ls hs _ _ _ _ _ _ _ _ _ _ S1c.out S2c.out).mono ?_)
  rintro e w4 ⟨rfl, hg4⟩
  have S1d := Lib.hid (S1c.out.after hg4); have S2d := Lib.hid (S2c.out.after hg4); have HG4 := Lib.hid (gb_trans HG3.out hg4); clear hg4 S1c S2c HG3 cb cb2 cb3 cc cc2 cc3 hzb hzb2 hzb3 hzc hzc2 hzc3 ca ca2 ca3 hza hza2 hza3
  generalize nearP x0 y0 z0 x1 y1 z1 px py pz = d at *
  generalize farP x0 y0 z0 x1 y1 z1 px py pz = d' at *
  go_wp2_with fail
  (with_reducible refine (between_any _ _ _ _ _ _ _ w4 S1d.out S2d.out HF.out).mono ?_)
  rintro e w5 ⟨rfl, hg5⟩
  have HG5 := Lib.hid (gb_trans HG4.out hg5); clear hg5
  rw [show btw step ls hs d d' = .tuple #[.int .i64 (btwA step ls hs d d'), .int .i64 (btwB step ls hs d d'), .int .i64 (btwE step ls hs d d')] from rfl]
  go_wp2
  exact bodyPost_ret (v := .tuple #[.int .i64 (btwA step ls hs d d'), .int .i64 (btwB step ls hs d d'), .int .i64 (btwE step ls hs d d')]) (by simp [results, Tryz.results104, go_sem]) rfl ⟨by rw [← HI.out]; rfl, HG5.out⟩
/-- A valid phase. -/
def phP (x y z e l n : Int) : Bool := vP x y z && decide (0 ≤ e) && decide (e ≤ l) && decide (l ≤ 18014398509481984) && decide (1 ≤ n) && decide (n ≤ 100)
set_option maxHeartbeats 1000000 in
theorem validPhase_any (x y z e l n : Int) (w : World) :
    Calls Tryz.prog 103 #[.agg #[.int .i64 x, .int .i64 y, .int .i64 z, .int .i64 e, .int .i64 l, .int .i64 n]] w fun r w' => r = .returned (.bool (phP x y z e l n)) ∧ w.grownBy w' none := by
  go_enter Tryz.func103, Tryz.ntmps103
  go_wp2_with fail
  (with_reducible refine (valid_any _ _ _ _).mono ?_)
  rintro r w1 ⟨rfl, hg1⟩
  obtain ⟨ca, hza⟩ := gb_at hg1 (b := w.heap.size) (by simp)
  have HG1 := Lib.hid (gb_trans (gb_alloc (gb_refl _ _) _) hg1); clear hg1
  cases hv0 : vP x y z
  · go_wp2
    go_ret
    exact ⟨ret_bool (by simp [phP, hv0]), HG1.out⟩
  have H0 := Lib.hid hv0; clear hv0
  rcases Int.lt_or_le e 0 with h0 | h0
  rotate_left
  rcases Int.lt_or_le l e with h1 | h1
  rotate_left
  rcases Int.lt_or_le 18014398509481984 l with h2 | h2
  rotate_left
  rcases Int.lt_or_le n 1 with h3 | h3
  rotate_left
  rcases Int.lt_or_le 100 n with h4 | h4
  all_goals
    go_wp2
    go_ret
    refine ⟨ret_bool (by simp [phP, H0.out]; omega), HG1.out⟩
end LBndA
section LBndB
open Go.RowKit Rg
def znE (step : Int) (ls hs : List Int) (x0 y0 z0 x1 y1 z1 px py pz e l n : Int) : Int :=
  if tOk step ls hs then (if bP x0 y0 z0 x1 y1 z1 then (if phP px py pz e l n then bndE step ls hs x0 y0 z0 x1 y1 z1 px py pz else 23) else 20) else 21
def znF (step : Int) (ls hs : List Int) (x0 y0 z0 x1 y1 z1 px py pz e l n : Int) : Int := if znE step ls hs x0 y0 z0 x1 y1 z1 px py pz e l n = 0 then e - bndB step ls hs x0 y0 z0 x1 y1 z1 px py pz else 0
def znT (step : Int) (ls hs : List Int) (x0 y0 z0 x1 y1 z1 px py pz e l n : Int) : Int := if znE step ls hs x0 y0 z0 x1 y1 z1 px py pz e l n = 0 then l - bndA step ls hs x0 y0 z0 x1 y1 z1 px py pz else 0
def znV (step : Int) (ls hs : List Int) (x0 y0 z0 x1 y1 z1 px py pz e l n : Int) : Value :=
  .tuple #[.agg #[.int .i64 (znF step ls hs x0 y0 z0 x1 y1 z1 px py pz e l n), .int .i64 (znT step ls hs x0 y0 z0 x1 y1 z1 px py pz e l n)], .int .i64 (znE step ls hs x0 y0 z0 x1 y1 z1 px py pz e l n)]
theorem zn_err {step : Int} {ls hs : List Int} {x0 y0 z0 x1 y1 z1 px py pz e l n : Int} (c : Int) (h : znE step ls hs x0 y0 z0 x1 y1 z1 px py pz e l n = c) (hc : c ≠ 0) : Value.tuple #[.agg #[.int .i64 0, .int .i64 0], .int .i64 c] = znV step ls hs x0 y0 z0 x1 y1 z1 px py pz e l n := by
  subst h; simp only [znV, znF, znT, if_neg hc]
theorem zn_ok {step : Int} {ls hs : List Int} {x0 y0 z0 x1 y1 z1 px py pz e l n : Int} (h : znE step ls hs x0 y0 z0 x1 y1 z1 px py pz e l n = 0) : Value.tuple #[.agg #[.int .i64 (e - bndB step ls hs x0 y0 z0 x1 y1 z1 px py pz), .int .i64 (l - bndA step ls hs x0 y0 z0 x1 y1 z1 px py pz)], .int .i64 0] = znV step ls hs x0 y0 z0 x1 y1 z1 px py pz e l n := by
  simp [znV, znF, znT, h]
theorem phP_iff {x y z e l n : Int} : phP x y z e l n = true ↔ vP x y z = true ∧ 0 ≤ e ∧ e ≤ l ∧ l ≤ 18014398509481984 ∧ 1 ≤ n ∧ n ≤ 100 := by simp [phP, and_assoc]
theorem cells2 {w : World} {b : Nat} {x y : Value} {t : TypeId} {fr : Nat × Nat} (h : w.heap[b]? = some (.cells #[x, y] t fr)) : w.cell? ⟨b, 0, none⟩ = some x ∧ w.cell? ⟨b, 1, none⟩ = some y := by simp [World.cell?, h]
set_option maxRecDepth 100000 in
set_option maxHeartbeats 2000000 in
theorem zone_any (step : Int) (vl vh : Value) (ls hs : List Int) (x0 y0 z0 x1 y1 z1 px py pz e l n : Int) (w : World) (h1 : Sl w vl ls) (h2 : Sl w vh hs) :
    Calls Tryz.prog 57 #[.agg #[.int .i64 step, vl, vh], .agg #[.int .i64 x0, .int .i64 y0, .int .i64 z0, .int .i64 x1, .int .i64 y1, .int .i64 z1], .agg #[.int .i64 px, .int .i64 py, .int .i64 pz, .int .i64 e, .int .i64 l, .int .i64 n]] w fun r w' =>
      r = .returned (znV step ls hs x0 y0 z0 x1 y1 z1 px py pz e l n) ∧ w.grownBy w' none := by
  go_enter Tryz.func57, Tryz.ntmps57
  have hg0 := gb_alloc (gb_alloc (gb_alloc (gb_alloc (gb_refl w none) (.cells #[.int .i64 step, vl, vh] 30)) (.cells #[.int .i64 x0, .int .i64 y0, .int .i64 z0, .int .i64 x1, .int .i64 y1, .int .i64 z1] 28)) (.cells #[.int .i64 px, .int .i64 py, .int .i64 pz, .int .i64 e, .int .i64 l, .int .i64 n] 39)) (.cells #[.int .i64 0, .int .i64 0] 168)
  have hR0 : ((((w.alloc (.cells #[.int .i64 step, vl, vh] 30)).alloc (.cells #[.int .i64 x0, .int .i64 y0, .int .i64 z0, .int .i64 x1, .int .i64 y1, .int .i64 z1] 28)).alloc (.cells #[.int .i64 px, .int .i64 py, .int .i64 pz, .int .i64 e, .int .i64 l, .int .i64 n] 39)).alloc (.cells #[.int .i64 0, .int .i64 0] 168)).heap[w.heap.size + 1 + 1 + 1]? = some (.cells #[.int .i64 0, .int .i64 0] 168 (0, 0)) := by
    simpa using heap_alloc_new (((w.alloc _).alloc _).alloc _) _
  have S1 := Lib.hid (h1.after hg0); have S2 := Lib.hid (h2.after hg0); have HG0 := Lib.hid hg0; have HR0 := Lib.hid hR0; clear h1 h2 hg0 hR0
  go_wp2_with fail
  (with_reducible refine (validate_any _ _ _ ls hs _ S1.out S2.out).mono ?_)
  rintro r w1 ⟨rfl, hg⟩
  obtain ⟨ca, hza⟩ := gb_at hg (b := w.heap.size) (by simp <;> omega)
  obtain ⟨cb, hzb⟩ := gb_at hg (b := w.heap.size + 1) (by simp <;> omega)
  obtain ⟨cc, hzc⟩ := gb_at hg (b := w.heap.size + 1 + 1) (by simp <;> omega)
  have S1a := Lib.hid (S1.out.after hg); have S2a := Lib.hid (S2.out.after hg); have HG1 := Lib.hid (gb_trans HG0.out hg); have HR1 := Lib.hid (block_kept hg HR0.out rfl); clear hg S1 S2 HG0 HR0
  have FIN : ∀ (u : World) (r a b : Int), w.grownBy u none → u.heap[w.heap.size + 1 + 1 + 1]? = some (.cells #[.int .i64 0, .int .i64 0] 168 (0, 0)) → w.grownBy (u.setRow (w.heap.size + 1 + 1 + 1) #[.int .i64 a, .int .i64 b]) none ∧ (u.setRow (w.heap.size + 1 + 1 + 1) #[.int .i64 a, .int .i64 b]).heap[w.heap.size + 1 + 1 + 1]? = some (.cells #[.int .i64 a, .int .i64 b] 168 (0, 0)) :=
    fun u r a b hg hR => ⟨gb_setRow hg (.inl (by omega)), setRow_at hR⟩
  have FN := Lib.hid FIN; clear FIN
  by_cases hok : tOk step ls hs
  rotate_left
  · have he : tE step ls hs = 21 := (tE_bad hok).symm
    have hR := HR1.out
    obtain ⟨k1, k2⟩ := FN.out w1 0 0 0 HG1.out HR1.out
    obtain ⟨e0, e1⟩ := cells2 k2
    have K1 := Lib.hid k1; clear k1 k2
    go_wp2_with (with_reducible refine wpList_store_row rfl _ _ _ rfl (w.heap.size + 1 + 1 + 1) #[.int .i64 0, .int .i64 0] rfl rfl _ _ hR (by kernel_rfl) rfl (by simp [Value.oneCell']) ?_)
    exact bodyPost_ret (v := .tuple #[.agg #[.int .i64 0, .int .i64 0], .int .i64 21]) (by simp [results, Tryz.results57, go_sem, e0, e1]) rfl ⟨congrArg Ending.returned (zn_err 21 (by simp [znE, hok]) (by omega)), K1.out⟩
  have he : tE step ls hs = 0 := (tE_ok hok).symm
  have HOK := Lib.hid hok; clear hok
  go_wp2_with fail
  (with_reducible refine (validBox_any _ _ _ _ _ _ _).mono ?_)
  rintro r w2 ⟨rfl, hg2⟩
  obtain ⟨ca2, hza2⟩ := gb_at hg2 hza
  obtain ⟨cb2, hzb2⟩ := gb_at hg2 hzb
  obtain ⟨cc2, hzc2⟩ := gb_at hg2 hzc
  have S1b := Lib.hid (S1a.out.after hg2); have S2b := Lib.hid (S2a.out.after hg2); have HG2 := Lib.hid (gb_trans HG1.out hg2); have HR2 := Lib.hid (block_kept hg2 HR1.out rfl); clear hg2 S1a S2a HG1 HR1 he
  cases hv0 : bP x0 y0 z0 x1 y1 z1
  · have hR := HR2.out
    obtain ⟨k1, k2⟩ := FN.out w2 0 0 0 HG2.out HR2.out
    obtain ⟨e0, e1⟩ := cells2 k2
    have K1 := Lib.hid k1; clear k1 k2
    go_wp2_with (with_reducible refine wpList_store_row rfl _ _ _ rfl (w.heap.size + 1 + 1 + 1) #[.int .i64 0, .int .i64 0] rfl rfl _ _ hR (by kernel_rfl) rfl (by simp [Value.oneCell']) ?_)
    exact bodyPost_ret (v := .tuple #[.agg #[.int .i64 0, .int .i64 0], .int .i64 20]) (by simp [results, Tryz.results57, go_sem, e0, e1]) rfl ⟨congrArg Ending.returned (zn_err 20 (by simp [znE, HOK.out, hv0]) (by omega)), K1.out⟩
  have HV0 := Lib.hid hv0; clear hv0
  go_wp2_with fail
  (with_reducible refine (validPhase_any _ _ _ _ _ _ _).mono ?_)
  rintro r w3 ⟨rfl, hg3⟩
  obtain ⟨ca3, hza3⟩ := gb_at hg3 hza2
  obtain ⟨cb3, hzb3⟩ := gb_at hg3 hzb2
  obtain ⟨cc3, hzc3⟩ := gb_at hg3 hzc2
  have S1c := Lib.hid (S1b.out.after hg3); have S2c := Lib.hid (S2b.out.after hg3); have HG3 := Lib.hid (gb_trans HG2.out hg3); have HR3 := Lib.hid (block_kept hg3 HR2.out rfl); clear hg3 S1b S2b HG2 HR2
  cases hv1 : phP px py pz e l n
  · have hR := HR3.out
    obtain ⟨k1, k2⟩ := FN.out w3 0 0 0 HG3.out HR3.out
    obtain ⟨e0, e1⟩ := cells2 k2
    have K1 := Lib.hid k1; clear k1 k2
    go_wp2_with (with_reducible refine wpList_store_row rfl _ _ _ rfl (w.heap.size + 1 + 1 + 1) #[.int .i64 0, .int .i64 0] rfl rfl _ _ hR (by kernel_rfl) rfl (by simp [Value.oneCell']) ?_)
    exact bodyPost_ret (v := .tuple #[.agg #[.int .i64 0, .int .i64 0], .int .i64 23]) (by simp [results, Tryz.results57, go_sem, e0, e1]) rfl ⟨congrArg Ending.returned (zn_err 23 (by simp [znE, HOK.out, HV0.out, hv1]) (by omega)), K1.out⟩
  have HV1 := Lib.hid hv1; clear hv1
  go_wp2_with fail
  (with_reducible refine (binterval_any _ _ _ ls hs _ _ _ _ _ _ _ _ _ _ S1c.out S2c.out).mono ?_)
  rintro r w4 ⟨rfl, hg4⟩
  obtain ⟨cc4, hzc4⟩ := gb_at hg4 hzc3
  have HG4 := Lib.hid (gb_trans HG3.out hg4); have HR4 := Lib.hid (block_kept hg4 HR3.out rfl); clear hg4 S1c S2c HG3 HR3 cb cb2 cb3 hzb hzb2 hzb3 ca ca2 ca3 hza hza2 hza3
  rw [show bndV step ls hs x0 y0 z0 x1 y1 z1 px py pz = .tuple #[.int .i64 (bndA step ls hs x0 y0 z0 x1 y1 z1 px py pz), .int .i64 (bndB step ls hs x0 y0 z0 x1 y1 z1 px py pz), .int .i64 (bndE step ls hs x0 y0 z0 x1 y1 z1 px py pz)] from rfl]
  have HE : Hid (znE step ls hs x0 y0 z0 x1 y1 z1 px py pz e l n = bndE step ls hs x0 y0 z0 x1 y1 z1 px py pz) := Lib.hid (by simp [znE, HOK.out, HV0.out, HV1.out])
  obtain ⟨bb1, bb2, bb3, bb4⟩ := bnd_bounds step ls hs x0 y0 z0 x1 y1 z1 px py pz
  have HZ := Lib.hid (zn_ok (step := step) (ls := ls) (hs := hs) (x0 := x0) (y0 := y0) (z0 := z0) (x1 := x1) (y1 := y1) (z1 := z1) (px := px) (py := py) (pz := pz) (e := e) (l := l) (n := n))
  obtain ⟨-, p1, p2, p3, -, -⟩ := phP_iff.1 HV1.out
  generalize bndA step ls hs x0 y0 z0 x1 y1 z1 px py pz = ba at *
  generalize bndB step ls hs x0 y0 z0 x1 y1 z1 px py pz = bb at *
  generalize bndE step ls hs x0 y0 z0 x1 y1 z1 px py pz = be at *
  by_cases hbe : be = 0
  · subst hbe
    have hR := HR4.out
    obtain ⟨k1, k2⟩ := FN.out w4 0 (e - bb) (l - ba) HG4.out HR4.out
    obtain ⟨e0, e1⟩ := cells2 k2
    have K1 := Lib.hid k1; clear k1 k2
    go_wp2_with (with_reducible refine wpList_store_row rfl _ _ _ rfl (w.heap.size + 1 + 1 + 1) #[.int .i64 (e - bb), .int .i64 (l - ba)] rfl rfl _ _ hR (by kernel_rfl) rfl (by simp [Value.oneCell']) ?_)
    exact bodyPost_ret (v := .tuple #[.agg #[.int .i64 (e - bb), .int .i64 (l - ba)], .int .i64 0]) (by simp [results, Tryz.results57, go_sem, e0, e1]) rfl ⟨congrArg Ending.returned (HZ.out HE.out), K1.out⟩
  · have hR := HR4.out
    obtain ⟨k1, k2⟩ := FN.out w4 0 0 0 HG4.out HR4.out
    obtain ⟨e0, e1⟩ := cells2 k2
    have K1 := Lib.hid k1; clear k1 k2
    go_wp2_with (with_reducible refine wpList_store_row rfl _ _ _ rfl (w.heap.size + 1 + 1 + 1) #[.int .i64 0, .int .i64 0] rfl rfl _ _ hR (by kernel_rfl) rfl (by simp [Value.oneCell']) ?_)
    exact bodyPost_ret (v := .tuple #[.agg #[.int .i64 0, .int .i64 0], .int .i64 be]) (by simp [results, Tryz.results57, go_sem, e0, e1]) rfl ⟨congrArg Ending.returned (zn_err be HE.out hbe), K1.out⟩
end LBndB
end Go.Proofs.YtgaglgopbdfemaaGreatDoor
