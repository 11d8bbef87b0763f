/- Layer 24: middle, Center. Written by gen_geoF.py. -/
import Derived.Test.YtkmikiljpajaaaaGeoE
namespace Go.Proofs.Ytkmikiljpajaaaa
set_option linter.all false
open Go.RowKit Rg

def midI (a b : Int) : Int := a + (b - a) / 2
theorem midI_in {a b : Int} (h : a ≤ b) : a ≤ midI a b ∧ midI a b ≤ b ∧ (a < b → midI a b < b) := by unfold midI; omega
theorem middle_any (a b : Int) (w : World) (h1 : -2000000 ≤ a) (h2 : a ≤ b) (h3 : b ≤ 2000000) :
    Calls Try.prog 79 #[.int .i64 a, .int .i64 b] w fun e w' => e = .returned (.int .i64 (midI a b)) ∧ w = w' := by
  go_enter Try.func79, Try.ntmps79
  go_wp2
  go_ret
  exact ⟨ret_int (by unfold midI; omega), rfl⟩
theorem middle_made (a b : Int) (w0 : World) (h1 : -2000000 ≤ a) (h2 : a ≤ b) (h3 : b ≤ 2000000) (u : World) (_ : w0.grownBy u none) :
    Calls Try.prog 79 #[.int .i64 a, .int .i64 b] u fun e w' => e = .returned (.int .i64 (midI a b)) ∧ u.grownBy w' none :=
  (middle_any a b u h1 h2 h3).mono fun _ _ ⟨h, e⟩ => ⟨h, e ▸ gb_refl _ _⟩
theorem block_kept {w w' : World} (h : w.grownBy w' none) {b : Nat} {x : Option Obj} (hb : w.heap[b]? = x) (hx : x.isSome = true) : w'.heap[b]? = x := by
  have hlt : b < w.heap.size := by
    rcases Nat.lt_or_ge b w.heap.size with h | h
    · exact h
    · rw [Array.getElem?_eq_none h] at hb; subst hb; cases hx
  exact (h.block b hlt (by simp)).trans hb
theorem frozen3 {w : World} {b : Nat} {cs : Array Value} {t : TypeId} (h : w.heap[b]? = some (.cells cs t (0, 0))) (o : Nat) : w.frozen? ⟨b, o, none⟩ = false := by simp [World.frozen?, h]
theorem block_lt {w : World} {b : Nat} {x : Obj} (h : w.heap[b]? = some x) : b < w.heap.size := (Array.getElem?_eq_some_iff.1 h).1

def cen (v : Bool) (a b : Int) : Int := if v then midI a b else 0

set_option maxRecDepth 100000 in
set_option maxHeartbeats 2000000 in
theorem center_any (x0 y0 z0 x1 y1 z1 : Int) (w : World) :
    Calls Try.prog 41 #[.agg #[.int .i64 x0, .int .i64 y0, .int .i64 z0, .int .i64 x1, .int .i64 y1, .int .i64 z1]] w fun e w' => e = .returned (.agg #[.int .i64 (cen (bP x0 y0 z0 x1 y1 z1) x0 x1), .int .i64 (cen (bP x0 y0 z0 x1 y1 z1) y0 y1), .int .i64 (cen (bP x0 y0 z0 x1 y1 z1) z0 z1)]) ∧ w.grownBy w' none := by
  go_enter Try.func41, Try.ntmps41
  go_wp2_with fail
  (with_reducible refine (validBox_any _ _ _ _ _ _ _).mono ?_)
  rintro e w1 ⟨rfl, hg1⟩
  obtain ⟨ca, hza⟩ := gb_at hg1 (b := w.heap.size) (by first | omega | (simp <;> omega))
  have hR : w1.heap[w.heap.size + 1]? = some (.cells #[.int .i64 0, .int .i64 0, .int .i64 0] 40 (0, 0)) := block_kept hg1 (by simpa using heap_alloc_new (w.alloc _) _) rfl
  have HG1 := Lib.hid (gb_trans (gb_alloc (gb_alloc (gb_refl _ _) _) _) hg1); clear hg1
  cases hv0 : bP x0 y0 z0 x1 y1 z1
  · obtain ⟨e0, e1, e2⟩ := cells3 hR
    have f3 := frozen3 hR
    have hn := setRow_at (cs := #[.int .i64 0, .int .i64 0, .int .i64 0]) hR
    have HN := Lib.hid hn
    have HGE := Lib.hid (gb_setRow (cs := #[.int .i64 0, .int .i64 0, .int .i64 0]) HG1.out (g := w.heap.size + 1) (.inl (by omega)))
    have HRR := Lib.hid hR
    clear hn hR e0 e1 e2 f3
    go_wp2_with (with_reducible refine wpList_store_row rfl _ _ _ rfl (w.heap.size + 1) #[.int .i64 0, .int .i64 0, .int .i64 0] rfl rfl _ _ HRR.out (by kernel_rfl) rfl (by simp [Value.oneCell']) ?_)
    obtain ⟨e0, e1, e2⟩ := cells3 HN.out
    refine bodyPost_ret (v := .agg #[.int .i64 0, .int .i64 0, .int .i64 0]) (by simp [results, Try.results41, go_sem, e0, e1, e2]) rfl ⟨by simp [cen, hv0], HGE.out⟩
  have HE := Lib.hid (show (Value.agg #[.int .i64 (cen (bP x0 y0 z0 x1 y1 z1) x0 x1), .int .i64 (cen (bP x0 y0 z0 x1 y1 z1) y0 y1), .int .i64 (cen (bP x0 y0 z0 x1 y1 z1) z0 z1)]) = .agg #[.int .i64 (midI x0 x1), .int .i64 (midI y0 y1), .int .i64 (midI z0 z1)] from by simp [cen, hv0])
  obtain ⟨b0, b1, b2, b3, b4⟩ := bP_iff hv0
  have hi0 := vP_iff b0
  have hi1 := vP_iff b1
  clear hv0 b0 b1
  have CX := Lib.hid (fun (u v : World) => middle_made x0 x1 u (by omega) (by omega) (by omega) v)
  have CY := Lib.hid (fun (u v : World) => middle_made y0 y1 u (by omega) (by omega) (by omega) v)
  have CZ := Lib.hid (fun (u v : World) => middle_made z0 z1 u (by omega) (by omega) (by omega) v)
  clear hi0 hi1 b2 b3 b4
  generalize midI x0 x1 = mx at *
  generalize midI y0 y1 = my at *
  generalize midI z0 z1 = mz at *
  have q0 : w1.cell? ⟨w.heap.size, 0, none⟩ = some (.int .i64 x0) := by rw [ca, cell_old _ _ _ (by simp), cell_new]; rfl
  have q1 : w1.cell? ⟨w.heap.size, 1, none⟩ = some (.int .i64 y0) := by rw [ca, cell_old _ _ _ (by simp), cell_new]; rfl
  have q2 : w1.cell? ⟨w.heap.size, 2, none⟩ = some (.int .i64 z0) := by rw [ca, cell_old _ _ _ (by simp), cell_new]; rfl
  have q3 : w1.cell? ⟨w.heap.size, 3, none⟩ = some (.int .i64 x1) := by rw [ca, cell_old _ _ _ (by simp), cell_new]; rfl
  have q4 : w1.cell? ⟨w.heap.size, 4, none⟩ = some (.int .i64 y1) := by rw [ca, cell_old _ _ _ (by simp), cell_new]; rfl
  have q5 : w1.cell? ⟨w.heap.size, 5, none⟩ = some (.int .i64 z1) := by rw [ca, cell_old _ _ _ (by simp), cell_new]; rfl
  clear ca
  have cq := Made.cells hza
  have HR1 := Lib.hid hR; clear hR
  go_wp2_with fail
  refine Rg.region (Made w1) Makes (fun k => if k = 2 then some (isV (.agg #[.int .i64 x0, .int .i64 y0, .int .i64 z0])) else if k = 5 then some (isV (.agg #[.int .i64 x1, .int .i64 y1, .int .i64 z1])) else if k = 6 then some (isNew w1 #[.int .i64 0, .int .i64 0, .int .i64 0] 81) else if k = 7 then some (isNew w1 #[.int .i64 0, .int .i64 0, .int .i64 0] 81) else none)
    (fun k => k == 6 || k == 7) 0 8 (by kernel_rfl) (by kernel_rfl) (by kernel_rfl) (by kernel_rfl) (by kernel_rfl) (by kernel_rfl) (by kernel_rfl) Makes.size (Made.start w1) (fun hne => ?_)
  (repeat (refine rLexL_quiet (by rfl) (by rfl) (by rfl) (by rfl) ?_; go_big_quiet_step (fail); refine wpQuiet_nil ?_))
  refine rg_fix (.agg #[.int .i64 x0, .int .i64 y0, .int .i64 z0]) 75 #[.agg #[.int .i64 x0, .int .i64 y0, .int .i64 z0]] rfl rfl rfl (fun _ => by go_simp) (fun u hu => of_any _ _ _ u) ?_
  simp only [Act.put, List.setIfInBounds_toArray, List.set_cons_zero, List.set_cons_succ]
  (repeat (refine rLexL_quiet (by rfl) (by rfl) (by rfl) (by rfl) ?_; go_big_quiet_step (fail); refine wpQuiet_nil ?_))
  refine rg_fix (.agg #[.int .i64 x1, .int .i64 y1, .int .i64 z1]) 75 #[.agg #[.int .i64 x1, .int .i64 y1, .int .i64 z1]] rfl rfl rfl (fun _ => by go_simp) (fun u hu => of_any _ _ _ u) ?_
  simp only [Act.put, List.setIfInBounds_toArray, List.set_cons_zero, List.set_cons_succ]
  refine rg_new #[.int .i64 0, .int .i64 0, .int .i64 0] 81 rfl rfl (fun _ => by go_simp) (fun a ha => ?_)
  simp only [Act.put, List.setIfInBounds_toArray, List.set_cons_zero, List.set_cons_succ]
  refine rg_new #[.int .i64 0, .int .i64 0, .int .i64 0] 81 rfl rfl (fun _ => by go_simp) (fun b hb => ?_)
  simp only [Act.put, List.setIfInBounds_toArray, List.set_cons_zero, List.set_cons_succ]
  rintro wq hq hf hD
  have ha5 := isNew.out (hf 6)
  have hb5 := isNew.out (hf 7)
  have hab : a ≠ b := (hD 6 _ _ rfl (by kernel_rfl) rfl rfl a rfl (Nat.zero_le _)).2 7 _ _ rfl (by decide) (by kernel_rfl) rfl rfl b rfl (Nat.zero_le _)
  refine wpList_store_row rfl _ _ _ rfl a #[.int .i64 x0, .int .i64 y0, .int .i64 z0] rfl rfl _ _ ha5 (by kernel_rfl) rfl (by simp [Value.oneCell']) ?_
  have hb6 := (setRow_far (cs := #[.int .i64 x0, .int .i64 y0, .int .i64 z0]) (Ne.symm hab)).trans hb5
  refine wpList_store_row rfl _ _ _ rfl b #[.int .i64 x1, .int .i64 y1, .int .i64 z1] rfl rfl _ _ hb6 (by kernel_rfl) rfl (by simp [Value.oneCell']) ?_
  have hb7 := setRow_at (cs := #[.int .i64 x1, .int .i64 y1, .int .i64 z1]) hb6
  have ha7 := (setRow_far (g := b) (cs := #[.int .i64 x1, .int .i64 y1, .int .i64 z1]) hab).trans (setRow_at (cs := #[.int .i64 x0, .int .i64 y0, .int .i64 z0]) ha5)
  have hg7 : w1.grownBy ((wq.setRow a #[.int .i64 x0, .int .i64 y0, .int .i64 z0]).setRow b #[.int .i64 x1, .int .i64 y1, .int .i64 z1]) none := gb_setRow (gb_setRow hq (.inl ha)) (.inl hb)
  generalize (wq.setRow a #[.int .i64 x0, .int .i64 y0, .int .i64 z0]).setRow b #[.int .i64 x1, .int .i64 y1, .int .i64 z1] = w3 at *
  clear hf hD ha5 hb5 hb6 hq hne
  refine wpList_nil ?_
  simp only [Act.put, List.setIfInBounds_toArray, List.set_cons_zero, List.set_cons_succ]
  have hR3 := block_kept hg7 HR1.out rfl
  have HG3 := Lib.hid (gb_trans HG1.out hg7)
  have hac : w.heap.size + 1 < a := by have := block_lt HR1.out; omega
  clear hg7 cq q0 q1 q2 q3 q4 q5 HR1 HG1
  have HA3 := Lib.hid ha7; have HB3 := Lib.hid hb7; have HR3 := Lib.hid hR3
  clear ha7 hb7 hR3
  go_wp2_with fail
  refine wp_loop_rounds 4 ?_
  rw [rounds_succ]
  obtain ⟨a0, a1, a2⟩ := cells3 HA3.out
  obtain ⟨b0, b1, b2⟩ := cells3 HB3.out
  have la := Made.cells (block_lt HA3.out)
  have lb := Made.cells (block_lt HB3.out)
  go_wp2_with fail
  refine Rg.region (Made w3) Makes (fun k => if k = 7 then some (isV (.int .i64 mx)) else none) (fun _ => false) 0 9 (by kernel_rfl) (by kernel_rfl) (by kernel_rfl) (by kernel_rfl) (by kernel_rfl) (by kernel_rfl) (by kernel_rfl) Makes.size (Made.start w3) (fun hne => ?_)
  (repeat (refine rLexL_quiet (by rfl) (by rfl) (by rfl) (by rfl) ?_; go_big_quiet_step (fail); refine wpQuiet_nil ?_))
  refine rg_fix (.int .i64 mx) 79 #[.int .i64 x0, .int .i64 x1] rfl rfl rfl (fun _ => by go_simp) (fun u hu => CX.out _ _ hu) ?_
  simp only [Act.put, List.setIfInBounds_toArray, List.set_cons_zero, List.set_cons_succ]
  (repeat (refine rLexL_quiet (by rfl) (by rfl) (by rfl) (by rfl) ?_; go_big_quiet_step (fail); refine wpQuiet_nil ?_))
  rintro wq hq - -
  have hA := block_kept hq HA3.out rfl
  have hB := block_kept hq HB3.out rfl
  have hR := block_kept hq HR3.out rfl
  have HQ := Lib.hid (gb_setCell (gb_trans HG3.out hq) (a := ⟨a, 0, none⟩) (.inl (by show w.heap.size ≤ a; omega)) (.int .i64 mx))
  have HA4 := Lib.hid (set_block hA 0 (.int .i64 mx))
  have HB4 := Lib.hid ((setCell_far (b := b) (a := ⟨a, 0, none⟩) (u := .int .i64 mx) (Ne.symm hab)).trans hB)
  have HR4 := Lib.hid ((setCell_far (b := w.heap.size + 1) (a := ⟨a, 0, none⟩) (u := .int .i64 mx) (by show w.heap.size + 1 ≠ a; omega)).trans hR)
  obtain ⟨p0, p1, p2⟩ := cells3 hA
  have p3 := frozen3 hA
  clear hA hB hR hq a0 a1 a2 b0 b1 b2 la lb hne HA3 HB3 HR3 HG3
  go_wp2_with fail
  generalize wq.setCell ⟨a, 0, none⟩ (.int .i64 mx) = w4 at *
  clear p0 p1 p2 p3
  have HG4 := HQ; clear HQ
  rw [rounds_succ]
  obtain ⟨a0, a1, a2⟩ := cells3 HA4.out
  obtain ⟨b0, b1, b2⟩ := cells3 HB4.out
  have la := Made.cells (block_lt HA4.out)
  have lb := Made.cells (block_lt HB4.out)
  go_wp2_with fail
  refine Rg.region (Made w4) Makes (fun k => if k = 7 then some (isV (.int .i64 my)) else none) (fun _ => false) 0 9 (by kernel_rfl) (by kernel_rfl) (by kernel_rfl) (by kernel_rfl) (by kernel_rfl) (by kernel_rfl) (by kernel_rfl) Makes.size (Made.start w4) (fun hne => ?_)
  (repeat (refine rLexL_quiet (by rfl) (by rfl) (by rfl) (by rfl) ?_; go_big_quiet_step (fail); refine wpQuiet_nil ?_))
  refine rg_fix (.int .i64 my) 79 #[.int .i64 y0, .int .i64 y1] rfl rfl rfl (fun _ => by go_simp) (fun u hu => CY.out _ _ hu) ?_
  simp only [Act.put, List.setIfInBounds_toArray, List.set_cons_zero, List.set_cons_succ]
  (repeat (refine rLexL_quiet (by rfl) (by rfl) (by rfl) (by rfl) ?_; go_big_quiet_step (fail); refine wpQuiet_nil ?_))
  rintro wq hq - -
  have hA := block_kept hq HA4.out rfl
  have hB := block_kept hq HB4.out rfl
  have hR := block_kept hq HR4.out rfl
  have HQ := Lib.hid (gb_setCell (gb_trans HG4.out hq) (a := ⟨a, 1, none⟩) (.inl (by show w.heap.size ≤ a; omega)) (.int .i64 my))
  have HA5 := Lib.hid (set_block hA 1 (.int .i64 my))
  have HB5 := Lib.hid ((setCell_far (b := b) (a := ⟨a, 1, none⟩) (u := .int .i64 my) (Ne.symm hab)).trans hB)
  have HR5 := Lib.hid ((setCell_far (b := w.heap.size + 1) (a := ⟨a, 1, none⟩) (u := .int .i64 my) (by show w.heap.size + 1 ≠ a; omega)).trans hR)
  obtain ⟨p0, p1, p2⟩ := cells3 hA
  have p3 := frozen3 hA
  clear hA hB hR hq a0 a1 a2 b0 b1 b2 la lb hne HA4 HB4 HR4 HG4
  go_wp2_with fail
  generalize wq.setCell ⟨a, 1, none⟩ (.int .i64 my) = w5 at *
  clear p0 p1 p2 p3
  have HG5 := HQ; clear HQ
  rw [rounds_succ]
  obtain ⟨a0, a1, a2⟩ := cells3 HA5.out
  obtain ⟨b0, b1, b2⟩ := cells3 HB5.out
  have la := Made.cells (block_lt HA5.out)
  have lb := Made.cells (block_lt HB5.out)
  go_wp2_with fail
  refine Rg.region (Made w5) Makes (fun k => if k = 7 then some (isV (.int .i64 mz)) else none) (fun _ => false) 0 9 (by kernel_rfl) (by kernel_rfl) (by kernel_rfl) (by kernel_rfl) (by kernel_rfl) (by kernel_rfl) (by kernel_rfl) Makes.size (Made.start w5) (fun hne => ?_)
  (repeat (refine rLexL_quiet (by rfl) (by rfl) (by rfl) (by rfl) ?_; go_big_quiet_step (fail); refine wpQuiet_nil ?_))
  refine rg_fix (.int .i64 mz) 79 #[.int .i64 z0, .int .i64 z1] rfl rfl rfl (fun _ => by go_simp) (fun u hu => CZ.out _ _ hu) ?_
  simp only [Act.put, List.setIfInBounds_toArray, List.set_cons_zero, List.set_cons_succ]
  (repeat (refine rLexL_quiet (by rfl) (by rfl) (by rfl) (by rfl) ?_; go_big_quiet_step (fail); refine wpQuiet_nil ?_))
  rintro wq hq - -
  have hA := block_kept hq HA5.out rfl
  have hB := block_kept hq HB5.out rfl
  have hR := block_kept hq HR5.out rfl
  have HQ := Lib.hid (gb_setCell (gb_trans HG5.out hq) (a := ⟨a, 2, none⟩) (.inl (by show w.heap.size ≤ a; omega)) (.int .i64 mz))
  have HA6 := Lib.hid (set_block hA 2 (.int .i64 mz))
  have HB6 := Lib.hid ((setCell_far (b := b) (a := ⟨a, 2, none⟩) (u := .int .i64 mz) (Ne.symm hab)).trans hB)
  have HR6 := Lib.hid ((setCell_far (b := w.heap.size + 1) (a := ⟨a, 2, none⟩) (u := .int .i64 mz) (by show w.heap.size + 1 ≠ a; omega)).trans hR)
  obtain ⟨p0, p1, p2⟩ := cells3 hA
  have p3 := frozen3 hA
  clear hA hB hR hq a0 a1 a2 b0 b1 b2 la lb hne HA5 HB5 HR5 HG5
  go_wp2_with fail
  generalize wq.setCell ⟨a, 2, none⟩ (.int .i64 mz) = w6 at *
  clear p0 p1 p2 p3
  have HG6 := HQ; clear HQ
  rw [rounds_succ]
  obtain ⟨a0, a1, a2⟩ := cells3 HA6.out
  have HRR := Lib.hid HR6.out
  go_wp2_with fail
  (with_reducible refine (position_any _ _ _ _).mono ?_)
  rintro e w7 ⟨rfl, hg8⟩
  have hR := block_kept hg8 HR6.out rfl
  have HN := Lib.hid (setRow_at (cs := #[.int .i64 mx, .int .i64 my, .int .i64 mz]) hR)
  have HGE := Lib.hid (gb_setRow (cs := #[.int .i64 mx, .int .i64 my, .int .i64 mz]) (gb_trans HG6.out hg8) (g := w.heap.size + 1) (.inl (by omega)))
  go_wp2_with (with_reducible refine wpList_store_row rfl _ _ _ rfl (w.heap.size + 1) #[.int .i64 mx, .int .i64 my, .int .i64 mz] rfl rfl _ _ hR (by kernel_rfl) rfl (by simp [Value.oneCell']) ?_)
  obtain ⟨e0, e1, e2⟩ := cells3 HN.out
  refine bodyPost_ret (v := .agg #[.int .i64 mx, .int .i64 my, .int .i64 mz]) (by simp [results, Try.results41, go_sem, e0, e1, e2]) rfl ⟨by rw [HE.out], HGE.out⟩
end Go.Proofs.Ytkmikiljpajaaaa
