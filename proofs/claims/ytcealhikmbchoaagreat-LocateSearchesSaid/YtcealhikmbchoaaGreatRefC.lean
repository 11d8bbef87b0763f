/- geometry.Compare; reference 24's Hull; keep.Bent. -/
import Derived.Test.YtcealhikmbchoaaGreatRef
import Derived.Test.YtcealhikmbchoaaGreatGeoS
namespace Go.Proofs.YtcealhikmbchoaaGreat
set_option linter.all false
open Go.RowKit Rg

theorem isNaN_any (a : Int) (w : World) :
    Calls Tryz.prog 133 #[.int .i64 a] w fun e w' => e = .returned (.bool false) ∧ w = w' := by
  go_enter Tryz.func133, Tryz.ntmps133
  go_wp2
  go_ret
  exact ⟨rfl, rfl⟩
theorem cmpc_any (a b : Int) (w : World) :
    Calls Tryz.prog 126 #[.int .i64 a, .int .i64 b] w fun e w' => e = .returned (.int .i64 (sgn a b)) ∧ w = w' := by
  rcases Int.lt_trichotomy a b with h | h | h
  all_goals
    go_enter Tryz.func126, Tryz.ntmps126
    go_wp2_with fail
    (with_reducible refine (isNaN_any _ _).mono ?_)
    rintro e w1 ⟨rfl, rfl⟩
    go_wp2_with fail
    (with_reducible refine (isNaN_any _ _).mono ?_)
    rintro e w1 ⟨rfl, rfl⟩
    go_wp2
    go_ret
    exact ⟨ret_int (by unfold sgn; split <;> (try split) <;> omega), rfl⟩

theorem cmpor_any (a b c : Int) (v : Value) (w : World) (h : Sl w v [a, b, c]) :
    Calls Tryz.prog 125 #[v] w fun e w' => e = .returned (.int .i64 (if a ≠ 0 then a else if b ≠ 0 then b else c)) ∧ w = w' := by
  rcases h with ⟨h, _⟩ | ⟨g, off, cap, rfl, hb, hcap, hcap2, hc⟩
  · cases h
  have c0 := hc 0 (by simp); have c1 := hc 1 (by simp); have c2 := hc 2 (by simp)
  simp only [List.length_cons, List.length_nil, List.getElem?_cons_zero, List.getElem?_cons_succ, Option.getD_some, Nat.add_zero] at c0 c1 c2 hcap
  clear hc
  by_cases ha : a = 0
  rotate_left
  · go_enter Tryz.func125, Tryz.ntmps125
    go_wp2
    refine wp_loop_rounds 4 ?_
    repeat any_goals (rw [rounds_succ]; go_wp2)
    go_ret
    exact ⟨ret_int (by simp [ha]), rfl⟩
  by_cases hb : b = 0
  rotate_left
  · go_enter Tryz.func125, Tryz.ntmps125
    go_wp2
    refine wp_loop_rounds 4 ?_
    repeat any_goals (rw [rounds_succ]; go_wp2)
    go_ret
    exact ⟨ret_int (by simp [ha, hb]), rfl⟩
  by_cases hc : c = 0
  all_goals
    go_enter Tryz.func125, Tryz.ntmps125
    go_wp2
    refine wp_loop_rounds 4 ?_
    repeat any_goals (rw [rounds_succ]; go_wp2)
    go_ret
    exact ⟨ret_int (by simp [ha, hb, hc]), rfl⟩

set_option maxRecDepth 100000 in
set_option maxHeartbeats 1000000 in
theorem compare_any (x0 y0 z0 x1 y1 z1 : Int) (w : World) :
    Calls Tryz.prog 114 #[.agg #[.int .i64 x0, .int .i64 y0, .int .i64 z0], .agg #[.int .i64 x1, .int .i64 y1, .int .i64 z1]] w fun e w' => e = .returned (.int .i64 (cmpP x0 y0 z0 x1 y1 z1)) ∧ w.grownBy w' none := by
  go_enter Tryz.func114, Tryz.ntmps114
  go_wp2_with fail
  have HG := Lib.hid (gb_alloc (gb_alloc (gb_refl w none) (.cells #[.int .i64 x0, .int .i64 y0, .int .i64 z0] 23)) (.cells #[.int .i64 x1, .int .i64 y1, .int .i64 z1] 23))
  have h0 : ((w.alloc (.cells #[.int .i64 x0, .int .i64 y0, .int .i64 z0] 23)).alloc (.cells #[.int .i64 x1, .int .i64 y1, .int .i64 z1] 23)).heap[w.heap.size]? = some (.cells #[.int .i64 x0, .int .i64 y0, .int .i64 z0] 23 (0, 0)) := by rw [heap_alloc_old _ _ (by simp), heap_alloc_new]
  have h1 : ((w.alloc (.cells #[.int .i64 x0, .int .i64 y0, .int .i64 z0] 23)).alloc (.cells #[.int .i64 x1, .int .i64 y1, .int .i64 z1] 23)).heap[w.heap.size + 1]? = some (.cells #[.int .i64 x1, .int .i64 y1, .int .i64 z1] 23 (0, 0)) := by simpa using heap_alloc_new (w.alloc _) _
  generalize (w.alloc (.cells #[.int .i64 x0, .int .i64 y0, .int .i64 z0] 23)).alloc (.cells #[.int .i64 x1, .int .i64 y1, .int .i64 z1] 23) = w1 at *
  obtain ⟨a0, a1, a2⟩ := cells3 h0
  obtain ⟨b0, b1, b2⟩ := cells3 h1
  have la := Made.cells (block_lt h0)
  have lb := Made.cells (block_lt h1)
  clear h0 h1
  refine Rg.region (Made w1) Makes (fun k => if k = 4 then some (isV (.int .i64 (sgn x0 x1))) else if k = 9 then some (isV (.int .i64 (sgn y0 y1))) else if k = 14 then some (isV (.int .i64 (sgn z0 z1))) else if k = 15 then some (isLit w1 [sgn x0 x1, sgn y0 y1, sgn z0 z1]) else if k = 16 then some (isV (.int .i64 (cmpP x0 y0 z0 x1 y1 z1))) else none)
    (fun _ => false) 0 17 (by kernel_rfl) (by kernel_rfl) (by kernel_rfl) (by kernel_rfl) (by kernel_rfl) (by kernel_rfl) (by kernel_rfl) Makes.size (Made.start w1) (fun hne => ?_)
  (repeat (refine rLexL_quiet (by rfl) (by rfl) (by rfl) (by rfl) ?_; go_big_quiet_step (fail); refine wpQuiet_nil ?_))
  refine rg_fix (.int .i64 (sgn x0 x1)) 126 #[.int .i64 x0, .int .i64 x1] rfl rfl rfl (fun _ => by go_simp) (fun u hu => same_grown (cmpc_any _ _ u)) ?_
  simp only [Act.put, List.setIfInBounds_toArray, List.set_cons_zero, List.set_cons_succ]
  (repeat (refine rLexL_quiet (by rfl) (by rfl) (by rfl) (by rfl) ?_; go_big_quiet_step (fail); refine wpQuiet_nil ?_))
  refine rg_fix (.int .i64 (sgn y0 y1)) 126 #[.int .i64 y0, .int .i64 y1] rfl rfl rfl (fun _ => by go_simp) (fun u hu => same_grown (cmpc_any _ _ u)) ?_
  simp only [Act.put, List.setIfInBounds_toArray, List.set_cons_zero, List.set_cons_succ]
  (repeat (refine rLexL_quiet (by rfl) (by rfl) (by rfl) (by rfl) ?_; go_big_quiet_step (fail); refine wpQuiet_nil ?_))
  refine rg_fix (.int .i64 (sgn z0 z1)) 126 #[.int .i64 z0, .int .i64 z1] rfl rfl rfl (fun _ => by go_simp) (fun u hu => same_grown (cmpc_any _ _ u)) ?_
  simp only [Act.put, List.setIfInBounds_toArray, List.set_cons_zero, List.set_cons_succ]
  refine rg_litM [sgn x0 x1, sgn y0 y1, sgn z0 z1] 3 rfl rfl rfl (fun _ => by go_simp) rfl (fun v => ?_)
  simp only [Act.put, List.setIfInBounds_toArray, List.set_cons_zero, List.set_cons_succ]
  refine rg_fixD (.int .i64 (cmpP x0 y0 z0 x1 y1 z1)) 125 #[v] rfl rfl rfl (fun _ => by go_simp) (fun u hu hd => same_grown ((cmpor_any _ _ _ v u (hd ⟨15, .data⟩ (by simp) rfl).1).mono fun e w' ⟨h, h'⟩ => ⟨by rw [h]; simp [cmpP], h'⟩)) ?_
  simp only [Act.put, List.setIfInBounds_toArray, List.set_cons_zero, List.set_cons_succ]
  rintro wq hq hf hD
  have HG2 := Lib.hid (gb_trans HG.out hq)
  clear hf hD hq hne
  go_wp2_with fail
  go_ret
  exact ⟨rfl, HG2.out⟩

set_option maxHeartbeats 1000000 in
theorem rhull_any (a0 b0 c0 a1 b1 c1 x0 y0 z0 x1 y1 z1 : Int) (w : World) :
    Calls Tryz.prog 69 #[.agg #[.int .i64 a0, .int .i64 b0, .int .i64 c0, .int .i64 a1, .int .i64 b1, .int .i64 c1], .agg #[.int .i64 x0, .int .i64 y0, .int .i64 z0, .int .i64 x1, .int .i64 y1, .int .i64 z1]] w fun e w' =>
      e = .returned (.agg #[.int .i64 (huL (bP a0 b0 c0 a1 b1 c1 && bP x0 y0 z0 x1 y1 z1) a0 x0), .int .i64 (huL (bP a0 b0 c0 a1 b1 c1 && bP x0 y0 z0 x1 y1 z1) b0 y0), .int .i64 (huL (bP a0 b0 c0 a1 b1 c1 && bP x0 y0 z0 x1 y1 z1) c0 z0), .int .i64 (huH (bP a0 b0 c0 a1 b1 c1 && bP x0 y0 z0 x1 y1 z1) a1 x1), .int .i64 (huH (bP a0 b0 c0 a1 b1 c1 && bP x0 y0 z0 x1 y1 z1) b1 y1), .int .i64 (huH (bP a0 b0 c0 a1 b1 c1 && bP x0 y0 z0 x1 y1 z1) c1 z1)]) ∧ w.grownBy w' none := by
  go_enter Tryz.func69, Tryz.ntmps69
  go_wp2_with fail
  (with_reducible refine (rvalidBox_any _ _ _ _ _ _ _).mono ?_)
  rintro e w1 ⟨rfl, hg1⟩
  have HA1 := Lib.hid (show w1.heap[w.heap.size]? = some (.cells #[.int .i64 a0, .int .i64 b0, .int .i64 c0, .int .i64 a1, .int .i64 b1, .int .i64 c1] 25 (0, 0)) from block_kept hg1 (by rw [heap_alloc_old _ _ (by simp; omega), heap_alloc_old _ _ (by simp), heap_alloc_new]) rfl)
  have HX1 := Lib.hid (show w1.heap[w.heap.size + 1]? = some (.cells #[.int .i64 x0, .int .i64 y0, .int .i64 z0, .int .i64 x1, .int .i64 y1, .int .i64 z1] 25 (0, 0)) from block_kept hg1 (by rw [heap_alloc_old _ _ (by simp)]; simpa using heap_alloc_new (w.alloc _) _) rfl)
  have HR1 := Lib.hid (show w1.heap[w.heap.size + 2]? = some (.cells #[.int .i64 0, .int .i64 0, .int .i64 0, .int .i64 0, .int .i64 0, .int .i64 0] 25 (0, 0)) from block_kept hg1 (by simpa using heap_alloc_new ((w.alloc _).alloc _) _) rfl)
  have HG1 := Lib.hid (gb_trans (gb_alloc (gb_alloc (gb_alloc (gb_refl _ _) _) _) _) hg1); clear hg1
  have Z : ∀ (u : World) (hR : u.heap[w.heap.size + 2]? = some (.cells #[.int .i64 0, .int .i64 0, .int .i64 0, .int .i64 0, .int .i64 0, .int .i64 0] 25 (0, 0))), True := fun _ _ => trivial
  clear Z
  cases hv0 : bP a0 b0 c0 a1 b1 c1
  · have hR := HR1.out
    have HN := Lib.hid (setRow_at (cs := #[.int .i64 0, .int .i64 0, .int .i64 0, .int .i64 0, .int .i64 0, .int .i64 0]) hR)
    have HGE := Lib.hid (gb_setRow (cs := #[.int .i64 0, .int .i64 0, .int .i64 0, .int .i64 0, .int .i64 0, .int .i64 0]) HG1.out (g := w.heap.size + 2) (.inl (by omega)))
    go_wp2_with (with_reducible refine wpList_store_row rfl _ _ _ rfl (w.heap.size + 2) #[.int .i64 0, .int .i64 0, .int .i64 0, .int .i64 0, .int .i64 0, .int .i64 0] rfl rfl _ _ hR (by kernel_rfl) rfl (by simp [Value.oneCell']) ?_)
    obtain ⟨e0, e1, e2, e3, e4, e5⟩ := cells6 HN.out
    refine bodyPost_ret (v := .agg #[.int .i64 0, .int .i64 0, .int .i64 0, .int .i64 0, .int .i64 0, .int .i64 0]) (by simp [results, Tryz.results69, go_sem, e0, e1, e2, e3, e4, e5]) rfl ⟨by simp [huL, huH, hv0], HGE.out⟩
  obtain ⟨d0, d1, d2, d3, d4, d5⟩ := cells6 HX1.out
  go_wp2_with fail
  (with_reducible refine (rvalidBox_any _ _ _ _ _ _ _).mono ?_)
  rintro e w2 ⟨rfl, hg2⟩
  have HA2 := Lib.hid (block_kept hg2 HA1.out rfl); have HX2 := Lib.hid (block_kept hg2 HX1.out rfl); have HR2 := Lib.hid (block_kept hg2 HR1.out rfl)
  have HG2 := Lib.hid (gb_trans HG1.out hg2); clear hg2 HG1 HA1 HX1 HR1 d0 d1 d2 d3 d4 d5
  cases hv1 : bP x0 y0 z0 x1 y1 z1
  · have hR := HR2.out
    have HN := Lib.hid (setRow_at (cs := #[.int .i64 0, .int .i64 0, .int .i64 0, .int .i64 0, .int .i64 0, .int .i64 0]) hR)
    have HGE := Lib.hid (gb_setRow (cs := #[.int .i64 0, .int .i64 0, .int .i64 0, .int .i64 0, .int .i64 0, .int .i64 0]) HG2.out (g := w.heap.size + 2) (.inl (by omega)))
    go_wp2_with (with_reducible refine wpList_store_row rfl _ _ _ rfl (w.heap.size + 2) #[.int .i64 0, .int .i64 0, .int .i64 0, .int .i64 0, .int .i64 0, .int .i64 0] rfl rfl _ _ hR (by kernel_rfl) rfl (by simp [Value.oneCell']) ?_)
    obtain ⟨e0, e1, e2, e3, e4, e5⟩ := cells6 HN.out
    refine bodyPost_ret (v := .agg #[.int .i64 0, .int .i64 0, .int .i64 0, .int .i64 0, .int .i64 0, .int .i64 0]) (by simp [results, Tryz.results69, go_sem, e0, e1, e2, e3, e4, e5]) rfl ⟨by simp [huL, huH, hv0, hv1], HGE.out⟩
  have HE := Lib.hid (show (bP a0 b0 c0 a1 b1 c1 && bP x0 y0 z0 x1 y1 z1) = true from by simp [hv0, hv1])
  clear hv0 hv1
  have hR := HR2.out
  have HN := Lib.hid (setRow_at (cs := #[.int .i64 (min a0 x0), .int .i64 (min b0 y0), .int .i64 (min c0 z0), .int .i64 (max a1 x1), .int .i64 (max b1 y1), .int .i64 (max c1 z1)]) hR)
  have HGE := Lib.hid (gb_setRow (cs := #[.int .i64 (min a0 x0), .int .i64 (min b0 y0), .int .i64 (min c0 z0), .int .i64 (max a1 x1), .int .i64 (max b1 y1), .int .i64 (max c1 z1)]) HG2.out (g := w.heap.size + 2) (.inl (by omega)))
  obtain ⟨d0, d1, d2, d3, d4, d5⟩ := cells6 HX2.out
  obtain ⟨f0, f1, f2, f3, f4, f5⟩ := cells6 HA2.out
  go_wp2_with (with_reducible refine wpList_store_row rfl _ _ _ rfl (w.heap.size + 2) #[.int .i64 (min a0 x0), .int .i64 (min b0 y0), .int .i64 (min c0 z0), .int .i64 (max a1 x1), .int .i64 (max b1 y1), .int .i64 (max c1 z1)] rfl rfl _ _ hR (by kernel_rfl) rfl (by simp [Value.oneCell']) ?_)
  obtain ⟨e0, e1, e2, e3, e4, e5⟩ := cells6 HN.out
  refine bodyPost_ret (v := .agg #[.int .i64 (min a0 x0), .int .i64 (min b0 y0), .int .i64 (min c0 z0), .int .i64 (max a1 x1), .int .i64 (max b1 y1), .int .i64 (max c1 z1)]) (by simp [results, Tryz.results69, go_sem, e0, e1, e2, e3, e4, e5]) rfl ⟨by rw [HE.out]; rfl, HGE.out⟩
end Go.Proofs.YtcealhikmbchoaaGreat
