/- RefC -/
import Derived.Test.YtiebljanpnadjaaGreatPdGeoS
import Derived.Test.YtiebljanpnadjaaGreatPdRef
namespace Go.Proofs.YtiebljanpnadjaaGreat
set_option linter.all false
open Go.RowKit Rg
theorem isNaN_any (a : Int) (w : World) :
    Calls Tryz.prog 126 #[.int .i64 a] w fun e w' => e = .returned (.bool false) ∧ w = w' := by
  go_enter Tryz.func126, Tryz.ntmps126
  go_wp2
  go_ret
  exact ⟨rfl, rfl⟩
theorem cmpc_any (a b : Int) (w : World) :
    Calls Tryz.prog 90 #[.int .i64 a, .int .i64 b] w fun e w' => e = .returned (.int .i64 (sgn a b)) ∧ w = w' := by
  rcases Int.lt_trichotomy a b with h | h | h
  all_goals
    go_enter Tryz.func90, Tryz.ntmps90
    go_wp2_with fail
    (with_reducible refine (isNaN_any _ _).mono ?_)
    rintro e w1 ⟨rfl, rfl⟩
    go_wp2_with fail
    (with_reducible refine (isNaN_any _ _).mono ?_)
    rintro e w1 ⟨rfl, rfl⟩
    go_wp2
    go_ret
    exact ⟨ret_int (by unfold sgn; split <;> (try split) <;> omega), rfl⟩
theorem cmpor_any (a b c : Int) (v : Value) (w : World) (h : Sl w v [a, b, c]) :
    Calls Tryz.prog 89 #[v] w fun e w' => e = .returned (.int .i64 (if a ≠ 0 then a else if b ≠ 0 then b else c)) ∧ w = w' := by
  rcases h with ⟨h, _⟩ | ⟨g, off, cap, rfl, hb, hcap, hcap2, hc⟩
  · cases h
  have c0 := hc 0 (by simp); have c1 := hc 1 (by simp); have c2 := hc 2 (by simp)
  simp only [List.length_cons, List.length_nil, List.getElem?_cons_zero, List.getElem?_cons_succ, Option.getD_some, Nat.add_zero] at c0 c1 c2 hcap
  clear hc
  by_cases ha : a = 0
  rotate_left
  · go_enter Tryz.func89, Tryz.ntmps89
    go_wp2
    refine wp_loop_rounds 4 ?_
    repeat any_goals (rw [rounds_succ]; go_wp2)
    go_ret
    exact ⟨ret_int (by simp [ha]), rfl⟩
  by_cases hb : b = 0
  rotate_left
  · go_enter Tryz.func89, Tryz.ntmps89
    go_wp2
    refine wp_loop_rounds 4 ?_
    repeat any_goals (rw [rounds_succ]; go_wp2)
    go_ret
    exact ⟨ret_int (by simp [ha, hb]), rfl⟩
  by_cases hc : c = 0
  all_goals
    go_enter Tryz.func89, Tryz.ntmps89
    go_wp2
    refine wp_loop_rounds 4 ?_
    repeat any_goals (rw [rounds_succ]; go_wp2)
    go_ret
    exact ⟨ret_int (by simp [ha, hb, hc]), rfl⟩
set_option maxRecDepth 100000 in
set_option maxHeartbeats 1000000 in
theorem compare_any (x0 y0 z0 x1 y1 z1 : Int) (w : World) :
    Calls Tryz.prog 91 #[.agg #[.int .i64 x0, .int .i64 y0, .int .i64 z0], .agg #[.int .i64 x1, .int .i64 y1, .int .i64 z1]] w fun e w' => e = .returned (.int .i64 (cmpP x0 y0 z0 x1 y1 z1)) ∧ w.grownBy w' none := by
  go_enter Tryz.func91, Tryz.ntmps91
  go_wp2_with fail
  have HG := Lib.hid (gb_alloc (gb_alloc (gb_refl w none) (.cells #[.int .i64 x0, .int .i64 y0, .int .i64 z0] 23)) (.cells #[.int .i64 x1, .int .i64 y1, .int .i64 z1] 23))
  have h0 : ((w.alloc (.cells #[.int .i64 x0, .int .i64 y0, .int .i64 z0] 23)).alloc (.cells #[.int .i64 x1, .int .i64 y1, .int .i64 z1] 23)).heap[w.heap.size]? = some (.cells #[.int .i64 x0, .int .i64 y0, .int .i64 z0] 23 (0, 0)) := by rw [heap_alloc_old _ _ (by simp), heap_alloc_new]
  have h1 : ((w.alloc (.cells #[.int .i64 x0, .int .i64 y0, .int .i64 z0] 23)).alloc (.cells #[.int .i64 x1, .int .i64 y1, .int .i64 z1] 23)).heap[w.heap.size + 1]? = some (.cells #[.int .i64 x1, .int .i64 y1, .int .i64 z1] 23 (0, 0)) := by simpa using heap_alloc_new (w.alloc _) _
  generalize (w.alloc (.cells #[.int .i64 x0, .int .i64 y0, .int .i64 z0] 23)).alloc (.cells #[.int .i64 x1, .int .i64 y1, .int .i64 z1] 23) = w1 at *
  obtain ⟨a0, a1, a2⟩ := cells3 h0
  obtain ⟨b0, b1, b2⟩ := cells3 h1
  have la := Made.cells (block_lt h0)
  have lb := Made.cells (block_lt h1)
  clear h0 h1
  refine Rg.region (Made w1) Makes (fun k => if k = 4 then some (isV (.int .i64 (sgn x0 x1))) else if k = 9 then some (isV (.int .i64 (sgn y0 y1))) else if k = 14 then some (isV (.int .i64 (sgn z0 z1))) else if k = 15 then some (isLit w1 [sgn x0 x1, sgn y0 y1, sgn z0 z1]) else if k = 16 then some (isV (.int .i64 (cmpP x0 y0 z0 x1 y1 z1))) else none)
    (fun _ => false) 0 17 (by kernel_rfl) (by kernel_rfl) (by kernel_rfl) (by kernel_rfl) (by kernel_rfl) (by kernel_rfl) (by kernel_rfl) Makes.size (Made.start w1) (fun hne => ?_)
  (repeat (refine rLexL_quiet (by rfl) (by rfl) (by rfl) (by rfl) ?_; go_big_quiet_step (fail); refine wpQuiet_nil ?_))
  refine rg_fix (.int .i64 (sgn x0 x1)) 90 #[.int .i64 x0, .int .i64 x1] rfl rfl rfl (fun _ => by go_simp) (fun u hu => same_grown (cmpc_any _ _ u)) ?_
  simp only [Act.put, List.setIfInBounds_toArray, List.set_cons_zero, List.set_cons_succ]
  (repeat (refine rLexL_quiet (by rfl) (by rfl) (by rfl) (by rfl) ?_; go_big_quiet_step (fail); refine wpQuiet_nil ?_))
  refine rg_fix (.int .i64 (sgn y0 y1)) 90 #[.int .i64 y0, .int .i64 y1] rfl rfl rfl (fun _ => by go_simp) (fun u hu => same_grown (cmpc_any _ _ u)) ?_
  simp only [Act.put, List.setIfInBounds_toArray, List.set_cons_zero, List.set_cons_succ]
  (repeat (refine rLexL_quiet (by rfl) (by rfl) (by rfl) (by rfl) ?_; go_big_quiet_step (fail); refine wpQuiet_nil ?_))
  refine rg_fix (.int .i64 (sgn z0 z1)) 90 #[.int .i64 z0, .int .i64 z1] rfl rfl rfl (fun _ => by go_simp) (fun u hu => same_grown (cmpc_any _ _ u)) ?_
  simp only [Act.put, List.setIfInBounds_toArray, List.set_cons_zero, List.set_cons_succ]
  refine rg_litM [sgn x0 x1, sgn y0 y1, sgn z0 z1] 3 rfl rfl rfl (fun _ => by go_simp) rfl (fun v => ?_)
  simp only [Act.put, List.setIfInBounds_toArray, List.set_cons_zero, List.set_cons_succ]
  refine rg_fixD (.int .i64 (cmpP x0 y0 z0 x1 y1 z1)) 89 #[v] rfl rfl rfl (fun _ => by go_simp) (fun u hu hd => same_grown ((cmpor_any _ _ _ v u (hd ⟨15, .data⟩ (by simp) rfl).1).mono fun e w' ⟨h, h'⟩ => ⟨by rw [h]; simp [cmpP], h'⟩)) ?_
  simp only [Act.put, List.setIfInBounds_toArray, List.set_cons_zero, List.set_cons_succ]
  rintro wq hq hf hD
  have HG2 := Lib.hid (gb_trans HG.out hq)
  clear hf hD hq hne
  go_wp2_with fail
  go_ret
  exact ⟨rfl, HG2.out⟩
end Go.Proofs.YtiebljanpnadjaaGreat
