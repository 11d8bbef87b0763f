import Derived.Test.YtiebljanpnadjaaGreatPgMem
namespace Go.Proofs.YtiebljanpnadjaaGreat
set_option linter.all false
open Go.RowKit Rg
theorem pickL_any (B : Nat) (w : World) (p : Nat) (xs : List Int) (n : Nat) (hn : xs.length = n) (cs : Array Value) (hcs : (xs.map (Value.int .i64)).toArray = cs) (e : TypeId) (h : Src B w p) (g : Nat) (hz : w.heap.size = g) (h0 : 0 < xs.length) (hl : xs.length ≤ 1000) :
  Calls Tryz.prog 37 #[.pointer (some ⟨p, 0, none⟩), .slice (some ⟨g, 0, none⟩) n n] (w.alloc (.cells cs e)) (fun r w' => ∃ x : Int, r = .returned (.int .i64 x) ∧ x ∈ xs ∧ Src B w' p ∧ w.grownBy w' (some p)) := by
 subst hz; subst hn; subst hcs
 have hp := h.lt.2
 have hs : Sl (w.alloc (.cells (xs.map (Value.int .i64)).toArray e)) (.slice (some ⟨w.heap.size, 0, none⟩) xs.length xs.length) xs :=
  .inr ⟨w.heap.size, 0, xs.length, rfl, by simp, Nat.le_refl _, by omega, fun k hk => by rw [cell_new]; simp [hk]⟩
 refine (pick_any B _ p _ xs (h.later (gb_alloc (gb_refl w none) _) (by simp)) hs h0 hl (fun b off len cap he => by simp at he; omega)).mono ?_
 rintro r w' ⟨x, rfl, hx, hS, hg⟩
 exact ⟨x, rfl, hx, hS, gb_trans (gb_none (gb_alloc (gb_refl w none) _)) hg⟩
theorem smallTable_any (step : Int) (vl vh : Value) (ls hs : List Int) (w : World) (h1 : Sl w vl ls) (h2 : Sl w vh hs) :
  Calls Tryz.prog 32 #[.agg #[step, vl, vh]] w fun e w' => e = .returned (.bool (decide (ls.length ≤ 300) && decide (hs.length ≤ 300))) ∧ w.grownBy w' none := by
 obtain ⟨a, c, rfl⟩ := h1.shape; obtain ⟨a', c', rfl⟩ := h2.shape
 have HG := zH (gb_alloc (gb_refl w none) (.cells #[step, .slice a ls.length c, .slice a' hs.length c'] 28))
 go_enter Tryz.func32, Tryz.ntmps32
 by_cases c1 : ls.length ≤ 300
 ·by_cases c2 : hs.length ≤ 300
  ·go_wp2
   go_ret
   exact ⟨ret_bool (by simp [c1, c2] <;> omega), HG.out⟩
  ·go_wp2
   go_ret
   exact ⟨ret_bool (by simp [c1, c2] <;> omega), HG.out⟩
 ·go_wp2
  go_ret
  exact ⟨ret_bool (by simp [c1]), HG.out⟩
set_option maxRecDepth 100000 in
set_option maxHeartbeats 4000000 in
theorem bent_any (B : Nat) (w : World) (p : Nat) (b0 b1 b2 b3 b4 b5 : Int) (h : Src B w p) :
  Calls Tryz.prog 39 #[.pointer (some ⟨p, 0, none⟩), .agg #[b0, b1, b2, b3, b4, b5]] w (At6 B p (fun _ _ _ _ _ _ => True) w) := by
 have hp0 := h.lt.1; have hp := h.lt.2
 have hg0 := gb_alloc (gb_alloc (gb_refl w none) (.cells #[b0, b1, b2, b3, b4, b5] 25)) (.cells #[(0:Int), (0:Int), (0:Int), (0:Int), (0:Int), (0:Int)] 25)
 have X0 : Hid (((w.alloc (.cells #[b0, b1, b2, b3, b4, b5] 25)).alloc (.cells #[(0:Int), (0:Int), (0:Int), (0:Int), (0:Int), (0:Int)] 25)).heap[w.heap.size]? = some (.cells #[b0, b1, b2, b3, b4, b5] 25 (0, 0))) := zH (by rw [heap_alloc_old _ _ (by simp), heap_alloc_new])
 have R0 : Hid (((w.alloc (.cells #[b0, b1, b2, b3, b4, b5] 25)).alloc (.cells #[(0:Int), (0:Int), (0:Int), (0:Int), (0:Int), (0:Int)] 25)).heap[w.heap.size + 1]? = some (.cells #[(0:Int), (0:Int), (0:Int), (0:Int), (0:Int), (0:Int)] 25 (0, 0))) := zH (by simpa using heap_alloc_new (w.alloc _) _)
 have S0 := zH (h.later hg0 (by simp)); have G0 := zH (gb_none (row := some p) hg0)
 clear h hg0
 go_enter Tryz.func39, Tryz.ntmps39
 go_wp2_with fail
 (with_reducible refine (pickL_any B _ p [-1048577, -1048576, 0, -16385, -16384, 1048576, 1048577] 7 rfl #[.int .i64 (-1048577), .int .i64 (-1048576), (0:Int), .int .i64 (-16385), .int .i64 (-16384), (1048576:Int), (1048577:Int)] rfl _ S0.out (w.heap.size + 1 + 1) (by simp) (by decide) (by decide)).mono ?_)
 rintro r w2 ⟨odd, rfl, -, hS, hg⟩
 have S2 := zH hS; have X2 := zH (block_keptp hg X0.out (by omega)); have R2 := zH (block_keptp hg R0.out (by omega)); have G2 := zH (gb_trans G0.out hg)
 clear hS hg S0 X0 R0 G0
 go_wp2_with fail
 (with_reducible refine (n_any B w2 p 6 S2.out (by omega) (by omega)).mono ?_)
 rintro r w3 ⟨kk, rfl, hkk, hS, hg⟩
 have S3 := zH hS; have X3 := zH (block_keptp hg X2.out (by omega)); have R3 := zH (block_keptp hg R2.out (by omega)); have G3 := zH (gb_trans G2.out hg)
 clear hS hg S2 X2 R2 G2
 rcases (by omega : kk = 0 ∨ kk = 1 ∨ kk = 2 ∨ kk = 3 ∨ kk = 4 ∨ kk = 5) with _ | _ | _ | _ | _ | _
 ·obtain rfl : kk = 0 := by omega
  have hF := frozen3 X3.out (o := 0); obtain ⟨x0_, x1_, x2_, x3_, x4_, x5_⟩ := six X3.out
  have XS : Hid ((w3.setCell ⟨w.heap.size, 0, none⟩ (.int .i64 odd)).heap[w.heap.size]? = some (.cells #[odd, b1, b2, b3, b4, b5] 25 (0, 0))) := zH (set_block X3.out 0 _)
  have RS := (setCell_far (a := ⟨w.heap.size, 0, none⟩) (u := .int .i64 odd) (by show w.heap.size + 1 ≠ w.heap.size; omega)).trans R3.out
  have HN := zH (setRow_at (cs := #[odd, b1, b2, b3, b4, b5]) RS)
  have HRS := zH RS
  have SS : Src B (w3.setCell ⟨w.heap.size, 0, none⟩ (.int .i64 odd)) p := S3.out.later (row := some w.heap.size) (gb_setCell (gb_refl _ _) (.inr rfl) _) (fun q hq => by simp at hq; omega)
  have SE := zH (SS.later (row := some (w.heap.size + 1)) (gb_setRow (g := w.heap.size + 1) (cs := #[odd, b1, b2, b3, b4, b5]) (gb_refl _ _) (.inr rfl)) (fun q hq => by simp at hq; omega))
  have GE := zH (gb_setRow (g := w.heap.size + 1) (cs := #[odd, b1, b2, b3, b4, b5]) (gb_setCell G3.out (a := ⟨w.heap.size, 0, none⟩) (.inl (Nat.le_refl _)) (.int .i64 odd)) (.inl (by omega)))
  obtain ⟨s0, s1, s2, s3, s4, s5⟩ := six XS.out
  clear SS RS R3 S3 G3
  go_wp2_with (with_reducible refine wpList_store_row rfl _ _ _ rfl (w.heap.size + 1) #[odd, b1, b2, b3, b4, b5] rfl rfl _ _ HRS.out (by kernel_rfl) rfl (by simp [Value.oneCell']) ?_)
  obtain ⟨e0, e1, e2, e3, e4, e5⟩ := six HN.out
  exact bodyPost_ret (v := .agg #[odd, b1, b2, b3, b4, b5]) (by simp [results, Tryz.results39, go_sem, e0, e1, e2, e3, e4, e5]) rfl ⟨_, _, _, _, _, _, rfl, trivial, SE.out, GE.out⟩
 ·obtain rfl : kk = 1 := by omega
  have hF := frozen3 X3.out (o := 1); obtain ⟨x0_, x1_, x2_, x3_, x4_, x5_⟩ := six X3.out
  have XS : Hid ((w3.setCell ⟨w.heap.size, 1, none⟩ (.int .i64 odd)).heap[w.heap.size]? = some (.cells #[b0, odd, b2, b3, b4, b5] 25 (0, 0))) := zH (set_block X3.out 1 _)
  have RS := (setCell_far (a := ⟨w.heap.size, 1, none⟩) (u := .int .i64 odd) (by show w.heap.size + 1 ≠ w.heap.size; omega)).trans R3.out
  have HN := zH (setRow_at (cs := #[b0, odd, b2, b3, b4, b5]) RS)
  have HRS := zH RS
  have SS : Src B (w3.setCell ⟨w.heap.size, 1, none⟩ (.int .i64 odd)) p := S3.out.later (row := some w.heap.size) (gb_setCell (gb_refl _ _) (.inr rfl) _) (fun q hq => by simp at hq; omega)
  have SE := zH (SS.later (row := some (w.heap.size + 1)) (gb_setRow (g := w.heap.size + 1) (cs := #[b0, odd, b2, b3, b4, b5]) (gb_refl _ _) (.inr rfl)) (fun q hq => by simp at hq; omega))
  have GE := zH (gb_setRow (g := w.heap.size + 1) (cs := #[b0, odd, b2, b3, b4, b5]) (gb_setCell G3.out (a := ⟨w.heap.size, 1, none⟩) (.inl (Nat.le_refl _)) (.int .i64 odd)) (.inl (by omega)))
  obtain ⟨s0, s1, s2, s3, s4, s5⟩ := six XS.out
  clear SS RS R3 S3 G3
  go_wp2_with (with_reducible refine wpList_store_row rfl _ _ _ rfl (w.heap.size + 1) #[b0, odd, b2, b3, b4, b5] rfl rfl _ _ HRS.out (by kernel_rfl) rfl (by simp [Value.oneCell']) ?_)
  obtain ⟨e0, e1, e2, e3, e4, e5⟩ := six HN.out
  exact bodyPost_ret (v := .agg #[b0, odd, b2, b3, b4, b5]) (by simp [results, Tryz.results39, go_sem, e0, e1, e2, e3, e4, e5]) rfl ⟨_, _, _, _, _, _, rfl, trivial, SE.out, GE.out⟩
 ·obtain rfl : kk = 2 := by omega
  have hF := frozen3 X3.out (o := 2); obtain ⟨x0_, x1_, x2_, x3_, x4_, x5_⟩ := six X3.out
  have XS : Hid ((w3.setCell ⟨w.heap.size, 2, none⟩ (.int .i64 odd)).heap[w.heap.size]? = some (.cells #[b0, b1, odd, b3, b4, b5] 25 (0, 0))) := zH (set_block X3.out 2 _)
  have RS := (setCell_far (a := ⟨w.heap.size, 2, none⟩) (u := .int .i64 odd) (by show w.heap.size + 1 ≠ w.heap.size; omega)).trans R3.out
  have HN := zH (setRow_at (cs := #[b0, b1, odd, b3, b4, b5]) RS)
  have HRS := zH RS
  have SS : Src B (w3.setCell ⟨w.heap.size, 2, none⟩ (.int .i64 odd)) p := S3.out.later (row := some w.heap.size) (gb_setCell (gb_refl _ _) (.inr rfl) _) (fun q hq => by simp at hq; omega)
  have SE := zH (SS.later (row := some (w.heap.size + 1)) (gb_setRow (g := w.heap.size + 1) (cs := #[b0, b1, odd, b3, b4, b5]) (gb_refl _ _) (.inr rfl)) (fun q hq => by simp at hq; omega))
  have GE := zH (gb_setRow (g := w.heap.size + 1) (cs := #[b0, b1, odd, b3, b4, b5]) (gb_setCell G3.out (a := ⟨w.heap.size, 2, none⟩) (.inl (Nat.le_refl _)) (.int .i64 odd)) (.inl (by omega)))
  obtain ⟨s0, s1, s2, s3, s4, s5⟩ := six XS.out
  clear SS RS R3 S3 G3
  go_wp2_with (with_reducible refine wpList_store_row rfl _ _ _ rfl (w.heap.size + 1) #[b0, b1, odd, b3, b4, b5] rfl rfl _ _ HRS.out (by kernel_rfl) rfl (by simp [Value.oneCell']) ?_)
  obtain ⟨e0, e1, e2, e3, e4, e5⟩ := six HN.out
  exact bodyPost_ret (v := .agg #[b0, b1, odd, b3, b4, b5]) (by simp [results, Tryz.results39, go_sem, e0, e1, e2, e3, e4, e5]) rfl ⟨_, _, _, _, _, _, rfl, trivial, SE.out, GE.out⟩
 ·obtain rfl : kk = 3 := by omega
  have hF := frozen3 X3.out (o := 3); obtain ⟨x0_, x1_, x2_, x3_, x4_, x5_⟩ := six X3.out
  have XS : Hid ((w3.setCell ⟨w.heap.size, 3, none⟩ (.int .i64 odd)).heap[w.heap.size]? = some (.cells #[b0, b1, b2, odd, b4, b5] 25 (0, 0))) := zH (set_block X3.out 3 _)
  have RS := (setCell_far (a := ⟨w.heap.size, 3, none⟩) (u := .int .i64 odd) (by show w.heap.size + 1 ≠ w.heap.size; omega)).trans R3.out
  have HN := zH (setRow_at (cs := #[b0, b1, b2, odd, b4, b5]) RS)
  have HRS := zH RS
  have SS : Src B (w3.setCell ⟨w.heap.size, 3, none⟩ (.int .i64 odd)) p := S3.out.later (row := some w.heap.size) (gb_setCell (gb_refl _ _) (.inr rfl) _) (fun q hq => by simp at hq; omega)
  have SE := zH (SS.later (row := some (w.heap.size + 1)) (gb_setRow (g := w.heap.size + 1) (cs := #[b0, b1, b2, odd, b4, b5]) (gb_refl _ _) (.inr rfl)) (fun q hq => by simp at hq; omega))
  have GE := zH (gb_setRow (g := w.heap.size + 1) (cs := #[b0, b1, b2, odd, b4, b5]) (gb_setCell G3.out (a := ⟨w.heap.size, 3, none⟩) (.inl (Nat.le_refl _)) (.int .i64 odd)) (.inl (by omega)))
  obtain ⟨s0, s1, s2, s3, s4, s5⟩ := six XS.out
  clear SS RS R3 S3 G3
  go_wp2_with (with_reducible refine wpList_store_row rfl _ _ _ rfl (w.heap.size + 1) #[b0, b1, b2, odd, b4, b5] rfl rfl _ _ HRS.out (by kernel_rfl) rfl (by simp [Value.oneCell']) ?_)
  obtain ⟨e0, e1, e2, e3, e4, e5⟩ := six HN.out
  exact bodyPost_ret (v := .agg #[b0, b1, b2, odd, b4, b5]) (by simp [results, Tryz.results39, go_sem, e0, e1, e2, e3, e4, e5]) rfl ⟨_, _, _, _, _, _, rfl, trivial, SE.out, GE.out⟩
 ·obtain rfl : kk = 4 := by omega
  have hF := frozen3 X3.out (o := 4); obtain ⟨x0_, x1_, x2_, x3_, x4_, x5_⟩ := six X3.out
  have XS : Hid ((w3.setCell ⟨w.heap.size, 4, none⟩ (.int .i64 odd)).heap[w.heap.size]? = some (.cells #[b0, b1, b2, b3, odd, b5] 25 (0, 0))) := zH (set_block X3.out 4 _)
  have RS := (setCell_far (a := ⟨w.heap.size, 4, none⟩) (u := .int .i64 odd) (by show w.heap.size + 1 ≠ w.heap.size; omega)).trans R3.out
  have HN := zH (setRow_at (cs := #[b0, b1, b2, b3, odd, b5]) RS)
  have HRS := zH RS
  have SS : Src B (w3.setCell ⟨w.heap.size, 4, none⟩ (.int .i64 odd)) p := S3.out.later (row := some w.heap.size) (gb_setCell (gb_refl _ _) (.inr rfl) _) (fun q hq => by simp at hq; omega)
  have SE := zH (SS.later (row := some (w.heap.size + 1)) (gb_setRow (g := w.heap.size + 1) (cs := #[b0, b1, b2, b3, odd, b5]) (gb_refl _ _) (.inr rfl)) (fun q hq => by simp at hq; omega))
  have GE := zH (gb_setRow (g := w.heap.size + 1) (cs := #[b0, b1, b2, b3, odd, b5]) (gb_setCell G3.out (a := ⟨w.heap.size, 4, none⟩) (.inl (Nat.le_refl _)) (.int .i64 odd)) (.inl (by omega)))
  obtain ⟨s0, s1, s2, s3, s4, s5⟩ := six XS.out
  clear SS RS R3 S3 G3
  go_wp2_with (with_reducible refine wpList_store_row rfl _ _ _ rfl (w.heap.size + 1) #[b0, b1, b2, b3, odd, b5] rfl rfl _ _ HRS.out (by kernel_rfl) rfl (by simp [Value.oneCell']) ?_)
  obtain ⟨e0, e1, e2, e3, e4, e5⟩ := six HN.out
  exact bodyPost_ret (v := .agg #[b0, b1, b2, b3, odd, b5]) (by simp [results, Tryz.results39, go_sem, e0, e1, e2, e3, e4, e5]) rfl ⟨_, _, _, _, _, _, rfl, trivial, SE.out, GE.out⟩
 ·obtain rfl : kk = 5 := by omega
  have hF := frozen3 X3.out (o := 5); obtain ⟨x0_, x1_, x2_, x3_, x4_, x5_⟩ := six X3.out
  have XS : Hid ((w3.setCell ⟨w.heap.size, 5, none⟩ (.int .i64 odd)).heap[w.heap.size]? = some (.cells #[b0, b1, b2, b3, b4, odd] 25 (0, 0))) := zH (set_block X3.out 5 _)
  have RS := (setCell_far (a := ⟨w.heap.size, 5, none⟩) (u := .int .i64 odd) (by show w.heap.size + 1 ≠ w.heap.size; omega)).trans R3.out
  have HN := zH (setRow_at (cs := #[b0, b1, b2, b3, b4, odd]) RS)
  have HRS := zH RS
  have SS : Src B (w3.setCell ⟨w.heap.size, 5, none⟩ (.int .i64 odd)) p := S3.out.later (row := some w.heap.size) (gb_setCell (gb_refl _ _) (.inr rfl) _) (fun q hq => by simp at hq; omega)
  have SE := zH (SS.later (row := some (w.heap.size + 1)) (gb_setRow (g := w.heap.size + 1) (cs := #[b0, b1, b2, b3, b4, odd]) (gb_refl _ _) (.inr rfl)) (fun q hq => by simp at hq; omega))
  have GE := zH (gb_setRow (g := w.heap.size + 1) (cs := #[b0, b1, b2, b3, b4, odd]) (gb_setCell G3.out (a := ⟨w.heap.size, 5, none⟩) (.inl (Nat.le_refl _)) (.int .i64 odd)) (.inl (by omega)))
  obtain ⟨s0, s1, s2, s3, s4, s5⟩ := six XS.out
  clear SS RS R3 S3 G3
  go_wp2_with (with_reducible refine wpList_store_row rfl _ _ _ rfl (w.heap.size + 1) #[b0, b1, b2, b3, b4, odd] rfl rfl _ _ HRS.out (by kernel_rfl) rfl (by simp [Value.oneCell']) ?_)
  obtain ⟨e0, e1, e2, e3, e4, e5⟩ := six HN.out
  exact bodyPost_ret (v := .agg #[b0, b1, b2, b3, b4, odd]) (by simp [results, Tryz.results39, go_sem, e0, e1, e2, e3, e4, e5]) rfl ⟨_, _, _, _, _, _, rfl, trivial, SE.out, GE.out⟩
end Go.Proofs.YtiebljanpnadjaaGreat
