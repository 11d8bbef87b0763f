/- keep.Src: Bent, BentPhase, SmallTable. Written by gen_bent.py. -/
import Derived.Test.YtdkckhihleffeaaGreatMem
namespace Go.Proofs.YtdkckhihleffeaaGreat
set_option linter.all false
open Go.RowKit Rg

/-- One of the numbers of a literal that lies in a block of its own. -/
theorem pickL_any (B : Nat) (w : World) (p : Nat) (xs : List Int) (n : Nat) (hn : xs.length = n) (cs : Array Value) (hcs : (xs.map (Value.int .i64)).toArray = cs) (e : TypeId) (h : Src B w p) (g : Nat) (hz : w.heap.size = g) (h0 : 0 < xs.length) (hl : xs.length ≤ 1000) :
    Calls Tryz.prog 7 #[.pointer (some ⟨p, 0, none⟩), .slice (some ⟨g, 0, none⟩) n n] (w.alloc (.cells cs e)) (fun r w' => ∃ x : Int, r = .returned (.int .i64 x) ∧ x ∈ xs ∧ Src B w' p ∧ w.grownBy w' (some p)) := by
  subst hz; subst hn; subst hcs
  have hp := h.lt.2
  have hs : Sl (w.alloc (.cells (xs.map (Value.int .i64)).toArray e)) (.slice (some ⟨w.heap.size, 0, none⟩) xs.length xs.length) xs :=
    .inr ⟨w.heap.size, 0, xs.length, rfl, by simp, Nat.le_refl _, by omega, fun k hk => by rw [cell_new]; simp [hk]⟩
  refine (pick_any B _ p _ xs (h.later (gb_alloc (gb_refl w none) _) (by simp)) hs h0 hl (fun b off len cap he => by simp at he; omega)).mono ?_
  rintro r w' ⟨x, rfl, hx, hS, hg⟩
  exact ⟨x, rfl, hx, hS, gb_trans (gb_none (gb_alloc (gb_refl w none) _)) hg⟩

set_option maxRecDepth 100000 in
set_option maxHeartbeats 4000000 in
theorem bent_any (B : Nat) (w : World) (p : Nat) (b0 b1 b2 b3 b4 b5 : Int) (h : Src B w p) :
    Calls Tryz.prog 29 #[.pointer (some ⟨p, 0, none⟩), .agg #[.int .i64 b0, .int .i64 b1, .int .i64 b2, .int .i64 b3, .int .i64 b4, .int .i64 b5]] w (At6 B p (fun _ _ _ _ _ _ => True) w) := by
  have hp0 := h.lt.1; have hp := h.lt.2
  have hg0 := gb_alloc (gb_alloc (gb_refl w none) (.cells #[.int .i64 b0, .int .i64 b1, .int .i64 b2, .int .i64 b3, .int .i64 b4, .int .i64 b5] 25)) (.cells #[.int .i64 0, .int .i64 0, .int .i64 0, .int .i64 0, .int .i64 0, .int .i64 0] 25)
  have X0 : Hid (((w.alloc (.cells #[.int .i64 b0, .int .i64 b1, .int .i64 b2, .int .i64 b3, .int .i64 b4, .int .i64 b5] 25)).alloc (.cells #[.int .i64 0, .int .i64 0, .int .i64 0, .int .i64 0, .int .i64 0, .int .i64 0] 25)).heap[w.heap.size]? = some (.cells #[.int .i64 b0, .int .i64 b1, .int .i64 b2, .int .i64 b3, .int .i64 b4, .int .i64 b5] 25 (0, 0))) := Lib.hid (by rw [heap_alloc_old _ _ (by simp), heap_alloc_new])
  have R0 : Hid (((w.alloc (.cells #[.int .i64 b0, .int .i64 b1, .int .i64 b2, .int .i64 b3, .int .i64 b4, .int .i64 b5] 25)).alloc (.cells #[.int .i64 0, .int .i64 0, .int .i64 0, .int .i64 0, .int .i64 0, .int .i64 0] 25)).heap[w.heap.size + 1]? = some (.cells #[.int .i64 0, .int .i64 0, .int .i64 0, .int .i64 0, .int .i64 0, .int .i64 0] 25 (0, 0))) := Lib.hid (by simpa using heap_alloc_new (w.alloc _) _)
  have S0 := Lib.hid (h.later hg0 (by simp)); have G0 := Lib.hid (gb_none (row := some p) hg0)
  clear h hg0
  go_enter Tryz.func29, Tryz.ntmps29
  go_wp2_with fail
  (with_reducible refine (pickL_any B _ p [-1048577, -1048576, 0, -16385, -16384, 1048576, 1048577] 7 rfl #[.int .i64 (-1048577), .int .i64 (-1048576), .int .i64 0, .int .i64 (-16385), .int .i64 (-16384), .int .i64 1048576, .int .i64 1048577] rfl _ S0.out (w.heap.size + 1 + 1) (by simp) (by decide) (by decide)).mono ?_)
  rintro r w2 ⟨odd, rfl, -, hS, hg⟩
  have S2 := Lib.hid hS; have X2 := Lib.hid (block_keptp hg X0.out (by omega)); have R2 := Lib.hid (block_keptp hg R0.out (by omega)); have G2 := Lib.hid (gb_trans G0.out hg)
  clear hS hg S0 X0 R0 G0
  go_wp2_with fail
  (with_reducible refine (n_any B w2 p 6 S2.out (by omega) (by omega)).mono ?_)
  rintro r w3 ⟨kk, rfl, hkk, hS, hg⟩
  have S3 := Lib.hid hS; have X3 := Lib.hid (block_keptp hg X2.out (by omega)); have R3 := Lib.hid (block_keptp hg R2.out (by omega)); have G3 := Lib.hid (gb_trans G2.out hg)
  clear hS hg S2 X2 R2 G2
  rcases (by omega : kk = 0 ∨ kk = 1 ∨ kk = 2 ∨ kk = 3 ∨ kk = 4 ∨ kk = 5) with _ | _ | _ | _ | _ | _
  · obtain rfl : kk = 0 := by omega
    have hF := frozen3 X3.out (o := 0); obtain ⟨x0_, x1_, x2_, x3_, x4_, x5_⟩ := six X3.out
    have XS : Hid ((w3.setCell ⟨w.heap.size, 0, none⟩ (.int .i64 odd)).heap[w.heap.size]? = some (.cells #[.int .i64 odd, .int .i64 b1, .int .i64 b2, .int .i64 b3, .int .i64 b4, .int .i64 b5] 25 (0, 0))) := Lib.hid (set_block X3.out 0 _)
    have RS := (setCell_far (a := ⟨w.heap.size, 0, none⟩) (u := .int .i64 odd) (by show w.heap.size + 1 ≠ w.heap.size; omega)).trans R3.out
    have HN := Lib.hid (setRow_at (cs := #[.int .i64 odd, .int .i64 b1, .int .i64 b2, .int .i64 b3, .int .i64 b4, .int .i64 b5]) RS)
    have HRS := Lib.hid RS
    have SS : Src B (w3.setCell ⟨w.heap.size, 0, none⟩ (.int .i64 odd)) p := S3.out.later (row := some w.heap.size) (gb_setCell (gb_refl _ _) (.inr rfl) _) (fun q hq => by simp at hq; omega)
    have SE := Lib.hid (SS.later (row := some (w.heap.size + 1)) (gb_setRow (g := w.heap.size + 1) (cs := #[.int .i64 odd, .int .i64 b1, .int .i64 b2, .int .i64 b3, .int .i64 b4, .int .i64 b5]) (gb_refl _ _) (.inr rfl)) (fun q hq => by simp at hq; omega))
    have GE := Lib.hid (gb_setRow (g := w.heap.size + 1) (cs := #[.int .i64 odd, .int .i64 b1, .int .i64 b2, .int .i64 b3, .int .i64 b4, .int .i64 b5]) (gb_setCell G3.out (a := ⟨w.heap.size, 0, none⟩) (.inl (Nat.le_refl _)) (.int .i64 odd)) (.inl (by omega)))
    obtain ⟨s0, s1, s2, s3, s4, s5⟩ := six XS.out
    clear SS RS R3 S3 G3
    go_wp2_with (with_reducible refine wpList_store_row rfl _ _ _ rfl (w.heap.size + 1) #[.int .i64 odd, .int .i64 b1, .int .i64 b2, .int .i64 b3, .int .i64 b4, .int .i64 b5] rfl rfl _ _ HRS.out (by kernel_rfl) rfl (by simp [Value.oneCell']) ?_)
    obtain ⟨e0, e1, e2, e3, e4, e5⟩ := six HN.out
    exact bodyPost_ret (v := .agg #[.int .i64 odd, .int .i64 b1, .int .i64 b2, .int .i64 b3, .int .i64 b4, .int .i64 b5]) (by simp [results, Tryz.results29, go_sem, e0, e1, e2, e3, e4, e5]) rfl ⟨_, _, _, _, _, _, rfl, trivial, SE.out, GE.out⟩
  · obtain rfl : kk = 1 := by omega
    have hF := frozen3 X3.out (o := 1); obtain ⟨x0_, x1_, x2_, x3_, x4_, x5_⟩ := six X3.out
    have XS : Hid ((w3.setCell ⟨w.heap.size, 1, none⟩ (.int .i64 odd)).heap[w.heap.size]? = some (.cells #[.int .i64 b0, .int .i64 odd, .int .i64 b2, .int .i64 b3, .int .i64 b4, .int .i64 b5] 25 (0, 0))) := Lib.hid (set_block X3.out 1 _)
    have RS := (setCell_far (a := ⟨w.heap.size, 1, none⟩) (u := .int .i64 odd) (by show w.heap.size + 1 ≠ w.heap.size; omega)).trans R3.out
    have HN := Lib.hid (setRow_at (cs := #[.int .i64 b0, .int .i64 odd, .int .i64 b2, .int .i64 b3, .int .i64 b4, .int .i64 b5]) RS)
    have HRS := Lib.hid RS
    have SS : Src B (w3.setCell ⟨w.heap.size, 1, none⟩ (.int .i64 odd)) p := S3.out.later (row := some w.heap.size) (gb_setCell (gb_refl _ _) (.inr rfl) _) (fun q hq => by simp at hq; omega)
    have SE := Lib.hid (SS.later (row := some (w.heap.size + 1)) (gb_setRow (g := w.heap.size + 1) (cs := #[.int .i64 b0, .int .i64 odd, .int .i64 b2, .int .i64 b3, .int .i64 b4, .int .i64 b5]) (gb_refl _ _) (.inr rfl)) (fun q hq => by simp at hq; omega))
    have GE := Lib.hid (gb_setRow (g := w.heap.size + 1) (cs := #[.int .i64 b0, .int .i64 odd, .int .i64 b2, .int .i64 b3, .int .i64 b4, .int .i64 b5]) (gb_setCell G3.out (a := ⟨w.heap.size, 1, none⟩) (.inl (Nat.le_refl _)) (.int .i64 odd)) (.inl (by omega)))
    obtain ⟨s0, s1, s2, s3, s4, s5⟩ := six XS.out
    clear SS RS R3 S3 G3
    go_wp2_with (with_reducible refine wpList_store_row rfl _ _ _ rfl (w.heap.size + 1) #[.int .i64 b0, .int .i64 odd, .int .i64 b2, .int .i64 b3, .int .i64 b4, .int .i64 b5] rfl rfl _ _ HRS.out (by kernel_rfl) rfl (by simp [Value.oneCell']) ?_)
    obtain ⟨e0, e1, e2, e3, e4, e5⟩ := six HN.out
    exact bodyPost_ret (v := .agg #[.int .i64 b0, .int .i64 odd, .int .i64 b2, .int .i64 b3, .int .i64 b4, .int .i64 b5]) (by simp [results, Tryz.results29, go_sem, e0, e1, e2, e3, e4, e5]) rfl ⟨_, _, _, _, _, _, rfl, trivial, SE.out, GE.out⟩
  · obtain rfl : kk = 2 := by omega
    have hF := frozen3 X3.out (o := 2); obtain ⟨x0_, x1_, x2_, x3_, x4_, x5_⟩ := six X3.out
    have XS : Hid ((w3.setCell ⟨w.heap.size, 2, none⟩ (.int .i64 odd)).heap[w.heap.size]? = some (.cells #[.int .i64 b0, .int .i64 b1, .int .i64 odd, .int .i64 b3, .int .i64 b4, .int .i64 b5] 25 (0, 0))) := Lib.hid (set_block X3.out 2 _)
    have RS := (setCell_far (a := ⟨w.heap.size, 2, none⟩) (u := .int .i64 odd) (by show w.heap.size + 1 ≠ w.heap.size; omega)).trans R3.out
    have HN := Lib.hid (setRow_at (cs := #[.int .i64 b0, .int .i64 b1, .int .i64 odd, .int .i64 b3, .int .i64 b4, .int .i64 b5]) RS)
    have HRS := Lib.hid RS
    have SS : Src B (w3.setCell ⟨w.heap.size, 2, none⟩ (.int .i64 odd)) p := S3.out.later (row := some w.heap.size) (gb_setCell (gb_refl _ _) (.inr rfl) _) (fun q hq => by simp at hq; omega)
    have SE := Lib.hid (SS.later (row := some (w.heap.size + 1)) (gb_setRow (g := w.heap.size + 1) (cs := #[.int .i64 b0, .int .i64 b1, .int .i64 odd, .int .i64 b3, .int .i64 b4, .int .i64 b5]) (gb_refl _ _) (.inr rfl)) (fun q hq => by simp at hq; omega))
    have GE := Lib.hid (gb_setRow (g := w.heap.size + 1) (cs := #[.int .i64 b0, .int .i64 b1, .int .i64 odd, .int .i64 b3, .int .i64 b4, .int .i64 b5]) (gb_setCell G3.out (a := ⟨w.heap.size, 2, none⟩) (.inl (Nat.le_refl _)) (.int .i64 odd)) (.inl (by omega)))
    obtain ⟨s0, s1, s2, s3, s4, s5⟩ := six XS.out
    clear SS RS R3 S3 G3
    go_wp2_with (with_reducible refine wpList_store_row rfl _ _ _ rfl (w.heap.size + 1) #[.int .i64 b0, .int .i64 b1, .int .i64 odd, .int .i64 b3, .int .i64 b4, .int .i64 b5] rfl rfl _ _ HRS.out (by kernel_rfl) rfl (by simp [Value.oneCell']) ?_)
    obtain ⟨e0, e1, e2, e3, e4, e5⟩ := six HN.out
    exact bodyPost_ret (v := .agg #[.int .i64 b0, .int .i64 b1, .int .i64 odd, .int .i64 b3, .int .i64 b4, .int .i64 b5]) (by simp [results, Tryz.results29, go_sem, e0, e1, e2, e3, e4, e5]) rfl ⟨_, _, _, _, _, _, rfl, trivial, SE.out, GE.out⟩
  · obtain rfl : kk = 3 := by omega
    have hF := frozen3 X3.out (o := 3); obtain ⟨x0_, x1_, x2_, x3_, x4_, x5_⟩ := six X3.out
    have XS : Hid ((w3.setCell ⟨w.heap.size, 3, none⟩ (.int .i64 odd)).heap[w.heap.size]? = some (.cells #[.int .i64 b0, .int .i64 b1, .int .i64 b2, .int .i64 odd, .int .i64 b4, .int .i64 b5] 25 (0, 0))) := Lib.hid (set_block X3.out 3 _)
    have RS := (setCell_far (a := ⟨w.heap.size, 3, none⟩) (u := .int .i64 odd) (by show w.heap.size + 1 ≠ w.heap.size; omega)).trans R3.out
    have HN := Lib.hid (setRow_at (cs := #[.int .i64 b0, .int .i64 b1, .int .i64 b2, .int .i64 odd, .int .i64 b4, .int .i64 b5]) RS)
    have HRS := Lib.hid RS
    have SS : Src B (w3.setCell ⟨w.heap.size, 3, none⟩ (.int .i64 odd)) p := S3.out.later (row := some w.heap.size) (gb_setCell (gb_refl _ _) (.inr rfl) _) (fun q hq => by simp at hq; omega)
    have SE := Lib.hid (SS.later (row := some (w.heap.size + 1)) (gb_setRow (g := w.heap.size + 1) (cs := #[.int .i64 b0, .int .i64 b1, .int .i64 b2, .int .i64 odd, .int .i64 b4, .int .i64 b5]) (gb_refl _ _) (.inr rfl)) (fun q hq => by simp at hq; omega))
    have GE := Lib.hid (gb_setRow (g := w.heap.size + 1) (cs := #[.int .i64 b0, .int .i64 b1, .int .i64 b2, .int .i64 odd, .int .i64 b4, .int .i64 b5]) (gb_setCell G3.out (a := ⟨w.heap.size, 3, none⟩) (.inl (Nat.le_refl _)) (.int .i64 odd)) (.inl (by omega)))
    obtain ⟨s0, s1, s2, s3, s4, s5⟩ := six XS.out
    clear SS RS R3 S3 G3
    go_wp2_with (with_reducible refine wpList_store_row rfl _ _ _ rfl (w.heap.size + 1) #[.int .i64 b0, .int .i64 b1, .int .i64 b2, .int .i64 odd, .int .i64 b4, .int .i64 b5] rfl rfl _ _ HRS.out (by kernel_rfl) rfl (by simp [Value.oneCell']) ?_)
    obtain ⟨e0, e1, e2, e3, e4, e5⟩ := six HN.out
    exact bodyPost_ret (v := .agg #[.int .i64 b0, .int .i64 b1, .int .i64 b2, .int .i64 odd, .int .i64 b4, .int .i64 b5]) (by simp [results, Tryz.results29, go_sem, e0, e1, e2, e3, e4, e5]) rfl ⟨_, _, _, _, _, _, rfl, trivial, SE.out, GE.out⟩
  · obtain rfl : kk = 4 := by omega
    have hF := frozen3 X3.out (o := 4); obtain ⟨x0_, x1_, x2_, x3_, x4_, x5_⟩ := six X3.out
    have XS : Hid ((w3.setCell ⟨w.heap.size, 4, none⟩ (.int .i64 odd)).heap[w.heap.size]? = some (.cells #[.int .i64 b0, .int .i64 b1, .int .i64 b2, .int .i64 b3, .int .i64 odd, .int .i64 b5] 25 (0, 0))) := Lib.hid (set_block X3.out 4 _)
    have RS := (setCell_far (a := ⟨w.heap.size, 4, none⟩) (u := .int .i64 odd) (by show w.heap.size + 1 ≠ w.heap.size; omega)).trans R3.out
    have HN := Lib.hid (setRow_at (cs := #[.int .i64 b0, .int .i64 b1, .int .i64 b2, .int .i64 b3, .int .i64 odd, .int .i64 b5]) RS)
    have HRS := Lib.hid RS
    have SS : Src B (w3.setCell ⟨w.heap.size, 4, none⟩ (.int .i64 odd)) p := S3.out.later (row := some w.heap.size) (gb_setCell (gb_refl _ _) (.inr rfl) _) (fun q hq => by simp at hq; omega)
    have SE := Lib.hid (SS.later (row := some (w.heap.size + 1)) (gb_setRow (g := w.heap.size + 1) (cs := #[.int .i64 b0, .int .i64 b1, .int .i64 b2, .int .i64 b3, .int .i64 odd, .int .i64 b5]) (gb_refl _ _) (.inr rfl)) (fun q hq => by simp at hq; omega))
    have GE := Lib.hid (gb_setRow (g := w.heap.size + 1) (cs := #[.int .i64 b0, .int .i64 b1, .int .i64 b2, .int .i64 b3, .int .i64 odd, .int .i64 b5]) (gb_setCell G3.out (a := ⟨w.heap.size, 4, none⟩) (.inl (Nat.le_refl _)) (.int .i64 odd)) (.inl (by omega)))
    obtain ⟨s0, s1, s2, s3, s4, s5⟩ := six XS.out
    clear SS RS R3 S3 G3
    go_wp2_with (with_reducible refine wpList_store_row rfl _ _ _ rfl (w.heap.size + 1) #[.int .i64 b0, .int .i64 b1, .int .i64 b2, .int .i64 b3, .int .i64 odd, .int .i64 b5] rfl rfl _ _ HRS.out (by kernel_rfl) rfl (by simp [Value.oneCell']) ?_)
    obtain ⟨e0, e1, e2, e3, e4, e5⟩ := six HN.out
    exact bodyPost_ret (v := .agg #[.int .i64 b0, .int .i64 b1, .int .i64 b2, .int .i64 b3, .int .i64 odd, .int .i64 b5]) (by simp [results, Tryz.results29, go_sem, e0, e1, e2, e3, e4, e5]) rfl ⟨_, _, _, _, _, _, rfl, trivial, SE.out, GE.out⟩
  · obtain rfl : kk = 5 := by omega
    have hF := frozen3 X3.out (o := 5); obtain ⟨x0_, x1_, x2_, x3_, x4_, x5_⟩ := six X3.out
    have XS : Hid ((w3.setCell ⟨w.heap.size, 5, none⟩ (.int .i64 odd)).heap[w.heap.size]? = some (.cells #[.int .i64 b0, .int .i64 b1, .int .i64 b2, .int .i64 b3, .int .i64 b4, .int .i64 odd] 25 (0, 0))) := Lib.hid (set_block X3.out 5 _)
    have RS := (setCell_far (a := ⟨w.heap.size, 5, none⟩) (u := .int .i64 odd) (by show w.heap.size + 1 ≠ w.heap.size; omega)).trans R3.out
    have HN := Lib.hid (setRow_at (cs := #[.int .i64 b0, .int .i64 b1, .int .i64 b2, .int .i64 b3, .int .i64 b4, .int .i64 odd]) RS)
    have HRS := Lib.hid RS
    have SS : Src B (w3.setCell ⟨w.heap.size, 5, none⟩ (.int .i64 odd)) p := S3.out.later (row := some w.heap.size) (gb_setCell (gb_refl _ _) (.inr rfl) _) (fun q hq => by simp at hq; omega)
    have SE := Lib.hid (SS.later (row := some (w.heap.size + 1)) (gb_setRow (g := w.heap.size + 1) (cs := #[.int .i64 b0, .int .i64 b1, .int .i64 b2, .int .i64 b3, .int .i64 b4, .int .i64 odd]) (gb_refl _ _) (.inr rfl)) (fun q hq => by simp at hq; omega))
    have GE := Lib.hid (gb_setRow (g := w.heap.size + 1) (cs := #[.int .i64 b0, .int .i64 b1, .int .i64 b2, .int .i64 b3, .int .i64 b4, .int .i64 odd]) (gb_setCell G3.out (a := ⟨w.heap.size, 5, none⟩) (.inl (Nat.le_refl _)) (.int .i64 odd)) (.inl (by omega)))
    obtain ⟨s0, s1, s2, s3, s4, s5⟩ := six XS.out
    clear SS RS R3 S3 G3
    go_wp2_with (with_reducible refine wpList_store_row rfl _ _ _ rfl (w.heap.size + 1) #[.int .i64 b0, .int .i64 b1, .int .i64 b2, .int .i64 b3, .int .i64 b4, .int .i64 odd] rfl rfl _ _ HRS.out (by kernel_rfl) rfl (by simp [Value.oneCell']) ?_)
    obtain ⟨e0, e1, e2, e3, e4, e5⟩ := six HN.out
    exact bodyPost_ret (v := .agg #[.int .i64 b0, .int .i64 b1, .int .i64 b2, .int .i64 b3, .int .i64 b4, .int .i64 odd]) (by simp [results, Tryz.results29, go_sem, e0, e1, e2, e3, e4, e5]) rfl ⟨_, _, _, _, _, _, rfl, trivial, SE.out, GE.out⟩

set_option maxRecDepth 100000 in
set_option maxHeartbeats 4000000 in
theorem bentPhase_any (B : Nat) (w : World) (p : Nat) (x y z e l n : Int) (h : Src B w p) :
    Calls Tryz.prog 31 #[.pointer (some ⟨p, 0, none⟩), .agg #[.int .i64 x, .int .i64 y, .int .i64 z, .int .i64 e, .int .i64 l, .int .i64 n]] w (At6 B p (fun _ _ _ _ _ _ => True) w) := by
  have hp0 := h.lt.1; have hp := h.lt.2
  have hg0 := gb_alloc (gb_alloc (gb_refl w none) (.cells #[.int .i64 x, .int .i64 y, .int .i64 z, .int .i64 e, .int .i64 l, .int .i64 n] 61)) (.cells #[.int .i64 0, .int .i64 0, .int .i64 0, .int .i64 0, .int .i64 0, .int .i64 0] 61)
  have X0 : Hid (((w.alloc (.cells #[.int .i64 x, .int .i64 y, .int .i64 z, .int .i64 e, .int .i64 l, .int .i64 n] 61)).alloc (.cells #[.int .i64 0, .int .i64 0, .int .i64 0, .int .i64 0, .int .i64 0, .int .i64 0] 61)).heap[w.heap.size]? = some (.cells #[.int .i64 x, .int .i64 y, .int .i64 z, .int .i64 e, .int .i64 l, .int .i64 n] 61 (0, 0))) := Lib.hid (by rw [heap_alloc_old _ _ (by simp), heap_alloc_new])
  have R0 : Hid (((w.alloc (.cells #[.int .i64 x, .int .i64 y, .int .i64 z, .int .i64 e, .int .i64 l, .int .i64 n] 61)).alloc (.cells #[.int .i64 0, .int .i64 0, .int .i64 0, .int .i64 0, .int .i64 0, .int .i64 0] 61)).heap[w.heap.size + 1]? = some (.cells #[.int .i64 0, .int .i64 0, .int .i64 0, .int .i64 0, .int .i64 0, .int .i64 0] 61 (0, 0))) := Lib.hid (by simpa using heap_alloc_new (w.alloc _) _)
  have S0 := Lib.hid (h.later hg0 (by simp)); have G0 := Lib.hid (gb_none (row := some p) hg0)
  clear h hg0
  go_enter Tryz.func31, Tryz.ntmps31
  go_wp2_with fail
  (with_reducible refine (n_any B _ p 5 S0.out (by omega) (by omega)).mono ?_)
  rintro r w3 ⟨kk, rfl, hkk, hS, hg⟩
  have S3 := Lib.hid hS; have X3 := Lib.hid (block_keptp hg X0.out (by omega)); have R3 := Lib.hid (block_keptp hg R0.out (by omega)); have G3 := Lib.hid (gb_trans G0.out hg)
  clear hS hg S0 X0 R0 G0
  rcases (by omega : kk = 0 ∨ kk = 1 ∨ kk = 2 ∨ kk = 3 ∨ kk = 4) with _ | _ | _ | _ | _
  · obtain rfl : kk = 0 := by omega
    go_wp2_with fail
    (with_reducible refine (pickL_any B _ p [-1048577, -1048576, 1048577] 3 rfl #[.int .i64 (-1048577), .int .i64 (-1048576), .int .i64 1048577] rfl _ S3.out _ rfl (by decide) (by decide)).mono ?_)
    rintro r w4 ⟨odd, rfl, -, hS, hg⟩
    have S4 := Lib.hid hS; have X4 := Lib.hid (block_keptp hg X3.out (by omega)); have R4 := Lib.hid (block_keptp hg R3.out (by omega)); have G4 := Lib.hid (gb_trans G3.out hg)
    clear hS hg S3 X3 R3 G3
    have hF := frozen3 X4.out (o := 0); obtain ⟨x0_, x1_, x2_, x3_, x4_, x5_⟩ := six X4.out
    have XS : Hid ((w4.setCell ⟨w.heap.size, 0, none⟩ (.int .i64 odd)).heap[w.heap.size]? = some (.cells #[.int .i64 odd, .int .i64 y, .int .i64 z, .int .i64 e, .int .i64 l, .int .i64 n] 61 (0, 0))) := Lib.hid (set_block X4.out 0 _)
    have RS := (setCell_far (a := ⟨w.heap.size, 0, none⟩) (u := .int .i64 odd) (by show w.heap.size + 1 ≠ w.heap.size; omega)).trans R4.out
    have HN := Lib.hid (setRow_at (cs := #[.int .i64 odd, .int .i64 y, .int .i64 z, .int .i64 e, .int .i64 l, .int .i64 n]) RS)
    have HRS := Lib.hid RS
    have SS : Src B (w4.setCell ⟨w.heap.size, 0, none⟩ (.int .i64 odd)) p := S4.out.later (row := some w.heap.size) (gb_setCell (gb_refl _ _) (.inr rfl) _) (fun q hq => by simp at hq; omega)
    have SE := Lib.hid (SS.later (row := some (w.heap.size + 1)) (gb_setRow (g := w.heap.size + 1) (cs := #[.int .i64 odd, .int .i64 y, .int .i64 z, .int .i64 e, .int .i64 l, .int .i64 n]) (gb_refl _ _) (.inr rfl)) (fun q hq => by simp at hq; omega))
    have GE := Lib.hid (gb_setRow (g := w.heap.size + 1) (cs := #[.int .i64 odd, .int .i64 y, .int .i64 z, .int .i64 e, .int .i64 l, .int .i64 n]) (gb_setCell G4.out (a := ⟨w.heap.size, 0, none⟩) (.inl (Nat.le_refl _)) (.int .i64 odd)) (.inl (by omega)))
    obtain ⟨s0, s1, s2, s3, s4, s5⟩ := six XS.out
    clear SS RS R4 S4 G4
    go_wp2_with (with_reducible refine wpList_store_row rfl _ _ _ rfl (w.heap.size + 1) #[.int .i64 odd, .int .i64 y, .int .i64 z, .int .i64 e, .int .i64 l, .int .i64 n] rfl rfl _ _ HRS.out (by kernel_rfl) rfl (by simp [Value.oneCell']) ?_)
    obtain ⟨e0, e1, e2, e3, e4, e5⟩ := six HN.out
    exact bodyPost_ret (v := .agg #[.int .i64 odd, .int .i64 y, .int .i64 z, .int .i64 e, .int .i64 l, .int .i64 n]) (by simp [results, Tryz.results31, go_sem, e0, e1, e2, e3, e4, e5]) rfl ⟨_, _, _, _, _, _, rfl, trivial, SE.out, GE.out⟩
  · obtain rfl : kk = 1 := by omega
    go_wp2_with fail
    (with_reducible refine (pickL_any B _ p [-1, 0, 9007199254740992, 18014398509481985] 4 rfl #[.int .i64 (-1), .int .i64 0, .int .i64 9007199254740992, .int .i64 18014398509481985] rfl _ S3.out _ rfl (by decide) (by decide)).mono ?_)
    rintro r w4 ⟨odd, rfl, -, hS, hg⟩
    have S4 := Lib.hid hS; have X4 := Lib.hid (block_keptp hg X3.out (by omega)); have R4 := Lib.hid (block_keptp hg R3.out (by omega)); have G4 := Lib.hid (gb_trans G3.out hg)
    clear hS hg S3 X3 R3 G3
    have hF := frozen3 X4.out (o := 3); obtain ⟨x0_, x1_, x2_, x3_, x4_, x5_⟩ := six X4.out
    have XS : Hid ((w4.setCell ⟨w.heap.size, 3, none⟩ (.int .i64 odd)).heap[w.heap.size]? = some (.cells #[.int .i64 x, .int .i64 y, .int .i64 z, .int .i64 odd, .int .i64 l, .int .i64 n] 61 (0, 0))) := Lib.hid (set_block X4.out 3 _)
    have RS := (setCell_far (a := ⟨w.heap.size, 3, none⟩) (u := .int .i64 odd) (by show w.heap.size + 1 ≠ w.heap.size; omega)).trans R4.out
    have HN := Lib.hid (setRow_at (cs := #[.int .i64 x, .int .i64 y, .int .i64 z, .int .i64 odd, .int .i64 l, .int .i64 n]) RS)
    have HRS := Lib.hid RS
    have SS : Src B (w4.setCell ⟨w.heap.size, 3, none⟩ (.int .i64 odd)) p := S4.out.later (row := some w.heap.size) (gb_setCell (gb_refl _ _) (.inr rfl) _) (fun q hq => by simp at hq; omega)
    have SE := Lib.hid (SS.later (row := some (w.heap.size + 1)) (gb_setRow (g := w.heap.size + 1) (cs := #[.int .i64 x, .int .i64 y, .int .i64 z, .int .i64 odd, .int .i64 l, .int .i64 n]) (gb_refl _ _) (.inr rfl)) (fun q hq => by simp at hq; omega))
    have GE := Lib.hid (gb_setRow (g := w.heap.size + 1) (cs := #[.int .i64 x, .int .i64 y, .int .i64 z, .int .i64 odd, .int .i64 l, .int .i64 n]) (gb_setCell G4.out (a := ⟨w.heap.size, 3, none⟩) (.inl (Nat.le_refl _)) (.int .i64 odd)) (.inl (by omega)))
    obtain ⟨s0, s1, s2, s3, s4, s5⟩ := six XS.out
    clear SS RS R4 S4 G4
    go_wp2_with (with_reducible refine wpList_store_row rfl _ _ _ rfl (w.heap.size + 1) #[.int .i64 x, .int .i64 y, .int .i64 z, .int .i64 odd, .int .i64 l, .int .i64 n] rfl rfl _ _ HRS.out (by kernel_rfl) rfl (by simp [Value.oneCell']) ?_)
    obtain ⟨e0, e1, e2, e3, e4, e5⟩ := six HN.out
    exact bodyPost_ret (v := .agg #[.int .i64 x, .int .i64 y, .int .i64 z, .int .i64 odd, .int .i64 l, .int .i64 n]) (by simp [results, Tryz.results31, go_sem, e0, e1, e2, e3, e4, e5]) rfl ⟨_, _, _, _, _, _, rfl, trivial, SE.out, GE.out⟩
  · obtain rfl : kk = 2 := by omega
    go_wp2_with fail
    (with_reducible refine (pickL_any B _ p [-1, 0, 18014398509481984, 18014398509481985] 4 rfl #[.int .i64 (-1), .int .i64 0, .int .i64 18014398509481984, .int .i64 18014398509481985] rfl _ S3.out _ rfl (by decide) (by decide)).mono ?_)
    rintro r w4 ⟨odd, rfl, -, hS, hg⟩
    have S4 := Lib.hid hS; have X4 := Lib.hid (block_keptp hg X3.out (by omega)); have R4 := Lib.hid (block_keptp hg R3.out (by omega)); have G4 := Lib.hid (gb_trans G3.out hg)
    clear hS hg S3 X3 R3 G3
    have hF := frozen3 X4.out (o := 4); obtain ⟨x0_, x1_, x2_, x3_, x4_, x5_⟩ := six X4.out
    have XS : Hid ((w4.setCell ⟨w.heap.size, 4, none⟩ (.int .i64 odd)).heap[w.heap.size]? = some (.cells #[.int .i64 x, .int .i64 y, .int .i64 z, .int .i64 e, .int .i64 odd, .int .i64 n] 61 (0, 0))) := Lib.hid (set_block X4.out 4 _)
    have RS := (setCell_far (a := ⟨w.heap.size, 4, none⟩) (u := .int .i64 odd) (by show w.heap.size + 1 ≠ w.heap.size; omega)).trans R4.out
    have HN := Lib.hid (setRow_at (cs := #[.int .i64 x, .int .i64 y, .int .i64 z, .int .i64 e, .int .i64 odd, .int .i64 n]) RS)
    have HRS := Lib.hid RS
    have SS : Src B (w4.setCell ⟨w.heap.size, 4, none⟩ (.int .i64 odd)) p := S4.out.later (row := some w.heap.size) (gb_setCell (gb_refl _ _) (.inr rfl) _) (fun q hq => by simp at hq; omega)
    have SE := Lib.hid (SS.later (row := some (w.heap.size + 1)) (gb_setRow (g := w.heap.size + 1) (cs := #[.int .i64 x, .int .i64 y, .int .i64 z, .int .i64 e, .int .i64 odd, .int .i64 n]) (gb_refl _ _) (.inr rfl)) (fun q hq => by simp at hq; omega))
    have GE := Lib.hid (gb_setRow (g := w.heap.size + 1) (cs := #[.int .i64 x, .int .i64 y, .int .i64 z, .int .i64 e, .int .i64 odd, .int .i64 n]) (gb_setCell G4.out (a := ⟨w.heap.size, 4, none⟩) (.inl (Nat.le_refl _)) (.int .i64 odd)) (.inl (by omega)))
    obtain ⟨s0, s1, s2, s3, s4, s5⟩ := six XS.out
    clear SS RS R4 S4 G4
    go_wp2_with (with_reducible refine wpList_store_row rfl _ _ _ rfl (w.heap.size + 1) #[.int .i64 x, .int .i64 y, .int .i64 z, .int .i64 e, .int .i64 odd, .int .i64 n] rfl rfl _ _ HRS.out (by kernel_rfl) rfl (by simp [Value.oneCell']) ?_)
    obtain ⟨e0, e1, e2, e3, e4, e5⟩ := six HN.out
    exact bodyPost_ret (v := .agg #[.int .i64 x, .int .i64 y, .int .i64 z, .int .i64 e, .int .i64 odd, .int .i64 n]) (by simp [results, Tryz.results31, go_sem, e0, e1, e2, e3, e4, e5]) rfl ⟨_, _, _, _, _, _, rfl, trivial, SE.out, GE.out⟩
  · obtain rfl : kk = 3 := by omega
    go_wp2_with fail
    (with_reducible refine (pickL_any B _ p [-1, 0, 100, 101] 4 rfl #[.int .i64 (-1), .int .i64 0, .int .i64 100, .int .i64 101] rfl _ S3.out _ rfl (by decide) (by decide)).mono ?_)
    rintro r w4 ⟨odd, rfl, -, hS, hg⟩
    have S4 := Lib.hid hS; have X4 := Lib.hid (block_keptp hg X3.out (by omega)); have R4 := Lib.hid (block_keptp hg R3.out (by omega)); have G4 := Lib.hid (gb_trans G3.out hg)
    clear hS hg S3 X3 R3 G3
    have hF := frozen3 X4.out (o := 5); obtain ⟨x0_, x1_, x2_, x3_, x4_, x5_⟩ := six X4.out
    have XS : Hid ((w4.setCell ⟨w.heap.size, 5, none⟩ (.int .i64 odd)).heap[w.heap.size]? = some (.cells #[.int .i64 x, .int .i64 y, .int .i64 z, .int .i64 e, .int .i64 l, .int .i64 odd] 61 (0, 0))) := Lib.hid (set_block X4.out 5 _)
    have RS := (setCell_far (a := ⟨w.heap.size, 5, none⟩) (u := .int .i64 odd) (by show w.heap.size + 1 ≠ w.heap.size; omega)).trans R4.out
    have HN := Lib.hid (setRow_at (cs := #[.int .i64 x, .int .i64 y, .int .i64 z, .int .i64 e, .int .i64 l, .int .i64 odd]) RS)
    have HRS := Lib.hid RS
    have SS : Src B (w4.setCell ⟨w.heap.size, 5, none⟩ (.int .i64 odd)) p := S4.out.later (row := some w.heap.size) (gb_setCell (gb_refl _ _) (.inr rfl) _) (fun q hq => by simp at hq; omega)
    have SE := Lib.hid (SS.later (row := some (w.heap.size + 1)) (gb_setRow (g := w.heap.size + 1) (cs := #[.int .i64 x, .int .i64 y, .int .i64 z, .int .i64 e, .int .i64 l, .int .i64 odd]) (gb_refl _ _) (.inr rfl)) (fun q hq => by simp at hq; omega))
    have GE := Lib.hid (gb_setRow (g := w.heap.size + 1) (cs := #[.int .i64 x, .int .i64 y, .int .i64 z, .int .i64 e, .int .i64 l, .int .i64 odd]) (gb_setCell G4.out (a := ⟨w.heap.size, 5, none⟩) (.inl (Nat.le_refl _)) (.int .i64 odd)) (.inl (by omega)))
    obtain ⟨s0, s1, s2, s3, s4, s5⟩ := six XS.out
    clear SS RS R4 S4 G4
    go_wp2_with (with_reducible refine wpList_store_row rfl _ _ _ rfl (w.heap.size + 1) #[.int .i64 x, .int .i64 y, .int .i64 z, .int .i64 e, .int .i64 l, .int .i64 odd] rfl rfl _ _ HRS.out (by kernel_rfl) rfl (by simp [Value.oneCell']) ?_)
    obtain ⟨e0, e1, e2, e3, e4, e5⟩ := six HN.out
    exact bodyPost_ret (v := .agg #[.int .i64 x, .int .i64 y, .int .i64 z, .int .i64 e, .int .i64 l, .int .i64 odd]) (by simp [results, Tryz.results31, go_sem, e0, e1, e2, e3, e4, e5]) rfl ⟨_, _, _, _, _, _, rfl, trivial, SE.out, GE.out⟩
  · obtain rfl : kk = 4 := by omega
    go_wp2_with fail
    (with_reducible refine (pickL_any B _ p [-16385, -16384, 1048576] 3 rfl #[.int .i64 (-16385), .int .i64 (-16384), .int .i64 1048576] rfl _ S3.out _ rfl (by decide) (by decide)).mono ?_)
    rintro r w4 ⟨odd, rfl, -, hS, hg⟩
    have S4 := Lib.hid hS; have X4 := Lib.hid (block_keptp hg X3.out (by omega)); have R4 := Lib.hid (block_keptp hg R3.out (by omega)); have G4 := Lib.hid (gb_trans G3.out hg)
    clear hS hg S3 X3 R3 G3
    have hF := frozen3 X4.out (o := 2); obtain ⟨x0_, x1_, x2_, x3_, x4_, x5_⟩ := six X4.out
    have XS : Hid ((w4.setCell ⟨w.heap.size, 2, none⟩ (.int .i64 odd)).heap[w.heap.size]? = some (.cells #[.int .i64 x, .int .i64 y, .int .i64 odd, .int .i64 e, .int .i64 l, .int .i64 n] 61 (0, 0))) := Lib.hid (set_block X4.out 2 _)
    have RS := (setCell_far (a := ⟨w.heap.size, 2, none⟩) (u := .int .i64 odd) (by show w.heap.size + 1 ≠ w.heap.size; omega)).trans R4.out
    have HN := Lib.hid (setRow_at (cs := #[.int .i64 x, .int .i64 y, .int .i64 odd, .int .i64 e, .int .i64 l, .int .i64 n]) RS)
    have HRS := Lib.hid RS
    have SS : Src B (w4.setCell ⟨w.heap.size, 2, none⟩ (.int .i64 odd)) p := S4.out.later (row := some w.heap.size) (gb_setCell (gb_refl _ _) (.inr rfl) _) (fun q hq => by simp at hq; omega)
    have SE := Lib.hid (SS.later (row := some (w.heap.size + 1)) (gb_setRow (g := w.heap.size + 1) (cs := #[.int .i64 x, .int .i64 y, .int .i64 odd, .int .i64 e, .int .i64 l, .int .i64 n]) (gb_refl _ _) (.inr rfl)) (fun q hq => by simp at hq; omega))
    have GE := Lib.hid (gb_setRow (g := w.heap.size + 1) (cs := #[.int .i64 x, .int .i64 y, .int .i64 odd, .int .i64 e, .int .i64 l, .int .i64 n]) (gb_setCell G4.out (a := ⟨w.heap.size, 2, none⟩) (.inl (Nat.le_refl _)) (.int .i64 odd)) (.inl (by omega)))
    obtain ⟨s0, s1, s2, s3, s4, s5⟩ := six XS.out
    clear SS RS R4 S4 G4
    go_wp2_with (with_reducible refine wpList_store_row rfl _ _ _ rfl (w.heap.size + 1) #[.int .i64 x, .int .i64 y, .int .i64 odd, .int .i64 e, .int .i64 l, .int .i64 n] rfl rfl _ _ HRS.out (by kernel_rfl) rfl (by simp [Value.oneCell']) ?_)
    obtain ⟨e0, e1, e2, e3, e4, e5⟩ := six HN.out
    exact bodyPost_ret (v := .agg #[.int .i64 x, .int .i64 y, .int .i64 odd, .int .i64 e, .int .i64 l, .int .i64 n]) (by simp [results, Tryz.results31, go_sem, e0, e1, e2, e3, e4, e5]) rfl ⟨_, _, _, _, _, _, rfl, trivial, SE.out, GE.out⟩
end Go.Proofs.YtdkckhihleffeaaGreat
