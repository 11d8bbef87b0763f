/- RgPos GeoP -/
import Derived.Test.YtgaglgopbdfemaaGreatDoorTmTrv
import Derived.Test.YtgaglgopbdfemaaGreatDoorTmRgMade
import Derived.Test.YtgaglgopbdfemaaGreatDoorTmGeo
import Derived.Test.YtgaglgopbdfemaaGreatDoorTmGeoS
import Derived.Test.YtgaglgopbdfemaaGreatDoorTmBase
namespace Go.Proofs.YtgaglgopbdfemaaGreatDoor
set_option linter.all false
section LPts
open Go.RowKit
end LPts
section LRgPos
open Go.RowKit Rg
/-- Three numbers are returned; the reader goes on. -/
def At3 (B p : Nat) (Pd : Int → Int → Int → Prop) (w : World) (e : Ending) (w' : World) : Prop :=
  ∃ x y z : Int, e = .returned (.agg #[.int .i64 x, .int .i64 y, .int .i64 z]) ∧ Pd x y z ∧ Src B w' p ∧ w.grownBy w' (some p)
def At6 (B p : Nat) (Pd : Int → Int → Int → Int → Int → Int → Prop) (w : World) (e : Ending) (w' : World) : Prop :=
  ∃ x0 y0 z0 x1 y1 z1 : Int, e = .returned (.agg #[.int .i64 x0, .int .i64 y0, .int .i64 z0, .int .i64 x1, .int .i64 y1, .int .i64 z1]) ∧ Pd x0 y0 z0 x1 y1 z1 ∧ Src B w' p ∧ w.grownBy w' (some p)
def placeIn (most x y z : Int) : Prop := -most ≤ x ∧ x ≤ most ∧ -most ≤ y ∧ y ≤ most ∧ 0 ≤ z ∧ z ≤ most
def boxIn (most side x0 y0 z0 x1 y1 z1 : Int) : Prop := placeIn most x0 y0 z0 ∧ x0 ≤ x1 ∧ x1 ≤ x0 + side ∧ y0 ≤ y1 ∧ y1 ≤ y0 + side ∧ z0 ≤ z1 ∧ z1 ≤ z0 + side
theorem block_keptp {w w' : World} {p : Nat} (h : w.grownBy w' (some p)) {b : Nat} {x : Obj} (hb : w.heap[b]? = some x) (hp : b ≠ p) : w'.heap[b]? = some x :=
  (h.block b (Array.getElem?_eq_some_iff.1 hb).1 (by simpa using hp)).trans hb
theorem block_lt' {w : World} {b : Nat} {x : Obj} (h : w.heap[b]? = some x) : b < w.heap.size := (Array.getElem?_eq_some_iff.1 h).1
theorem six {w : World} {b : Nat} {x y z p q r : Value} {t : TypeId} {fr : Nat × Nat} (h : w.heap[b]? = some (.cells #[x, y, z, p, q, r] t fr)) :
    w.cell? ⟨b, 0, none⟩ = some x ∧ w.cell? ⟨b, 1, none⟩ = some y ∧ w.cell? ⟨b, 2, none⟩ = some z ∧ w.cell? ⟨b, 3, none⟩ = some p ∧ w.cell? ⟨b, 4, none⟩ = some q ∧ w.cell? ⟨b, 5, none⟩ = some r := by simp [World.cell?, h]
set_option maxHeartbeats 400000 in
theorem place_any (B : Nat) (w : World) (p : Nat) (most : Int) (h : Src B w p) (h0 : 0 ≤ most) (h1 : most ≤ 1000000) :
    Calls Tryz.prog 6 #[.pointer (some ⟨p, 0, none⟩), .int .i64 most] w (At3 B p (placeIn most) w) := by
  have hp := h.lt
  have hg0 := gb_alloc (gb_refl w none) (.cells #[.int .i64 0, .int .i64 0, .int .i64 0] 26)
  have HS0 := Lib.hid (h.later hg0 (by simp))
  have HG0 := Lib.hid (gb_none (row := some p) hg0)
  have HR0 := Lib.hid (heap_alloc_new w (.cells #[.int .i64 0, .int .i64 0, .int .i64 0] 26))
  clear h hg0
  go_enter Tryz.func6, Tryz.ntmps6
  go_wp2_with fail
  (with_reducible refine (n_any B _ p _ HS0.out (by omega) (by omega)).mono ?_)
  rintro e w1 ⟨x, rfl, hx, hs1, hg1⟩
  have HS1 := Lib.hid hs1; have HR1 := Lib.hid (block_keptp hg1 HR0.out (by omega)); have HG1 := Lib.hid (gb_trans HG0.out hg1)
  clear hs1 hg1 HS0 HR0 HG0
  go_wp2_with fail
  (with_reducible refine (n_any B _ p _ HS1.out (by omega) (by omega)).mono ?_)
  rintro e w2 ⟨y, rfl, hy, hs2, hg2⟩
  have HS2 := Lib.hid hs2; have HR2 := Lib.hid (block_keptp hg2 HR1.out (by omega)); have HG2 := Lib.hid (gb_trans HG1.out hg2)
  clear hs2 hg2 HS1 HR1 HG1
  go_wp2_with fail
  (with_reducible refine (n_any B _ p _ HS2.out (by omega) (by omega)).mono ?_)
  rintro e w3 ⟨z, rfl, hz, hs3, hg3⟩
  have HS3 := Lib.hid hs3; have hR := block_keptp hg3 HR2.out (by omega); have HG3 := Lib.hid (gb_trans HG2.out hg3)
  clear hs3 hg3 HS2 HR2 HG2
  have HN := Lib.hid (setRow_at (cs := #[.int .i64 (x - most), .int .i64 (y - most), .int .i64 z]) hR)
  have HGE := Lib.hid (gb_setRow (cs := #[.int .i64 (x - most), .int .i64 (y - most), .int .i64 z]) HG3.out (g := w.heap.size) (.inl (Nat.le_refl _)))
  have HSE : Hid (Src B (w3.setRow w.heap.size #[.int .i64 (x - most), .int .i64 (y - most), .int .i64 z]) p) := Lib.hid (HS3.out.later (row := some w.heap.size) ⟨rfl, rfl, rfl, by simp [World.setRow], fun i _ hr => setRow_far (fun e => hr (by rw [e]))⟩ (fun q hq => by simp at hq; omega))
  clear HG3 HS3
  go_wp2_with (with_reducible refine wpList_store_row rfl _ _ _ rfl w.heap.size #[.int .i64 (x - most), .int .i64 (y - most), .int .i64 z] rfl rfl _ _ hR (by kernel_rfl) rfl (by simp [Value.oneCell']) ?_)
  obtain ⟨e0, e1, e2⟩ := cells3 HN.out
  exact bodyPost_ret (v := .agg #[.int .i64 (x - most), .int .i64 (y - most), .int .i64 z]) (by simp [results, Tryz.results6, go_sem, e0, e1, e2]) rfl ⟨_, _, _, rfl, ⟨by omega, by omega, by omega, by omega, by omega, by omega⟩, HSE.out, HGE.out⟩
theorem range_any (B : Nat) (w : World) (p : Nat) (lo hi : Int) (h : Src B w p) (h0 : lo ≤ hi) (h1 : -2000000 ≤ lo) (h2 : hi ≤ 2000000) :
    Calls Tryz.prog 26 #[.pointer (some ⟨p, 0, none⟩), .int .i64 lo, .int .i64 hi] w (Drawn B p (fun x => lo ≤ x ∧ x ≤ hi) w) := by
  have HS0 := Lib.hid h; clear h
  go_enter Tryz.func26, Tryz.ntmps26
  go_wp2_with fail
  (with_reducible refine (n_any B _ p _ HS0.out (by omega) (by omega)).mono ?_)
  rintro e w1 ⟨x, rfl, hx, hs1, hg1⟩
  have HS1 := Lib.hid hs1; have HG1 := Lib.hid hg1; clear hs1 hg1 HS0
  go_wp2
  go_ret
  exact ⟨_, rfl, ⟨by omega, by omega⟩, HS1.out, HG1.out⟩
set_option maxRecDepth 100000 in
set_option maxHeartbeats 1000000 in
theorem box_any (B : Nat) (w : World) (p : Nat) (most side : Int) (h : Src B w p) (h0 : 0 ≤ most) (h1 : most ≤ 1000000) (h2 : 0 ≤ side) (h3 : side ≤ 1000000) :
    Calls Tryz.prog 12 #[.pointer (some ⟨p, 0, none⟩), .int .i64 most, .int .i64 side] w (At6 B p (boxIn most side) w) := by
  have hp := h.lt
  have hg0 := gb_alloc (gb_refl w none) (.cells #[.int .i64 0, .int .i64 0, .int .i64 0, .int .i64 0, .int .i64 0, .int .i64 0] 28)
  have HS0 := Lib.hid (h.later hg0 (by simp))
  have HG0 := Lib.hid (gb_none (row := some p) hg0)
  have HR0 := Lib.hid (heap_alloc_new w (.cells #[.int .i64 0, .int .i64 0, .int .i64 0, .int .i64 0, .int .i64 0, .int .i64 0] 28))
  clear h hg0
  go_enter Tryz.func12, Tryz.ntmps12
  go_wp2_with fail
  (with_reducible refine (place_any B _ p most HS0.out h0 h1).mono ?_)
  rintro e w1 ⟨x0, y0, z0, rfl, ⟨i1, i2, i3, i4, i5, i6⟩, hs1, hg1⟩
  have hz1 := block_lt' (block_keptp hg1 HR0.out (by omega))
  have hg2 := gb_alloc (gb_refl w1 none) (.cells #[.int .i64 x0, .int .i64 y0, .int .i64 z0] 26)
  have hR1 := block_keptp hg1 HR0.out (by omega)
  have HS2 := Lib.hid (hs1.later hg2 (by simp))
  have HR2 := Lib.hid ((heap_alloc_old w1 (.cells #[.int .i64 x0, .int .i64 y0, .int .i64 z0] 26) hz1).trans hR1)
  have HG2 := Lib.hid (gb_trans (gb_trans HG0.out hg1) (gb_none (row := some p) hg2))
  have HB2 := Lib.hid (heap_alloc_new w1 (.cells #[.int .i64 x0, .int .i64 y0, .int .i64 z0] 26))
  have hz : w1.heap.size ≠ p := by have := hs1.lt; omega
  clear hs1 hg1 hg2 hR1 HS0 HG0 HR0
  go_wp2_with fail
  generalize w1.alloc (.cells #[.int .i64 x0, .int .i64 y0, .int .i64 z0] 26) = w2 at *
  obtain ⟨c0, c1, c2⟩ := cells3 HB2.out
  have d0 := Pulled.cell (B := B) (p := p) c0 (block_lt' HB2.out) hz
  have d1 := Pulled.cell (B := B) (p := p) c1 (block_lt' HB2.out) hz
  have d2 := Pulled.cell (B := B) (p := p) c2 (block_lt' HB2.out) hz
  have ws : IntKind.i64.wrap (side + 1) = side + 1 := by rw [IntKind.wrap_i64]; omega
  refine Rg.region (Pulled w2 B p) (Pull p) (fun k => if k = 6 then some (isInt fun x => 0 ≤ x ∧ x < side + 1) else if k = 13 then some (isInt fun x => 0 ≤ x ∧ x < side + 1) else if k = 20 then some (isInt fun x => 0 ≤ x ∧ x < side + 1) else none) (fun _ => false) 0 24 (by kernel_rfl) (by kernel_rfl) (by kernel_rfl) (by kernel_rfl) (by kernel_rfl) (by kernel_rfl) (by kernel_rfl) Pull.size (Pulled.start HS2.out) (fun hne => ?_)
  (repeat (refine rLexL_quiet (by rfl) (by rfl) (by rfl) (by rfl) ?_; go_big_quiet_step (fail); refine wpQuiet_nil ?_))
  refine rg_draw (fun x => 0 ≤ x ∧ x < side + 1) 15 #[.pointer (some ⟨p, 0, none⟩), .int .i64 (side + 1)] rfl rfl (fun _ => by go_simp) (fun u hu _ => n_any B u p _ hu.2 (by omega) (by omega)) (fun x hx => ?_)
  simp only [Act.put, List.setIfInBounds_toArray, List.set_cons_zero, List.set_cons_succ]
  have wx : IntKind.i64.wrap (x0 + x) = x0 + x := by rw [IntKind.wrap_i64]; omega
  (repeat (refine rLexL_quiet (by rfl) (by rfl) (by rfl) (by rfl) ?_; go_big_quiet_step (fail); refine wpQuiet_nil ?_))
  refine rg_draw (fun x => 0 ≤ x ∧ x < side + 1) 15 #[.pointer (some ⟨p, 0, none⟩), .int .i64 (side + 1)] rfl rfl (fun _ => by go_simp) (fun u hu _ => n_any B u p _ hu.2 (by omega) (by omega)) (fun y hy => ?_)
  simp only [Act.put, List.setIfInBounds_toArray, List.set_cons_zero, List.set_cons_succ]
  have wy : IntKind.i64.wrap (y0 + y) = y0 + y := by rw [IntKind.wrap_i64]; omega
  (repeat (refine rLexL_quiet (by rfl) (by rfl) (by rfl) (by rfl) ?_; go_big_quiet_step (fail); refine wpQuiet_nil ?_))
  refine rg_draw (fun x => 0 ≤ x ∧ x < side + 1) 15 #[.pointer (some ⟨p, 0, none⟩), .int .i64 (side + 1)] rfl rfl (fun _ => by go_simp) (fun u hu _ => n_any B u p _ hu.2 (by omega) (by omega)) (fun z hz' => ?_)
  simp only [Act.put, List.setIfInBounds_toArray, List.set_cons_zero, List.set_cons_succ]
  have wz : IntKind.i64.wrap (z0 + z) = z0 + z := by rw [IntKind.wrap_i64]; omega
  (repeat (refine rLexL_quiet (by rfl) (by rfl) (by rfl) (by rfl) ?_; go_big_quiet_step (fail); refine wpQuiet_nil ?_))
  rintro w3 ⟨hg3, hs3⟩ - -
  have hR := block_keptp hg3 HR2.out (by omega)
  refine wpList_store_row rfl _ _ _ rfl w.heap.size #[.int .i64 x0, .int .i64 y0, .int .i64 z0, .int .i64 (x0 + x), .int .i64 (y0 + y), .int .i64 (z0 + z)] rfl rfl _ _ hR (by kernel_rfl) rfl (by simp [Value.oneCell']) ?_
  obtain ⟨e0, e1, e2, e3, e4, e5⟩ := six (setRow_at (cs := #[.int .i64 x0, .int .i64 y0, .int .i64 z0, .int .i64 (x0 + x), .int .i64 (y0 + y), .int .i64 (z0 + z)]) hR)
  have HGE := Lib.hid (gb_setRow (cs := #[.int .i64 x0, .int .i64 y0, .int .i64 z0, .int .i64 (x0 + x), .int .i64 (y0 + y), .int .i64 (z0 + z)]) (gb_trans HG2.out hg3) (g := w.heap.size) (.inl (Nat.le_refl _)))
  have HSE : Hid (Src B (w3.setRow w.heap.size #[.int .i64 x0, .int .i64 y0, .int .i64 z0, .int .i64 (x0 + x), .int .i64 (y0 + y), .int .i64 (z0 + z)]) p) := Lib.hid (hs3.later (row := some w.heap.size) ⟨rfl, rfl, rfl, by simp [World.setRow], fun i _ hr => setRow_far (fun e => hr (by rw [e]))⟩ (fun q hq => by simp at hq; omega))
  clear hg3 hs3 hR hne wx wy wz ws d0 d1 d2 c0 c1 c2
  refine wpList_nil ?_
  simp only [Act.put, List.setIfInBounds_toArray, List.set_cons_zero, List.set_cons_succ]
  go_wp2
  exact bodyPost_ret (v := .agg #[.int .i64 x0, .int .i64 y0, .int .i64 z0, .int .i64 (x0 + x), .int .i64 (y0 + y), .int .i64 (z0 + z)]) (by simp [results, Tryz.results12, go_sem, e0, e1, e2, e3, e4, e5]) rfl
    ⟨_, _, _, _, _, _, rfl, ⟨⟨i1, i2, i3, i4, i5, i6⟩, by omega, by omega, by omega, by omega, by omega, by omega⟩, HSE.out, HGE.out⟩
set_option maxRecDepth 100000 in
set_option maxHeartbeats 1000000 in
theorem point_any (B : Nat) (w : World) (p : Nat) (x0 y0 z0 x1 y1 z1 : Int) (h : Src B w p) (h0 : -2000000 ≤ x0 ∧ x0 ≤ x1 ∧ x1 ≤ 2000000) (h1 : -2000000 ≤ y0 ∧ y0 ≤ y1 ∧ y1 ≤ 2000000) (h2 : -2000000 ≤ z0 ∧ z0 ≤ z1 ∧ z1 ≤ 2000000) :
    Calls Tryz.prog 14 #[.pointer (some ⟨p, 0, none⟩), .agg #[.int .i64 x0, .int .i64 y0, .int .i64 z0, .int .i64 x1, .int .i64 y1, .int .i64 z1]] w
      (At3 B p (fun x y z => x0 ≤ x ∧ x ≤ x1 ∧ y0 ≤ y ∧ y ≤ y1 ∧ z0 ≤ z ∧ z ≤ z1) w) := by
  have hp := h.lt
  have hg0 := gb_alloc (gb_alloc (gb_refl w none) (.cells #[.int .i64 x0, .int .i64 y0, .int .i64 z0, .int .i64 x1, .int .i64 y1, .int .i64 z1] 28)) (.cells #[.int .i64 0, .int .i64 0, .int .i64 0] 26)
  have HS0 := Lib.hid (h.later hg0 (by simp))
  have HG0 := Lib.hid (gb_none (row := some p) hg0)
  have HB0 : Hid (((w.alloc (.cells #[.int .i64 x0, .int .i64 y0, .int .i64 z0, .int .i64 x1, .int .i64 y1, .int .i64 z1] 28)).alloc (.cells #[.int .i64 0, .int .i64 0, .int .i64 0] 26)).heap[w.heap.size]? = some (.cells #[.int .i64 x0, .int .i64 y0, .int .i64 z0, .int .i64 x1, .int .i64 y1, .int .i64 z1] 28 (0, 0))) := Lib.hid (by rw [heap_alloc_old _ _ (by simp)]; exact heap_alloc_new w _)
  have HR0 : Hid (((w.alloc (.cells #[.int .i64 x0, .int .i64 y0, .int .i64 z0, .int .i64 x1, .int .i64 y1, .int .i64 z1] 28)).alloc (.cells #[.int .i64 0, .int .i64 0, .int .i64 0] 26)).heap[w.heap.size + 1]? = some (.cells #[.int .i64 0, .int .i64 0, .int .i64 0] 26 (0, 0))) := Lib.hid (by simpa using heap_alloc_new (w.alloc _) _)
  clear h hg0
  go_enter Tryz.func14, Tryz.ntmps14
  go_wp2_with fail
  generalize (w.alloc (.cells #[.int .i64 x0, .int .i64 y0, .int .i64 z0, .int .i64 x1, .int .i64 y1, .int .i64 z1] 28)).alloc (.cells #[.int .i64 0, .int .i64 0, .int .i64 0] 26) = w2 at *
  obtain ⟨c0, c1, c2, c3, c4, c5⟩ := six HB0.out
  have d0 := Pulled.cell (B := B) (p := p) c0 (block_lt' HB0.out) (by omega)
  have d1 := Pulled.cell (B := B) (p := p) c1 (block_lt' HB0.out) (by omega)
  have d2 := Pulled.cell (B := B) (p := p) c2 (block_lt' HB0.out) (by omega)
  have d3 := Pulled.cell (B := B) (p := p) c3 (block_lt' HB0.out) (by omega)
  have d4 := Pulled.cell (B := B) (p := p) c4 (block_lt' HB0.out) (by omega)
  have d5 := Pulled.cell (B := B) (p := p) c5 (block_lt' HB0.out) (by omega)
  refine Rg.region (Pulled w2 B p) (Pull p) (fun k => if k = 7 then some (isInt fun x => x0 ≤ x ∧ x ≤ x1) else if k = 15 then some (isInt fun x => y0 ≤ x ∧ x ≤ y1) else if k = 23 then some (isInt fun x => z0 ≤ x ∧ x ≤ z1) else none) (fun _ => false) 0 25 (by kernel_rfl) (by kernel_rfl) (by kernel_rfl) (by kernel_rfl) (by kernel_rfl) (by kernel_rfl) (by kernel_rfl) Pull.size (Pulled.start HS0.out) (fun hne => ?_)
  (repeat (refine rLexL_quiet (by rfl) (by rfl) (by rfl) (by rfl) ?_; go_big_quiet_step (fail); refine wpQuiet_nil ?_))
  refine rg_draw (fun x => x0 ≤ x ∧ x ≤ x1) 26 #[.pointer (some ⟨p, 0, none⟩), .int .i64 x0, .int .i64 x1] rfl rfl (fun _ => by go_simp) (fun u hu _ => range_any B u p _ _ hu.2 (by omega) (by omega) (by omega)) (fun x hx => ?_)
  simp only [Act.put, List.setIfInBounds_toArray, List.set_cons_zero, List.set_cons_succ]
  (repeat (refine rLexL_quiet (by rfl) (by rfl) (by rfl) (by rfl) ?_; go_big_quiet_step (fail); refine wpQuiet_nil ?_))
  refine rg_draw (fun x => y0 ≤ x ∧ x ≤ y1) 26 #[.pointer (some ⟨p, 0, none⟩), .int .i64 y0, .int .i64 y1] rfl rfl (fun _ => by go_simp) (fun u hu _ => range_any B u p _ _ hu.2 (by omega) (by omega) (by omega)) (fun y hy => ?_)
  simp only [Act.put, List.setIfInBounds_toArray, List.set_cons_zero, List.set_cons_succ]
  (repeat (refine rLexL_quiet (by rfl) (by rfl) (by rfl) (by rfl) ?_; go_big_quiet_step (fail); refine wpQuiet_nil ?_))
  refine rg_draw (fun x => z0 ≤ x ∧ x ≤ z1) 26 #[.pointer (some ⟨p, 0, none⟩), .int .i64 z0, .int .i64 z1] rfl rfl (fun _ => by go_simp) (fun u hu _ => range_any B u p _ _ hu.2 (by omega) (by omega) (by omega)) (fun z hz' => ?_)
  simp only [Act.put, List.setIfInBounds_toArray, List.set_cons_zero, List.set_cons_succ]
  (repeat (refine rLexL_quiet (by rfl) (by rfl) (by rfl) (by rfl) ?_; go_big_quiet_step (fail); refine wpQuiet_nil ?_))
  rintro w3 ⟨hg3, hs3⟩ - -
  have hR := block_keptp hg3 HR0.out (by omega)
  refine wpList_store_row rfl _ _ _ rfl (w.heap.size + 1) #[.int .i64 x, .int .i64 y, .int .i64 z] rfl rfl _ _ hR (by kernel_rfl) rfl (by simp [Value.oneCell']) ?_
  obtain ⟨e0, e1, e2⟩ := cells3 (setRow_at (cs := #[.int .i64 x, .int .i64 y, .int .i64 z]) hR)
  have HGE := Lib.hid (gb_setRow (cs := #[.int .i64 x, .int .i64 y, .int .i64 z]) (gb_trans HG0.out hg3) (g := w.heap.size + 1) (.inl (by omega)))
  have HSE : Hid (Src B (w3.setRow (w.heap.size + 1) #[.int .i64 x, .int .i64 y, .int .i64 z]) p) := Lib.hid (hs3.later (row := some (w.heap.size + 1)) ⟨rfl, rfl, rfl, by simp [World.setRow], fun i _ hr => setRow_far (fun e => hr (by rw [e]))⟩ (fun q hq => by simp at hq; omega))
  clear hg3 hs3 hR hne d0 d1 d2 d3 d4 d5 c0 c1 c2 c3 c4 c5
  refine wpList_nil ?_
  simp only [Act.put, List.setIfInBounds_toArray, List.set_cons_zero, List.set_cons_succ]
  go_wp2
  exact bodyPost_ret (v := .agg #[.int .i64 x, .int .i64 y, .int .i64 z]) (by simp [results, Tryz.results14, go_sem, e0, e1, e2]) rfl ⟨_, _, _, rfl, by omega, HSE.out, HGE.out⟩
end LRgPos
section LRgLit
open Go.RowKit Rg
section
end
theorem At3.draw {B p : Nat} {Pd : Int → Int → Int → Prop} {w : World} {e : Ending} {w' : World} (h : At3 B p Pd w e w') : ∃ v, e = .returned v ∧ (∃ x y z, v = .agg #[.int .i64 x, .int .i64 y, .int .i64 z] ∧ Pd x y z) ∧ Src B w' p ∧ w.grownBy w' (some p) := by
  obtain ⟨x, y, z, rfl, h1, h2, h3⟩ := h
  exact ⟨_, rfl, ⟨x, y, z, rfl, h1⟩, h2, h3⟩
theorem At6.draw {B p : Nat} {Pd : Int → Int → Int → Int → Int → Int → Prop} {w : World} {e : Ending} {w' : World} (h : At6 B p Pd w e w') : ∃ v, e = .returned v ∧ (∃ x y z a b c, v = .agg #[.int .i64 x, .int .i64 y, .int .i64 z, .int .i64 a, .int .i64 b, .int .i64 c] ∧ Pd x y z a b c) ∧ Src B w' p ∧ w.grownBy w' (some p) := by
  obtain ⟨x, y, z, a, b, c, rfl, h1, h2, h3⟩ := h
  exact ⟨_, rfl, ⟨x, y, z, a, b, c, rfl, h1⟩, h2, h3⟩
end LRgLit
end Go.Proofs.YtgaglgopbdfemaaGreatDoor
namespace Go.Proofs.YtgaglgopbdfemaaGreatDoor
set_option linter.all false
section LTri
open Go.RowKit
theorem sq_nn (a : Int) : 0 ≤ a * a := by
  rcases Int.le_total 0 a with h | h
  · exact Int.mul_nonneg h h
  · have := Int.mul_nonneg (Int.neg_nonneg_of_nonpos h) (Int.neg_nonneg_of_nonpos h); rwa [Int.neg_mul_neg] at this
theorem sq3_zero {a b c : Int} (h : a*a+b*b+c*c = 0) : a = 0 ∧ b = 0 ∧ c = 0 := by
  have := sq_nn a; have := sq_nn b; have := sq_nn c
  refine ⟨?_, ?_, ?_⟩
  · have : a * a = 0 := by omega
    exact (Int.mul_eq_zero.1 this).elim id id
  · have : b * b = 0 := by omega
    exact (Int.mul_eq_zero.1 this).elim id id
  · have : c * c = 0 := by omega
    exact (Int.mul_eq_zero.1 this).elim id id
theorem sqD_comm (x0 y0 z0 x1 y1 z1 : Int) : sqD x0 y0 z0 x1 y1 z1 = sqD x1 y1 z1 x0 y0 z0 := by unfold sqD; grind
theorem sqD_nonneg (x0 y0 z0 x1 y1 z1 : Int) : 0 ≤ sqD x0 y0 z0 x1 y1 z1 := by
  have := sq_nn (x0 - x1); have := sq_nn (y0 - y1); have := sq_nn (z0 - z1)
  unfold sqD; omega
theorem ceilI_sq_ge {n : Int} (h : 0 ≤ n) : 0 ≤ ceilI n ∧ n ≤ ceilI n * ceilI n := by
  obtain ⟨f1, f2⟩ := floorI_spec h
  have f0 : 0 ≤ floorI n := by unfold floorI; omega
  unfold ceilI; split
  · exact ⟨by omega, by omega⟩
  · exact ⟨f0, by omega⟩
/-- Two positions are equal. -/
def same3 (x0 y0 z0 x1 y1 z1 : Int) : Bool := x0 == x1 && y0 == y1 && z0 == z1
theorem same3_iff {x0 y0 z0 x1 y1 z1 : Int} : same3 x0 y0 z0 x1 y1 z1 = true ↔ x0 = x1 ∧ y0 = y1 ∧ z0 = z1 := by simp [same3, and_assoc]
theorem run_same3 (x0 y0 z0 x1 y1 z1 : Int) (w : World) :
    (binOp .eql 26 (.agg #[.int .i64 x0, .int .i64 y0, .int .i64 z0]) (.agg #[.int .i64 x1, .int .i64 y1, .int .i64 z1])).run Tryz.prog w = .ok (.bool (same3 x0 y0 z0 x1 y1 z1)) w := by
  unfold same3
  by_cases h0 : x0 = x1 <;> by_cases h1 : y0 = y1 <;> by_cases h2 : z0 = z1 <;> simp [go_sem, h0, h1, h2]
attribute [go_sem high] run_same3
end LTri
section LGeoP
open Go.RowKit
/-- Two boxes are equal. -/
def same6 (x0 y0 z0 x1 y1 z1 a0 b0 c0 a1 b1 c1 : Int) : Bool := x0 == a0 && y0 == b0 && z0 == c0 && x1 == a1 && y1 == b1 && z1 == c1
theorem run_in3 (x0 y0 z0 x1 y1 z1 : Int) (w : World) :
    (Op.equalIn 9999 26 (.agg #[.int .i64 x0, .int .i64 y0, .int .i64 z0]) (.agg #[.int .i64 x1, .int .i64 y1, .int .i64 z1])).run Tryz.prog w = .ok (same3 x0 y0 z0 x1 y1 z1) w := by
  unfold same3
  by_cases h0 : x0 = x1 <;> by_cases h1 : y0 = y1 <;> by_cases h2 : z0 = z1 <;> simp [go_sem, h0, h1, h2]
theorem same6_same3 (x0 y0 z0 x1 y1 z1 a0 b0 c0 a1 b1 c1 : Int) : same6 x0 y0 z0 x1 y1 z1 a0 b0 c0 a1 b1 c1 = (same3 x0 y0 z0 a0 b0 c0 && same3 x1 y1 z1 a1 b1 c1) := by simp [same6, same3, Bool.and_assoc]
attribute [local go_sem high] run_in3
theorem run_neq6 (x0 y0 z0 x1 y1 z1 a0 b0 c0 a1 b1 c1 : Int) (w : World) :
    (binOp .neq 28 (.agg #[.int .i64 x0, .int .i64 y0, .int .i64 z0, .int .i64 x1, .int .i64 y1, .int .i64 z1]) (.agg #[.int .i64 a0, .int .i64 b0, .int .i64 c0, .int .i64 a1, .int .i64 b1, .int .i64 c1])).run Tryz.prog w = .ok (.bool (!same6 x0 y0 z0 x1 y1 z1 a0 b0 c0 a1 b1 c1)) w := by
  rw [same6_same3]
  cases h : same3 x0 y0 z0 a0 b0 c0 <;> cases h' : same3 x1 y1 z1 a1 b1 c1 <;> simp [go_sem, h, h']
theorem run_eql6 (x0 y0 z0 x1 y1 z1 a0 b0 c0 a1 b1 c1 : Int) (w : World) :
    (binOp .eql 28 (.agg #[.int .i64 x0, .int .i64 y0, .int .i64 z0, .int .i64 x1, .int .i64 y1, .int .i64 z1]) (.agg #[.int .i64 a0, .int .i64 b0, .int .i64 c0, .int .i64 a1, .int .i64 b1, .int .i64 c1])).run Tryz.prog w = .ok (.bool (same6 x0 y0 z0 x1 y1 z1 a0 b0 c0 a1 b1 c1)) w := by
  rw [same6_same3]
  cases h : same3 x0 y0 z0 a0 b0 c0 <;> cases h' : same3 x1 y1 z1 a1 b1 c1 <;> simp [go_sem, h, h']
attribute [go_sem high] run_neq6 run_eql6
theorem vP_mk {x y z : Int} (h : -1048576 ≤ x ∧ x ≤ 1048576 ∧ -1048576 ≤ y ∧ y ≤ 1048576 ∧ -16384 ≤ z ∧ z ≤ 1048576) : vP x y z = true := by simp [vP]; omega
theorem bP_mk {x0 y0 z0 x1 y1 z1 : Int} (h0 : vP x0 y0 z0 = true) (h1 : vP x1 y1 z1 = true) (hx : x0 ≤ x1) (hy : y0 ≤ y1) (hz : z0 ≤ z1) : bP x0 y0 z0 x1 y1 z1 = true := by simp [bP, h0, h1, hx, hy, hz]
theorem nearS_zero {x lo hi : Int} : nearS x lo hi = 0 ↔ lo ≤ x ∧ x ≤ hi := by unfold nearS; omega
theorem conP_iff {x0 y0 z0 x1 y1 z1 px py pz : Int} : conP x0 y0 z0 x1 y1 z1 px py pz = true ↔ bP x0 y0 z0 x1 y1 z1 = true ∧ vP px py pz = true ∧ x0 ≤ px ∧ px ≤ x1 ∧ y0 ≤ py ∧ py ≤ y1 ∧ z0 ≤ pz ∧ pz ≤ z1 := by
  unfold conP
  rw [Bool.and_eq_true, Bool.and_eq_true, decide_eq_true_eq]
  constructor
  · rintro ⟨⟨h1, h2⟩, h3⟩
    unfold nearP at h3; rw [h1, h2] at h3; simp only [Bool.and_self, if_true] at h3
    obtain ⟨a, b, c⟩ := sq3_zero h3
    rw [nearS_zero] at a b c
    exact ⟨h1, h2, a.1, a.2, b.1, b.2, c.1, c.2⟩
  · rintro ⟨h1, h2, a0, a1, b0, b1, c0, c1⟩
    refine ⟨⟨h1, h2⟩, ?_⟩
    unfold nearP nearD; rw [h1, h2, nearS_zero.2 ⟨a0, a1⟩, nearS_zero.2 ⟨b0, b1⟩, nearS_zero.2 ⟨c0, c1⟩]; simp
theorem wiP_iff {a0 b0 c0 a1 b1 c1 x0 y0 z0 x1 y1 z1 : Int} : wiP a0 b0 c0 a1 b1 c1 x0 y0 z0 x1 y1 z1 = true ↔ bP a0 b0 c0 a1 b1 c1 = true ∧ bP x0 y0 z0 x1 y1 z1 = true ∧ x0 ≤ a0 ∧ a1 ≤ x1 ∧ y0 ≤ b0 ∧ b1 ≤ y1 ∧ z0 ≤ c0 ∧ c1 ≤ z1 := by
  unfold wiP
  rw [Bool.and_eq_true, Bool.and_eq_true, conP_iff, conP_iff]
  constructor
  · rintro ⟨⟨h1, h2, h3, h4⟩, h5, h6, h7⟩
    exact ⟨h1, h2, by omega, by omega, by omega, by omega, by omega, by omega⟩
  · rintro ⟨h1, h2, h3⟩
    obtain ⟨v0, v1, o0, o1, o2⟩ := bP_iff h1
    exact ⟨⟨h1, h2, v0, by omega⟩, h2, v1, by omega⟩
theorem sq_up {a b : Int} (h0 : 0 ≤ a) (h : a ≤ b) : a * a ≤ b * b := Int.mul_le_mul h h h0 (by omega)
/-- A greater box is nearer, and reaches farther. -/
theorem near_up {a0 b0 c0 a1 b1 c1 h0 g0 k0 h1 g1 k1 px py pz : Int} (hx : h0 ≤ a0 ∧ a1 ≤ h1) (hy : g0 ≤ b0 ∧ b1 ≤ g1) (hz : k0 ≤ c0 ∧ c1 ≤ k1) : nearD h0 g0 k0 h1 g1 k1 px py pz ≤ nearD a0 b0 c0 a1 b1 c1 px py pz := by
  have i : nearS px h0 h1 * nearS px h0 h1 ≤ nearS px a0 a1 * nearS px a0 a1 := sq_up (by unfold nearS; omega) (by unfold nearS; omega)
  have j : nearS py g0 g1 * nearS py g0 g1 ≤ nearS py b0 b1 * nearS py b0 b1 := sq_up (by unfold nearS; omega) (by unfold nearS; omega)
  have k : nearS pz k0 k1 * nearS pz k0 k1 ≤ nearS pz c0 c1 * nearS pz c0 c1 := sq_up (by unfold nearS; omega) (by unfold nearS; omega)
  unfold nearD; omega
theorem far_up {a0 b0 c0 a1 b1 c1 h0 g0 k0 h1 g1 k1 px py pz : Int} (hx : h0 ≤ a0 ∧ a0 ≤ a1 ∧ a1 ≤ h1) (hy : g0 ≤ b0 ∧ b0 ≤ b1 ∧ b1 ≤ g1) (hz : k0 ≤ c0 ∧ c0 ≤ c1 ∧ c1 ≤ k1) : farD a0 b0 c0 a1 b1 c1 px py pz ≤ farD h0 g0 k0 h1 g1 k1 px py pz := by
  have i : farS px a0 a1 * farS px a0 a1 ≤ farS px h0 h1 * farS px h0 h1 := sq_up (by unfold farS; omega) (by unfold farS; omega)
  have j : farS py b0 b1 * farS py b0 b1 ≤ farS py g0 g1 * farS py g0 g1 := sq_up (by unfold farS; omega) (by unfold farS; omega)
  have k : farS pz c0 c1 * farS pz c0 c1 ≤ farS pz k0 k1 * farS pz k0 k1 := sq_up (by unfold farS; omega) (by unfold farS; omega)
  unfold farD; omega
theorem nearP_ok {x0 y0 z0 x1 y1 z1 px py pz : Int} (h : bP x0 y0 z0 x1 y1 z1 = true) (h' : vP px py pz = true) : nearP x0 y0 z0 x1 y1 z1 px py pz = nearD x0 y0 z0 x1 y1 z1 px py pz := by simp [nearP, h, h']
theorem farP_ok {x0 y0 z0 x1 y1 z1 px py pz : Int} (h : bP x0 y0 z0 x1 y1 z1 = true) (h' : vP px py pz = true) : farP x0 y0 z0 x1 y1 z1 px py pz = farD x0 y0 z0 x1 y1 z1 px py pz := by simp [farP, h, h']
theorem boxIn_ok {most side x0 y0 z0 x1 y1 z1 : Int} (h : boxIn most side x0 y0 z0 x1 y1 z1) (h1 : most ≤ 1000) (h2 : side ≤ 1000) : bP x0 y0 z0 x1 y1 z1 = true := by
  obtain ⟨⟨a, b, c, d, e, f⟩, g⟩ := h
  exact bP_mk (vP_mk (by omega)) (vP_mk (by omega)) (by omega) (by omega) (by omega)
end LGeoP
end Go.Proofs.YtgaglgopbdfemaaGreatDoor
