/- GeoS -/
import Derived.BigRegion
import Derived.Test.YtgaglgopbdfemaaGreatDoorTmGeo
namespace Go.Proofs.YtgaglgopbdfemaaGreatDoor
set_option linter.all false
section LGeoH
open Go.RowKit Rg
/-- The axis along which a box is split. -/
def axis (dx dy dz : Int) : Nat := if dx < dy then (if dy < dz then 2 else 1) else (if dx < dz then 2 else 0)
def spE (v : Bool) (ax k : Nat) (a b : Int) : Int := if v then (if ax = k then midI a b else b) else 0
def spB (v : Bool) (ax k : Nat) (a b : Int) : Int := if v then (if ax = k then midI a b + 1 else a) else 0
def keepI (v : Bool) (a : Int) : Int := if v then a else 0
def splOk (x0 y0 z0 x1 y1 z1 : Int) : Bool := decide (2 ≤ ptsP x0 y0 z0 x1 y1 z1)
def splV (v : Bool) (ax : Nat) (x0 y0 z0 x1 y1 z1 : Int) : Value :=
  .tuple #[.agg #[.int .i64 (keepI v x0), .int .i64 (keepI v y0), .int .i64 (keepI v z0), .int .i64 (spE v ax 0 x0 x1), .int .i64 (spE v ax 1 y0 y1), .int .i64 (spE v ax 2 z0 z1)],
    .agg #[.int .i64 (spB v ax 0 x0 x1), .int .i64 (spB v ax 1 y0 y1), .int .i64 (spB v ax 2 z0 z1), .int .i64 (keepI v x1), .int .i64 (keepI v y1), .int .i64 (keepI v z1)], .bool v]
theorem cells6 {w : World} {b : Nat} {x y z p q r : Value} {t : TypeId} {fr : Nat × Nat} (h : w.heap[b]? = some (.cells #[x, y, z, p, q, r] t fr)) :
    w.cell? ⟨b, 0, none⟩ = some x ∧ w.cell? ⟨b, 1, none⟩ = some y ∧ w.cell? ⟨b, 2, none⟩ = some z ∧ w.cell? ⟨b, 3, none⟩ = some p ∧ w.cell? ⟨b, 4, none⟩ = some q ∧ w.cell? ⟨b, 5, none⟩ = some r := by simp [World.cell?, h]
theorem axis_cases (x0 y0 z0 x1 y1 z1 : Int) : (y1 - y0 ≤ x1 - x0 ∧ z1 - z0 ≤ x1 - x0 ∧ axis (x1 - x0) (y1 - y0) (z1 - z0) = 0) ∨ (y1 - y0 ≤ x1 - x0 ∧ x1 - x0 < z1 - z0 ∧ axis (x1 - x0) (y1 - y0) (z1 - z0) = 2) ∨
    (x1 - x0 < y1 - y0 ∧ z1 - z0 ≤ y1 - y0 ∧ axis (x1 - x0) (y1 - y0) (z1 - z0) = 1) ∨ (x1 - x0 < y1 - y0 ∧ y1 - y0 < z1 - z0 ∧ axis (x1 - x0) (y1 - y0) (z1 - z0) = 2) := by
  unfold axis; split <;> split <;> omega
/-- Where Split's own blocks lie, and what they hold. -/
structure SplAt (w : World) (a b : Nat) (x0 y0 z0 x1 y1 z1 : Int) (u : World) : Prop where
  box : u.heap[w.heap.size]? = some (.cells #[.int .i64 x0, .int .i64 y0, .int .i64 z0, .int .i64 x1, .int .i64 y1, .int .i64 z1] 28 (0, 0))
  r1 : u.heap[w.heap.size + 1]? = some (.cells #[.int .i64 0, .int .i64 0, .int .i64 0, .int .i64 0, .int .i64 0, .int .i64 0] 28 (0, 0))
  r2 : u.heap[w.heap.size + 2]? = some (.cells #[.int .i64 0, .int .i64 0, .int .i64 0, .int .i64 0, .int .i64 0, .int .i64 0] 28 (0, 0))
  low : u.heap[a]? = some (.cells #[.int .i64 x0, .int .i64 y0, .int .i64 z0] 115 (0, 0))
  high : u.heap[b]? = some (.cells #[.int .i64 x1, .int .i64 y1, .int .i64 z1] 115 (0, 0))
  la : w.heap.size + 2 < a
  lb : w.heap.size + 2 < b
  ab : a ≠ b
  grown : w.grownBy u none
theorem SplAt.made {w : World} {a b : Nat} {x0 y0 z0 x1 y1 z1 : Int} {u u' : World} (h : SplAt w a b x0 y0 z0 x1 y1 z1 u) (hg : u.grownBy u' none) : SplAt w a b x0 y0 z0 x1 y1 z1 u' :=
  ⟨block_kept hg h.box rfl, block_kept hg h.r1 rfl, block_kept hg h.r2 rfl, block_kept hg h.low rfl, block_kept hg h.high rfl, h.la, h.lb, h.ab, gb_trans h.grown hg⟩
/-- .. with the two halves' corners as well. -/
structure SplAt2 (w : World) (a b c d : Nat) (x0 y0 z0 x1 y1 z1 e0 e1 e2 f0 f1 f2 : Int) (u : World) : Prop where
  base : SplAt w a b x0 y0 z0 x1 y1 z1 u
  fin : u.heap[c]? = some (.cells #[.int .i64 e0, .int .i64 e1, .int .i64 e2] 115 (0, 0))
  beg : u.heap[d]? = some (.cells #[.int .i64 f0, .int .i64 f1, .int .i64 f2] 115 (0, 0))
  ac : a < c ∧ b < c ∧ a < d ∧ b < d
  cd : c ≠ d
theorem SplAt2.made {w : World} {a b c d : Nat} {x0 y0 z0 x1 y1 z1 e0 e1 e2 f0 f1 f2 : Int} {u u' : World} (h : SplAt2 w a b c d x0 y0 z0 x1 y1 z1 e0 e1 e2 f0 f1 f2 u) (hg : u.grownBy u' none) : SplAt2 w a b c d x0 y0 z0 x1 y1 z1 e0 e1 e2 f0 f1 f2 u' :=
  ⟨h.base.made hg, block_kept hg h.fin rfl, block_kept hg h.beg rfl, h.ac, h.cd⟩
theorem SplAt.far {w : World} {a b : Nat} {x0 y0 z0 x1 y1 z1 : Int} {u : World} (h : SplAt w a b x0 y0 z0 x1 y1 z1 u) {c : Nat} (hc : a < c ∧ b < c) (k : Nat) (v : Value) : SplAt w a b x0 y0 z0 x1 y1 z1 (u.setCell ⟨c, k, none⟩ v) := by
  have := h.la; have := h.lb
  refine ⟨(setCell_far ?_).trans h.box, (setCell_far ?_).trans h.r1, (setCell_far ?_).trans h.r2, (setCell_far ?_).trans h.low, (setCell_far ?_).trans h.high, h.la, h.lb, h.ab, gb_setCell h.grown (.inl ?_) _⟩ <;> (show _; simp only []; omega)
theorem SplAt.farRow {w : World} {a b : Nat} {x0 y0 z0 x1 y1 z1 : Int} {u : World} (h : SplAt w a b x0 y0 z0 x1 y1 z1 u) {c : Nat} (hc : a < c ∧ b < c) (cs : Array Value) : SplAt w a b x0 y0 z0 x1 y1 z1 (u.setRow c cs) := by
  have := h.la; have := h.lb
  exact ⟨(setRow_far (by omega)).trans h.box, (setRow_far (by omega)).trans h.r1, (setRow_far (by omega)).trans h.r2, (setRow_far (by omega)).trans h.low, (setRow_far (by omega)).trans h.high, h.la, h.lb, h.ab, gb_setRow h.grown (.inl (by omega))⟩
set_option maxRecDepth 100000 in
set_option maxHeartbeats 4000000 in
theorem split_any (x0 y0 z0 x1 y1 z1 : Int) (w : World) :
    Calls Tryz.prog 38 #[.agg #[.int .i64 x0, .int .i64 y0, .int .i64 z0, .int .i64 x1, .int .i64 y1, .int .i64 z1]] w fun e w' => e = .returned (splV (splOk x0 y0 z0 x1 y1 z1) (axis (x1 - x0) (y1 - y0) (z1 - z0)) x0 y0 z0 x1 y1 z1) ∧ w.grownBy w' none := by
  go_enter Tryz.func38, Tryz.ntmps38
  go_wp2_with fail
  (with_reducible refine (points_any _ _ _ _ _ _ _).mono ?_)
  rintro e w1 ⟨rfl, hg1⟩
  have HB1 := Lib.hid (show w1.heap[w.heap.size]? = some (.cells #[.int .i64 x0, .int .i64 y0, .int .i64 z0, .int .i64 x1, .int .i64 y1, .int .i64 z1] 28 (0, 0)) from block_kept hg1 (by rw [heap_alloc_old _ _ (by simp; omega), heap_alloc_old _ _ (by simp), heap_alloc_new]) rfl)
  have HR1 := Lib.hid (show w1.heap[w.heap.size + 1]? = some (.cells #[.int .i64 0, .int .i64 0, .int .i64 0, .int .i64 0, .int .i64 0, .int .i64 0] 28 (0, 0)) from block_kept hg1 (by rw [heap_alloc_old _ _ (by simp)]; simpa using heap_alloc_new (w.alloc _) _) rfl)
  have HS1 := Lib.hid (show w1.heap[w.heap.size + 2]? = some (.cells #[.int .i64 0, .int .i64 0, .int .i64 0, .int .i64 0, .int .i64 0, .int .i64 0] 28 (0, 0)) from block_kept hg1 (by simpa using heap_alloc_new ((w.alloc _).alloc _) _) rfl)
  have HG1 := Lib.hid (gb_trans (gb_alloc (gb_alloc (gb_alloc (gb_refl _ _) _) _) _) hg1); clear hg1
  by_cases hp : 2 ≤ ptsP x0 y0 z0 x1 y1 z1
  rotate_left
  · have hp' : ptsP x0 y0 z0 x1 y1 z1 < 2 := by omega
    have hR := HR1.out; have hS := (setRow_far (g := w.heap.size + 1) (b := w.heap.size + 2) (cs := #[.int .i64 0, .int .i64 0, .int .i64 0, .int .i64 0, .int .i64 0, .int .i64 0]) (by omega)).trans HS1.out
    have HN1 := Lib.hid ((setRow_far (g := w.heap.size + 2) (b := w.heap.size + 1) (cs := #[.int .i64 0, .int .i64 0, .int .i64 0, .int .i64 0, .int .i64 0, .int .i64 0]) (by omega)).trans (setRow_at (cs := #[.int .i64 0, .int .i64 0, .int .i64 0, .int .i64 0, .int .i64 0, .int .i64 0]) hR))
    have HN2 := Lib.hid (setRow_at (cs := #[.int .i64 0, .int .i64 0, .int .i64 0, .int .i64 0, .int .i64 0, .int .i64 0]) hS)
    have HGE := Lib.hid (gb_setRow (cs := #[.int .i64 0, .int .i64 0, .int .i64 0, .int .i64 0, .int .i64 0, .int .i64 0]) (gb_setRow (cs := #[.int .i64 0, .int .i64 0, .int .i64 0, .int .i64 0, .int .i64 0, .int .i64 0]) HG1.out (g := w.heap.size + 1) (.inl (by omega))) (g := w.heap.size + 2) (.inl (by omega)))
    have HV := Lib.hid (show splOk x0 y0 z0 x1 y1 z1 = false from by simp [splOk]; omega)
    clear hp
    go_wp2_with (first
      | (with_reducible refine wpList_store_row rfl _ _ _ rfl (w.heap.size + 1) #[.int .i64 0, .int .i64 0, .int .i64 0, .int .i64 0, .int .i64 0, .int .i64 0] rfl rfl _ _ hR (by kernel_rfl) rfl (by simp [Value.oneCell']) ?_)
      | (with_reducible refine wpList_store_row rfl _ _ _ rfl (w.heap.size + 2) #[.int .i64 0, .int .i64 0, .int .i64 0, .int .i64 0, .int .i64 0, .int .i64 0] rfl rfl _ _ hS (by kernel_rfl) rfl (by simp [Value.oneCell']) ?_))
    obtain ⟨e0, e1, e2, e3, e4, e5⟩ := cells6 HN1.out
    obtain ⟨d0, d1, d2, d3, d4, d5⟩ := cells6 HN2.out
    refine bodyPost_ret (v := splV false 0 x0 y0 z0 x1 y1 z1) (by simp [results, Tryz.results38, go_sem, e0, e1, e2, e3, e4, e5, d0, d1, d2, d3, d4, d5, splV, keepI, spE, spB]) rfl ⟨by rw [HV.out]; simp [splV, keepI, spE, spB], HGE.out⟩
  have hbp : bP x0 y0 z0 x1 y1 z1 = true := by
    cases e : bP x0 y0 z0 x1 y1 z1
    · unfold ptsP at hp; rw [e] at hp; simp at hp
    · rfl
  have HV := Lib.hid (show splOk x0 y0 z0 x1 y1 z1 = true from by simp [splOk]; omega)
  have hp' : ¬ ptsP x0 y0 z0 x1 y1 z1 < 2 := by omega
  obtain ⟨b0, b1, b2, b3, b4⟩ := bP_iff hbp
  have hi0 := vP_iff b0
  have hi1 := vP_iff b1
  clear hbp b0 b1
  obtain ⟨q0, q1, q2, q3, q4, q5⟩ := cells6 HB1.out
  have hza := block_lt HB1.out
  have cq := Made.cells hza
  go_wp2_with fail
  refine Rg.region (Made w1) Makes (fun k => if k = 2 then some (isV (.agg #[.int .i64 x0, .int .i64 y0, .int .i64 z0])) else if k = 5 then some (isV (.agg #[.int .i64 x1, .int .i64 y1, .int .i64 z1])) else if k = 6 then some (isNew w1 #[.int .i64 0, .int .i64 0, .int .i64 0] 115) else if k = 7 then some (isNew w1 #[.int .i64 0, .int .i64 0, .int .i64 0] 115) else none)
    (fun k => k == 6 || k == 7) 0 8 (by kernel_rfl) (by kernel_rfl) (by kernel_rfl) (by kernel_rfl) (by kernel_rfl) (by kernel_rfl) (by kernel_rfl) Makes.size (Made.start w1) (fun hne => ?_)
  (repeat (refine rLexL_quiet (by rfl) (by rfl) (by rfl) (by rfl) ?_; go_big_quiet_step (fail); refine wpQuiet_nil ?_))
  refine rg_fix (.agg #[.int .i64 x0, .int .i64 y0, .int .i64 z0]) 33 #[.agg #[.int .i64 x0, .int .i64 y0, .int .i64 z0]] rfl rfl rfl (fun _ => by go_simp) (fun u hu => of_any _ _ _ u) ?_
  simp only [Act.put, List.setIfInBounds_toArray, List.set_cons_zero, List.set_cons_succ]
  (repeat (refine rLexL_quiet (by rfl) (by rfl) (by rfl) (by rfl) ?_; go_big_quiet_step (fail); refine wpQuiet_nil ?_))
  refine rg_fix (.agg #[.int .i64 x1, .int .i64 y1, .int .i64 z1]) 33 #[.agg #[.int .i64 x1, .int .i64 y1, .int .i64 z1]] rfl rfl rfl (fun _ => by go_simp) (fun u hu => of_any _ _ _ u) ?_
  simp only [Act.put, List.setIfInBounds_toArray, List.set_cons_zero, List.set_cons_succ]
  refine rg_new #[.int .i64 0, .int .i64 0, .int .i64 0] 115 rfl rfl (fun _ => by go_simp) (fun a ha => ?_)
  simp only [Act.put, List.setIfInBounds_toArray, List.set_cons_zero, List.set_cons_succ]
  refine rg_new #[.int .i64 0, .int .i64 0, .int .i64 0] 115 rfl rfl (fun _ => by go_simp) (fun b hb => ?_)
  simp only [Act.put, List.setIfInBounds_toArray, List.set_cons_zero, List.set_cons_succ]
  rintro wq hq hf hD
  have ha5 := isNew.out (hf 6)
  have hb5 := isNew.out (hf 7)
  have hab : a ≠ b := (hD 6 _ _ rfl (by kernel_rfl) rfl rfl a rfl (Nat.zero_le _)).2 7 _ _ rfl (by decide) (by kernel_rfl) rfl rfl b rfl (Nat.zero_le _)
  refine wpList_store_row rfl _ _ _ rfl a #[.int .i64 x0, .int .i64 y0, .int .i64 z0] rfl rfl _ _ ha5 (by kernel_rfl) rfl (by simp [Value.oneCell']) ?_
  have hb6 := (setRow_far (cs := #[.int .i64 x0, .int .i64 y0, .int .i64 z0]) (Ne.symm hab)).trans hb5
  refine wpList_store_row rfl _ _ _ rfl b #[.int .i64 x1, .int .i64 y1, .int .i64 z1] rfl rfl _ _ hb6 (by kernel_rfl) rfl (by simp [Value.oneCell']) ?_
  have hb7 := setRow_at (cs := #[.int .i64 x1, .int .i64 y1, .int .i64 z1]) hb6
  have ha7 := (setRow_far (g := b) (cs := #[.int .i64 x1, .int .i64 y1, .int .i64 z1]) hab).trans (setRow_at (cs := #[.int .i64 x0, .int .i64 y0, .int .i64 z0]) ha5)
  have hg7 : w1.grownBy ((wq.setRow a #[.int .i64 x0, .int .i64 y0, .int .i64 z0]).setRow b #[.int .i64 x1, .int .i64 y1, .int .i64 z1]) none := gb_setRow (gb_setRow hq (.inl ha)) (.inl hb)
  generalize (wq.setRow a #[.int .i64 x0, .int .i64 y0, .int .i64 z0]).setRow b #[.int .i64 x1, .int .i64 y1, .int .i64 z1] = w3 at *
  clear hf hD ha5 hb5 hb6 hq hne
  refine wpList_nil ?_
  simp only [Act.put, List.setIfInBounds_toArray, List.set_cons_zero, List.set_cons_succ]
  have hsp : SplAt w a b x0 y0 z0 x1 y1 z1 w3 := ⟨block_kept hg7 HB1.out rfl, block_kept hg7 HR1.out rfl, block_kept hg7 HS1.out rfl, ha7, hb7, by have := block_lt HS1.out; omega, by have := block_lt HS1.out; omega, hab, gb_trans HG1.out hg7⟩
  have HSP := Lib.hid hsp
  clear hsp hg7 ha7 hb7 HB1 HR1 HS1 HG1 q0 q1 q2 q3 q4 q5 cq hp hp' hza ha hb hab
  obtain ⟨a0, a1, a2⟩ := cells3 HSP.out.low
  obtain ⟨b0, b1, b2⟩ := cells3 HSP.out.high
  rcases axis_cases x0 y0 z0 x1 y1 z1 with ⟨h1, h2, h3⟩ | ⟨h1, h2, h3⟩ | ⟨h1, h2, h3⟩ | ⟨h1, h2, h3⟩
  · have HX := Lib.hid (show splV (splOk x0 y0 z0 x1 y1 z1) (axis (x1 - x0) (y1 - y0) (z1 - z0)) x0 y0 z0 x1 y1 z1 = .tuple #[.agg #[.int .i64 x0, .int .i64 y0, .int .i64 z0, .int .i64 (midI x0 x1), .int .i64 y1, .int .i64 z1], .agg #[.int .i64 (midI x0 x1 + 1), .int .i64 y0, .int .i64 z0, .int .i64 x1, .int .i64 y1, .int .i64 z1], .bool true] from by rw [HV.out, h3]; simp [splV, keepI, spE, spB])
    have HM := Lib.hid (fun (u v : World) => middle_made x0 x1 u (by omega) (by omega) (by omega) v)
    have hm : -2000000 ≤ midI x0 x1 ∧ midI x0 x1 ≤ 2000000 := by unfold midI; omega
    generalize midI x0 x1 = m at *
    clear HV h3
    go_wp2_with fail
    refine wp_loop_rounds 4 ?_
    rw [rounds_succ]
    go_wp2
    go_quiet (fail)
    have HSP1 := Lib.hid (HSP.out.made (gb_drewN (gb_refl _ _) nq))
    generalize w3.drewN nq = w4 at *
    clear a0 a1 a2 b0 b1 b2 HSP
    obtain ⟨a0, a1, a2⟩ := cells3 HSP1.out.low
    obtain ⟨b0, b1, b2⟩ := cells3 HSP1.out.high
    go_wp2
    rw [rounds_succ]
    go_wp2
    go_quiet (fail)
    have HSP2 := Lib.hid (HSP1.out.made (gb_drewN (gb_refl _ _) nq))
    generalize w4.drewN nq = w5 at *
    clear a0 a1 a2 b0 b1 b2 HSP1
    obtain ⟨a0, a1, a2⟩ := cells3 HSP2.out.low
    obtain ⟨b0, b1, b2⟩ := cells3 HSP2.out.high
    go_wp2
    rw [rounds_succ]
    go_wp2
    go_quiet (fail)
    have HSP3 := Lib.hid (HSP2.out.made (gb_drewN (gb_refl _ _) nq))
    generalize w5.drewN nq = w6 at *
    clear a0 a1 a2 b0 b1 b2 HSP2
    obtain ⟨a0, a1, a2⟩ := cells3 HSP3.out.low
    obtain ⟨b0, b1, b2⟩ := cells3 HSP3.out.high
    go_wp2
    rw [rounds_succ]
    have la := Made.cells (block_lt HSP3.out.low)
    have lb := Made.cells (block_lt HSP3.out.high)
    go_wp2_with fail
    refine Rg.region (Made w6) (MakesS 4) (fun k => if k = 2 then some (isVar w6 3 115) else if k = 3 then some (isVar w6 3 115) else if k = 4 then some (isRow #[.int .i64 x1, .int .i64 y1, .int .i64 z1] 115) else none) (fun k => k == 2 || k == 3) 0 5 (by kernel_rfl) (by kernel_rfl) (by kernel_rfl) (by kernel_rfl) (by kernel_rfl) (by kernel_rfl) (by kernel_rfl) (MakesS.size 4) (Made.start w6) (fun hne => ?_)
    (repeat (refine rLexL_quiet (by rfl) (by rfl) (by rfl) (by rfl) ?_; go_big_quiet_step (fail); refine wpQuiet_nil ?_))
    refine rg_var #[.int .i64 0, .int .i64 0, .int .i64 0] 115 (by decide) rfl rfl (fun _ => by go_simp) (fun c hc => ?_)
    simp only [Act.put, List.setIfInBounds_toArray, List.set_cons_zero, List.set_cons_succ]
    refine rg_var #[.int .i64 0, .int .i64 0, .int .i64 0] 115 (by decide) rfl rfl (fun _ => by go_simp) (fun d hd => ?_)
    simp only [Act.put, List.setIfInBounds_toArray, List.set_cons_zero, List.set_cons_succ]
    refine rg_storeRow c #[.int .i64 x1, .int .i64 y1, .int .i64 z1] 115 _ _ _ 2 ⟨⟨2, .data⟩, by simp, rfl, rfl⟩ rfl rfl rfl rfl (by kernel_rfl) (by simp [Value.oneCell']) hc rfl rfl rfl ?_ rfl
    simp only [Act.put, List.setIfInBounds_toArray, List.set_cons_zero, List.set_cons_succ]
    rintro wq hq hf hD
    have hc6 := isRow.out (v := undef) (hf 4)
    obtain ⟨dcs, hdcs, hd6⟩ := isVar.out (hf 3)
    have hcd : c ≠ d := (hD 2 _ _ rfl (by kernel_rfl) rfl rfl c rfl (Nat.zero_le _)).2 3 _ _ rfl (by decide) (by kernel_rfl) rfl rfl d rfl (Nat.zero_le _)
    refine wpList_store_row rfl _ _ _ rfl d #[.int .i64 x0, .int .i64 y0, .int .i64 z0] rfl rfl _ _ hd6 (by kernel_rfl) hdcs (by simp [Value.oneCell']) ?_
    have hl := block_lt HSP3.out.low; have hh := block_lt HSP3.out.high
    have hs2 : SplAt2 w a b c d x0 y0 z0 x1 y1 z1 x1 y1 z1 x0 y0 z0 (wq.setRow d #[.int .i64 x0, .int .i64 y0, .int .i64 z0]) :=
      ⟨(HSP3.out.made hq).farRow (by omega) _, (setRow_far hcd).trans hc6, setRow_at hd6, by omega, hcd⟩
    have HS2 := Lib.hid hs2
    generalize wq.setRow d #[.int .i64 x0, .int .i64 y0, .int .i64 z0] = w7 at *
    clear hf hD hc6 hd6 hdcs hs2 hq hne la lb a0 a1 a2 b0 b1 b2 HSP3 hc hd hl hh hcd
    refine wpList_nil ?_
    simp only [Act.put, List.setIfInBounds_toArray, List.set_cons_zero, List.set_cons_succ]
    obtain ⟨a0, a1, a2⟩ := cells3 HS2.out.base.low
    obtain ⟨b0, b1, b2⟩ := cells3 HS2.out.base.high
    have la := Made.cells (block_lt HS2.out.base.low)
    have lb := Made.cells (block_lt HS2.out.base.high)
    go_wp2_with fail
    refine Rg.region (Made w7) Makes (fun k => if k = 7 then some (isV (.int .i64 m)) else none) (fun _ => false) 0 9 (by kernel_rfl) (by kernel_rfl) (by kernel_rfl) (by kernel_rfl) (by kernel_rfl) (by kernel_rfl) (by kernel_rfl) Makes.size (Made.start w7) (fun hne => ?_)
    (repeat (refine rLexL_quiet (by rfl) (by rfl) (by rfl) (by rfl) ?_; go_big_quiet_step (fail); refine wpQuiet_nil ?_))
    refine rg_fix (.int .i64 m) 66 #[.int .i64 x0, .int .i64 x1] rfl rfl rfl (fun _ => by go_simp) (fun u hu => HM.out _ _ hu) ?_
    simp only [Act.put, List.setIfInBounds_toArray, List.set_cons_zero, List.set_cons_succ]
    (repeat (refine rLexL_quiet (by rfl) (by rfl) (by rfl) (by rfl) ?_; go_big_quiet_step (fail); refine wpQuiet_nil ?_))
    rintro wq hq - -
    have hS := HS2.out.made hq
    have hcd := hS.cd
    have HS3 : Hid (SplAt2 w a b c d x0 y0 z0 x1 y1 z1 m y1 z1 x0 y0 z0 (wq.setCell ⟨c, 0, none⟩ (.int .i64 m))) := Lib.hid ⟨hS.base.far ⟨hS.ac.1, hS.ac.2.1⟩ _ _, set_block hS.fin 0 (.int .i64 m), (setCell_far (Ne.symm hcd)).trans hS.beg, hS.ac, hcd⟩
    obtain ⟨p0, p1, p2⟩ := cells3 hS.fin
    have p3 := frozen3 hS.fin
    obtain ⟨r0, r1, r2⟩ := cells3 HS3.out.fin
    obtain ⟨s0, s1, s2⟩ := cells3 HS3.out.beg
    have s3 := frozen3 HS3.out.beg
    have HS4 : Hid (SplAt2 w a b c d x0 y0 z0 x1 y1 z1 m y1 z1 (m + 1) y0 z0 ((wq.setCell ⟨c, 0, none⟩ (.int .i64 m)).setCell ⟨d, 0, none⟩ (.int .i64 (m + 1)))) := Lib.hid ⟨HS3.out.base.far ⟨hS.ac.2.2.1, hS.ac.2.2.2⟩ _ _, (setCell_far hcd).trans HS3.out.fin, set_block HS3.out.beg 0 (.int .i64 (m + 1)), hS.ac, hcd⟩
    clear hS hcd hq hne la lb a0 a1 a2 b0 b1 b2 HS2
    go_wp2_with fail
    generalize (wq.setCell ⟨c, 0, none⟩ (.int .i64 m)).setCell ⟨d, 0, none⟩ (.int .i64 (m + 1)) = w8 at *
    clear p0 p1 p2 p3 r0 r1 r2 s0 s1 s2 s3 HS3
    obtain ⟨p0, p1, p2⟩ := cells3 HS4.out.fin
    obtain ⟨s0, s1, s2⟩ := cells3 HS4.out.beg
    obtain ⟨q0, q1, q2, q3, q4, q5⟩ := cells6 HS4.out.base.box
    have hla := HS4.out.base.la
    have hlb := HS4.out.base.lb
    have hac := HS4.out.ac
    have lc := MadeB.cells (r := w.heap.size + 1) (n := 6) (T := 28) (block_lt HS4.out.fin) (by omega)
    have ld := MadeB.cells (r := w.heap.size + 1) (n := 6) (T := 28) (block_lt HS4.out.beg) (by omega)
    have lq := MadeB.cells (r := w.heap.size + 1) (n := 6) (T := 28) (block_lt HS4.out.base.box) (by omega)
    refine Rg.region (MadeB w8 (w.heap.size + 1) 6 28) (MakesB 10 (w.heap.size + 1)) (fun k => if k = 3 then some (isV (.agg #[.int .i64 m, .int .i64 y1, .int .i64 z1])) else if k = 6 then some (isV (.agg #[.int .i64 (m + 1), .int .i64 y0, .int .i64 z0])) else if k = 10 then some (isAt (w.heap.size + 1) #[.int .i64 x0, .int .i64 y0, .int .i64 z0, .int .i64 m, .int .i64 y1, .int .i64 z1] 28) else none) (fun _ => false) 0 11 (by kernel_rfl) (by kernel_rfl) (by kernel_rfl) (by kernel_rfl) (by kernel_rfl) (by kernel_rfl) (by kernel_rfl) (MakesB.size 10 _) (MadeB.start HS4.out.base.r1 rfl) (fun hne => ?_)
    (repeat (refine rLexL_quiet (by rfl) (by rfl) (by rfl) (by rfl) ?_; go_big_quiet_step (fail); refine wpQuiet_nil ?_))
    refine rg_fixG MadeB.grown (MakesB.none (by decide)) (.agg #[.int .i64 m, .int .i64 y1, .int .i64 z1]) 34 #[.agg #[.int .i64 m, .int .i64 y1, .int .i64 z1]] rfl rfl rfl (fun _ => by go_simp) (fun u hu => position_any _ _ _ u) ?_
    simp only [Act.put, List.setIfInBounds_toArray, List.set_cons_zero, List.set_cons_succ]
    (repeat (refine rLexL_quiet (by rfl) (by rfl) (by rfl) (by rfl) ?_; go_big_quiet_step (fail); refine wpQuiet_nil ?_))
    refine rg_fixG MadeB.grown (MakesB.none (by decide)) (.agg #[.int .i64 (m + 1), .int .i64 y0, .int .i64 z0]) 34 #[.agg #[.int .i64 (m + 1), .int .i64 y0, .int .i64 z0]] rfl rfl rfl (fun _ => by go_simp) (fun u hu => position_any _ _ _ u) ?_
    simp only [Act.put, List.setIfInBounds_toArray, List.set_cons_zero, List.set_cons_succ]
    (repeat (refine rLexL_quiet (by rfl) (by rfl) (by rfl) (by rfl) ?_; go_big_quiet_step (fail); refine wpQuiet_nil ?_))
    refine rg_storeB (w.heap.size + 1) #[.int .i64 x0, .int .i64 y0, .int .i64 z0, .int .i64 m, .int .i64 y1, .int .i64 z1] 28 _ _ _ rfl rfl rfl (by kernel_rfl) (by simp [Value.oneCell']) rfl rfl rfl rfl ?_
    simp only [Act.put, List.setIfInBounds_toArray, List.set_cons_zero, List.set_cons_succ]
    rintro wq2 ⟨hq, -⟩ hf -
    have hR := hf 10
    have hR2 := (hq.block _ (block_lt HS4.out.base.r2) (by simp)).trans HS4.out.base.r2
    have hgw : w.grownBy wq2 none := gb_new HS4.out.base.grown hq (by simp)
    refine wpList_store_row rfl _ _ _ rfl (w.heap.size + 2) #[.int .i64 (m + 1), .int .i64 y0, .int .i64 z0, .int .i64 x1, .int .i64 y1, .int .i64 z1] rfl rfl _ _ hR2 (by kernel_rfl) rfl (by simp [Value.oneCell']) ?_
    obtain ⟨e0, e1, e2, e3, e4, e5⟩ := cells6 ((setRow_far (g := w.heap.size + 2) (b := w.heap.size + 1) (cs := #[.int .i64 (m + 1), .int .i64 y0, .int .i64 z0, .int .i64 x1, .int .i64 y1, .int .i64 z1]) (by omega)).trans hR)
    obtain ⟨d0, d1, d2, d3, d4, d5⟩ := cells6 (setRow_at (cs := #[.int .i64 (m + 1), .int .i64 y0, .int .i64 z0, .int .i64 x1, .int .i64 y1, .int .i64 z1]) hR2)
    have HGE := Lib.hid (gb_setRow (cs := #[.int .i64 (m + 1), .int .i64 y0, .int .i64 z0, .int .i64 x1, .int .i64 y1, .int .i64 z1]) hgw (g := w.heap.size + 2) (.inl (by omega)))
    clear hgw hf hla hlb hac hR hR2 hq hne lc ld lq p0 p1 p2 s0 s1 s2 q0 q1 q2 q3 q4 q5 HS4
    simp only [Act.put, List.setIfInBounds_toArray, List.set_cons_zero, List.set_cons_succ]
    go_wp2
    refine bodyPost_ret (v := .tuple #[.agg #[.int .i64 x0, .int .i64 y0, .int .i64 z0, .int .i64 m, .int .i64 y1, .int .i64 z1], .agg #[.int .i64 (m + 1), .int .i64 y0, .int .i64 z0, .int .i64 x1, .int .i64 y1, .int .i64 z1], .bool true]) (by simp [results, Tryz.results38, go_sem, e0, e1, e2, e3, e4, e5, d0, d1, d2, d3, d4, d5]) rfl ⟨by rw [HX.out], HGE.out⟩
  · have HX := Lib.hid (show splV (splOk x0 y0 z0 x1 y1 z1) (axis (x1 - x0) (y1 - y0) (z1 - z0)) x0 y0 z0 x1 y1 z1 = .tuple #[.agg #[.int .i64 x0, .int .i64 y0, .int .i64 z0, .int .i64 x1, .int .i64 y1, .int .i64 (midI z0 z1)], .agg #[.int .i64 x0, .int .i64 y0, .int .i64 (midI z0 z1 + 1), .int .i64 x1, .int .i64 y1, .int .i64 z1], .bool true] from by rw [HV.out, h3]; simp [splV, keepI, spE, spB])
    have HM := Lib.hid (fun (u v : World) => middle_made z0 z1 u (by omega) (by omega) (by omega) v)
    have hm : -2000000 ≤ midI z0 z1 ∧ midI z0 z1 ≤ 2000000 := by unfold midI; omega
    generalize midI z0 z1 = m at *
    clear HV h3
    go_wp2_with fail
    refine wp_loop_rounds 4 ?_
    rw [rounds_succ]
    go_wp2
    go_quiet (fail)
    have HSP1 := Lib.hid (HSP.out.made (gb_drewN (gb_refl _ _) nq))
    generalize w3.drewN nq = w4 at *
    clear a0 a1 a2 b0 b1 b2 HSP
    obtain ⟨a0, a1, a2⟩ := cells3 HSP1.out.low
    obtain ⟨b0, b1, b2⟩ := cells3 HSP1.out.high
    go_wp2
    rw [rounds_succ]
    go_wp2
    go_quiet (fail)
    have HSP2 := Lib.hid (HSP1.out.made (gb_drewN (gb_refl _ _) nq))
    generalize w4.drewN nq = w5 at *
    clear a0 a1 a2 b0 b1 b2 HSP1
    obtain ⟨a0, a1, a2⟩ := cells3 HSP2.out.low
    obtain ⟨b0, b1, b2⟩ := cells3 HSP2.out.high
    go_wp2
    rw [rounds_succ]
    go_wp2
    go_quiet (fail)
    have HSP3 := Lib.hid (HSP2.out.made (gb_drewN (gb_refl _ _) nq))
    generalize w5.drewN nq = w6 at *
    clear a0 a1 a2 b0 b1 b2 HSP2
    obtain ⟨a0, a1, a2⟩ := cells3 HSP3.out.low
    obtain ⟨b0, b1, b2⟩ := cells3 HSP3.out.high
    go_wp2
    rw [rounds_succ]
    have la := Made.cells (block_lt HSP3.out.low)
    have lb := Made.cells (block_lt HSP3.out.high)
    go_wp2_with fail
    refine Rg.region (Made w6) (MakesS 4) (fun k => if k = 2 then some (isVar w6 3 115) else if k = 3 then some (isVar w6 3 115) else if k = 4 then some (isRow #[.int .i64 x1, .int .i64 y1, .int .i64 z1] 115) else none) (fun k => k == 2 || k == 3) 0 5 (by kernel_rfl) (by kernel_rfl) (by kernel_rfl) (by kernel_rfl) (by kernel_rfl) (by kernel_rfl) (by kernel_rfl) (MakesS.size 4) (Made.start w6) (fun hne => ?_)
    (repeat (refine rLexL_quiet (by rfl) (by rfl) (by rfl) (by rfl) ?_; go_big_quiet_step (fail); refine wpQuiet_nil ?_))
    refine rg_var #[.int .i64 0, .int .i64 0, .int .i64 0] 115 (by decide) rfl rfl (fun _ => by go_simp) (fun c hc => ?_)
    simp only [Act.put, List.setIfInBounds_toArray, List.set_cons_zero, List.set_cons_succ]
    refine rg_var #[.int .i64 0, .int .i64 0, .int .i64 0] 115 (by decide) rfl rfl (fun _ => by go_simp) (fun d hd => ?_)
    simp only [Act.put, List.setIfInBounds_toArray, List.set_cons_zero, List.set_cons_succ]
    refine rg_storeRow c #[.int .i64 x1, .int .i64 y1, .int .i64 z1] 115 _ _ _ 2 ⟨⟨2, .data⟩, by simp, rfl, rfl⟩ rfl rfl rfl rfl (by kernel_rfl) (by simp [Value.oneCell']) hc rfl rfl rfl ?_ rfl
    simp only [Act.put, List.setIfInBounds_toArray, List.set_cons_zero, List.set_cons_succ]
    rintro wq hq hf hD
    have hc6 := isRow.out (v := undef) (hf 4)
    obtain ⟨dcs, hdcs, hd6⟩ := isVar.out (hf 3)
    have hcd : c ≠ d := (hD 2 _ _ rfl (by kernel_rfl) rfl rfl c rfl (Nat.zero_le _)).2 3 _ _ rfl (by decide) (by kernel_rfl) rfl rfl d rfl (Nat.zero_le _)
    refine wpList_store_row rfl _ _ _ rfl d #[.int .i64 x0, .int .i64 y0, .int .i64 z0] rfl rfl _ _ hd6 (by kernel_rfl) hdcs (by simp [Value.oneCell']) ?_
    have hl := block_lt HSP3.out.low; have hh := block_lt HSP3.out.high
    have hs2 : SplAt2 w a b c d x0 y0 z0 x1 y1 z1 x1 y1 z1 x0 y0 z0 (wq.setRow d #[.int .i64 x0, .int .i64 y0, .int .i64 z0]) :=
      ⟨(HSP3.out.made hq).farRow (by omega) _, (setRow_far hcd).trans hc6, setRow_at hd6, by omega, hcd⟩
    have HS2 := Lib.hid hs2
    generalize wq.setRow d #[.int .i64 x0, .int .i64 y0, .int .i64 z0] = w7 at *
    clear hf hD hc6 hd6 hdcs hs2 hq hne la lb a0 a1 a2 b0 b1 b2 HSP3 hc hd hl hh hcd
    refine wpList_nil ?_
    simp only [Act.put, List.setIfInBounds_toArray, List.set_cons_zero, List.set_cons_succ]
    obtain ⟨a0, a1, a2⟩ := cells3 HS2.out.base.low
    obtain ⟨b0, b1, b2⟩ := cells3 HS2.out.base.high
    have la := Made.cells (block_lt HS2.out.base.low)
    have lb := Made.cells (block_lt HS2.out.base.high)
    go_wp2_with fail
    refine Rg.region (Made w7) Makes (fun k => if k = 7 then some (isV (.int .i64 m)) else none) (fun _ => false) 0 9 (by kernel_rfl) (by kernel_rfl) (by kernel_rfl) (by kernel_rfl) (by kernel_rfl) (by kernel_rfl) (by kernel_rfl) Makes.size (Made.start w7) (fun hne => ?_)
    (repeat (refine rLexL_quiet (by rfl) (by rfl) (by rfl) (by rfl) ?_; go_big_quiet_step (fail); refine wpQuiet_nil ?_))
    refine rg_fix (.int .i64 m) 66 #[.int .i64 z0, .int .i64 z1] rfl rfl rfl (fun _ => by go_simp) (fun u hu => HM.out _ _ hu) ?_
    simp only [Act.put, List.setIfInBounds_toArray, List.set_cons_zero, List.set_cons_succ]
    (repeat (refine rLexL_quiet (by rfl) (by rfl) (by rfl) (by rfl) ?_; go_big_quiet_step (fail); refine wpQuiet_nil ?_))
    rintro wq hq - -
    have hS := HS2.out.made hq
    have hcd := hS.cd
    have HS3 : Hid (SplAt2 w a b c d x0 y0 z0 x1 y1 z1 x1 y1 m x0 y0 z0 (wq.setCell ⟨c, 2, none⟩ (.int .i64 m))) := Lib.hid ⟨hS.base.far ⟨hS.ac.1, hS.ac.2.1⟩ _ _, set_block hS.fin 2 (.int .i64 m), (setCell_far (Ne.symm hcd)).trans hS.beg, hS.ac, hcd⟩
    obtain ⟨p0, p1, p2⟩ := cells3 hS.fin
    have p3 := frozen3 hS.fin
    obtain ⟨r0, r1, r2⟩ := cells3 HS3.out.fin
    obtain ⟨s0, s1, s2⟩ := cells3 HS3.out.beg
    have s3 := frozen3 HS3.out.beg
    have HS4 : Hid (SplAt2 w a b c d x0 y0 z0 x1 y1 z1 x1 y1 m x0 y0 (m + 1) ((wq.setCell ⟨c, 2, none⟩ (.int .i64 m)).setCell ⟨d, 2, none⟩ (.int .i64 (m + 1)))) := Lib.hid ⟨HS3.out.base.far ⟨hS.ac.2.2.1, hS.ac.2.2.2⟩ _ _, (setCell_far hcd).trans HS3.out.fin, set_block HS3.out.beg 2 (.int .i64 (m + 1)), hS.ac, hcd⟩
    clear hS hcd hq hne la lb a0 a1 a2 b0 b1 b2 HS2
    go_wp2_with fail
    generalize (wq.setCell ⟨c, 2, none⟩ (.int .i64 m)).setCell ⟨d, 2, none⟩ (.int .i64 (m + 1)) = w8 at *
    clear p0 p1 p2 p3 r0 r1 r2 s0 s1 s2 s3 HS3
    obtain ⟨p0, p1, p2⟩ := cells3 HS4.out.fin
    obtain ⟨s0, s1, s2⟩ := cells3 HS4.out.beg
    obtain ⟨q0, q1, q2, q3, q4, q5⟩ := cells6 HS4.out.base.box
    have hla := HS4.out.base.la
    have hlb := HS4.out.base.lb
    have hac := HS4.out.ac
    have lc := MadeB.cells (r := w.heap.size + 1) (n := 6) (T := 28) (block_lt HS4.out.fin) (by omega)
    have ld := MadeB.cells (r := w.heap.size + 1) (n := 6) (T := 28) (block_lt HS4.out.beg) (by omega)
    have lq := MadeB.cells (r := w.heap.size + 1) (n := 6) (T := 28) (block_lt HS4.out.base.box) (by omega)
    refine Rg.region (MadeB w8 (w.heap.size + 1) 6 28) (MakesB 10 (w.heap.size + 1)) (fun k => if k = 3 then some (isV (.agg #[.int .i64 x1, .int .i64 y1, .int .i64 m])) else if k = 6 then some (isV (.agg #[.int .i64 x0, .int .i64 y0, .int .i64 (m + 1)])) else if k = 10 then some (isAt (w.heap.size + 1) #[.int .i64 x0, .int .i64 y0, .int .i64 z0, .int .i64 x1, .int .i64 y1, .int .i64 m] 28) else none) (fun _ => false) 0 11 (by kernel_rfl) (by kernel_rfl) (by kernel_rfl) (by kernel_rfl) (by kernel_rfl) (by kernel_rfl) (by kernel_rfl) (MakesB.size 10 _) (MadeB.start HS4.out.base.r1 rfl) (fun hne => ?_)
    (repeat (refine rLexL_quiet (by rfl) (by rfl) (by rfl) (by rfl) ?_; go_big_quiet_step (fail); refine wpQuiet_nil ?_))
    refine rg_fixG MadeB.grown (MakesB.none (by decide)) (.agg #[.int .i64 x1, .int .i64 y1, .int .i64 m]) 34 #[.agg #[.int .i64 x1, .int .i64 y1, .int .i64 m]] rfl rfl rfl (fun _ => by go_simp) (fun u hu => position_any _ _ _ u) ?_
    simp only [Act.put, List.setIfInBounds_toArray, List.set_cons_zero, List.set_cons_succ]
    (repeat (refine rLexL_quiet (by rfl) (by rfl) (by rfl) (by rfl) ?_; go_big_quiet_step (fail); refine wpQuiet_nil ?_))
    refine rg_fixG MadeB.grown (MakesB.none (by decide)) (.agg #[.int .i64 x0, .int .i64 y0, .int .i64 (m + 1)]) 34 #[.agg #[.int .i64 x0, .int .i64 y0, .int .i64 (m + 1)]] rfl rfl rfl (fun _ => by go_simp) (fun u hu => position_any _ _ _ u) ?_
    simp only [Act.put, List.setIfInBounds_toArray, List.set_cons_zero, List.set_cons_succ]
    (repeat (refine rLexL_quiet (by rfl) (by rfl) (by rfl) (by rfl) ?_; go_big_quiet_step (fail); refine wpQuiet_nil ?_))
    refine rg_storeB (w.heap.size + 1) #[.int .i64 x0, .int .i64 y0, .int .i64 z0, .int .i64 x1, .int .i64 y1, .int .i64 m] 28 _ _ _ rfl rfl rfl (by kernel_rfl) (by simp [Value.oneCell']) rfl rfl rfl rfl ?_
    simp only [Act.put, List.setIfInBounds_toArray, List.set_cons_zero, List.set_cons_succ]
    rintro wq2 ⟨hq, -⟩ hf -
    have hR := hf 10
    have hR2 := (hq.block _ (block_lt HS4.out.base.r2) (by simp)).trans HS4.out.base.r2
    have hgw : w.grownBy wq2 none := gb_new HS4.out.base.grown hq (by simp)
    refine wpList_store_row rfl _ _ _ rfl (w.heap.size + 2) #[.int .i64 x0, .int .i64 y0, .int .i64 (m + 1), .int .i64 x1, .int .i64 y1, .int .i64 z1] rfl rfl _ _ hR2 (by kernel_rfl) rfl (by simp [Value.oneCell']) ?_
    obtain ⟨e0, e1, e2, e3, e4, e5⟩ := cells6 ((setRow_far (g := w.heap.size + 2) (b := w.heap.size + 1) (cs := #[.int .i64 x0, .int .i64 y0, .int .i64 (m + 1), .int .i64 x1, .int .i64 y1, .int .i64 z1]) (by omega)).trans hR)
    obtain ⟨d0, d1, d2, d3, d4, d5⟩ := cells6 (setRow_at (cs := #[.int .i64 x0, .int .i64 y0, .int .i64 (m + 1), .int .i64 x1, .int .i64 y1, .int .i64 z1]) hR2)
    have HGE := Lib.hid (gb_setRow (cs := #[.int .i64 x0, .int .i64 y0, .int .i64 (m + 1), .int .i64 x1, .int .i64 y1, .int .i64 z1]) hgw (g := w.heap.size + 2) (.inl (by omega)))
    clear hgw hf hla hlb hac hR hR2 hq hne lc ld lq p0 p1 p2 s0 s1 s2 q0 q1 q2 q3 q4 q5 HS4
    simp only [Act.put, List.setIfInBounds_toArray, List.set_cons_zero, List.set_cons_succ]
    go_wp2
    refine bodyPost_ret (v := .tuple #[.agg #[.int .i64 x0, .int .i64 y0, .int .i64 z0, .int .i64 x1, .int .i64 y1, .int .i64 m], .agg #[.int .i64 x0, .int .i64 y0, .int .i64 (m + 1), .int .i64 x1, .int .i64 y1, .int .i64 z1], .bool true]) (by simp [results, Tryz.results38, go_sem, e0, e1, e2, e3, e4, e5, d0, d1, d2, d3, d4, d5]) rfl ⟨by rw [HX.out], HGE.out⟩
  · have HX := Lib.hid (show splV (splOk x0 y0 z0 x1 y1 z1) (axis (x1 - x0) (y1 - y0) (z1 - z0)) x0 y0 z0 x1 y1 z1 = .tuple #[.agg #[.int .i64 x0, .int .i64 y0, .int .i64 z0, .int .i64 x1, .int .i64 (midI y0 y1), .int .i64 z1], .agg #[.int .i64 x0, .int .i64 (midI y0 y1 + 1), .int .i64 z0, .int .i64 x1, .int .i64 y1, .int .i64 z1], .bool true] from by rw [HV.out, h3]; simp [splV, keepI, spE, spB])
    have HM := Lib.hid (fun (u v : World) => middle_made y0 y1 u (by omega) (by omega) (by omega) v)
    have hm : -2000000 ≤ midI y0 y1 ∧ midI y0 y1 ≤ 2000000 := by unfold midI; omega
    generalize midI y0 y1 = m at *
    clear HV h3
    go_wp2_with fail
    refine wp_loop_rounds 4 ?_
    rw [rounds_succ]
    go_wp2
    go_quiet (fail)
    have HSP1 := Lib.hid (HSP.out.made (gb_drewN (gb_refl _ _) nq))
    generalize w3.drewN nq = w4 at *
    clear a0 a1 a2 b0 b1 b2 HSP
    obtain ⟨a0, a1, a2⟩ := cells3 HSP1.out.low
    obtain ⟨b0, b1, b2⟩ := cells3 HSP1.out.high
    go_wp2
    rw [rounds_succ]
    go_wp2
    go_quiet (fail)
    have HSP2 := Lib.hid (HSP1.out.made (gb_drewN (gb_refl _ _) nq))
    generalize w4.drewN nq = w5 at *
    clear a0 a1 a2 b0 b1 b2 HSP1
    obtain ⟨a0, a1, a2⟩ := cells3 HSP2.out.low
    obtain ⟨b0, b1, b2⟩ := cells3 HSP2.out.high
    go_wp2
    rw [rounds_succ]
    go_wp2
    go_quiet (fail)
    have HSP3 := Lib.hid (HSP2.out.made (gb_drewN (gb_refl _ _) nq))
    generalize w5.drewN nq = w6 at *
    clear a0 a1 a2 b0 b1 b2 HSP2
    obtain ⟨a0, a1, a2⟩ := cells3 HSP3.out.low
    obtain ⟨b0, b1, b2⟩ := cells3 HSP3.out.high
    go_wp2
    rw [rounds_succ]
    have la := Made.cells (block_lt HSP3.out.low)
    have lb := Made.cells (block_lt HSP3.out.high)
    go_wp2_with fail
    refine Rg.region (Made w6) (MakesS 4) (fun k => if k = 2 then some (isVar w6 3 115) else if k = 3 then some (isVar w6 3 115) else if k = 4 then some (isRow #[.int .i64 x1, .int .i64 y1, .int .i64 z1] 115) else none) (fun k => k == 2 || k == 3) 0 5 (by kernel_rfl) (by kernel_rfl) (by kernel_rfl) (by kernel_rfl) (by kernel_rfl) (by kernel_rfl) (by kernel_rfl) (MakesS.size 4) (Made.start w6) (fun hne => ?_)
    (repeat (refine rLexL_quiet (by rfl) (by rfl) (by rfl) (by rfl) ?_; go_big_quiet_step (fail); refine wpQuiet_nil ?_))
    refine rg_var #[.int .i64 0, .int .i64 0, .int .i64 0] 115 (by decide) rfl rfl (fun _ => by go_simp) (fun c hc => ?_)
    simp only [Act.put, List.setIfInBounds_toArray, List.set_cons_zero, List.set_cons_succ]
    refine rg_var #[.int .i64 0, .int .i64 0, .int .i64 0] 115 (by decide) rfl rfl (fun _ => by go_simp) (fun d hd => ?_)
    simp only [Act.put, List.setIfInBounds_toArray, List.set_cons_zero, List.set_cons_succ]
    refine rg_storeRow c #[.int .i64 x1, .int .i64 y1, .int .i64 z1] 115 _ _ _ 2 ⟨⟨2, .data⟩, by simp, rfl, rfl⟩ rfl rfl rfl rfl (by kernel_rfl) (by simp [Value.oneCell']) hc rfl rfl rfl ?_ rfl
    simp only [Act.put, List.setIfInBounds_toArray, List.set_cons_zero, List.set_cons_succ]
    rintro wq hq hf hD
    have hc6 := isRow.out (v := undef) (hf 4)
    obtain ⟨dcs, hdcs, hd6⟩ := isVar.out (hf 3)
    have hcd : c ≠ d := (hD 2 _ _ rfl (by kernel_rfl) rfl rfl c rfl (Nat.zero_le _)).2 3 _ _ rfl (by decide) (by kernel_rfl) rfl rfl d rfl (Nat.zero_le _)
    refine wpList_store_row rfl _ _ _ rfl d #[.int .i64 x0, .int .i64 y0, .int .i64 z0] rfl rfl _ _ hd6 (by kernel_rfl) hdcs (by simp [Value.oneCell']) ?_
    have hl := block_lt HSP3.out.low; have hh := block_lt HSP3.out.high
    have hs2 : SplAt2 w a b c d x0 y0 z0 x1 y1 z1 x1 y1 z1 x0 y0 z0 (wq.setRow d #[.int .i64 x0, .int .i64 y0, .int .i64 z0]) :=
      ⟨(HSP3.out.made hq).farRow (by omega) _, (setRow_far hcd).trans hc6, setRow_at hd6, by omega, hcd⟩
    have HS2 := Lib.hid hs2
    generalize wq.setRow d #[.int .i64 x0, .int .i64 y0, .int .i64 z0] = w7 at *
    clear hf hD hc6 hd6 hdcs hs2 hq hne la lb a0 a1 a2 b0 b1 b2 HSP3 hc hd hl hh hcd
    refine wpList_nil ?_
    simp only [Act.put, List.setIfInBounds_toArray, List.set_cons_zero, List.set_cons_succ]
    obtain ⟨a0, a1, a2⟩ := cells3 HS2.out.base.low
    obtain ⟨b0, b1, b2⟩ := cells3 HS2.out.base.high
    have la := Made.cells (block_lt HS2.out.base.low)
    have lb := Made.cells (block_lt HS2.out.base.high)
    go_wp2_with fail
    refine Rg.region (Made w7) Makes (fun k => if k = 7 then some (isV (.int .i64 m)) else none) (fun _ => false) 0 9 (by kernel_rfl) (by kernel_rfl) (by kernel_rfl) (by kernel_rfl) (by kernel_rfl) (by kernel_rfl) (by kernel_rfl) Makes.size (Made.start w7) (fun hne => ?_)
    (repeat (refine rLexL_quiet (by rfl) (by rfl) (by rfl) (by rfl) ?_; go_big_quiet_step (fail); refine wpQuiet_nil ?_))
    refine rg_fix (.int .i64 m) 66 #[.int .i64 y0, .int .i64 y1] rfl rfl rfl (fun _ => by go_simp) (fun u hu => HM.out _ _ hu) ?_
    simp only [Act.put, List.setIfInBounds_toArray, List.set_cons_zero, List.set_cons_succ]
    (repeat (refine rLexL_quiet (by rfl) (by rfl) (by rfl) (by rfl) ?_; go_big_quiet_step (fail); refine wpQuiet_nil ?_))
    rintro wq hq - -
    have hS := HS2.out.made hq
    have hcd := hS.cd
    have HS3 : Hid (SplAt2 w a b c d x0 y0 z0 x1 y1 z1 x1 m z1 x0 y0 z0 (wq.setCell ⟨c, 1, none⟩ (.int .i64 m))) := Lib.hid ⟨hS.base.far ⟨hS.ac.1, hS.ac.2.1⟩ _ _, set_block hS.fin 1 (.int .i64 m), (setCell_far (Ne.symm hcd)).trans hS.beg, hS.ac, hcd⟩
    obtain ⟨p0, p1, p2⟩ := cells3 hS.fin
    have p3 := frozen3 hS.fin
    obtain ⟨r0, r1, r2⟩ := cells3 HS3.out.fin
    obtain ⟨s0, s1, s2⟩ := cells3 HS3.out.beg
    have s3 := frozen3 HS3.out.beg
    have HS4 : Hid (SplAt2 w a b c d x0 y0 z0 x1 y1 z1 x1 m z1 x0 (m + 1) z0 ((wq.setCell ⟨c, 1, none⟩ (.int .i64 m)).setCell ⟨d, 1, none⟩ (.int .i64 (m + 1)))) := Lib.hid ⟨HS3.out.base.far ⟨hS.ac.2.2.1, hS.ac.2.2.2⟩ _ _, (setCell_far hcd).trans HS3.out.fin, set_block HS3.out.beg 1 (.int .i64 (m + 1)), hS.ac, hcd⟩
    clear hS hcd hq hne la lb a0 a1 a2 b0 b1 b2 HS2
    go_wp2_with fail
    generalize (wq.setCell ⟨c, 1, none⟩ (.int .i64 m)).setCell ⟨d, 1, none⟩ (.int .i64 (m + 1)) = w8 at *
    clear p0 p1 p2 p3 r0 r1 r2 s0 s1 s2 s3 HS3
    obtain ⟨p0, p1, p2⟩ := cells3 HS4.out.fin
    obtain ⟨s0, s1, s2⟩ := cells3 HS4.out.beg
    obtain ⟨q0, q1, q2, q3, q4, q5⟩ := cells6 HS4.out.base.box
    have hla := HS4.out.base.la
    have hlb := HS4.out.base.lb
    have hac := HS4.out.ac
    have lc := MadeB.cells (r := w.heap.size + 1) (n := 6) (T := 28) (block_lt HS4.out.fin) (by omega)
    have ld := MadeB.cells (r := w.heap.size + 1) (n := 6) (T := 28) (block_lt HS4.out.beg) (by omega)
    have lq := MadeB.cells (r := w.heap.size + 1) (n := 6) (T := 28) (block_lt HS4.out.base.box) (by omega)
    refine Rg.region (MadeB w8 (w.heap.size + 1) 6 28) (MakesB 10 (w.heap.size + 1)) (fun k => if k = 3 then some (isV (.agg #[.int .i64 x1, .int .i64 m, .int .i64 z1])) else if k = 6 then some (isV (.agg #[.int .i64 x0, .int .i64 (m + 1), .int .i64 z0])) else if k = 10 then some (isAt (w.heap.size + 1) #[.int .i64 x0, .int .i64 y0, .int .i64 z0, .int .i64 x1, .int .i64 m, .int .i64 z1] 28) else none) (fun _ => false) 0 11 (by kernel_rfl) (by kernel_rfl) (by kernel_rfl) (by kernel_rfl) (by kernel_rfl) (by kernel_rfl) (by kernel_rfl) (MakesB.size 10 _) (MadeB.start HS4.out.base.r1 rfl) (fun hne => ?_)
    (repeat (refine rLexL_quiet (by rfl) (by rfl) (by rfl) (by rfl) ?_; go_big_quiet_step (fail); refine wpQuiet_nil ?_))
    refine rg_fixG MadeB.grown (MakesB.none (by decide)) (.agg #[.int .i64 x1, .int .i64 m, .int .i64 z1]) 34 #[.agg #[.int .i64 x1, .int .i64 m, .int .i64 z1]] rfl rfl rfl (fun _ => by go_simp) (fun u hu => position_any _ _ _ u) ?_
    simp only [Act.put, List.setIfInBounds_toArray, List.set_cons_zero, List.set_cons_succ]
    (repeat (refine rLexL_quiet (by rfl) (by rfl) (by rfl) (by rfl) ?_; go_big_quiet_step (fail); refine wpQuiet_nil ?_))
    refine rg_fixG MadeB.grown (MakesB.none (by decide)) (.agg #[.int .i64 x0, .int .i64 (m + 1), .int .i64 z0]) 34 #[.agg #[.int .i64 x0, .int .i64 (m + 1), .int .i64 z0]] rfl rfl rfl (fun _ => by go_simp) (fun u hu => position_any _ _ _ u) ?_
    simp only [Act.put, List.setIfInBounds_toArray, List.set_cons_zero, List.set_cons_succ]
    (repeat (refine rLexL_quiet (by rfl) (by rfl) (by rfl) (by rfl) ?_; go_big_quiet_step (fail); refine wpQuiet_nil ?_))
    refine rg_storeB (w.heap.size + 1) #[.int .i64 x0, .int .i64 y0, .int .i64 z0, .int .i64 x1, .int .i64 m, .int .i64 z1] 28 _ _ _ rfl rfl rfl (by kernel_rfl) (by simp [Value.oneCell']) rfl rfl rfl rfl ?_
    simp only [Act.put, List.setIfInBounds_toArray, List.set_cons_zero, List.set_cons_succ]
    rintro wq2 ⟨hq, -⟩ hf -
    have hR := hf 10
    have hR2 := (hq.block _ (block_lt HS4.out.base.r2) (by simp)).trans HS4.out.base.r2
    have hgw : w.grownBy wq2 none := gb_new HS4.out.base.grown hq (by simp)
    refine wpList_store_row rfl _ _ _ rfl (w.heap.size + 2) #[.int .i64 x0, .int .i64 (m + 1), .int .i64 z0, .int .i64 x1, .int .i64 y1, .int .i64 z1] rfl rfl _ _ hR2 (by kernel_rfl) rfl (by simp [Value.oneCell']) ?_
    obtain ⟨e0, e1, e2, e3, e4, e5⟩ := cells6 ((setRow_far (g := w.heap.size + 2) (b := w.heap.size + 1) (cs := #[.int .i64 x0, .int .i64 (m + 1), .int .i64 z0, .int .i64 x1, .int .i64 y1, .int .i64 z1]) (by omega)).trans hR)
    obtain ⟨d0, d1, d2, d3, d4, d5⟩ := cells6 (setRow_at (cs := #[.int .i64 x0, .int .i64 (m + 1), .int .i64 z0, .int .i64 x1, .int .i64 y1, .int .i64 z1]) hR2)
    have HGE := Lib.hid (gb_setRow (cs := #[.int .i64 x0, .int .i64 (m + 1), .int .i64 z0, .int .i64 x1, .int .i64 y1, .int .i64 z1]) hgw (g := w.heap.size + 2) (.inl (by omega)))
    clear hgw hf hla hlb hac hR hR2 hq hne lc ld lq p0 p1 p2 s0 s1 s2 q0 q1 q2 q3 q4 q5 HS4
    simp only [Act.put, List.setIfInBounds_toArray, List.set_cons_zero, List.set_cons_succ]
    go_wp2
    refine bodyPost_ret (v := .tuple #[.agg #[.int .i64 x0, .int .i64 y0, .int .i64 z0, .int .i64 x1, .int .i64 m, .int .i64 z1], .agg #[.int .i64 x0, .int .i64 (m + 1), .int .i64 z0, .int .i64 x1, .int .i64 y1, .int .i64 z1], .bool true]) (by simp [results, Tryz.results38, go_sem, e0, e1, e2, e3, e4, e5, d0, d1, d2, d3, d4, d5]) rfl ⟨by rw [HX.out], HGE.out⟩
  · have HX := Lib.hid (show splV (splOk x0 y0 z0 x1 y1 z1) (axis (x1 - x0) (y1 - y0) (z1 - z0)) x0 y0 z0 x1 y1 z1 = .tuple #[.agg #[.int .i64 x0, .int .i64 y0, .int .i64 z0, .int .i64 x1, .int .i64 y1, .int .i64 (midI z0 z1)], .agg #[.int .i64 x0, .int .i64 y0, .int .i64 (midI z0 z1 + 1), .int .i64 x1, .int .i64 y1, .int .i64 z1], .bool true] from by rw [HV.out, h3]; simp [splV, keepI, spE, spB])
    have HM := Lib.hid (fun (u v : World) => middle_made z0 z1 u (by omega) (by omega) (by omega) v)
    have hm : -2000000 ≤ midI z0 z1 ∧ midI z0 z1 ≤ 2000000 := by unfold midI; omega
    generalize midI z0 z1 = m at *
    clear HV h3
    go_wp2_with fail
    refine wp_loop_rounds 4 ?_
    rw [rounds_succ]
    go_wp2
    go_quiet (fail)
    have HSP1 := Lib.hid (HSP.out.made (gb_drewN (gb_refl _ _) nq))
    generalize w3.drewN nq = w4 at *
    clear a0 a1 a2 b0 b1 b2 HSP
    obtain ⟨a0, a1, a2⟩ := cells3 HSP1.out.low
    obtain ⟨b0, b1, b2⟩ := cells3 HSP1.out.high
    go_wp2
    rw [rounds_succ]
    go_wp2
    go_quiet (fail)
    have HSP2 := Lib.hid (HSP1.out.made (gb_drewN (gb_refl _ _) nq))
    generalize w4.drewN nq = w5 at *
    clear a0 a1 a2 b0 b1 b2 HSP1
    obtain ⟨a0, a1, a2⟩ := cells3 HSP2.out.low
    obtain ⟨b0, b1, b2⟩ := cells3 HSP2.out.high
    go_wp2
    rw [rounds_succ]
    go_wp2
    go_quiet (fail)
    have HSP3 := Lib.hid (HSP2.out.made (gb_drewN (gb_refl _ _) nq))
    generalize w5.drewN nq = w6 at *
    clear a0 a1 a2 b0 b1 b2 HSP2
    obtain ⟨a0, a1, a2⟩ := cells3 HSP3.out.low
    obtain ⟨b0, b1, b2⟩ := cells3 HSP3.out.high
    go_wp2
    rw [rounds_succ]
    have la := Made.cells (block_lt HSP3.out.low)
    have lb := Made.cells (block_lt HSP3.out.high)
    go_wp2_with fail
    refine Rg.region (Made w6) (MakesS 4) (fun k => if k = 2 then some (isVar w6 3 115) else if k = 3 then some (isVar w6 3 115) else if k = 4 then some (isRow #[.int .i64 x1, .int .i64 y1, .int .i64 z1] 115) else none) (fun k => k == 2 || k == 3) 0 5 (by kernel_rfl) (by kernel_rfl) (by kernel_rfl) (by kernel_rfl) (by kernel_rfl) (by kernel_rfl) (by kernel_rfl) (MakesS.size 4) (Made.start w6) (fun hne => ?_)
    (repeat (refine rLexL_quiet (by rfl) (by rfl) (by rfl) (by rfl) ?_; go_big_quiet_step (fail); refine wpQuiet_nil ?_))
    refine rg_var #[.int .i64 0, .int .i64 0, .int .i64 0] 115 (by decide) rfl rfl (fun _ => by go_simp) (fun c hc => ?_)
    simp only [Act.put, List.setIfInBounds_toArray, List.set_cons_zero, List.set_cons_succ]
    refine rg_var #[.int .i64 0, .int .i64 0, .int .i64 0] 115 (by decide) rfl rfl (fun _ => by go_simp) (fun d hd => ?_)
    simp only [Act.put, List.setIfInBounds_toArray, List.set_cons_zero, List.set_cons_succ]
    refine rg_storeRow c #[.int .i64 x1, .int .i64 y1, .int .i64 z1] 115 _ _ _ 2 ⟨⟨2, .data⟩, by simp, rfl, rfl⟩ rfl rfl rfl rfl (by kernel_rfl) (by simp [Value.oneCell']) hc rfl rfl rfl ?_ rfl
    simp only [Act.put, List.setIfInBounds_toArray, List.set_cons_zero, List.set_cons_succ]
    rintro wq hq hf hD
    have hc6 := isRow.out (v := undef) (hf 4)
    obtain ⟨dcs, hdcs, hd6⟩ := isVar.out (hf 3)
    have hcd : c ≠ d := (hD 2 _ _ rfl (by kernel_rfl) rfl rfl c rfl (Nat.zero_le _)).2 3 _ _ rfl (by decide) (by kernel_rfl) rfl rfl d rfl (Nat.zero_le _)
    refine wpList_store_row rfl _ _ _ rfl d #[.int .i64 x0, .int .i64 y0, .int .i64 z0] rfl rfl _ _ hd6 (by kernel_rfl) hdcs (by simp [Value.oneCell']) ?_
    have hl := block_lt HSP3.out.low; have hh := block_lt HSP3.out.high
    have hs2 : SplAt2 w a b c d x0 y0 z0 x1 y1 z1 x1 y1 z1 x0 y0 z0 (wq.setRow d #[.int .i64 x0, .int .i64 y0, .int .i64 z0]) :=
      ⟨(HSP3.out.made hq).farRow (by omega) _, (setRow_far hcd).trans hc6, setRow_at hd6, by omega, hcd⟩
    have HS2 := Lib.hid hs2
    generalize wq.setRow d #[.int .i64 x0, .int .i64 y0, .int .i64 z0] = w7 at *
    clear hf hD hc6 hd6 hdcs hs2 hq hne la lb a0 a1 a2 b0 b1 b2 HSP3 hc hd hl hh hcd
    refine wpList_nil ?_
    simp only [Act.put, List.setIfInBounds_toArray, List.set_cons_zero, List.set_cons_succ]
    obtain ⟨a0, a1, a2⟩ := cells3 HS2.out.base.low
    obtain ⟨b0, b1, b2⟩ := cells3 HS2.out.base.high
    have la := Made.cells (block_lt HS2.out.base.low)
    have lb := Made.cells (block_lt HS2.out.base.high)
    go_wp2_with fail
    refine Rg.region (Made w7) Makes (fun k => if k = 7 then some (isV (.int .i64 m)) else none) (fun _ => false) 0 9 (by kernel_rfl) (by kernel_rfl) (by kernel_rfl) (by kernel_rfl) (by kernel_rfl) (by kernel_rfl) (by kernel_rfl) Makes.size (Made.start w7) (fun hne => ?_)
    (repeat (refine rLexL_quiet (by rfl) (by rfl) (by rfl) (by rfl) ?_; go_big_quiet_step (fail); refine wpQuiet_nil ?_))
    refine rg_fix (.int .i64 m) 66 #[.int .i64 z0, .int .i64 z1] rfl rfl rfl (fun _ => by go_simp) (fun u hu => HM.out _ _ hu) ?_
    simp only [Act.put, List.setIfInBounds_toArray, List.set_cons_zero, List.set_cons_succ]
    (repeat (refine rLexL_quiet (by rfl) (by rfl) (by rfl) (by rfl) ?_; go_big_quiet_step (fail); refine wpQuiet_nil ?_))
    rintro wq hq - -
    have hS := HS2.out.made hq
    have hcd := hS.cd
    have HS3 : Hid (SplAt2 w a b c d x0 y0 z0 x1 y1 z1 x1 y1 m x0 y0 z0 (wq.setCell ⟨c, 2, none⟩ (.int .i64 m))) := Lib.hid ⟨hS.base.far ⟨hS.ac.1, hS.ac.2.1⟩ _ _, set_block hS.fin 2 (.int .i64 m), (setCell_far (Ne.symm hcd)).trans hS.beg, hS.ac, hcd⟩
    obtain ⟨p0, p1, p2⟩ := cells3 hS.fin
    have p3 := frozen3 hS.fin
    obtain ⟨r0, r1, r2⟩ := cells3 HS3.out.fin
    obtain ⟨s0, s1, s2⟩ := cells3 HS3.out.beg
    have s3 := frozen3 HS3.out.beg
    have HS4 : Hid (SplAt2 w a b c d x0 y0 z0 x1 y1 z1 x1 y1 m x0 y0 (m + 1) ((wq.setCell ⟨c, 2, none⟩ (.int .i64 m)).setCell ⟨d, 2, none⟩ (.int .i64 (m + 1)))) := Lib.hid ⟨HS3.out.base.far ⟨hS.ac.2.2.1, hS.ac.2.2.2⟩ _ _, (setCell_far hcd).trans HS3.out.fin, set_block HS3.out.beg 2 (.int .i64 (m + 1)), hS.ac, hcd⟩
    clear hS hcd hq hne la lb a0 a1 a2 b0 b1 b2 HS2
    go_wp2_with fail
    generalize (wq.setCell ⟨c, 2, none⟩ (.int .i64 m)).setCell ⟨d, 2, none⟩ (.int .i64 (m + 1)) = w8 at *
    clear p0 p1 p2 p3 r0 r1 r2 s0 s1 s2 s3 HS3
    obtain ⟨p0, p1, p2⟩ := cells3 HS4.out.fin
    obtain ⟨s0, s1, s2⟩ := cells3 HS4.out.beg
    obtain ⟨q0, q1, q2, q3, q4, q5⟩ := cells6 HS4.out.base.box
    have hla := HS4.out.base.la
    have hlb := HS4.out.base.lb
    have hac := HS4.out.ac
    have lc := MadeB.cells (r := w.heap.size + 1) (n := 6) (T := 28) (block_lt HS4.out.fin) (by omega)
    have ld := MadeB.cells (r := w.heap.size + 1) (n := 6) (T := 28) (block_lt HS4.out.beg) (by omega)
    have lq := MadeB.cells (r := w.heap.size + 1) (n := 6) (T := 28) (block_lt HS4.out.base.box) (by omega)
    refine Rg.region (MadeB w8 (w.heap.size + 1) 6 28) (MakesB 10 (w.heap.size + 1)) (fun k => if k = 3 then some (isV (.agg #[.int .i64 x1, .int .i64 y1, .int .i64 m])) else if k = 6 then some (isV (.agg #[.int .i64 x0, .int .i64 y0, .int .i64 (m + 1)])) else if k = 10 then some (isAt (w.heap.size + 1) #[.int .i64 x0, .int .i64 y0, .int .i64 z0, .int .i64 x1, .int .i64 y1, .int .i64 m] 28) else none) (fun _ => false) 0 11 (by kernel_rfl) (by kernel_rfl) (by kernel_rfl) (by kernel_rfl) (by kernel_rfl) (by kernel_rfl) (by kernel_rfl) (MakesB.size 10 _) (MadeB.start HS4.out.base.r1 rfl) (fun hne => ?_)
    (repeat (refine rLexL_quiet (by rfl) (by rfl) (by rfl) (by rfl) ?_; go_big_quiet_step (fail); refine wpQuiet_nil ?_))
    refine rg_fixG MadeB.grown (MakesB.none (by decide)) (.agg #[.int .i64 x1, .int .i64 y1, .int .i64 m]) 34 #[.agg #[.int .i64 x1, .int .i64 y1, .int .i64 m]] rfl rfl rfl (fun _ => by go_simp) (fun u hu => position_any _ _ _ u) ?_
    simp only [Act.put, List.setIfInBounds_toArray, List.set_cons_zero, List.set_cons_succ]
    (repeat (refine rLexL_quiet (by rfl) (by rfl) (by rfl) (by rfl) ?_; go_big_quiet_step (fail); refine wpQuiet_nil ?_))
    refine rg_fixG MadeB.grown (MakesB.none (by decide)) (.agg #[.int .i64 x0, .int .i64 y0, .int .i64 (m + 1)]) 34 #[.agg #[.int .i64 x0, .int .i64 y0, .int .i64 (m + 1)]] rfl rfl rfl (fun _ => by go_simp) (fun u hu => position_any _ _ _ u) ?_
    simp only [Act.put, List.setIfInBounds_toArray, List.set_cons_zero, List.set_cons_succ]
    (repeat (refine rLexL_quiet (by rfl) (by rfl) (by rfl) (by rfl) ?_; go_big_quiet_step (fail); refine wpQuiet_nil ?_))
    refine rg_storeB (w.heap.size + 1) #[.int .i64 x0, .int .i64 y0, .int .i64 z0, .int .i64 x1, .int .i64 y1, .int .i64 m] 28 _ _ _ rfl rfl rfl (by kernel_rfl) (by simp [Value.oneCell']) rfl rfl rfl rfl ?_
    simp only [Act.put, List.setIfInBounds_toArray, List.set_cons_zero, List.set_cons_succ]
    rintro wq2 ⟨hq, -⟩ hf -
    have hR := hf 10
    have hR2 := (hq.block _ (block_lt HS4.out.base.r2) (by simp)).trans HS4.out.base.r2
    have hgw : w.grownBy wq2 none := gb_new HS4.out.base.grown hq (by simp)
    refine wpList_store_row rfl _ _ _ rfl (w.heap.size + 2) #[.int .i64 x0, .int .i64 y0, .int .i64 (m + 1), .int .i64 x1, .int .i64 y1, .int .i64 z1] rfl rfl _ _ hR2 (by kernel_rfl) rfl (by simp [Value.oneCell']) ?_
    obtain ⟨e0, e1, e2, e3, e4, e5⟩ := cells6 ((setRow_far (g := w.heap.size + 2) (b := w.heap.size + 1) (cs := #[.int .i64 x0, .int .i64 y0, .int .i64 (m + 1), .int .i64 x1, .int .i64 y1, .int .i64 z1]) (by omega)).trans hR)
    obtain ⟨d0, d1, d2, d3, d4, d5⟩ := cells6 (setRow_at (cs := #[.int .i64 x0, .int .i64 y0, .int .i64 (m + 1), .int .i64 x1, .int .i64 y1, .int .i64 z1]) hR2)
    have HGE := Lib.hid (gb_setRow (cs := #[.int .i64 x0, .int .i64 y0, .int .i64 (m + 1), .int .i64 x1, .int .i64 y1, .int .i64 z1]) hgw (g := w.heap.size + 2) (.inl (by omega)))
    clear hgw hf hla hlb hac hR hR2 hq hne lc ld lq p0 p1 p2 s0 s1 s2 q0 q1 q2 q3 q4 q5 HS4
    simp only [Act.put, List.setIfInBounds_toArray, List.set_cons_zero, List.set_cons_succ]
    go_wp2
    refine bodyPost_ret (v := .tuple #[.agg #[.int .i64 x0, .int .i64 y0, .int .i64 z0, .int .i64 x1, .int .i64 y1, .int .i64 m], .agg #[.int .i64 x0, .int .i64 y0, .int .i64 (m + 1), .int .i64 x1, .int .i64 y1, .int .i64 z1], .bool true]) (by simp [results, Tryz.results38, go_sem, e0, e1, e2, e3, e4, e5, d0, d1, d2, d3, d4, d5]) rfl ⟨by rw [HX.out], HGE.out⟩
end LGeoH
section LGeoG
open Go.RowKit Rg
def huL (v : Bool) (a x : Int) : Int := if v then min a x else 0
def huH (v : Bool) (a x : Int) : Int := if v then max a x else 0
def sel (k j : Nat) (m a : Int) : Int := if j < k then m else a
/-- Where Hull's own blocks lie, and what they hold. -/
structure HulAt (w : World) (p q r s : Nat) (l0 l1 l2 h0 h1 h2 x0 y0 z0 x1 y1 z1 : Int) (u : World) : Prop where
  res : u.heap[w.heap.size + 2]? = some (.cells #[.int .i64 0, .int .i64 0, .int .i64 0, .int .i64 0, .int .i64 0, .int .i64 0] 28 (0, 0))
  low : u.heap[p]? = some (.cells #[.int .i64 l0, .int .i64 l1, .int .i64 l2] 115 (0, 0))
  high : u.heap[q]? = some (.cells #[.int .i64 h0, .int .i64 h1, .int .i64 h2] 115 (0, 0))
  fro : u.heap[r]? = some (.cells #[.int .i64 x0, .int .i64 y0, .int .i64 z0] 115 (0, 0))
  til : u.heap[s]? = some (.cells #[.int .i64 x1, .int .i64 y1, .int .i64 z1] 115 (0, 0))
  at' : w.heap.size + 2 < p ∧ w.heap.size + 2 < q ∧ w.heap.size + 2 < r ∧ w.heap.size + 2 < s
  apart : p ≠ q ∧ p ≠ r ∧ p ≠ s ∧ q ≠ r ∧ q ≠ s ∧ r ≠ s
  grown : w.grownBy u none
theorem HulAt.made {w : World} {p q r s : Nat} {l0 l1 l2 h0 h1 h2 x0 y0 z0 x1 y1 z1 : Int} {u u' : World} (h : HulAt w p q r s l0 l1 l2 h0 h1 h2 x0 y0 z0 x1 y1 z1 u) (hg : u.grownBy u' none) : HulAt w p q r s l0 l1 l2 h0 h1 h2 x0 y0 z0 x1 y1 z1 u' :=
  ⟨block_kept hg h.res rfl, block_kept hg h.low rfl, block_kept hg h.high rfl, block_kept hg h.fro rfl, block_kept hg h.til rfl, h.at', h.apart, gb_trans h.grown hg⟩
set_option maxRecDepth 100000 in
set_option maxHeartbeats 2000000 in
theorem hull_any (a0 b0 c0 a1 b1 c1 x0 y0 z0 x1 y1 z1 : Int) (w : World) :
    Calls Tryz.prog 19 #[.agg #[.int .i64 a0, .int .i64 b0, .int .i64 c0, .int .i64 a1, .int .i64 b1, .int .i64 c1], .agg #[.int .i64 x0, .int .i64 y0, .int .i64 z0, .int .i64 x1, .int .i64 y1, .int .i64 z1]] w fun e w' =>
      e = .returned (.agg #[.int .i64 (huL (bP a0 b0 c0 a1 b1 c1 && bP x0 y0 z0 x1 y1 z1) a0 x0), .int .i64 (huL (bP a0 b0 c0 a1 b1 c1 && bP x0 y0 z0 x1 y1 z1) b0 y0), .int .i64 (huL (bP a0 b0 c0 a1 b1 c1 && bP x0 y0 z0 x1 y1 z1) c0 z0), .int .i64 (huH (bP a0 b0 c0 a1 b1 c1 && bP x0 y0 z0 x1 y1 z1) a1 x1), .int .i64 (huH (bP a0 b0 c0 a1 b1 c1 && bP x0 y0 z0 x1 y1 z1) b1 y1), .int .i64 (huH (bP a0 b0 c0 a1 b1 c1 && bP x0 y0 z0 x1 y1 z1) c1 z1)]) ∧ w.grownBy w' none := by
  go_enter Tryz.func19, Tryz.ntmps19
  go_wp2_with fail
  (with_reducible refine (validBox_any _ _ _ _ _ _ _).mono ?_)
  rintro e w1 ⟨rfl, hg1⟩
  have HA1 := Lib.hid (show w1.heap[w.heap.size]? = some (.cells #[.int .i64 a0, .int .i64 b0, .int .i64 c0, .int .i64 a1, .int .i64 b1, .int .i64 c1] 28 (0, 0)) from block_kept hg1 (by rw [heap_alloc_old _ _ (by simp; omega), heap_alloc_old _ _ (by simp), heap_alloc_new]) rfl)
  have HX1 := Lib.hid (show w1.heap[w.heap.size + 1]? = some (.cells #[.int .i64 x0, .int .i64 y0, .int .i64 z0, .int .i64 x1, .int .i64 y1, .int .i64 z1] 28 (0, 0)) from block_kept hg1 (by rw [heap_alloc_old _ _ (by simp)]; simpa using heap_alloc_new (w.alloc _) _) rfl)
  have HR1 := Lib.hid (show w1.heap[w.heap.size + 2]? = some (.cells #[.int .i64 0, .int .i64 0, .int .i64 0, .int .i64 0, .int .i64 0, .int .i64 0] 28 (0, 0)) from block_kept hg1 (by simpa using heap_alloc_new ((w.alloc _).alloc _) _) rfl)
  have HG1 := Lib.hid (gb_trans (gb_alloc (gb_alloc (gb_alloc (gb_refl _ _) _) _) _) hg1); clear hg1
  cases hv0 : bP a0 b0 c0 a1 b1 c1
  · have hR := HR1.out
    have HN := Lib.hid (setRow_at (cs := #[.int .i64 0, .int .i64 0, .int .i64 0, .int .i64 0, .int .i64 0, .int .i64 0]) hR)
    have HGE := Lib.hid (gb_setRow (cs := #[.int .i64 0, .int .i64 0, .int .i64 0, .int .i64 0, .int .i64 0, .int .i64 0]) HG1.out (g := w.heap.size + 2) (.inl (by omega)))
    go_wp2_with (with_reducible refine wpList_store_row rfl _ _ _ rfl (w.heap.size + 2) #[.int .i64 0, .int .i64 0, .int .i64 0, .int .i64 0, .int .i64 0, .int .i64 0] rfl rfl _ _ hR (by kernel_rfl) rfl (by simp [Value.oneCell']) ?_)
    obtain ⟨e0, e1, e2, e3, e4, e5⟩ := cells6 HN.out
    refine bodyPost_ret (v := .agg #[.int .i64 0, .int .i64 0, .int .i64 0, .int .i64 0, .int .i64 0, .int .i64 0]) (by simp [results, Tryz.results19, go_sem, e0, e1, e2, e3, e4, e5]) rfl ⟨by simp [huL, huH, hv0], HGE.out⟩
  obtain ⟨d0, d1, d2, d3, d4, d5⟩ := cells6 HX1.out
  go_wp2_with fail
  (with_reducible refine (validBox_any _ _ _ _ _ _ _).mono ?_)
  rintro e w2 ⟨rfl, hg2⟩
  have HA2 := Lib.hid (block_kept hg2 HA1.out rfl)
  have HX2 := Lib.hid (block_kept hg2 HX1.out rfl)
  have HR2 := Lib.hid (block_kept hg2 HR1.out rfl)
  have HG2 := Lib.hid (gb_trans HG1.out hg2)
  clear hg2 HG1 HA1 HX1 HR1 d0 d1 d2 d3 d4 d5
  cases hv1 : bP x0 y0 z0 x1 y1 z1
  · have hR := HR2.out
    have HN := Lib.hid (setRow_at (cs := #[.int .i64 0, .int .i64 0, .int .i64 0, .int .i64 0, .int .i64 0, .int .i64 0]) hR)
    have HGE := Lib.hid (gb_setRow (cs := #[.int .i64 0, .int .i64 0, .int .i64 0, .int .i64 0, .int .i64 0, .int .i64 0]) HG2.out (g := w.heap.size + 2) (.inl (by omega)))
    go_wp2_with (with_reducible refine wpList_store_row rfl _ _ _ rfl (w.heap.size + 2) #[.int .i64 0, .int .i64 0, .int .i64 0, .int .i64 0, .int .i64 0, .int .i64 0] rfl rfl _ _ hR (by kernel_rfl) rfl (by simp [Value.oneCell']) ?_)
    obtain ⟨e0, e1, e2, e3, e4, e5⟩ := cells6 HN.out
    refine bodyPost_ret (v := .agg #[.int .i64 0, .int .i64 0, .int .i64 0, .int .i64 0, .int .i64 0, .int .i64 0]) (by simp [results, Tryz.results19, go_sem, e0, e1, e2, e3, e4, e5]) rfl ⟨by simp [huL, huH, hv1], HGE.out⟩
  have HV := Lib.hid (show (bP a0 b0 c0 a1 b1 c1 && bP x0 y0 z0 x1 y1 z1) = true from by simp [hv0, hv1])
  clear hv0 hv1
  obtain ⟨q0, q1, q2, q3, q4, q5⟩ := cells6 HA2.out
  obtain ⟨d0, d1, d2, d3, d4, d5⟩ := cells6 HX2.out
  have ka := Made.cells (block_lt HA2.out)
  have kx := Made.cells (block_lt HX2.out)
  go_wp2_with fail
  refine Rg.region (Made w2) Makes (fun k => if k = 2 then some (isV (.agg #[.int .i64 a0, .int .i64 b0, .int .i64 c0])) else if k = 5 then some (isV (.agg #[.int .i64 a1, .int .i64 b1, .int .i64 c1])) else if k = 8 then some (isV (.agg #[.int .i64 x0, .int .i64 y0, .int .i64 z0])) else if k = 11 then some (isV (.agg #[.int .i64 x1, .int .i64 y1, .int .i64 z1])) else if k = 12 then some (isNew w2 #[.int .i64 0, .int .i64 0, .int .i64 0] 115) else if k = 13 then some (isNew w2 #[.int .i64 0, .int .i64 0, .int .i64 0] 115) else if k = 14 then some (isNew w2 #[.int .i64 0, .int .i64 0, .int .i64 0] 115) else if k = 15 then some (isNew w2 #[.int .i64 0, .int .i64 0, .int .i64 0] 115) else none)
    (fun k => k == 12 || k == 13 || k == 14 || k == 15) 0 16 (by kernel_rfl) (by kernel_rfl) (by kernel_rfl) (by kernel_rfl) (by kernel_rfl) (by kernel_rfl) (by kernel_rfl) Makes.size (Made.start w2) (fun hne => ?_)
  (repeat (refine rLexL_quiet (by rfl) (by rfl) (by rfl) (by rfl) ?_; go_big_quiet_step (fail); refine wpQuiet_nil ?_))
  refine rg_fix (.agg #[.int .i64 a0, .int .i64 b0, .int .i64 c0]) 33 #[.agg #[.int .i64 a0, .int .i64 b0, .int .i64 c0]] rfl rfl rfl (fun _ => by go_simp) (fun u hu => of_any _ _ _ u) ?_
  simp only [Act.put, List.setIfInBounds_toArray, List.set_cons_zero, List.set_cons_succ]
  (repeat (refine rLexL_quiet (by rfl) (by rfl) (by rfl) (by rfl) ?_; go_big_quiet_step (fail); refine wpQuiet_nil ?_))
  refine rg_fix (.agg #[.int .i64 a1, .int .i64 b1, .int .i64 c1]) 33 #[.agg #[.int .i64 a1, .int .i64 b1, .int .i64 c1]] rfl rfl rfl (fun _ => by go_simp) (fun u hu => of_any _ _ _ u) ?_
  simp only [Act.put, List.setIfInBounds_toArray, List.set_cons_zero, List.set_cons_succ]
  (repeat (refine rLexL_quiet (by rfl) (by rfl) (by rfl) (by rfl) ?_; go_big_quiet_step (fail); refine wpQuiet_nil ?_))
  refine rg_fix (.agg #[.int .i64 x0, .int .i64 y0, .int .i64 z0]) 33 #[.agg #[.int .i64 x0, .int .i64 y0, .int .i64 z0]] rfl rfl rfl (fun _ => by go_simp) (fun u hu => of_any _ _ _ u) ?_
  simp only [Act.put, List.setIfInBounds_toArray, List.set_cons_zero, List.set_cons_succ]
  (repeat (refine rLexL_quiet (by rfl) (by rfl) (by rfl) (by rfl) ?_; go_big_quiet_step (fail); refine wpQuiet_nil ?_))
  refine rg_fix (.agg #[.int .i64 x1, .int .i64 y1, .int .i64 z1]) 33 #[.agg #[.int .i64 x1, .int .i64 y1, .int .i64 z1]] rfl rfl rfl (fun _ => by go_simp) (fun u hu => of_any _ _ _ u) ?_
  simp only [Act.put, List.setIfInBounds_toArray, List.set_cons_zero, List.set_cons_succ]
  refine rg_new #[.int .i64 0, .int .i64 0, .int .i64 0] 115 rfl rfl (fun _ => by go_simp) (fun p hp => ?_)
  simp only [Act.put, List.setIfInBounds_toArray, List.set_cons_zero, List.set_cons_succ]
  refine rg_new #[.int .i64 0, .int .i64 0, .int .i64 0] 115 rfl rfl (fun _ => by go_simp) (fun q hq' => ?_)
  simp only [Act.put, List.setIfInBounds_toArray, List.set_cons_zero, List.set_cons_succ]
  refine rg_new #[.int .i64 0, .int .i64 0, .int .i64 0] 115 rfl rfl (fun _ => by go_simp) (fun r hr => ?_)
  simp only [Act.put, List.setIfInBounds_toArray, List.set_cons_zero, List.set_cons_succ]
  refine rg_new #[.int .i64 0, .int .i64 0, .int .i64 0] 115 rfl rfl (fun _ => by go_simp) (fun s hs => ?_)
  simp only [Act.put, List.setIfInBounds_toArray, List.set_cons_zero, List.set_cons_succ]
  rintro wq hq hf hD
  have ep := isNew.out (hf 12)
  have eq := isNew.out (hf 13)
  have er := isNew.out (hf 14)
  have es := isNew.out (hf 15)
  have npq : p ≠ q := (hD 12 _ _ rfl (by kernel_rfl) rfl rfl p rfl (Nat.zero_le _)).2 13 _ _ rfl (by decide) (by kernel_rfl) rfl rfl q rfl (Nat.zero_le _)
  have npr : p ≠ r := (hD 12 _ _ rfl (by kernel_rfl) rfl rfl p rfl (Nat.zero_le _)).2 14 _ _ rfl (by decide) (by kernel_rfl) rfl rfl r rfl (Nat.zero_le _)
  have nps : p ≠ s := (hD 12 _ _ rfl (by kernel_rfl) rfl rfl p rfl (Nat.zero_le _)).2 15 _ _ rfl (by decide) (by kernel_rfl) rfl rfl s rfl (Nat.zero_le _)
  have nqr : q ≠ r := (hD 13 _ _ rfl (by kernel_rfl) rfl rfl q rfl (Nat.zero_le _)).2 14 _ _ rfl (by decide) (by kernel_rfl) rfl rfl r rfl (Nat.zero_le _)
  have nqs : q ≠ s := (hD 13 _ _ rfl (by kernel_rfl) rfl rfl q rfl (Nat.zero_le _)).2 15 _ _ rfl (by decide) (by kernel_rfl) rfl rfl s rfl (Nat.zero_le _)
  have nrs : r ≠ s := (hD 14 _ _ rfl (by kernel_rfl) rfl rfl r rfl (Nat.zero_le _)).2 15 _ _ rfl (by decide) (by kernel_rfl) rfl rfl s rfl (Nat.zero_le _)
  clear hf hD
  refine wpList_store_row rfl _ _ _ rfl p #[.int .i64 a0, .int .i64 b0, .int .i64 c0] rfl rfl _ _ ep (by kernel_rfl) rfl (by simp [Value.oneCell']) ?_
  replace ep := setRow_at (cs := #[.int .i64 a0, .int .i64 b0, .int .i64 c0]) ep
  replace eq := (setRow_far (g := p) (cs := #[.int .i64 a0, .int .i64 b0, .int .i64 c0]) (Ne.symm npq)).trans eq
  replace er := (setRow_far (g := p) (cs := #[.int .i64 a0, .int .i64 b0, .int .i64 c0]) (Ne.symm npr)).trans er
  replace es := (setRow_far (g := p) (cs := #[.int .i64 a0, .int .i64 b0, .int .i64 c0]) (Ne.symm nps)).trans es
  refine wpList_store_row rfl _ _ _ rfl q #[.int .i64 a1, .int .i64 b1, .int .i64 c1] rfl rfl _ _ eq (by kernel_rfl) rfl (by simp [Value.oneCell']) ?_
  replace ep := (setRow_far (g := q) (cs := #[.int .i64 a1, .int .i64 b1, .int .i64 c1]) npq).trans ep
  replace eq := setRow_at (cs := #[.int .i64 a1, .int .i64 b1, .int .i64 c1]) eq
  replace er := (setRow_far (g := q) (cs := #[.int .i64 a1, .int .i64 b1, .int .i64 c1]) (Ne.symm nqr)).trans er
  replace es := (setRow_far (g := q) (cs := #[.int .i64 a1, .int .i64 b1, .int .i64 c1]) (Ne.symm nqs)).trans es
  refine wpList_store_row rfl _ _ _ rfl r #[.int .i64 x0, .int .i64 y0, .int .i64 z0] rfl rfl _ _ er (by kernel_rfl) rfl (by simp [Value.oneCell']) ?_
  replace ep := (setRow_far (g := r) (cs := #[.int .i64 x0, .int .i64 y0, .int .i64 z0]) npr).trans ep
  replace eq := (setRow_far (g := r) (cs := #[.int .i64 x0, .int .i64 y0, .int .i64 z0]) nqr).trans eq
  replace er := setRow_at (cs := #[.int .i64 x0, .int .i64 y0, .int .i64 z0]) er
  replace es := (setRow_far (g := r) (cs := #[.int .i64 x0, .int .i64 y0, .int .i64 z0]) (Ne.symm nrs)).trans es
  refine wpList_store_row rfl _ _ _ rfl s #[.int .i64 x1, .int .i64 y1, .int .i64 z1] rfl rfl _ _ es (by kernel_rfl) rfl (by simp [Value.oneCell']) ?_
  replace ep := (setRow_far (g := s) (cs := #[.int .i64 x1, .int .i64 y1, .int .i64 z1]) nps).trans ep
  replace eq := (setRow_far (g := s) (cs := #[.int .i64 x1, .int .i64 y1, .int .i64 z1]) nqs).trans eq
  replace er := (setRow_far (g := s) (cs := #[.int .i64 x1, .int .i64 y1, .int .i64 z1]) nrs).trans er
  replace es := setRow_at (cs := #[.int .i64 x1, .int .i64 y1, .int .i64 z1]) es
  have hgq : w2.grownBy ((((wq.setRow p #[.int .i64 a0, .int .i64 b0, .int .i64 c0]).setRow q #[.int .i64 a1, .int .i64 b1, .int .i64 c1]).setRow r #[.int .i64 x0, .int .i64 y0, .int .i64 z0]).setRow s #[.int .i64 x1, .int .i64 y1, .int .i64 z1]) none := gb_setRow (gb_setRow (gb_setRow (gb_setRow hq (.inl hp)) (.inl hq')) (.inl hr)) (.inl hs)
  have HS3 : Hid (HulAt w p q r s a0 b0 c0 a1 b1 c1 x0 y0 z0 x1 y1 z1 ((((wq.setRow p #[.int .i64 a0, .int .i64 b0, .int .i64 c0]).setRow q #[.int .i64 a1, .int .i64 b1, .int .i64 c1]).setRow r #[.int .i64 x0, .int .i64 y0, .int .i64 z0]).setRow s #[.int .i64 x1, .int .i64 y1, .int .i64 z1])) := Lib.hid (by
    have := block_lt HR2.out
    exact ⟨block_kept hgq HR2.out rfl, ep, eq, er, es, by omega, ⟨npq, npr, nps, nqr, nqs, nrs⟩, gb_trans HG2.out hgq⟩)
  generalize ((((wq.setRow p #[.int .i64 a0, .int .i64 b0, .int .i64 c0]).setRow q #[.int .i64 a1, .int .i64 b1, .int .i64 c1]).setRow r #[.int .i64 x0, .int .i64 y0, .int .i64 z0]).setRow s #[.int .i64 x1, .int .i64 y1, .int .i64 z1]) = w3 at *
  clear hgq hp hq' hr hs hq ep eq er es npq npr nps nqr nqs nrs q0 q1 q2 q3 q4 q5 d0 d1 d2 d3 d4 d5 ka kx hne HA2 HX2 HR2 HG2
  refine wpList_nil ?_
  simp only [Act.put, List.setIfInBounds_toArray, List.set_cons_zero, List.set_cons_succ]
  obtain ⟨m0, hm0⟩ : ∃ m, m = min a0 x0 := ⟨_, rfl⟩
  obtain ⟨m1, hm1⟩ : ∃ m, m = min b0 y0 := ⟨_, rfl⟩
  obtain ⟨m2, hm2⟩ : ∃ m, m = min c0 z0 := ⟨_, rfl⟩
  obtain ⟨k0, hk0⟩ : ∃ m, m = max a1 x1 := ⟨_, rfl⟩
  obtain ⟨k1, hk1⟩ : ∃ m, m = max b1 y1 := ⟨_, rfl⟩
  obtain ⟨k2, hk2⟩ : ∃ m, m = max c1 z1 := ⟨_, rfl⟩
  have HM0 := Lib.hid hm0; have HM1 := Lib.hid hm1; have HM2 := Lib.hid hm2; have HK0 := Lib.hid hk0; have HK1 := Lib.hid hk1; have HK2 := Lib.hid hk2
  clear hm0 hm1 hm2 hk0 hk1 hk2
  go_wp2_with fail
  go_loopw [31] (fun x wr => ∃ k : Nat, k ≤ 3 ∧ x = .int .i64 k ∧ HulAt w p q r s (sel k 0 m0 a0) (sel k 1 m1 b0) (sel k 2 m2 c0) (sel k 0 k0 a1) (sel k 1 k1 b1) (sel k 2 k2 c1) x0 y0 z0 x1 y1 z1 wr) (fun x _ => 3 - (intOf x).toNat)
  case atStart => exact ⟨0, by omega, rfl, HS3.out⟩
  case round =>
  obtain ⟨k, hk, rfl, hul⟩ := hrel
  have HU := Lib.hid hul; clear hul HS3
  obtain rfl | rfl | rfl | rfl : k = 0 ∨ k = 1 ∨ k = 2 ∨ k = 3 := by omega
  · have HS3 : Hid (HulAt w p q r s a0 b0 c0 a1 b1 c1 x0 y0 z0 x1 y1 z1 wr) := HU
    clear HU
    obtain ⟨l0_, l1_, l2_⟩ := cells3 HS3.out.low
    obtain ⟨h0_, h1_, h2_⟩ := cells3 HS3.out.high
    obtain ⟨f0_, f1_, f2_⟩ := cells3 HS3.out.fro
    obtain ⟨t0_, t1_, t2_⟩ := cells3 HS3.out.til
    have fl := frozen3 HS3.out.low
    have fh := frozen3 HS3.out.high
    obtain ⟨npq, npr, nps, nqr, nqs, nrs⟩ := HS3.out.apart
    have mqp := Ne.symm npq; have mrp := Ne.symm npr; have msp := Ne.symm nps; have mrq := Ne.symm nqr; have msq := Ne.symm nqs
    go_wp2_with fail
    go_region
    rw [← HM0.out, ← HK0.out]
    have HS4 : Hid (HulAt w p q r s m0 b0 c0 k0 b1 c1 x0 y0 z0 x1 y1 z1 ((wr.setCell ⟨p, 0, none⟩ (.int .i64 m0)).setCell ⟨q, 0, none⟩ (.int .i64 k0)).drew) := Lib.hid (by
      have hs := HS3.out
      have hat := hs.at'
      have hd : ∀ u : World, u.grownBy u.drew none := fun u => gb_drew (gb_refl _ _)
      refine HulAt.made ?_ (hd _)
      exact ⟨(setCell_far (by show w.heap.size + 2 ≠ q; omega)).trans ((setCell_far (by show w.heap.size + 2 ≠ p; omega)).trans hs.res), (setCell_far npq).trans (set_block hs.low 0 (.int .i64 m0)), set_block ((setCell_far mqp).trans hs.high) 0 (.int .i64 k0),
        (setCell_far mrq).trans ((setCell_far mrp).trans hs.fro), (setCell_far msq).trans ((setCell_far msp).trans hs.til), hs.at', hs.apart, gb_setCell (gb_setCell hs.grown (.inl (by show w.heap.size ≤ p; omega)) _) (.inl (by show w.heap.size ≤ q; omega)) _⟩)
    generalize ((wr.setCell ⟨p, 0, none⟩ (.int .i64 m0)).setCell ⟨q, 0, none⟩ (.int .i64 k0)).drew = w4 at *
    clear l0_ l1_ l2_ h0_ h1_ h2_ f0_ f1_ f2_ t0_ t1_ t2_ fl fh npq npr nps nqr nqs nrs mqp mrp msp mrq msq HS3
    go_wp2_with fail
    go_roundw
    case rel => exact ⟨0+1, by omega, by go_num, HS4.out⟩
    case measure => simp [intOf]
  · have HS3 : Hid (HulAt w p q r s m0 b0 c0 k0 b1 c1 x0 y0 z0 x1 y1 z1 wr) := HU
    clear HU
    obtain ⟨l0_, l1_, l2_⟩ := cells3 HS3.out.low
    obtain ⟨h0_, h1_, h2_⟩ := cells3 HS3.out.high
    obtain ⟨f0_, f1_, f2_⟩ := cells3 HS3.out.fro
    obtain ⟨t0_, t1_, t2_⟩ := cells3 HS3.out.til
    have fl := frozen3 HS3.out.low
    have fh := frozen3 HS3.out.high
    obtain ⟨npq, npr, nps, nqr, nqs, nrs⟩ := HS3.out.apart
    have mqp := Ne.symm npq; have mrp := Ne.symm npr; have msp := Ne.symm nps; have mrq := Ne.symm nqr; have msq := Ne.symm nqs
    go_wp2_with fail
    go_region
    rw [← HM1.out, ← HK1.out]
    have HS4 : Hid (HulAt w p q r s m0 m1 c0 k0 k1 c1 x0 y0 z0 x1 y1 z1 ((wr.setCell ⟨p, 1, none⟩ (.int .i64 m1)).setCell ⟨q, 1, none⟩ (.int .i64 k1)).drew) := Lib.hid (by
      have hs := HS3.out
      have hat := hs.at'
      have hd : ∀ u : World, u.grownBy u.drew none := fun u => gb_drew (gb_refl _ _)
      refine HulAt.made ?_ (hd _)
      exact ⟨(setCell_far (by show w.heap.size + 2 ≠ q; omega)).trans ((setCell_far (by show w.heap.size + 2 ≠ p; omega)).trans hs.res), (setCell_far npq).trans (set_block hs.low 1 (.int .i64 m1)), set_block ((setCell_far mqp).trans hs.high) 1 (.int .i64 k1),
        (setCell_far mrq).trans ((setCell_far mrp).trans hs.fro), (setCell_far msq).trans ((setCell_far msp).trans hs.til), hs.at', hs.apart, gb_setCell (gb_setCell hs.grown (.inl (by show w.heap.size ≤ p; omega)) _) (.inl (by show w.heap.size ≤ q; omega)) _⟩)
    generalize ((wr.setCell ⟨p, 1, none⟩ (.int .i64 m1)).setCell ⟨q, 1, none⟩ (.int .i64 k1)).drew = w4 at *
    clear l0_ l1_ l2_ h0_ h1_ h2_ f0_ f1_ f2_ t0_ t1_ t2_ fl fh npq npr nps nqr nqs nrs mqp mrp msp mrq msq HS3
    go_wp2_with fail
    go_roundw
    case rel => exact ⟨1+1, by omega, by go_num, HS4.out⟩
    case measure => simp [intOf]
  · have HS3 : Hid (HulAt w p q r s m0 m1 c0 k0 k1 c1 x0 y0 z0 x1 y1 z1 wr) := HU
    clear HU
    obtain ⟨l0_, l1_, l2_⟩ := cells3 HS3.out.low
    obtain ⟨h0_, h1_, h2_⟩ := cells3 HS3.out.high
    obtain ⟨f0_, f1_, f2_⟩ := cells3 HS3.out.fro
    obtain ⟨t0_, t1_, t2_⟩ := cells3 HS3.out.til
    have fl := frozen3 HS3.out.low
    have fh := frozen3 HS3.out.high
    obtain ⟨npq, npr, nps, nqr, nqs, nrs⟩ := HS3.out.apart
    have mqp := Ne.symm npq; have mrp := Ne.symm npr; have msp := Ne.symm nps; have mrq := Ne.symm nqr; have msq := Ne.symm nqs
    go_wp2_with fail
    go_region
    rw [← HM2.out, ← HK2.out]
    have HS4 : Hid (HulAt w p q r s m0 m1 m2 k0 k1 k2 x0 y0 z0 x1 y1 z1 ((wr.setCell ⟨p, 2, none⟩ (.int .i64 m2)).setCell ⟨q, 2, none⟩ (.int .i64 k2)).drew) := Lib.hid (by
      have hs := HS3.out
      have hat := hs.at'
      have hd : ∀ u : World, u.grownBy u.drew none := fun u => gb_drew (gb_refl _ _)
      refine HulAt.made ?_ (hd _)
      exact ⟨(setCell_far (by show w.heap.size + 2 ≠ q; omega)).trans ((setCell_far (by show w.heap.size + 2 ≠ p; omega)).trans hs.res), (setCell_far npq).trans (set_block hs.low 2 (.int .i64 m2)), set_block ((setCell_far mqp).trans hs.high) 2 (.int .i64 k2),
        (setCell_far mrq).trans ((setCell_far mrp).trans hs.fro), (setCell_far msq).trans ((setCell_far msp).trans hs.til), hs.at', hs.apart, gb_setCell (gb_setCell hs.grown (.inl (by show w.heap.size ≤ p; omega)) _) (.inl (by show w.heap.size ≤ q; omega)) _⟩)
    generalize ((wr.setCell ⟨p, 2, none⟩ (.int .i64 m2)).setCell ⟨q, 2, none⟩ (.int .i64 k2)).drew = w4 at *
    clear l0_ l1_ l2_ h0_ h1_ h2_ f0_ f1_ f2_ t0_ t1_ t2_ fl fh npq npr nps nqr nqs nrs mqp mrp msp mrq msq HS3
    go_wp2_with fail
    go_roundw
    case rel => exact ⟨2+1, by omega, by go_num, HS4.out⟩
    case measure => simp [intOf]
  · have HS6 : Hid (HulAt w p q r s m0 m1 m2 k0 k1 k2 x0 y0 z0 x1 y1 z1 wr) := HU
    clear HU
    obtain ⟨l0_, l1_, l2_⟩ := cells3 HS6.out.low
    obtain ⟨h0_, h1_, h2_⟩ := cells3 HS6.out.high
    have lp := MadeB.cells (r := w.heap.size + 2) (n := 6) (T := 28) (block_lt HS6.out.low) (by have := HS6.out.at'; omega)
    have lq := MadeB.cells (r := w.heap.size + 2) (n := 6) (T := 28) (block_lt HS6.out.high) (by have := HS6.out.at'; omega)
    go_wp2_with fail
    refine Rg.region (MadeB wr (w.heap.size + 2) 6 28) (MakesB 5 (w.heap.size + 2)) (fun k => if k = 1 then some (isV (.agg #[.int .i64 m0, .int .i64 m1, .int .i64 m2])) else if k = 3 then some (isV (.agg #[.int .i64 k0, .int .i64 k1, .int .i64 k2])) else none) (fun _ => false) 0 5 (by kernel_rfl) (by kernel_rfl) (by kernel_rfl) (by kernel_rfl) (by kernel_rfl) (by kernel_rfl) (by kernel_rfl) (MakesB.size 5 _) (MadeB.start HS6.out.res rfl) (fun hne => ?_)
    (repeat (refine rLexL_quiet (by rfl) (by rfl) (by rfl) (by rfl) ?_; go_big_quiet_step (fail); refine wpQuiet_nil ?_))
    refine rg_fixG MadeB.grown (MakesB.none (by decide)) (.agg #[.int .i64 m0, .int .i64 m1, .int .i64 m2]) 34 #[.agg #[.int .i64 m0, .int .i64 m1, .int .i64 m2]] rfl rfl rfl (fun _ => by go_simp) (fun u hu => position_any _ _ _ u) ?_
    simp only [Act.put, List.setIfInBounds_toArray, List.set_cons_zero, List.set_cons_succ]
    (repeat (refine rLexL_quiet (by rfl) (by rfl) (by rfl) (by rfl) ?_; go_big_quiet_step (fail); refine wpQuiet_nil ?_))
    refine rg_fixG MadeB.grown (MakesB.none (by decide)) (.agg #[.int .i64 k0, .int .i64 k1, .int .i64 k2]) 34 #[.agg #[.int .i64 k0, .int .i64 k1, .int .i64 k2]] rfl rfl rfl (fun _ => by go_simp) (fun u hu => position_any _ _ _ u) ?_
    simp only [Act.put, List.setIfInBounds_toArray, List.set_cons_zero, List.set_cons_succ]
    (repeat (refine rLexL_quiet (by rfl) (by rfl) (by rfl) (by rfl) ?_; go_big_quiet_step (fail); refine wpQuiet_nil ?_))
    rintro wq2 ⟨hq, rcs, hrcs, hR⟩ - -
    have hgw : w.grownBy wq2 none := gb_new HS6.out.grown hq (by simp)
    refine wpList_store_row rfl _ _ _ rfl (w.heap.size + 2) #[.int .i64 m0, .int .i64 m1, .int .i64 m2, .int .i64 k0, .int .i64 k1, .int .i64 k2] rfl rfl _ _ hR (by kernel_rfl) hrcs (by simp [Value.oneCell']) ?_
    obtain ⟨e0, e1, e2, e3, e4, e5⟩ := cells6 (setRow_at (cs := #[.int .i64 m0, .int .i64 m1, .int .i64 m2, .int .i64 k0, .int .i64 k1, .int .i64 k2]) hR)
    have HGE := Lib.hid (gb_setRow (cs := #[.int .i64 m0, .int .i64 m1, .int .i64 m2, .int .i64 k0, .int .i64 k1, .int .i64 k2]) hgw (g := w.heap.size + 2) (.inl (by omega)))
    clear hgw hR hrcs hq hne lp lq l0_ l1_ l2_ h0_ h1_ h2_ HS6
    refine wpList_nil ?_
    simp only [Act.put, List.setIfInBounds_toArray, List.set_cons_zero, List.set_cons_succ]
    go_wp2
    refine bodyPost_ret (v := .agg #[.int .i64 m0, .int .i64 m1, .int .i64 m2, .int .i64 k0, .int .i64 k1, .int .i64 k2]) (by simp [results, Tryz.results19, go_sem, e0, e1, e2, e3, e4, e5]) rfl ⟨by rw [HM0.out, HM1.out, HM2.out, HK0.out, HK1.out, HK2.out]; simp [huL, huH, HV.out], HGE.out⟩
end LGeoG
end Go.Proofs.YtgaglgopbdfemaaGreatDoor
