import Derived.Test.YtiebljanpnadjaaGreatPgRef
namespace Go.Proofs.YtiebljanpnadjaaGreat
set_option linter.all false
open Go.RowKit Rg
structure SpR (w : World) (a p q : Nat) (x0 y0 z0 x1 y1 z1 mx my mz : Int) (pc qc : Array Value) (u : World) : Prop where
 box : u.heap[w.heap.size]? = some (.cells #[x0, y0, z0, x1, y1, z1] 25 (0, 0))
 r1 : u.heap[w.heap.size + 1]? = some (.cells #[(0:Int), (0:Int), (0:Int), (0:Int), (0:Int), (0:Int)] 25 (0, 0))
 r2 : u.heap[w.heap.size + 2]? = some (.cells #[(0:Int), (0:Int), (0:Int), (0:Int), (0:Int), (0:Int)] 25 (0, 0))
 mid : u.heap[a]? = some (.cells #[mx, my, mz] 23 (0, 0))
 pp : u.heap[p]? = some (.cells pc 25 (0, 0))
 qq : u.heap[q]? = some (.cells qc 25 (0, 0))
 at' : w.heap.size + 2 < a ∧ a < p ∧ a < q ∧ p ≠ q
 grown : w.grownBy u none
set_option maxRecDepth 100000 in
set_option maxHeartbeats 4000000 in
theorem rsplit_any (x0 y0 z0 x1 y1 z1 : Int) (w : World) :
  Calls Tryz.prog 147 #[.agg #[x0, y0, z0, x1, y1, z1]] w fun e w' => e = .returned (splV (splOk x0 y0 z0 x1 y1 z1) (axis (x1 - x0) (y1 - y0) (z1 - z0)) x0 y0 z0 x1 y1 z1) ∧ w.grownBy w' none := by
 go_enter Tryz.func147, Tryz.ntmps147
 go_wp2_with fail
 (with_reducible refine (rpoints_any _ _ _ _ _ _ _).mono ?_)
 rintro e w1 ⟨rfl, hg1⟩
 have HB1 := zH (show w1.heap[w.heap.size]? = some (.cells #[x0, y0, z0, x1, y1, z1] 25 (0, 0)) from block_kept hg1 (by rw [heap_alloc_old _ _ (by simp; omega), heap_alloc_old _ _ (by simp), heap_alloc_new]) rfl)
 have HR1 := zH (show w1.heap[w.heap.size + 1]? = some (.cells #[(0:Int), (0:Int), (0:Int), (0:Int), (0:Int), (0:Int)] 25 (0, 0)) from block_kept hg1 (by rw [heap_alloc_old _ _ (by simp)]; simpa using heap_alloc_new (w.alloc _) _) rfl)
 have HS1 := zH (show w1.heap[w.heap.size + 2]? = some (.cells #[(0:Int), (0:Int), (0:Int), (0:Int), (0:Int), (0:Int)] 25 (0, 0)) from block_kept hg1 (by simpa using heap_alloc_new ((w.alloc _).alloc _) _) rfl)
 have HG1 := zH (gb_trans (gb_alloc (gb_alloc (gb_alloc (gb_refl _ _) _) _) _) hg1); clear hg1
 by_cases hp : 2 ≤ ptsP x0 y0 z0 x1 y1 z1
 rotate_left
 ·have hp' : ptsP x0 y0 z0 x1 y1 z1 < 2 := by omega
  have hR := HR1.out; have hS := (setRow_far (g := w.heap.size + 1) (b := w.heap.size + 2) (cs := #[(0:Int), (0:Int), (0:Int), (0:Int), (0:Int), (0:Int)]) (by omega)).trans HS1.out
  have HN1 := zH ((setRow_far (g := w.heap.size + 2) (b := w.heap.size + 1) (cs := #[(0:Int), (0:Int), (0:Int), (0:Int), (0:Int), (0:Int)]) (by omega)).trans (setRow_at (cs := #[(0:Int), (0:Int), (0:Int), (0:Int), (0:Int), (0:Int)]) hR))
  have HN2 := zH (setRow_at (cs := #[(0:Int), (0:Int), (0:Int), (0:Int), (0:Int), (0:Int)]) hS)
  have HGE := zH (gb_setRow (cs := #[(0:Int), (0:Int), (0:Int), (0:Int), (0:Int), (0:Int)]) (gb_setRow (cs := #[(0:Int), (0:Int), (0:Int), (0:Int), (0:Int), (0:Int)]) HG1.out (g := w.heap.size + 1) (.inl (by omega))) (g := w.heap.size + 2) (.inl (by omega)))
  have HV := zH (show splOk x0 y0 z0 x1 y1 z1 = false from by simp [splOk]; omega)
  clear hp
  go_wp2_with (first
   | (with_reducible refine wpList_store_row rfl _ _ _ rfl (w.heap.size + 1) #[(0:Int), (0:Int), (0:Int), (0:Int), (0:Int), (0:Int)] rfl rfl _ _ hR (by kernel_rfl) rfl (by simp [Value.oneCell']) ?_)
   | (with_reducible refine wpList_store_row rfl _ _ _ rfl (w.heap.size + 2) #[(0:Int), (0:Int), (0:Int), (0:Int), (0:Int), (0:Int)] rfl rfl _ _ hS (by kernel_rfl) rfl (by simp [Value.oneCell']) ?_))
  obtain ⟨e0, e1, e2, e3, e4, e5⟩ := cells6 HN1.out
  obtain ⟨d0, d1, d2, d3, d4, d5⟩ := cells6 HN2.out
  refine bodyPost_ret (v := splV false 0 x0 y0 z0 x1 y1 z1) (by simp [results, Tryz.results147, go_sem, e0, e1, e2, e3, e4, e5, d0, d1, d2, d3, d4, d5, splV, keepI, spE, spB]) rfl ⟨by rw [HV.out]; simp [splV, keepI, spE, spB], HGE.out⟩
 have hbp : bP x0 y0 z0 x1 y1 z1 = true := by
  cases e : bP x0 y0 z0 x1 y1 z1
  ·unfold ptsP at hp; rw [e] at hp; simp at hp
  ·rfl
 have HV := zH (show splOk x0 y0 z0 x1 y1 z1 = true from by simp [splOk]; omega)
 have hp' : ¬ ptsP x0 y0 z0 x1 y1 z1 < 2 := by omega
 obtain ⟨b0, b1, b2, b3, b4⟩ := bP_iff hbp
 have hi0 := vP_iff b0
 have hi1 := vP_iff b1
 have hbp' := hbp
 have CEN := zH (fun u => rcenter_any x0 y0 z0 x1 y1 z1 u)
 rw [hbp] at CEN
 simp only [cen, if_true] at CEN
 clear hbp b0 b1
 have wx : IntKind.i64.wrap (x1 - x0) = x1 - x0 := by rw [IntKind.wrap_i64]; omega
 have wy : IntKind.i64.wrap (y1 - y0) = y1 - y0 := by rw [IntKind.wrap_i64]; omega
 have wz : IntKind.i64.wrap (z1 - z0) = z1 - z0 := by rw [IntKind.wrap_i64]; omega
 have hmx : -2000000 ≤ midI x0 x1 ∧ midI x0 x1 ≤ 2000000 := by unfold midI; omega
 have hmy : -2000000 ≤ midI y0 y1 ∧ midI y0 y1 ≤ 2000000 := by unfold midI; omega
 have hmz : -2000000 ≤ midI z0 z1 ∧ midI z0 z1 ≤ 2000000 := by unfold midI; omega
 have HAX := zH (axis_cases x0 y0 z0 x1 y1 z1)
 have HX0 : Hid (axis (x1 - x0) (y1 - y0) (z1 - z0) = 0 → splV (splOk x0 y0 z0 x1 y1 z1) (axis (x1 - x0) (y1 - y0) (z1 - z0)) x0 y0 z0 x1 y1 z1 = .tuple #[.agg #[x0, y0, z0, .int .i64 (midI x0 x1), y1, z1], .agg #[.int .i64 (midI x0 x1 + 1), y0, z0, x1, y1, z1], .bool true]) := zH (fun h => by rw [HV.out, h]; simp [splV, keepI, spE, spB])
 have HX1 : Hid (axis (x1 - x0) (y1 - y0) (z1 - z0) = 1 → splV (splOk x0 y0 z0 x1 y1 z1) (axis (x1 - x0) (y1 - y0) (z1 - z0)) x0 y0 z0 x1 y1 z1 = .tuple #[.agg #[x0, y0, z0, x1, .int .i64 (midI y0 y1), z1], .agg #[x0, .int .i64 (midI y0 y1 + 1), z0, x1, y1, z1], .bool true]) := zH (fun h => by rw [HV.out, h]; simp [splV, keepI, spE, spB])
 have HX2 : Hid (axis (x1 - x0) (y1 - y0) (z1 - z0) = 2 → splV (splOk x0 y0 z0 x1 y1 z1) (axis (x1 - x0) (y1 - y0) (z1 - z0)) x0 y0 z0 x1 y1 z1 = .tuple #[.agg #[x0, y0, z0, x1, y1, .int .i64 (midI z0 z1)], .agg #[x0, y0, .int .i64 (midI z0 z1 + 1), x1, y1, z1], .bool true]) := zH (fun h => by rw [HV.out, h]; simp [splV, keepI, spE, spB])
 clear HV hbp' b2 b3 b4
 obtain ⟨q0, q1, q2, q3, q4, q5⟩ := cells6 HB1.out
 have cq := Made.cells (block_lt HB1.out)
 go_wp2_with fail
 refine Rg.rR (Made w1) Makes (fun _ => none) (fun _ => false) 0 24 Makes.size (Made.start w1) (fun hne => ?_)
 (repeat (refine rQ ?_; go_big_quiet_step (fail); refine wpQuiet_nil ?_))
 rintro w2 hq - -
 refine wpList_nil ?_
 have HB2 := zH (block_kept hq HB1.out rfl); have HR2 := zH (block_kept hq HR1.out rfl); have HS2 := zH (block_kept hq HS1.out rfl); have HG2 := zH (gb_trans HG1.out hq)
 clear hq hne cq q0 q1 q2 q3 q4 q5 HB1 HR1 HS1 HG1 wx wy wz hp hp'
 obtain ⟨q0, q1, q2, q3, q4, q5⟩ := cells6 HB2.out
 go_wp2_with fail
 (with_reducible refine (CEN.out w2).mono ?_)
 rintro e w3 ⟨rfl, hg⟩
 clear q0 q1 q2 q3 q4 q5
 generalize midI x0 x1 = mx at *
 generalize midI y0 y1 = my at *
 generalize midI z0 z1 = mz at *
 have hga := gb_alloc hg (.cells #[mx, my, mz] 23)
 have hz3 := hg.size; have hs2 := block_lt HS2.out
 have HB4 := zH (block_kept hga HB2.out rfl); have HR4 := zH (block_kept hga HR2.out rfl); have HS4 := zH (block_kept hga HS2.out rfl); have HG4 := zH (gb_trans HG2.out hga)
 have HM4 := zH (heap_alloc_new w3 (.cells #[mx, my, mz] 23))
 have ham : w.heap.size + 2 < w3.heap.size := by omega
 clear hg hga hz3 hs2 HB2 HR2 HS2 HG2 CEN
 obtain ⟨q0, q1, q2, q3, q4, q5⟩ := cells6 HB4.out
 have cq := Made.cells (block_lt HB4.out)
 have hlm := block_lt HM4.out
 go_wp2_with fail
 generalize w3.alloc (.cells #[mx, my, mz] 23) = w4 at *
 generalize w3.heap.size = a at *
 refine Rg.rR (Made w4) (MakesS 4) (fun k => if k = 2 then some (isVar w4 6 25) else if k = 3 then some (isVar w4 6 25) else if k = 4 then some (isRow #[x0, y0, z0, x1, y1, z1] 25) else none) (fun k => k == 2 || k == 3) 0 5 (MakesS.size 4) (Made.start w4) (fun hne => ?_)
 (repeat (refine rQ ?_; go_big_quiet_step (fail); refine wpQuiet_nil ?_))
 refine rg_var #[(0:Int), (0:Int), (0:Int), (0:Int), (0:Int), (0:Int)] 25 (by decide) rfl rfl (fun _ => by go_simp) (fun p hp => ?_)
 simp only [zA, zB, zC, zD, zX]
 refine rg_var #[(0:Int), (0:Int), (0:Int), (0:Int), (0:Int), (0:Int)] 25 (by decide) rfl rfl (fun _ => by go_simp) (fun q hq_ => ?_)
 simp only [zA, zB, zC, zD, zX]
 refine rg_storeRow p #[x0, y0, z0, x1, y1, z1] 25 _ _ _ 2 ⟨⟨2, .data⟩, by simp, rfl, rfl⟩ rfl rfl rfl rfl (by kernel_rfl) (by simp [Value.oneCell']) hp rfl rfl rfl ?_ rfl
 simp only [zA, zB, zC, zD, zX]
 rintro wq hq hf hD
 have hc6 := isRow.out (v := undef) (hf 4)
 obtain ⟨dcs, hdcs, hd6⟩ := isVar.out (hf 3)
 have hcd : p ≠ q := (hD 2 _ _ rfl (by kernel_rfl) rfl rfl p rfl (Nat.zero_le _)).2 3 _ _ rfl (by decide) (by kernel_rfl) rfl rfl q rfl (Nat.zero_le _)
 refine wpList_store_row rfl _ _ _ rfl q #[x0, y0, z0, x1, y1, z1] rfl rfl _ _ hd6 (by kernel_rfl) hdcs (by simp [Value.oneCell']) ?_
 have A5 : Hid (SpR w a p q x0 y0 z0 x1 y1 z1 mx my mz #[x0, y0, z0, x1, y1, z1] #[x0, y0, z0, x1, y1, z1] (wq.setRow q #[x0, y0, z0, x1, y1, z1])) := zH ⟨(setRow_far (by omega)).trans (block_kept hq HB4.out rfl), (setRow_far (by omega)).trans (block_kept hq HR4.out rfl), (setRow_far (by omega)).trans (block_kept hq HS4.out rfl), (setRow_far (by omega)).trans (block_kept hq HM4.out rfl),
  (setRow_far hcd).trans hc6, setRow_at hd6, by omega, gb_setRow (gb_trans HG4.out hq) (.inl (by omega))⟩
 generalize wq.setRow q #[x0, y0, z0, x1, y1, z1] = w5 at *
 clear hf hD hc6 hd6 hdcs hq hne cq q0 q1 q2 q3 q4 q5 HB4 HR4 HS4 HM4 HG4 hp hq_ hcd hlm
 refine wpList_nil ?_
 simp only [zA, zB, zC, zD, zX]
 have hat := A5.out.at'
 obtain ⟨m0, m1, m2⟩ := cells3 A5.out.mid
 have hF := frozen3 A5.out.pp; have hG := frozen3 A5.out.qq
 obtain ⟨p0, p1, p2, p3, p4, p5⟩ := cells6 A5.out.pp
 obtain ⟨q0, q1, q2, q3, q4, q5⟩ := cells6 A5.out.qq
 obtain ⟨h1, h2, h3⟩ | ⟨h1, h2, h3⟩ | ⟨h1, h2, h3⟩ | ⟨h1, h2, h3⟩ := HAX.out
 ·have HX := zH (HX0.out h3)
  have hw_ : IntKind.i64.wrap (mx + 1) = mx + 1 := by rw [IntKind.wrap_i64]; omega
  have D0 : decide ((y1 - y0) ≤ (x1 - x0)) = true := decide_eq_true (by omega)
  have D1 : decide ((z1 - z0) ≤ (x1 - x0)) = true := decide_eq_true (by omega)
  clear HX0 HX1 HX2 HAX h3
  go_wp2_with fail
  go_region
  have A6 : Hid (SpR w a p q x0 y0 z0 x1 y1 z1 mx my mz #[x0, y0, z0, mx, y1, z1] #[.int .i64 (mx + 1), y0, z0, x1, y1, z1] ((w5.setCell ⟨p, 3, none⟩ (.int .i64 mx)).setCell ⟨q, 0, none⟩ (.int .i64 (mx + 1))).drew) := zH (by
   have B := A5.out
   exact ⟨(setCell_far (a := ⟨q, 0, none⟩) (by show _ ≠ q; omega)).trans ((setCell_far (a := ⟨p, 3, none⟩) (by show _ ≠ p; omega)).trans B.box), (setCell_far (a := ⟨q, 0, none⟩) (by show _ ≠ q; omega)).trans ((setCell_far (a := ⟨p, 3, none⟩) (by show _ ≠ p; omega)).trans B.r1), (setCell_far (a := ⟨q, 0, none⟩) (by show _ ≠ q; omega)).trans ((setCell_far (a := ⟨p, 3, none⟩) (by show _ ≠ p; omega)).trans B.r2),
    (setCell_far (a := ⟨q, 0, none⟩) (by show _ ≠ q; omega)).trans ((setCell_far (a := ⟨p, 3, none⟩) (by show _ ≠ p; omega)).trans B.mid), (setCell_far (a := ⟨q, 0, none⟩) (by show _ ≠ q; omega)).trans (set_block B.pp 3 _), set_block ((setCell_far (a := ⟨p, 3, none⟩) (by show _ ≠ p; omega)).trans B.qq) 0 _, B.at', gb_drew (gb_setCell (gb_setCell B.grown (a := ⟨p, 3, none⟩) (.inl (by show w.heap.size ≤ p; omega)) _) (a := ⟨q, 0, none⟩) (.inl (by show w.heap.size ≤ q; omega)) _)⟩)
  generalize ((w5.setCell ⟨p, 3, none⟩ (.int .i64 mx)).setCell ⟨q, 0, none⟩ (.int .i64 (mx + 1))).drew = w6 at *
  clear A5 m0 m1 m2 hF hG p0 p1 p2 p3 p4 p5 q0 q1 q2 q3 q4 q5 hw_ h1 h2 D0 D1
  obtain ⟨p0, p1, p2, p3, p4, p5⟩ := cells6 A6.out.pp
  obtain ⟨q0, q1, q2, q3, q4, q5⟩ := cells6 A6.out.qq
  have lc := MadeB.cells (r := w.heap.size + 1) (n := 6) (T := 25) (block_lt A6.out.pp) (by omega)
  have ld := MadeB.cells (r := w.heap.size + 1) (n := 6) (T := 25) (block_lt A6.out.qq) (by omega)
  go_wp2_with fail
  refine Rg.rR (MadeB w6 (w.heap.size + 1) 6 25) (MakesB 2 (w.heap.size + 1)) (fun k => if k = 2 then some (isAt (w.heap.size + 1) #[x0, y0, z0, mx, y1, z1] 25) else none) (fun _ => false) 0 3 (MakesB.size 2 _) (MadeB.start A6.out.r1 rfl) (fun hne => ?_)
  (repeat (refine rQ ?_; go_big_quiet_step (fail); refine wpQuiet_nil ?_))
  refine rg_storeB (w.heap.size + 1) #[x0, y0, z0, mx, y1, z1] 25 _ _ _ rfl rfl rfl (by kernel_rfl) (by simp [Value.oneCell']) rfl rfl rfl rfl ?_
  simp only [zA, zB, zC, zD, zX]
  rintro wq2 ⟨hq, -⟩ hf -
  have hR := hf 2
  have hR2 := (hq.block _ (block_lt A6.out.r2) (by simp)).trans A6.out.r2
  have hgw : w.grownBy wq2 none := gb_new A6.out.grown hq (by simp)
  refine wpList_store_row rfl _ _ _ rfl (w.heap.size + 2) #[.int .i64 (mx + 1), y0, z0, x1, y1, z1] rfl rfl _ _ hR2 (by kernel_rfl) rfl (by simp [Value.oneCell']) ?_
  obtain ⟨e0, e1, e2, e3, e4, e5⟩ := cells6 ((setRow_far (g := w.heap.size + 2) (b := w.heap.size + 1) (cs := #[.int .i64 (mx + 1), y0, z0, x1, y1, z1]) (by omega)).trans hR)
  obtain ⟨d0, d1, d2, d3, d4, d5⟩ := cells6 (setRow_at (cs := #[.int .i64 (mx + 1), y0, z0, x1, y1, z1]) hR2)
  have HGE := zH (gb_setRow (cs := #[.int .i64 (mx + 1), y0, z0, x1, y1, z1]) hgw (g := w.heap.size + 2) (.inl (by omega)))
  clear hgw hf hR hR2 hq hne lc ld p0 p1 p2 p3 p4 p5 q0 q1 q2 q3 q4 q5 A6 hat
  simp only [zA, zB, zC, zD, zX]
  go_wp2
  refine bodyPost_ret (v := .tuple #[.agg #[x0, y0, z0, mx, y1, z1], .agg #[.int .i64 (mx + 1), y0, z0, x1, y1, z1], .bool true]) (by simp [results, Tryz.results147, go_sem, e0, e1, e2, e3, e4, e5, d0, d1, d2, d3, d4, d5]) rfl ⟨by rw [HX.out], HGE.out⟩
 ·have HX := zH (HX2.out h3)
  have hw_ : IntKind.i64.wrap (mz + 1) = mz + 1 := by rw [IntKind.wrap_i64]; omega
  have D0 : decide ((y1 - y0) ≤ (x1 - x0)) = true := decide_eq_true (by omega)
  have D1 : decide ((z1 - z0) ≤ (x1 - x0)) = false := decide_eq_false (by omega)
  have D2 : decide ((z1 - z0) ≤ (y1 - y0)) = false := decide_eq_false (by omega)
  clear HX0 HX1 HX2 HAX h3
  go_wp2_with fail
  go_region
  have A6 : Hid (SpR w a p q x0 y0 z0 x1 y1 z1 mx my mz #[x0, y0, z0, x1, y1, mz] #[x0, y0, .int .i64 (mz + 1), x1, y1, z1] ((w5.setCell ⟨p, 5, none⟩ (.int .i64 mz)).setCell ⟨q, 2, none⟩ (.int .i64 (mz + 1))).drew) := zH (by
   have B := A5.out
   exact ⟨(setCell_far (a := ⟨q, 2, none⟩) (by show _ ≠ q; omega)).trans ((setCell_far (a := ⟨p, 5, none⟩) (by show _ ≠ p; omega)).trans B.box), (setCell_far (a := ⟨q, 2, none⟩) (by show _ ≠ q; omega)).trans ((setCell_far (a := ⟨p, 5, none⟩) (by show _ ≠ p; omega)).trans B.r1), (setCell_far (a := ⟨q, 2, none⟩) (by show _ ≠ q; omega)).trans ((setCell_far (a := ⟨p, 5, none⟩) (by show _ ≠ p; omega)).trans B.r2),
    (setCell_far (a := ⟨q, 2, none⟩) (by show _ ≠ q; omega)).trans ((setCell_far (a := ⟨p, 5, none⟩) (by show _ ≠ p; omega)).trans B.mid), (setCell_far (a := ⟨q, 2, none⟩) (by show _ ≠ q; omega)).trans (set_block B.pp 5 _), set_block ((setCell_far (a := ⟨p, 5, none⟩) (by show _ ≠ p; omega)).trans B.qq) 2 _, B.at', gb_drew (gb_setCell (gb_setCell B.grown (a := ⟨p, 5, none⟩) (.inl (by show w.heap.size ≤ p; omega)) _) (a := ⟨q, 2, none⟩) (.inl (by show w.heap.size ≤ q; omega)) _)⟩)
  generalize ((w5.setCell ⟨p, 5, none⟩ (.int .i64 mz)).setCell ⟨q, 2, none⟩ (.int .i64 (mz + 1))).drew = w6 at *
  clear A5 m0 m1 m2 hF hG p0 p1 p2 p3 p4 p5 q0 q1 q2 q3 q4 q5 hw_ h1 h2 D0 D1 D2
  obtain ⟨p0, p1, p2, p3, p4, p5⟩ := cells6 A6.out.pp
  obtain ⟨q0, q1, q2, q3, q4, q5⟩ := cells6 A6.out.qq
  have lc := MadeB.cells (r := w.heap.size + 1) (n := 6) (T := 25) (block_lt A6.out.pp) (by omega)
  have ld := MadeB.cells (r := w.heap.size + 1) (n := 6) (T := 25) (block_lt A6.out.qq) (by omega)
  go_wp2_with fail
  refine Rg.rR (MadeB w6 (w.heap.size + 1) 6 25) (MakesB 2 (w.heap.size + 1)) (fun k => if k = 2 then some (isAt (w.heap.size + 1) #[x0, y0, z0, x1, y1, mz] 25) else none) (fun _ => false) 0 3 (MakesB.size 2 _) (MadeB.start A6.out.r1 rfl) (fun hne => ?_)
  (repeat (refine rQ ?_; go_big_quiet_step (fail); refine wpQuiet_nil ?_))
  refine rg_storeB (w.heap.size + 1) #[x0, y0, z0, x1, y1, mz] 25 _ _ _ rfl rfl rfl (by kernel_rfl) (by simp [Value.oneCell']) rfl rfl rfl rfl ?_
  simp only [zA, zB, zC, zD, zX]
  rintro wq2 ⟨hq, -⟩ hf -
  have hR := hf 2
  have hR2 := (hq.block _ (block_lt A6.out.r2) (by simp)).trans A6.out.r2
  have hgw : w.grownBy wq2 none := gb_new A6.out.grown hq (by simp)
  refine wpList_store_row rfl _ _ _ rfl (w.heap.size + 2) #[x0, y0, .int .i64 (mz + 1), x1, y1, z1] rfl rfl _ _ hR2 (by kernel_rfl) rfl (by simp [Value.oneCell']) ?_
  obtain ⟨e0, e1, e2, e3, e4, e5⟩ := cells6 ((setRow_far (g := w.heap.size + 2) (b := w.heap.size + 1) (cs := #[x0, y0, .int .i64 (mz + 1), x1, y1, z1]) (by omega)).trans hR)
  obtain ⟨d0, d1, d2, d3, d4, d5⟩ := cells6 (setRow_at (cs := #[x0, y0, .int .i64 (mz + 1), x1, y1, z1]) hR2)
  have HGE := zH (gb_setRow (cs := #[x0, y0, .int .i64 (mz + 1), x1, y1, z1]) hgw (g := w.heap.size + 2) (.inl (by omega)))
  clear hgw hf hR hR2 hq hne lc ld p0 p1 p2 p3 p4 p5 q0 q1 q2 q3 q4 q5 A6 hat
  simp only [zA, zB, zC, zD, zX]
  go_wp2
  refine bodyPost_ret (v := .tuple #[.agg #[x0, y0, z0, x1, y1, mz], .agg #[x0, y0, .int .i64 (mz + 1), x1, y1, z1], .bool true]) (by simp [results, Tryz.results147, go_sem, e0, e1, e2, e3, e4, e5, d0, d1, d2, d3, d4, d5]) rfl ⟨by rw [HX.out], HGE.out⟩
 ·have HX := zH (HX1.out h3)
  have hw_ : IntKind.i64.wrap (my + 1) = my + 1 := by rw [IntKind.wrap_i64]; omega
  have D0 : decide ((y1 - y0) ≤ (x1 - x0)) = false := decide_eq_false (by omega)
  have D1 : decide ((z1 - z0) ≤ (y1 - y0)) = true := decide_eq_true (by omega)
  clear HX0 HX1 HX2 HAX h3
  go_wp2_with fail
  go_region
  have A6 : Hid (SpR w a p q x0 y0 z0 x1 y1 z1 mx my mz #[x0, y0, z0, x1, my, z1] #[x0, .int .i64 (my + 1), z0, x1, y1, z1] ((w5.setCell ⟨p, 4, none⟩ (.int .i64 my)).setCell ⟨q, 1, none⟩ (.int .i64 (my + 1))).drew) := zH (by
   have B := A5.out
   exact ⟨(setCell_far (a := ⟨q, 1, none⟩) (by show _ ≠ q; omega)).trans ((setCell_far (a := ⟨p, 4, none⟩) (by show _ ≠ p; omega)).trans B.box), (setCell_far (a := ⟨q, 1, none⟩) (by show _ ≠ q; omega)).trans ((setCell_far (a := ⟨p, 4, none⟩) (by show _ ≠ p; omega)).trans B.r1), (setCell_far (a := ⟨q, 1, none⟩) (by show _ ≠ q; omega)).trans ((setCell_far (a := ⟨p, 4, none⟩) (by show _ ≠ p; omega)).trans B.r2),
    (setCell_far (a := ⟨q, 1, none⟩) (by show _ ≠ q; omega)).trans ((setCell_far (a := ⟨p, 4, none⟩) (by show _ ≠ p; omega)).trans B.mid), (setCell_far (a := ⟨q, 1, none⟩) (by show _ ≠ q; omega)).trans (set_block B.pp 4 _), set_block ((setCell_far (a := ⟨p, 4, none⟩) (by show _ ≠ p; omega)).trans B.qq) 1 _, B.at', gb_drew (gb_setCell (gb_setCell B.grown (a := ⟨p, 4, none⟩) (.inl (by show w.heap.size ≤ p; omega)) _) (a := ⟨q, 1, none⟩) (.inl (by show w.heap.size ≤ q; omega)) _)⟩)
  generalize ((w5.setCell ⟨p, 4, none⟩ (.int .i64 my)).setCell ⟨q, 1, none⟩ (.int .i64 (my + 1))).drew = w6 at *
  clear A5 m0 m1 m2 hF hG p0 p1 p2 p3 p4 p5 q0 q1 q2 q3 q4 q5 hw_ h1 h2 D0 D1
  obtain ⟨p0, p1, p2, p3, p4, p5⟩ := cells6 A6.out.pp
  obtain ⟨q0, q1, q2, q3, q4, q5⟩ := cells6 A6.out.qq
  have lc := MadeB.cells (r := w.heap.size + 1) (n := 6) (T := 25) (block_lt A6.out.pp) (by omega)
  have ld := MadeB.cells (r := w.heap.size + 1) (n := 6) (T := 25) (block_lt A6.out.qq) (by omega)
  go_wp2_with fail
  refine Rg.rR (MadeB w6 (w.heap.size + 1) 6 25) (MakesB 2 (w.heap.size + 1)) (fun k => if k = 2 then some (isAt (w.heap.size + 1) #[x0, y0, z0, x1, my, z1] 25) else none) (fun _ => false) 0 3 (MakesB.size 2 _) (MadeB.start A6.out.r1 rfl) (fun hne => ?_)
  (repeat (refine rQ ?_; go_big_quiet_step (fail); refine wpQuiet_nil ?_))
  refine rg_storeB (w.heap.size + 1) #[x0, y0, z0, x1, my, z1] 25 _ _ _ rfl rfl rfl (by kernel_rfl) (by simp [Value.oneCell']) rfl rfl rfl rfl ?_
  simp only [zA, zB, zC, zD, zX]
  rintro wq2 ⟨hq, -⟩ hf -
  have hR := hf 2
  have hR2 := (hq.block _ (block_lt A6.out.r2) (by simp)).trans A6.out.r2
  have hgw : w.grownBy wq2 none := gb_new A6.out.grown hq (by simp)
  refine wpList_store_row rfl _ _ _ rfl (w.heap.size + 2) #[x0, .int .i64 (my + 1), z0, x1, y1, z1] rfl rfl _ _ hR2 (by kernel_rfl) rfl (by simp [Value.oneCell']) ?_
  obtain ⟨e0, e1, e2, e3, e4, e5⟩ := cells6 ((setRow_far (g := w.heap.size + 2) (b := w.heap.size + 1) (cs := #[x0, .int .i64 (my + 1), z0, x1, y1, z1]) (by omega)).trans hR)
  obtain ⟨d0, d1, d2, d3, d4, d5⟩ := cells6 (setRow_at (cs := #[x0, .int .i64 (my + 1), z0, x1, y1, z1]) hR2)
  have HGE := zH (gb_setRow (cs := #[x0, .int .i64 (my + 1), z0, x1, y1, z1]) hgw (g := w.heap.size + 2) (.inl (by omega)))
  clear hgw hf hR hR2 hq hne lc ld p0 p1 p2 p3 p4 p5 q0 q1 q2 q3 q4 q5 A6 hat
  simp only [zA, zB, zC, zD, zX]
  go_wp2
  refine bodyPost_ret (v := .tuple #[.agg #[x0, y0, z0, x1, my, z1], .agg #[x0, .int .i64 (my + 1), z0, x1, y1, z1], .bool true]) (by simp [results, Tryz.results147, go_sem, e0, e1, e2, e3, e4, e5, d0, d1, d2, d3, d4, d5]) rfl ⟨by rw [HX.out], HGE.out⟩
 ·have HX := zH (HX2.out h3)
  have hw_ : IntKind.i64.wrap (mz + 1) = mz + 1 := by rw [IntKind.wrap_i64]; omega
  have D0 : decide ((y1 - y0) ≤ (x1 - x0)) = false := decide_eq_false (by omega)
  have D1 : decide ((z1 - z0) ≤ (y1 - y0)) = false := decide_eq_false (by omega)
  clear HX0 HX1 HX2 HAX h3
  go_wp2_with fail
  go_region
  have A6 : Hid (SpR w a p q x0 y0 z0 x1 y1 z1 mx my mz #[x0, y0, z0, x1, y1, mz] #[x0, y0, .int .i64 (mz + 1), x1, y1, z1] ((w5.setCell ⟨p, 5, none⟩ (.int .i64 mz)).setCell ⟨q, 2, none⟩ (.int .i64 (mz + 1))).drew) := zH (by
   have B := A5.out
   exact ⟨(setCell_far (a := ⟨q, 2, none⟩) (by show _ ≠ q; omega)).trans ((setCell_far (a := ⟨p, 5, none⟩) (by show _ ≠ p; omega)).trans B.box), (setCell_far (a := ⟨q, 2, none⟩) (by show _ ≠ q; omega)).trans ((setCell_far (a := ⟨p, 5, none⟩) (by show _ ≠ p; omega)).trans B.r1), (setCell_far (a := ⟨q, 2, none⟩) (by show _ ≠ q; omega)).trans ((setCell_far (a := ⟨p, 5, none⟩) (by show _ ≠ p; omega)).trans B.r2),
    (setCell_far (a := ⟨q, 2, none⟩) (by show _ ≠ q; omega)).trans ((setCell_far (a := ⟨p, 5, none⟩) (by show _ ≠ p; omega)).trans B.mid), (setCell_far (a := ⟨q, 2, none⟩) (by show _ ≠ q; omega)).trans (set_block B.pp 5 _), set_block ((setCell_far (a := ⟨p, 5, none⟩) (by show _ ≠ p; omega)).trans B.qq) 2 _, B.at', gb_drew (gb_setCell (gb_setCell B.grown (a := ⟨p, 5, none⟩) (.inl (by show w.heap.size ≤ p; omega)) _) (a := ⟨q, 2, none⟩) (.inl (by show w.heap.size ≤ q; omega)) _)⟩)
  generalize ((w5.setCell ⟨p, 5, none⟩ (.int .i64 mz)).setCell ⟨q, 2, none⟩ (.int .i64 (mz + 1))).drew = w6 at *
  clear A5 m0 m1 m2 hF hG p0 p1 p2 p3 p4 p5 q0 q1 q2 q3 q4 q5 hw_ h1 h2 D0 D1
  obtain ⟨p0, p1, p2, p3, p4, p5⟩ := cells6 A6.out.pp
  obtain ⟨q0, q1, q2, q3, q4, q5⟩ := cells6 A6.out.qq
  have lc := MadeB.cells (r := w.heap.size + 1) (n := 6) (T := 25) (block_lt A6.out.pp) (by omega)
  have ld := MadeB.cells (r := w.heap.size + 1) (n := 6) (T := 25) (block_lt A6.out.qq) (by omega)
  go_wp2_with fail
  refine Rg.rR (MadeB w6 (w.heap.size + 1) 6 25) (MakesB 2 (w.heap.size + 1)) (fun k => if k = 2 then some (isAt (w.heap.size + 1) #[x0, y0, z0, x1, y1, mz] 25) else none) (fun _ => false) 0 3 (MakesB.size 2 _) (MadeB.start A6.out.r1 rfl) (fun hne => ?_)
  (repeat (refine rQ ?_; go_big_quiet_step (fail); refine wpQuiet_nil ?_))
  refine rg_storeB (w.heap.size + 1) #[x0, y0, z0, x1, y1, mz] 25 _ _ _ rfl rfl rfl (by kernel_rfl) (by simp [Value.oneCell']) rfl rfl rfl rfl ?_
  simp only [zA, zB, zC, zD, zX]
  rintro wq2 ⟨hq, -⟩ hf -
  have hR := hf 2
  have hR2 := (hq.block _ (block_lt A6.out.r2) (by simp)).trans A6.out.r2
  have hgw : w.grownBy wq2 none := gb_new A6.out.grown hq (by simp)
  refine wpList_store_row rfl _ _ _ rfl (w.heap.size + 2) #[x0, y0, .int .i64 (mz + 1), x1, y1, z1] rfl rfl _ _ hR2 (by kernel_rfl) rfl (by simp [Value.oneCell']) ?_
  obtain ⟨e0, e1, e2, e3, e4, e5⟩ := cells6 ((setRow_far (g := w.heap.size + 2) (b := w.heap.size + 1) (cs := #[x0, y0, .int .i64 (mz + 1), x1, y1, z1]) (by omega)).trans hR)
  obtain ⟨d0, d1, d2, d3, d4, d5⟩ := cells6 (setRow_at (cs := #[x0, y0, .int .i64 (mz + 1), x1, y1, z1]) hR2)
  have HGE := zH (gb_setRow (cs := #[x0, y0, .int .i64 (mz + 1), x1, y1, z1]) hgw (g := w.heap.size + 2) (.inl (by omega)))
  clear hgw hf hR hR2 hq hne lc ld p0 p1 p2 p3 p4 p5 q0 q1 q2 q3 q4 q5 A6 hat
  simp only [zA, zB, zC, zD, zX]
  go_wp2
  refine bodyPost_ret (v := .tuple #[.agg #[x0, y0, z0, x1, y1, mz], .agg #[x0, y0, .int .i64 (mz + 1), x1, y1, z1], .bool true]) (by simp [results, Tryz.results147, go_sem, e0, e1, e2, e3, e4, e5, d0, d1, d2, d3, d4, d5]) rfl ⟨by rw [HX.out], HGE.out⟩
end Go.Proofs.YtiebljanpnadjaaGreat
