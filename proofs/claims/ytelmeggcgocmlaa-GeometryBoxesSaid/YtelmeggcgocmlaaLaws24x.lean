/- The walk of GeometryBoxes. Written by gen_law24x.py. -/
import Derived.Test.YtelmeggcgocmlaaAwake24
import Derived.Test.YtelmeggcgocmlaaRSplit
import Derived.Test.YtelmeggcgocmlaaRefC
import Derived.Test.YtelmeggcgocmlaaGeoP
import Derived.Test.YtelmeggcgocmlaaLit
namespace Go.Proofs.Ytelmeggcgocmlaa
set_option linter.all false
open Go.RowKit Rg

theorem run_neq3 (x0 y0 z0 x1 y1 z1 : Int) (w : World) :
    (binOp .neq 23 (.agg #[.int .i64 x0, .int .i64 y0, .int .i64 z0]) (.agg #[.int .i64 x1, .int .i64 y1, .int .i64 z1])).run Try.prog w = .ok (.bool (!same3 x0 y0 z0 x1 y1 z1)) w := by
  unfold same3
  by_cases h0 : x0 = x1 <;> by_cases h1 : y0 = y1 <;> by_cases h2 : z0 = z1 <;> simp [go_sem, h0, h1, h2]
attribute [local go_sem high] run_neq3

set_option maxRecDepth 100000 in
set_option maxHeartbeats 16000000 in
theorem geometryBoxes_walk (w : World) (b0 b1 b2 b3 b4 b5 c0 c1 c2 c3 c4 c5 p0 p1 p2 : Int) (v : Value) (xs : List Int) (hs : Sl w v xs) (_hx : ∀ x ∈ xs, -9223372036854775808 ≤ x ∧ x ≤ 9223372036854775807) :
    Calls Try.prog 3 #[.agg #[.int .i64 b0, .int .i64 b1, .int .i64 b2, .int .i64 b3, .int .i64 b4, .int .i64 b5], .agg #[.int .i64 c0, .int .i64 c1, .int .i64 c2, .int .i64 c3, .int .i64 c4, .int .i64 c5], .agg #[.int .i64 p0, .int .i64 p1, .int .i64 p2], v] w fun e w' => e = .returned (.bool true) ∧ Below w.heap.size w w' := by
  have hv : v.oneCell' = true := by obtain ⟨va, vn, vc, rfl⟩ := sl_slice hs; rfl
  go_enter Try.func3, Try.ntmps3
  have k0_0 : (w.alloc (.cells #[.int .i64 b0, .int .i64 b1, .int .i64 b2, .int .i64 b3, .int .i64 b4, .int .i64 b5] 25)).heap[w.heap.size]? = some (.cells #[.int .i64 b0, .int .i64 b1, .int .i64 b2, .int .i64 b3, .int .i64 b4, .int .i64 b5] 25 (0, 0)) := by exact heap_alloc_new _ _
  have k0_1 := block_kept (gb_alloc (gb_refl (w.alloc (.cells #[.int .i64 b0, .int .i64 b1, .int .i64 b2, .int .i64 b3, .int .i64 b4, .int .i64 b5] 25)) none) (.cells #[.int .i64 c0, .int .i64 c1, .int .i64 c2, .int .i64 c3, .int .i64 c4, .int .i64 c5] 25)) k0_0 rfl
  have k1_1 : ((w.alloc (.cells #[.int .i64 b0, .int .i64 b1, .int .i64 b2, .int .i64 b3, .int .i64 b4, .int .i64 b5] 25)).alloc (.cells #[.int .i64 c0, .int .i64 c1, .int .i64 c2, .int .i64 c3, .int .i64 c4, .int .i64 c5] 25)).heap[w.heap.size + 1]? = some (.cells #[.int .i64 c0, .int .i64 c1, .int .i64 c2, .int .i64 c3, .int .i64 c4, .int .i64 c5] 25 (0, 0)) := by simpa using heap_alloc_new (w.alloc (.cells #[.int .i64 b0, .int .i64 b1, .int .i64 b2, .int .i64 b3, .int .i64 b4, .int .i64 b5] 25)) (.cells #[.int .i64 c0, .int .i64 c1, .int .i64 c2, .int .i64 c3, .int .i64 c4, .int .i64 c5] 25)
  clear k0_0
  have k0_2 := block_kept (gb_alloc (gb_refl ((w.alloc (.cells #[.int .i64 b0, .int .i64 b1, .int .i64 b2, .int .i64 b3, .int .i64 b4, .int .i64 b5] 25)).alloc (.cells #[.int .i64 c0, .int .i64 c1, .int .i64 c2, .int .i64 c3, .int .i64 c4, .int .i64 c5] 25)) none) (.cells #[.int .i64 p0, .int .i64 p1, .int .i64 p2] 23)) k0_1 rfl
  have k1_2 := block_kept (gb_alloc (gb_refl ((w.alloc (.cells #[.int .i64 b0, .int .i64 b1, .int .i64 b2, .int .i64 b3, .int .i64 b4, .int .i64 b5] 25)).alloc (.cells #[.int .i64 c0, .int .i64 c1, .int .i64 c2, .int .i64 c3, .int .i64 c4, .int .i64 c5] 25)) none) (.cells #[.int .i64 p0, .int .i64 p1, .int .i64 p2] 23)) k1_1 rfl
  have k2_2 : (((w.alloc (.cells #[.int .i64 b0, .int .i64 b1, .int .i64 b2, .int .i64 b3, .int .i64 b4, .int .i64 b5] 25)).alloc (.cells #[.int .i64 c0, .int .i64 c1, .int .i64 c2, .int .i64 c3, .int .i64 c4, .int .i64 c5] 25)).alloc (.cells #[.int .i64 p0, .int .i64 p1, .int .i64 p2] 23)).heap[w.heap.size + 1 + 1]? = some (.cells #[.int .i64 p0, .int .i64 p1, .int .i64 p2] 23 (0, 0)) := by simpa using heap_alloc_new ((w.alloc (.cells #[.int .i64 b0, .int .i64 b1, .int .i64 b2, .int .i64 b3, .int .i64 b4, .int .i64 b5] 25)).alloc (.cells #[.int .i64 c0, .int .i64 c1, .int .i64 c2, .int .i64 c3, .int .i64 c4, .int .i64 c5] 25)) (.cells #[.int .i64 p0, .int .i64 p1, .int .i64 p2] 23)
  clear k0_1 k1_1
  have hgw : w.grownBy (((w.alloc (.cells #[.int .i64 b0, .int .i64 b1, .int .i64 b2, .int .i64 b3, .int .i64 b4, .int .i64 b5] 25)).alloc (.cells #[.int .i64 c0, .int .i64 c1, .int .i64 c2, .int .i64 c3, .int .i64 c4, .int .i64 c5] 25)).alloc (.cells #[.int .i64 p0, .int .i64 p1, .int .i64 p2] 23)) none := gb_alloc (gb_alloc (gb_alloc (gb_refl w none) _) _) _
  have K0 := Lib.hid k0_2
  have K1 := Lib.hid k1_2
  have K2 := Lib.hid k2_2
  clear k0_2 k1_2 k2_2
  have HV := Lib.hid (hs.after hgw); have GW := Lib.hid hgw
  clear hs hgw
  go_wp2_with fail
  refine calls_name (fun w2 hw => ?_)
  have K0 := Lib.hid (show w2.heap[w.heap.size]? = some (.cells #[.int .i64 b0, .int .i64 b1, .int .i64 b2, .int .i64 b3, .int .i64 b4, .int .i64 b5] 25 (0, 0)) from by rw [hw]; exact K0.out)
  have K1 := Lib.hid (show w2.heap[w.heap.size + 1]? = some (.cells #[.int .i64 c0, .int .i64 c1, .int .i64 c2, .int .i64 c3, .int .i64 c4, .int .i64 c5] 25 (0, 0)) from by rw [hw]; exact K1.out)
  have K2 := Lib.hid (show w2.heap[w.heap.size + 1 + 1]? = some (.cells #[.int .i64 p0, .int .i64 p1, .int .i64 p2] 23 (0, 0)) from by rw [hw]; exact K2.out)
  have HV := Lib.hid (show Sl w2 _ _ from by rw [hw]; exact HV.out); have GW := Lib.hid (show w.grownBy w2 none from by rw [hw]; exact GW.out)
  have hq' : (((w.alloc (.cells #[.int .i64 b0, .int .i64 b1, .int .i64 b2, .int .i64 b3, .int .i64 b4, .int .i64 b5] 25)).alloc (.cells #[.int .i64 c0, .int .i64 c1, .int .i64 c2, .int .i64 c3, .int .i64 c4, .int .i64 c5] 25)).alloc (.cells #[.int .i64 p0, .int .i64 p1, .int .i64 p2] 23)).heap.size = w2.heap.size := by rw [hw]
  clear hw
  (with_reducible refine (new_any w2 v xs HV.out).mono ?_)
  rintro e w3 ⟨rfl, hS, hg⟩
  have hlt := block_lt' K2.out
  have S3 := Lib.hid hS
  have M3 := Lib.hid (((((Mem.nil (w0 := w2) (p := w2.heap.size) hg).more (block_kept hg K0.out rfl) (by have := block_lt' K0.out; omega)).more (block_kept hg K1.out rfl) (by have := block_lt' K1.out; omega)).more (block_kept hg K2.out rfl) (by have := block_lt' K2.out; omega)))
  clear hg hS HV K0 K1 K2 hlt hq'
  go_wp2_with fail
  generalize hq : w2.heap.size = q at *
  have hq2 : w2.heap.size ≤ q := by omega
  clear hq
  (with_reducible refine (box_any q w3 q 40 30 S3.out (by omega) (by omega) (by omega) (by omega)).mono ?_)
  rintro e w4 ⟨x0, y0, z0, x1, y1, z1, rfl, -, hS, hg⟩
  have M4 := Lib.hid (M3.out.draw hg hq2); have S4 := Lib.hid (hS)
  clear hg hS M3 S3
  have hp_ := S4.out.lt.2
  have ha_ : w4.grownBy (w4.alloc (.cells #[.int .i64 x0, .int .i64 y0, .int .i64 z0, .int .i64 x1, .int .i64 y1, .int .i64 z1] 25)) none := gb_alloc (gb_refl _ _) _
  have hb_ := heap_alloc_new w4 (.cells #[.int .i64 x0, .int .i64 y0, .int .i64 z0, .int .i64 x1, .int .i64 y1, .int .i64 z1] 25)
  have M5 := Lib.hid (M4.out.later ha_); have S5 := Lib.hid (S4.out.later (row := none) ha_ (by simp))
  have M5 := Lib.hid (M5.out.more hb_ (by omega))
  clear hp_ ha_ hb_ M4 S4 
  go_wp2_with fail
  generalize w4.alloc (.cells #[.int .i64 x0, .int .i64 y0, .int .i64 z0, .int .i64 x1, .int .i64 y1, .int .i64 z1] 25) = w5 at *
  generalize w4.heap.size = goodb at *
  obtain ⟨bb0_, bb1_, bb2_, bb3_, bb4_, bb5_⟩ := six (M5.out.at 3 rfl)
  obtain ⟨good0_, good1_, good2_, good3_, good4_, good5_⟩ := six (M5.out.at 0 rfl)
  obtain ⟨cb0_, cb1_, cb2_, cb3_, cb4_, cb5_⟩ := six (M5.out.at 2 rfl)
  have ubb_ := M5.out.pulled (B := q) 3 rfl
  have ugood_ := M5.out.pulled (B := q) 0 rfl
  have ucb_ := M5.out.pulled (B := q) 2 rfl
  have hp_ := S5.out.lt.2
  refine Rg.region (Pulled w5 q q) (Pull q) (fun k => if k = 4 then some (isSome' (fun v => ∃ x y z a b c, v = .agg #[.int .i64 x, .int .i64 y, .int .i64 z, .int .i64 a, .int .i64 b, .int .i64 c] ∧ True)) else if k = 6 then some (isBlk w5 4 25) else none) (fun _ => false) 0 9 (by kernel_rfl) (by kernel_rfl) (by kernel_rfl) (by kernel_rfl) (by kernel_rfl) (by kernel_rfl) (by kernel_rfl) Pull.size (Pulled.start S5.out) (fun hne => ?_)
  (repeat (refine rLexL_quiet (by rfl) (by rfl) (by rfl) (by rfl) ?_; go_big_quiet_step (fail); refine wpQuiet_nil ?_))
  refine rg_drawF (fun v => ∃ x y z a b c, v = .agg #[.int .i64 x, .int .i64 y, .int .i64 z, .int .i64 a, .int .i64 b, .int .i64 c] ∧ True) 8 #[.pointer (some ⟨q, 0, none⟩), .agg #[.int .i64 x0, .int .i64 y0, .int .i64 z0, .int .i64 x1, .int .i64 y1, .int .i64 z1]] rfl rfl (fun _ => by go_simp) (fun u hu _ => (bent_any q u q x0 y0 z0 x1 y1 z1 hu.2).mono fun e w' h => h.draw) (fun vb hvb => ?_)
  obtain ⟨j0, j1, j2, j3, j4, j5, rfl, -⟩ := hvb
  simp only [Act.put, List.setIfInBounds_toArray, List.set_cons_zero, List.set_cons_succ]
  (repeat (refine rLexL_quiet (by rfl) (by rfl) (by rfl) (by rfl) ?_; go_big_quiet_step (fail); refine wpQuiet_nil ?_))
  refine rg_litB 4 #[.int .i64 b0, .int .i64 b1, .int .i64 b2, .int .i64 b3, .int .i64 b4, .int .i64 b5, .int .i64 x0, .int .i64 y0, .int .i64 z0, .int .i64 x1, .int .i64 y1, .int .i64 z1, .int .i64 j0, .int .i64 j1, .int .i64 j2, .int .i64 j3, .int .i64 j4, .int .i64 j5, .int .i64 c0, .int .i64 c1, .int .i64 c2, .int .i64 c3, .int .i64 c4, .int .i64 c5] 25 rfl rfl rfl (fun _ => by go_simp) hp_ (fun nx nxh => ?_)
  simp only [Act.put, List.setIfInBounds_toArray, List.set_cons_zero, List.set_cons_succ]
  (repeat (refine rLexL_quiet (by rfl) (by rfl) (by rfl) (by rfl) ?_; go_big_quiet_step (fail); refine wpQuiet_nil ?_))
  refine rLexL_val (.int .i64 4) (by rfl) (by rfl) (by rfl) (by rfl) (fun _ => by go_simp) ?_
  simp only [Act.put, List.setIfInBounds_toArray, List.set_cons_zero, List.set_cons_succ]
  (repeat (refine rLexL_quiet (by rfl) (by rfl) (by rfl) (by rfl) ?_; go_big_quiet_step (fail); refine wpQuiet_nil ?_))
  rintro wq ⟨hgq, hqs⟩ hf -
  have HBnx : Hid (wq.heap[nx]? = some (.cells (flatP [⟨b0, b1, b2, b3, b4, b5⟩, ⟨x0, y0, z0, x1, y1, z1⟩, ⟨j0, j1, j2, j3, j4, j5⟩, ⟨c0, c1, c2, c3, c4, c5⟩]).toArray 25 (0, 0))) := Lib.hid (hf 6)
  have hnnx : nx ≠ q := by omega
  generalize wq = w6 at *
  have M6 := Lib.hid (M5.out.draw hgq hq2); have S6 := Lib.hid (hqs)
  clear hf hgq hqs hne hp_ nxh M5 S5  bb0_ bb1_ bb2_ bb3_ bb4_ bb5_ good0_ good1_ good2_ good3_ good4_ good5_ cb0_ cb1_ cb2_ cb3_ cb4_ cb5_ ubb_ ugood_ ucb_
  refine wpList_nil ?_
  obtain ⟨Lnx, hL, hLnx⟩ : ∃ Lnx : List Ph, Lnx = [⟨b0, b1, b2, b3, b4, b5⟩, ⟨x0, y0, z0, x1, y1, z1⟩, ⟨j0, j1, j2, j3, j4, j5⟩, ⟨c0, c1, c2, c3, c4, c5⟩] ∧ Lnx.length = 4 := ⟨_, rfl, rfl⟩
  rw [← hL] at HBnx
  clear hL
  go_wp2_with fail
  go_loopw [35] (fun i wr => ∃ k : Nat, k ≤ 4 ∧ i = .int .i64 k ∧ Src q wr q ∧ w6.grownBy wr (some q)) (fun i _ => 4 - (intOf i).toNat)
  case atStart => exact ⟨0, by omega, rfl, S6.out, gb_refl _ _⟩
  case round =>
    obtain ⟨knx, hknx, rfl, hS, hgr⟩ := hrel
    by_cases hltnx : knx < 4
    · have hkLnx : knx < Lnx.length := by omega
      have hkdnx : decide ((knx : Int) < 4) = true := decide_eq_true (by omega)
      obtain ⟨r0_, r1_, r2_, r3_, r4_, r5_⟩ := rowP (block_keptp hgr HBnx.out hnnx) knx hkLnx
      generalize wr = w100 at *
      have Gnx_6 := Lib.hid (gb_refl w6 (some q))
      have M100 := Lib.hid (M6.out.draw hgr hq2); have S100 := Lib.hid (hS); have Gnx_100 := Lib.hid (gb_trans Gnx_6.out hgr)
      clear hgr hS
      generalize Lnx[knx] = tb at *
      obtain ⟨d0, d1, d2, d3, d4, d5⟩ := tb
      simp only [] at r0_ r1_ r2_ r3_ r4_ r5_
      obtain ⟨m0, m1, m2, m3, m4, m5, n0, n1, n2, n3, n4, n5, ok, hsv⟩ : ∃ (m0 m1 m2 m3 m4 m5 n0 n1 n2 n3 n4 n5 : Int) (ok : Bool), splV (splOk d0 d1 d2 d3 d4 d5) (axis (d3 - d0) (d4 - d1) (d5 - d2)) d0 d1 d2 d3 d4 d5 = .tuple #[.agg #[.int .i64 m0, .int .i64 m1, .int .i64 m2, .int .i64 m3, .int .i64 m4, .int .i64 m5], .agg #[.int .i64 n0, .int .i64 n1, .int .i64 n2, .int .i64 n3, .int .i64 n4, .int .i64 n5], .bool ok] := ⟨_, _, _, _, _, _, _, _, _, _, _, _, _, rfl⟩
      have SA := Lib.hid (fun u => split_any d0 d1 d2 d3 d4 d5 u); have SB := Lib.hid (fun u => rsplit_any d0 d1 d2 d3 d4 d5 u)
      rw [hsv] at SA SB
      have VA := Lib.hid (fun u => validBox_any d0 d1 d2 d3 d4 d5 u); have VB := Lib.hid (fun u => rvalidBox_any d0 d1 d2 d3 d4 d5 u)
      have CA := Lib.hid (fun u => center_any d0 d1 d2 d3 d4 d5 u); have CB := Lib.hid (fun u => rcenter_any d0 d1 d2 d3 d4 d5 u)
      have PA := Lib.hid (fun u => points_any d0 d1 d2 d3 d4 d5 u); have PB := Lib.hid (fun u => rpoints_any d0 d1 d2 d3 d4 d5 u)
      have s1_ := same6_refl m0 m1 m2 m3 m4 m5; have s2_ := same6_refl n0 n1 n2 n3 n4 n5
      generalize ptsP d0 d1 d2 d3 d4 d5 = pn at *
      generalize cen (bP d0 d1 d2 d3 d4 d5) d0 d3 = e0 at *
      generalize cen (bP d0 d1 d2 d3 d4 d5) d1 d4 = e1 at *
      generalize cen (bP d0 d1 d2 d3 d4 d5) d2 d5 = e2 at *
      generalize bP d0 d1 d2 d3 d4 d5 = bp at *
      have s3_ : same3 e0 e1 e2 e0 e1 e2 = true := by simp [same3]
      clear hsv
      have hp_ := S100.out.lt.2
      have ha_ : w100.grownBy (w100.alloc (.cells #[.int .i64 d0, .int .i64 d1, .int .i64 d2, .int .i64 d3, .int .i64 d4, .int .i64 d5] 25)) none := gb_alloc (gb_refl _ _) _
      have hb_ := heap_alloc_new w100 (.cells #[.int .i64 d0, .int .i64 d1, .int .i64 d2, .int .i64 d3, .int .i64 d4, .int .i64 d5] 25)
      have M101 := Lib.hid (M100.out.later ha_); have S101 := Lib.hid (S100.out.later (row := none) ha_ (by simp)); have Gnx_101 := Lib.hid (gb_trans Gnx_100.out (gb_none ha_))
      have M101 := Lib.hid (M101.out.more hb_ (by omega))
      clear hp_ ha_ hb_ M100 S100 Gnx_100
      obtain ⟨x0_, x1_, x2_, x3_, x4_, x5_⟩ := six (M101.out.at 0 rfl)
      go_wp2_with fail
      generalize w100.alloc (.cells #[.int .i64 d0, .int .i64 d1, .int .i64 d2, .int .i64 d3, .int .i64 d4, .int .i64 d5] 25) = w101 at *
      generalize w100.heap.size = xb at *
      clear r0_ r1_ r2_ r3_ r4_ r5_
      (with_reducible refine (SA.out w101).mono ?_)
      rintro r w102 ⟨rfl, hg⟩
      clear x0_ x1_ x2_ x3_ x4_ x5_
      have M102 := Lib.hid (M101.out.later hg); have S102 := Lib.hid (S101.out.later (row := none) hg (by simp)); have Gnx_102 := Lib.hid (gb_trans Gnx_101.out (gb_none hg))
      clear hg M101 S101 Gnx_101
      have hp_ := S102.out.lt.2
      have ha_ : w102.grownBy ((w102.alloc (.cells #[.int .i64 m0, .int .i64 m1, .int .i64 m2, .int .i64 m3, .int .i64 m4, .int .i64 m5] 25)).alloc (.cells #[.int .i64 n0, .int .i64 n1, .int .i64 n2, .int .i64 n3, .int .i64 n4, .int .i64 n5] 25)) none := gb_alloc (gb_alloc (gb_refl _ _) _) _
      have hb_ : ((w102.alloc (.cells #[.int .i64 m0, .int .i64 m1, .int .i64 m2, .int .i64 m3, .int .i64 m4, .int .i64 m5] 25)).alloc (.cells #[.int .i64 n0, .int .i64 n1, .int .i64 n2, .int .i64 n3, .int .i64 n4, .int .i64 n5] 25)).heap[w102.heap.size]? = some (.cells #[.int .i64 m0, .int .i64 m1, .int .i64 m2, .int .i64 m3, .int .i64 m4, .int .i64 m5] 25 (0, 0)) := by rw [heap_alloc_old _ _ (by simp), heap_alloc_new]
      have hc_ : ((w102.alloc (.cells #[.int .i64 m0, .int .i64 m1, .int .i64 m2, .int .i64 m3, .int .i64 m4, .int .i64 m5] 25)).alloc (.cells #[.int .i64 n0, .int .i64 n1, .int .i64 n2, .int .i64 n3, .int .i64 n4, .int .i64 n5] 25)).heap[w102.heap.size + 1]? = some (.cells #[.int .i64 n0, .int .i64 n1, .int .i64 n2, .int .i64 n3, .int .i64 n4, .int .i64 n5] 25 (0, 0)) := by simpa using heap_alloc_new (w102.alloc (.cells #[.int .i64 m0, .int .i64 m1, .int .i64 m2, .int .i64 m3, .int .i64 m4, .int .i64 m5] 25)) (.cells #[.int .i64 n0, .int .i64 n1, .int .i64 n2, .int .i64 n3, .int .i64 n4, .int .i64 n5] 25)
      have M103 := Lib.hid (M102.out.later ha_); have S103 := Lib.hid (S102.out.later (row := none) ha_ (by simp)); have Gnx_103 := Lib.hid (gb_trans Gnx_102.out (gb_none ha_))
      have M103 := Lib.hid ((M103.out.more hb_ (by omega)).more hc_ (by omega))
      clear hp_ ha_ hb_ hc_ M102 S102 Gnx_102
      obtain ⟨x0_, x1_, x2_, x3_, x4_, x5_⟩ := six (M103.out.at 2 rfl)
      go_wp2_with fail
      generalize ((w102.alloc (.cells #[.int .i64 m0, .int .i64 m1, .int .i64 m2, .int .i64 m3, .int .i64 m4, .int .i64 m5] 25)).alloc (.cells #[.int .i64 n0, .int .i64 n1, .int .i64 n2, .int .i64 n3, .int .i64 n4, .int .i64 n5] 25)) = w103 at *
      generalize w102.heap.size = mb at *
      (with_reducible refine (SB.out w103).mono ?_)
      rintro r w104 ⟨rfl, hg⟩
      clear x0_ x1_ x2_ x3_ x4_ x5_
      have M104 := Lib.hid (M103.out.later hg); have S104 := Lib.hid (S103.out.later (row := none) hg (by simp)); have Gnx_104 := Lib.hid (gb_trans Gnx_103.out (gb_none hg))
      clear hg M103 S103 Gnx_103
      have hp_ := S104.out.lt.2
      have ha_ : w104.grownBy ((w104.alloc (.cells #[.int .i64 m0, .int .i64 m1, .int .i64 m2, .int .i64 m3, .int .i64 m4, .int .i64 m5] 25)).alloc (.cells #[.int .i64 n0, .int .i64 n1, .int .i64 n2, .int .i64 n3, .int .i64 n4, .int .i64 n5] 25)) none := gb_alloc (gb_alloc (gb_refl _ _) _) _
      have hb_ : ((w104.alloc (.cells #[.int .i64 m0, .int .i64 m1, .int .i64 m2, .int .i64 m3, .int .i64 m4, .int .i64 m5] 25)).alloc (.cells #[.int .i64 n0, .int .i64 n1, .int .i64 n2, .int .i64 n3, .int .i64 n4, .int .i64 n5] 25)).heap[w104.heap.size]? = some (.cells #[.int .i64 m0, .int .i64 m1, .int .i64 m2, .int .i64 m3, .int .i64 m4, .int .i64 m5] 25 (0, 0)) := by rw [heap_alloc_old _ _ (by simp), heap_alloc_new]
      have hc_ : ((w104.alloc (.cells #[.int .i64 m0, .int .i64 m1, .int .i64 m2, .int .i64 m3, .int .i64 m4, .int .i64 m5] 25)).alloc (.cells #[.int .i64 n0, .int .i64 n1, .int .i64 n2, .int .i64 n3, .int .i64 n4, .int .i64 n5] 25)).heap[w104.heap.size + 1]? = some (.cells #[.int .i64 n0, .int .i64 n1, .int .i64 n2, .int .i64 n3, .int .i64 n4, .int .i64 n5] 25 (0, 0)) := by simpa using heap_alloc_new (w104.alloc (.cells #[.int .i64 m0, .int .i64 m1, .int .i64 m2, .int .i64 m3, .int .i64 m4, .int .i64 m5] 25)) (.cells #[.int .i64 n0, .int .i64 n1, .int .i64 n2, .int .i64 n3, .int .i64 n4, .int .i64 n5] 25)
      have M105 := Lib.hid (M104.out.later ha_); have S105 := Lib.hid (S104.out.later (row := none) ha_ (by simp)); have Gnx_105 := Lib.hid (gb_trans Gnx_104.out (gb_none ha_))
      have M105 := Lib.hid ((M105.out.more hb_ (by omega)).more hc_ (by omega))
      clear hp_ ha_ hb_ hc_ M104 S104 Gnx_104
      go_wp2_with fail
      generalize ((w104.alloc (.cells #[.int .i64 m0, .int .i64 m1, .int .i64 m2, .int .i64 m3, .int .i64 m4, .int .i64 m5] 25)).alloc (.cells #[.int .i64 n0, .int .i64 n1, .int .i64 n2, .int .i64 n3, .int .i64 n4, .int .i64 n5] 25)) = w105 at *
      generalize w104.heap.size = ub at *
      obtain ⟨x0_, x1_, x2_, x3_, x4_, x5_⟩ := six (M105.out.at 4 rfl)
      obtain ⟨m0_, m1_, m2_, m3_, m4_, m5_⟩ := six (M105.out.at 3 rfl)
      obtain ⟨n0_, n1_, n2_, n3_, n4_, n5_⟩ := six (M105.out.at 2 rfl)
      obtain ⟨u0_, u1_, u2_, u3_, u4_, u5_⟩ := six (M105.out.at 1 rfl)
      obtain ⟨v0_, v1_, v2_, v3_, v4_, v5_⟩ := six (M105.out.at 0 rfl)
      have ux_ := M105.out.up 4 rfl
      have um_ := M105.out.up 3 rfl
      have un_ := M105.out.up 2 rfl
      have uu_ := M105.out.up 1 rfl
      have uv_ := M105.out.up 0 rfl
      (refine wp_region_grown (by kernel_rfl) (by kernel_rfl) ?_; (repeat (go_big_quiet_step (first
        | (go_at_call 11; exact Calls.grown_of (VA.out _))
        | (go_at_call 12; exact Calls.grown_of (VB.out _))
        | (go_at_call 13; exact Calls.grown_of (PA.out _))
        | (go_at_call 14; exact Calls.grown_of (PB.out _))
        | (go_at_call 15; exact Calls.grown_of (CA.out _))
        | (go_at_call 16; exact Calls.grown_of (CB.out _))))); refine wpQuiet_nil ?_; intro wq hq)
      generalize wq = w106 at *
      clear x0_ x1_ x2_ x3_ x4_ x5_ m0_ m1_ m2_ m3_ m4_ m5_ n0_ n1_ n2_ n3_ n4_ n5_ u0_ u1_ u2_ u3_ u4_ u5_ v0_ v1_ v2_ v3_ v4_ v5_ ux_ um_ un_ uu_ uv_ SA SB VA VB PA PB CA CB s1_ s2_ s3_
      have M106 := Lib.hid (M105.out.later hq); have S106 := Lib.hid (S105.out.later (row := none) hq (by simp)); have Gnx_106 := Lib.hid (gb_trans Gnx_105.out (gb_none hq))
      clear hq M105 S105 Gnx_105
      have M106 := Lib.hid M106.out.drop
      have M106 := Lib.hid M106.out.drop
      have M106 := Lib.hid M106.out.drop
      have M106 := Lib.hid M106.out.drop
      go_wp2_with fail
      obtain ⟨pb0_, pb1_, pb2_⟩ := cells3 (M106.out.at 2 rfl)
      have upb_ := M106.out.pulled (B := q) 2 rfl
      have hp_ := S106.out.lt.2
      refine Rg.region (Pulled w106 q q) (Pull q) (fun k => if k = 2 then some (isSome' (fun v => ∃ x y z, v = .agg #[.int .i64 x, .int .i64 y, .int .i64 z] ∧ vP x y z = true)) else if k = 3 then some (isBlk w106 2 23) else none) (fun _ => false) 0 6 (by kernel_rfl) (by kernel_rfl) (by kernel_rfl) (by kernel_rfl) (by kernel_rfl) (by kernel_rfl) (by kernel_rfl) Pull.size (Pulled.start S106.out) (fun hne => ?_)
      (repeat (refine rLexL_quiet (by rfl) (by rfl) (by rfl) (by rfl) ?_; go_big_quiet_step (fail); refine wpQuiet_nil ?_))
      refine rg_drawF (fun v => ∃ x y z, v = .agg #[.int .i64 x, .int .i64 y, .int .i64 z] ∧ vP x y z = true) 17 #[.pointer (some ⟨q, 0, none⟩), .int .i64 60] rfl rfl (fun _ => by go_simp) (fun u hu _ => (posn_any q u q 60 hu.2 (by omega) (by omega)).mono fun e w' h => h.draw) (fun vb hvb => ?_)
      obtain ⟨s0, s1, s2, rfl, -⟩ := hvb
      simp only [Act.put, List.setIfInBounds_toArray, List.set_cons_zero, List.set_cons_succ]
      (repeat (refine rLexL_quiet (by rfl) (by rfl) (by rfl) (by rfl) ?_; go_big_quiet_step (fail); refine wpQuiet_nil ?_))
      refine rg_litB 2 #[.int .i64 p0, .int .i64 p1, .int .i64 p2, .int .i64 s0, .int .i64 s1, .int .i64 s2] 23 rfl rfl rfl (fun _ => by go_simp) hp_ (fun np nph => ?_)
      simp only [Act.put, List.setIfInBounds_toArray, List.set_cons_zero, List.set_cons_succ]
      (repeat (refine rLexL_quiet (by rfl) (by rfl) (by rfl) (by rfl) ?_; go_big_quiet_step (fail); refine wpQuiet_nil ?_))
      refine rLexL_val (.int .i64 2) (by rfl) (by rfl) (by rfl) (by rfl) (fun _ => by go_simp) ?_
      simp only [Act.put, List.setIfInBounds_toArray, List.set_cons_zero, List.set_cons_succ]
      (repeat (refine rLexL_quiet (by rfl) (by rfl) (by rfl) (by rfl) ?_; go_big_quiet_step (fail); refine wpQuiet_nil ?_))
      rintro wq ⟨hgq, hqs⟩ hf -
      have HBnp : Hid (wq.heap[np]? = some (.cells (flat3 [(p0, p1, p2), (s0, s1, s2)]).toArray 23 (0, 0))) := Lib.hid (hf 3)
      have hnnp : np ≠ q := by omega
      generalize wq = w107 at *
      have M107 := Lib.hid (M106.out.draw hgq hq2); have S107 := Lib.hid (hqs); have Gnx_107 := Lib.hid (gb_trans Gnx_106.out hgq)
      clear hf hgq hqs hne hp_ nph M106 S106 Gnx_106 pb0_ pb1_ pb2_ upb_
      refine wpList_nil ?_
      obtain ⟨Lnp, hL, hLnp⟩ : ∃ Lnp : List (Int × Int × Int), Lnp = [(p0, p1, p2), (s0, s1, s2)] ∧ Lnp.length = 2 := ⟨_, rfl, rfl⟩
      rw [← hL] at HBnp
      clear hL
      go_wp2_with fail
      go_loopw [90] (fun i wr => ∃ k : Nat, k ≤ 2 ∧ i = .int .i64 k ∧ Src q wr q ∧ w107.grownBy wr (some q)) (fun i _ => 2 - (intOf i).toNat)
      case atStart => exact ⟨0, by omega, rfl, S107.out, gb_refl _ _⟩
      case round =>
        obtain ⟨knp, hknp, rfl, hS, hgr⟩ := hrel
        by_cases hltnp : knp < 2
        · have hkLnp : knp < Lnp.length := by omega
          have hkdnp : decide ((knp : Int) < 2) = true := decide_eq_true (by omega)
          obtain ⟨r0_, r1_, r2_⟩ := row3 (block_keptp hgr HBnp.out hnnp) knp hkLnp
          generalize wr = w200 at *
          have Gnp_107 := Lib.hid (gb_refl w107 (some q))
          have M200 := Lib.hid (M107.out.draw hgr hq2); have S200 := Lib.hid (hS); have Gnx_200 := Lib.hid (gb_trans Gnx_107.out hgr); have Gnp_200 := Lib.hid (gb_trans Gnp_107.out hgr)
          clear hgr hS
          generalize Lnp[knp] = tb at *
          obtain ⟨q0, q1, q2⟩ := tb
          simp only [] at r0_ r1_ r2_
          have NA := Lib.hid (fun u => near_any d0 d1 d2 d3 d4 d5 q0 q1 q2 u); have NB := Lib.hid (fun u => rNear_any d0 d1 d2 d3 d4 d5 q0 q1 q2 u)
          have FA := Lib.hid (fun u => far_any d0 d1 d2 d3 d4 d5 q0 q1 q2 u); have FB := Lib.hid (fun u => rFar_any d0 d1 d2 d3 d4 d5 q0 q1 q2 u)
          have KA := Lib.hid (fun u => contains_any d0 d1 d2 d3 d4 d5 q0 q1 q2 u); have KB := Lib.hid (fun u => rcontains_any d0 d1 d2 d3 d4 d5 q0 q1 q2 u)
          generalize nearP d0 d1 d2 d3 d4 d5 q0 q1 q2 = nn at *
          generalize farP d0 d1 d2 d3 d4 d5 q0 q1 q2 = ff at *
          generalize conP d0 d1 d2 d3 d4 d5 q0 q1 q2 = kk at *
          have hp_ := S200.out.lt.2
          have ha_ : w200.grownBy (w200.alloc (.cells #[.int .i64 q0, .int .i64 q1, .int .i64 q2] 23)) none := gb_alloc (gb_refl _ _) _
          have hb_ := heap_alloc_new w200 (.cells #[.int .i64 q0, .int .i64 q1, .int .i64 q2] 23)
          have M201 := Lib.hid (M200.out.later ha_); have S201 := Lib.hid (S200.out.later (row := none) ha_ (by simp)); have Gnx_201 := Lib.hid (gb_trans Gnx_200.out (gb_none ha_)); have Gnp_201 := Lib.hid (gb_trans Gnp_200.out (gb_none ha_))
          have M201 := Lib.hid (M201.out.more hb_ (by omega))
          clear hp_ ha_ hb_ M200 S200 Gnx_200 Gnp_200
          go_wp2_with fail
          generalize w200.alloc (.cells #[.int .i64 q0, .int .i64 q1, .int .i64 q2] 23) = w201 at *
          generalize w200.heap.size = yb at *
          clear r0_ r1_ r2_
          obtain ⟨x0_, x1_, x2_, x3_, x4_, x5_⟩ := six (M201.out.at 1 rfl)
          obtain ⟨y0_, y1_, y2_⟩ := cells3 (M201.out.at 0 rfl)
          have ux_ := M201.out.up 1 rfl
          have uy_ := M201.out.up 0 rfl
          (refine wp_region_grown (by kernel_rfl) (by kernel_rfl) ?_; (repeat (go_big_quiet_step (first
            | (go_at_call 18; exact Calls.grown_of (NA.out _))
            | (go_at_call 19; exact Calls.grown_of (NB.out _))
            | (go_at_call 20; exact Calls.grown_of (FA.out _))
            | (go_at_call 21; exact Calls.grown_of (FB.out _))
            | (go_at_call 22; exact Calls.grown_of (KA.out _))
            | (go_at_call 23; exact Calls.grown_of (KB.out _))))); refine wpQuiet_nil ?_; intro wq hq)
          generalize wq = w202 at *
          clear x0_ x1_ x2_ x3_ x4_ x5_ y0_ y1_ y2_ ux_ uy_ NA NB FA FB KA KB
          have M202 := Lib.hid (M201.out.later hq); have S202 := Lib.hid (S201.out.later (row := none) hq (by simp)); have Gnx_202 := Lib.hid (gb_trans Gnx_201.out (gb_none hq)); have Gnp_202 := Lib.hid (gb_trans Gnp_201.out (gb_none hq))
          clear hq M201 S201 Gnx_201 Gnp_201
          have HGN := Gnp_202; have HSN := S202
          go_wp2_with fail
          go_roundw
          case rel => exact ⟨knp + 1, by omega, by go_num, HSN.out, HGN.out⟩
          case measure => simp [intOf]; omega
        · have hkdnp : decide ((knp : Int) < 2) = false := decide_eq_false (by omega)
          generalize wr = w300 at *
          have M300 := Lib.hid (M107.out.draw hgr hq2); have S300 := Lib.hid (hS); have Gnx_300 := Lib.hid (gb_trans Gnx_107.out hgr)
          clear hgr hS M107 S107 Gnx_107 HBnp
          go_wp2_with fail
          obtain ⟨cb0_, cb1_, cb2_, cb3_, cb4_, cb5_⟩ := six (M300.out.at 3 rfl)
          obtain ⟨good0_, good1_, good2_, good3_, good4_, good5_⟩ := six (M300.out.at 1 rfl)
          have ucb_ := M300.out.pulled (B := q) 3 rfl
          have ugood_ := M300.out.pulled (B := q) 1 rfl
          have hp_ := S300.out.lt.2
          refine Rg.region (Pulled w300 q q) (Pull q) (fun k => if k = 3 then some (isSome' (fun v => ∃ x y z a b c, v = .agg #[.int .i64 x, .int .i64 y, .int .i64 z, .int .i64 a, .int .i64 b, .int .i64 c] ∧ boxIn 40 10 x y z a b c)) else if k = 4 then some (isBlk w300 3 25) else none) (fun _ => false) 0 7 (by kernel_rfl) (by kernel_rfl) (by kernel_rfl) (by kernel_rfl) (by kernel_rfl) (by kernel_rfl) (by kernel_rfl) Pull.size (Pulled.start S300.out) (fun hne => ?_)
          (repeat (refine rLexL_quiet (by rfl) (by rfl) (by rfl) (by rfl) ?_; go_big_quiet_step (fail); refine wpQuiet_nil ?_))
          refine rg_drawF (fun v => ∃ x y z a b c, v = .agg #[.int .i64 x, .int .i64 y, .int .i64 z, .int .i64 a, .int .i64 b, .int .i64 c] ∧ boxIn 40 10 x y z a b c) 7 #[.pointer (some ⟨q, 0, none⟩), .int .i64 40, .int .i64 10] rfl rfl (fun _ => by go_simp) (fun u hu _ => (box_any q u q 40 10 hu.2 (by omega) (by omega) (by omega) (by omega)).mono fun e w' h => h.draw) (fun vb hvb => ?_)
          obtain ⟨h0, h1, h2, h3, h4, h5, rfl, -⟩ := hvb
          simp only [Act.put, List.setIfInBounds_toArray, List.set_cons_zero, List.set_cons_succ]
          (repeat (refine rLexL_quiet (by rfl) (by rfl) (by rfl) (by rfl) ?_; go_big_quiet_step (fail); refine wpQuiet_nil ?_))
          refine rg_litB 3 #[.int .i64 c0, .int .i64 c1, .int .i64 c2, .int .i64 c3, .int .i64 c4, .int .i64 c5, .int .i64 x0, .int .i64 y0, .int .i64 z0, .int .i64 x1, .int .i64 y1, .int .i64 z1, .int .i64 h0, .int .i64 h1, .int .i64 h2, .int .i64 h3, .int .i64 h4, .int .i64 h5] 25 rfl rfl rfl (fun _ => by go_simp) hp_ (fun ny nyh => ?_)
          simp only [Act.put, List.setIfInBounds_toArray, List.set_cons_zero, List.set_cons_succ]
          (repeat (refine rLexL_quiet (by rfl) (by rfl) (by rfl) (by rfl) ?_; go_big_quiet_step (fail); refine wpQuiet_nil ?_))
          refine rLexL_val (.int .i64 3) (by rfl) (by rfl) (by rfl) (by rfl) (fun _ => by go_simp) ?_
          simp only [Act.put, List.setIfInBounds_toArray, List.set_cons_zero, List.set_cons_succ]
          (repeat (refine rLexL_quiet (by rfl) (by rfl) (by rfl) (by rfl) ?_; go_big_quiet_step (fail); refine wpQuiet_nil ?_))
          rintro wq ⟨hgq, hqs⟩ hf -
          have HBny : Hid (wq.heap[ny]? = some (.cells (flatP [⟨c0, c1, c2, c3, c4, c5⟩, ⟨x0, y0, z0, x1, y1, z1⟩, ⟨h0, h1, h2, h3, h4, h5⟩]).toArray 25 (0, 0))) := Lib.hid (hf 4)
          have hnny : ny ≠ q := by omega
          generalize wq = w301 at *
          have M301 := Lib.hid (M300.out.draw hgq hq2); have S301 := Lib.hid (hqs); have Gnx_301 := Lib.hid (gb_trans Gnx_300.out hgq)
          clear hf hgq hqs hne hp_ nyh M300 S300 Gnx_300 cb0_ cb1_ cb2_ cb3_ cb4_ cb5_ good0_ good1_ good2_ good3_ good4_ good5_ ucb_ ugood_
          refine wpList_nil ?_
          obtain ⟨Lny, hL, hLny⟩ : ∃ Lny : List Ph, Lny = [⟨c0, c1, c2, c3, c4, c5⟩, ⟨x0, y0, z0, x1, y1, z1⟩, ⟨h0, h1, h2, h3, h4, h5⟩] ∧ Lny.length = 3 := ⟨_, rfl, rfl⟩
          rw [← hL] at HBny
          clear hL
          go_wp2_with fail
          go_loopw [126] (fun i wr => ∃ k : Nat, k ≤ 3 ∧ i = .int .i64 k ∧ Src q wr q ∧ w301.grownBy wr (some q)) (fun i _ => 3 - (intOf i).toNat)
          case atStart => exact ⟨0, by omega, rfl, S301.out, gb_refl _ _⟩
          case round =>
            obtain ⟨kny, hkny, rfl, hS, hgr⟩ := hrel
            by_cases hltny : kny < 3
            · have hkLny : kny < Lny.length := by omega
              have hkdny : decide ((kny : Int) < 3) = true := decide_eq_true (by omega)
              obtain ⟨r0_, r1_, r2_, r3_, r4_, r5_⟩ := rowP (block_keptp hgr HBny.out hnny) kny hkLny
              generalize wr = w400 at *
              have Gny_301 := Lib.hid (gb_refl w301 (some q))
              have M400 := Lib.hid (M301.out.draw hgr hq2); have S400 := Lib.hid (hS); have Gnx_400 := Lib.hid (gb_trans Gnx_301.out hgr); have Gny_400 := Lib.hid (gb_trans Gny_301.out hgr)
              clear hgr hS
              generalize Lny[kny] = tb at *
              obtain ⟨f0, f1, f2, f3, f4, f5⟩ := tb
              simp only [] at r0_ r1_ r2_ r3_ r4_ r5_
              have WA := Lib.hid (fun u => within_any d0 d1 d2 d3 d4 d5 f0 f1 f2 f3 f4 f5 u); have WB := Lib.hid (fun u => rwithin_any d0 d1 d2 d3 d4 d5 f0 f1 f2 f3 f4 f5 u)
              have HA := Lib.hid (fun u => hull_any d0 d1 d2 d3 d4 d5 f0 f1 f2 f3 f4 f5 u); have HB := Lib.hid (fun u => rhull_any d0 d1 d2 d3 d4 d5 f0 f1 f2 f3 f4 f5 u)
              generalize wiP d0 d1 d2 d3 d4 d5 f0 f1 f2 f3 f4 f5 = wi at *
              generalize (bP d0 d1 d2 d3 d4 d5 && bP f0 f1 f2 f3 f4 f5) = bb at *
              generalize huL bb d0 f0 = g0 at *
              generalize huL bb d1 f1 = g1 at *
              generalize huL bb d2 f2 = g2 at *
              generalize huH bb d3 f3 = g3 at *
              generalize huH bb d4 f4 = g4 at *
              generalize huH bb d5 f5 = g5 at *
              have s1_ := same6_refl g0 g1 g2 g3 g4 g5
              have hp_ := S400.out.lt.2
              have ha_ : w400.grownBy (w400.alloc (.cells #[.int .i64 f0, .int .i64 f1, .int .i64 f2, .int .i64 f3, .int .i64 f4, .int .i64 f5] 25)) none := gb_alloc (gb_refl _ _) _
              have hb_ := heap_alloc_new w400 (.cells #[.int .i64 f0, .int .i64 f1, .int .i64 f2, .int .i64 f3, .int .i64 f4, .int .i64 f5] 25)
              have M401 := Lib.hid (M400.out.later ha_); have S401 := Lib.hid (S400.out.later (row := none) ha_ (by simp)); have Gnx_401 := Lib.hid (gb_trans Gnx_400.out (gb_none ha_)); have Gny_401 := Lib.hid (gb_trans Gny_400.out (gb_none ha_))
              have M401 := Lib.hid (M401.out.more hb_ (by omega))
              clear hp_ ha_ hb_ M400 S400 Gnx_400 Gny_400
              go_wp2_with fail
              generalize w400.alloc (.cells #[.int .i64 f0, .int .i64 f1, .int .i64 f2, .int .i64 f3, .int .i64 f4, .int .i64 f5] 25) = w401 at *
              generalize w400.heap.size = zb at *
              clear r0_ r1_ r2_ r3_ r4_ r5_
              obtain ⟨x0_, x1_, x2_, x3_, x4_, x5_⟩ := six (M401.out.at 1 rfl)
              obtain ⟨z0_, z1_, z2_, z3_, z4_, z5_⟩ := six (M401.out.at 0 rfl)
              have ux_ := M401.out.up 1 rfl
              have uz_ := M401.out.up 0 rfl
              (refine wp_region_grown (by kernel_rfl) (by kernel_rfl) ?_; (repeat (go_big_quiet_step (first
                | (go_at_call 24; exact Calls.grown_of (WA.out _))
                | (go_at_call 25; exact Calls.grown_of (WB.out _))
                | (go_at_call 26; exact Calls.grown_of (HA.out _))
                | (go_at_call 27; exact Calls.grown_of (HB.out _))))); refine wpQuiet_nil ?_; intro wq hq)
              generalize wq = w402 at *
              clear x0_ x1_ x2_ x3_ x4_ x5_ z0_ z1_ z2_ z3_ z4_ z5_ ux_ uz_ WA WB HA HB s1_
              have M402 := Lib.hid (M401.out.later hq); have S402 := Lib.hid (S401.out.later (row := none) hq (by simp)); have Gnx_402 := Lib.hid (gb_trans Gnx_401.out (gb_none hq)); have Gny_402 := Lib.hid (gb_trans Gny_401.out (gb_none hq))
              clear hq M401 S401 Gnx_401 Gny_401
              have HGN := Gny_402; have HSN := S402
              go_wp2_with fail
              go_roundw
              case rel => exact ⟨kny + 1, by omega, by go_num, HSN.out, HGN.out⟩
              case measure => simp [intOf]; omega
            · have hkdny : decide ((kny : Int) < 3) = false := decide_eq_false (by omega)
              generalize wr = w500 at *
              have M500 := Lib.hid (M301.out.draw hgr hq2); have S500 := Lib.hid (hS); have Gnx_500 := Lib.hid (gb_trans Gnx_301.out hgr)
              clear hgr hS M301 S301 Gnx_301 HBny
              have HGN := Gnx_500; have HSN := S500
              go_wp2_with fail
              go_roundw
              case rel => exact ⟨knx + 1, by omega, by go_num, HSN.out, HGN.out⟩
              case measure => simp [intOf]; omega
    · have hkdnx : decide ((knx : Int) < 4) = false := decide_eq_false (by omega)
      generalize wr = w600 at *
      have M600 := Lib.hid (M6.out.draw hgr hq2); have S600 := Lib.hid (hS)
      clear hgr hS M6 S6  HBnx
      have HGM := Lib.hid (gb_trans GW.out M600.out.gr)
      go_wp2_with fail
      (with_reducible refine (awake24_any _).mono ?_)
      rintro r w8 ⟨rfl, hg⟩
      have HGE := Lib.hid (gb_trans HGM.out hg)
      go_wp2_with fail
      go_ret
      exact ⟨rfl, gb_end HGE.out⟩
end Go.Proofs.Ytelmeggcgocmlaa
