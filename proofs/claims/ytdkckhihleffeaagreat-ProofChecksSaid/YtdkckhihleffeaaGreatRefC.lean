/- geometry.Compare; reference 24's Hull; keep.Bent. -/
import Derived.Test.YtdkckhihleffeaaGreatRef
import Derived.Test.YtdkckhihleffeaaGreatGeoS
namespace Go.Proofs.YtdkckhihleffeaaGreat
set_option linter.all false
open Go.RowKit Rg

set_option maxHeartbeats 1000000 in
theorem rhull_any (a0 b0 c0 a1 b1 c1 x0 y0 z0 x1 y1 z1 : Int) (w : World) :
    Calls Tryz.prog 48 #[.agg #[.int .i64 a0, .int .i64 b0, .int .i64 c0, .int .i64 a1, .int .i64 b1, .int .i64 c1], .agg #[.int .i64 x0, .int .i64 y0, .int .i64 z0, .int .i64 x1, .int .i64 y1, .int .i64 z1]] w fun e w' =>
      e = .returned (.agg #[.int .i64 (huL (bP a0 b0 c0 a1 b1 c1 && bP x0 y0 z0 x1 y1 z1) a0 x0), .int .i64 (huL (bP a0 b0 c0 a1 b1 c1 && bP x0 y0 z0 x1 y1 z1) b0 y0), .int .i64 (huL (bP a0 b0 c0 a1 b1 c1 && bP x0 y0 z0 x1 y1 z1) c0 z0), .int .i64 (huH (bP a0 b0 c0 a1 b1 c1 && bP x0 y0 z0 x1 y1 z1) a1 x1), .int .i64 (huH (bP a0 b0 c0 a1 b1 c1 && bP x0 y0 z0 x1 y1 z1) b1 y1), .int .i64 (huH (bP a0 b0 c0 a1 b1 c1 && bP x0 y0 z0 x1 y1 z1) c1 z1)]) ∧ w.grownBy w' none := by
  go_enter Tryz.func48, Tryz.ntmps48
  go_wp2_with fail
  (with_reducible refine (rvalidBox_any _ _ _ _ _ _ _).mono ?_)
  rintro e w1 ⟨rfl, hg1⟩
  have HA1 := Lib.hid (show w1.heap[w.heap.size]? = some (.cells #[.int .i64 a0, .int .i64 b0, .int .i64 c0, .int .i64 a1, .int .i64 b1, .int .i64 c1] 25 (0, 0)) from block_kept hg1 (by rw [heap_alloc_old _ _ (by simp; omega), heap_alloc_old _ _ (by simp), heap_alloc_new]) rfl)
  have HX1 := Lib.hid (show w1.heap[w.heap.size + 1]? = some (.cells #[.int .i64 x0, .int .i64 y0, .int .i64 z0, .int .i64 x1, .int .i64 y1, .int .i64 z1] 25 (0, 0)) from block_kept hg1 (by rw [heap_alloc_old _ _ (by simp)]; simpa using heap_alloc_new (w.alloc _) _) rfl)
  have HR1 := Lib.hid (show w1.heap[w.heap.size + 2]? = some (.cells #[.int .i64 0, .int .i64 0, .int .i64 0, .int .i64 0, .int .i64 0, .int .i64 0] 25 (0, 0)) from block_kept hg1 (by simpa using heap_alloc_new ((w.alloc _).alloc _) _) rfl)
  have HG1 := Lib.hid (gb_trans (gb_alloc (gb_alloc (gb_alloc (gb_refl _ _) _) _) _) hg1); clear hg1
  have Z : ∀ (u : World) (hR : u.heap[w.heap.size + 2]? = some (.cells #[.int .i64 0, .int .i64 0, .int .i64 0, .int .i64 0, .int .i64 0, .int .i64 0] 25 (0, 0))), True := fun _ _ => trivial
  clear Z
  cases hv0 : bP a0 b0 c0 a1 b1 c1
  · have hR := HR1.out
    have HN := Lib.hid (setRow_at (cs := #[.int .i64 0, .int .i64 0, .int .i64 0, .int .i64 0, .int .i64 0, .int .i64 0]) hR)
    have HGE := Lib.hid (gb_setRow (cs := #[.int .i64 0, .int .i64 0, .int .i64 0, .int .i64 0, .int .i64 0, .int .i64 0]) HG1.out (g := w.heap.size + 2) (.inl (by omega)))
    go_wp2_with (with_reducible refine wpList_store_row rfl _ _ _ rfl (w.heap.size + 2) #[.int .i64 0, .int .i64 0, .int .i64 0, .int .i64 0, .int .i64 0, .int .i64 0] rfl rfl _ _ hR (by kernel_rfl) rfl (by simp [Value.oneCell']) ?_)
    obtain ⟨e0, e1, e2, e3, e4, e5⟩ := cells6 HN.out
    refine bodyPost_ret (v := .agg #[.int .i64 0, .int .i64 0, .int .i64 0, .int .i64 0, .int .i64 0, .int .i64 0]) (by simp [results, Tryz.results48, go_sem, e0, e1, e2, e3, e4, e5]) rfl ⟨by simp [huL, huH, hv0], HGE.out⟩
  obtain ⟨d0, d1, d2, d3, d4, d5⟩ := cells6 HX1.out
  go_wp2_with fail
  (with_reducible refine (rvalidBox_any _ _ _ _ _ _ _).mono ?_)
  rintro e w2 ⟨rfl, hg2⟩
  have HA2 := Lib.hid (block_kept hg2 HA1.out rfl); have HX2 := Lib.hid (block_kept hg2 HX1.out rfl); have HR2 := Lib.hid (block_kept hg2 HR1.out rfl)
  have HG2 := Lib.hid (gb_trans HG1.out hg2); clear hg2 HG1 HA1 HX1 HR1 d0 d1 d2 d3 d4 d5
  cases hv1 : bP x0 y0 z0 x1 y1 z1
  · have hR := HR2.out
    have HN := Lib.hid (setRow_at (cs := #[.int .i64 0, .int .i64 0, .int .i64 0, .int .i64 0, .int .i64 0, .int .i64 0]) hR)
    have HGE := Lib.hid (gb_setRow (cs := #[.int .i64 0, .int .i64 0, .int .i64 0, .int .i64 0, .int .i64 0, .int .i64 0]) HG2.out (g := w.heap.size + 2) (.inl (by omega)))
    go_wp2_with (with_reducible refine wpList_store_row rfl _ _ _ rfl (w.heap.size + 2) #[.int .i64 0, .int .i64 0, .int .i64 0, .int .i64 0, .int .i64 0, .int .i64 0] rfl rfl _ _ hR (by kernel_rfl) rfl (by simp [Value.oneCell']) ?_)
    obtain ⟨e0, e1, e2, e3, e4, e5⟩ := cells6 HN.out
    refine bodyPost_ret (v := .agg #[.int .i64 0, .int .i64 0, .int .i64 0, .int .i64 0, .int .i64 0, .int .i64 0]) (by simp [results, Tryz.results48, go_sem, e0, e1, e2, e3, e4, e5]) rfl ⟨by simp [huL, huH, hv0, hv1], HGE.out⟩
  have HE := Lib.hid (show (bP a0 b0 c0 a1 b1 c1 && bP x0 y0 z0 x1 y1 z1) = true from by simp [hv0, hv1])
  clear hv0 hv1
  have hR := HR2.out
  have HN := Lib.hid (setRow_at (cs := #[.int .i64 (min a0 x0), .int .i64 (min b0 y0), .int .i64 (min c0 z0), .int .i64 (max a1 x1), .int .i64 (max b1 y1), .int .i64 (max c1 z1)]) hR)
  have HGE := Lib.hid (gb_setRow (cs := #[.int .i64 (min a0 x0), .int .i64 (min b0 y0), .int .i64 (min c0 z0), .int .i64 (max a1 x1), .int .i64 (max b1 y1), .int .i64 (max c1 z1)]) HG2.out (g := w.heap.size + 2) (.inl (by omega)))
  obtain ⟨d0, d1, d2, d3, d4, d5⟩ := cells6 HX2.out
  obtain ⟨f0, f1, f2, f3, f4, f5⟩ := cells6 HA2.out
  go_wp2_with (with_reducible refine wpList_store_row rfl _ _ _ rfl (w.heap.size + 2) #[.int .i64 (min a0 x0), .int .i64 (min b0 y0), .int .i64 (min c0 z0), .int .i64 (max a1 x1), .int .i64 (max b1 y1), .int .i64 (max c1 z1)] rfl rfl _ _ hR (by kernel_rfl) rfl (by simp [Value.oneCell']) ?_)
  obtain ⟨e0, e1, e2, e3, e4, e5⟩ := cells6 HN.out
  refine bodyPost_ret (v := .agg #[.int .i64 (min a0 x0), .int .i64 (min b0 y0), .int .i64 (min c0 z0), .int .i64 (max a1 x1), .int .i64 (max b1 y1), .int .i64 (max c1 z1)]) (by simp [results, Tryz.results48, go_sem, e0, e1, e2, e3, e4, e5]) rfl ⟨by rw [HE.out]; rfl, HGE.out⟩
end Go.Proofs.YtdkckhihleffeaaGreat
