/- Law 28's one and awake. Written by gen_awake28.py. -/
import Derived.Test.YtcealhikmbchoaaGreatLeastA
import Derived.Test.YtcealhikmbchoaaGreatAwake29
namespace Go.Proofs.YtcealhikmbchoaaGreat
set_option linter.all false
open Go.RowKit Rg

theorem one28_loc : locP one29 0 = (loc29, 0) := by kernel_rfl
theorem one28_box : boxP one29 0 = (1, 0) := by decide +kernel
set_option maxRecDepth 100000 in
theorem one28_any (w : World) : Calls Tryz.prog 52 #[] w fun e w' => ∃ v, e = .returned v ∧ IsPr one29 v w' ∧ w.grownBy w' none := by
  go_enter Tryz.func52, Tryz.ntmps52
  go_wp2_with fail
  have b0 : ((((w.alloc (.cells #[.int .i64 0, .int .i64 0, .int .i64 0, .int .i64 0, .int .i64 0, .int .i64 0, .int .i64 10, .slice (some ⟨w.heap.size + 1, 0, none⟩) 2 2, .slice (some ⟨w.heap.size + 1 + 1, 0, none⟩) 2 2, .slice (some ⟨w.heap.size + 1 + 1 + 1, 0, none⟩) 1 1, .int .i64 3] 36)).alloc (.cells #[.int .i64 0, .int .i64 5] 3)).alloc (.cells #[.int .i64 0, .int .i64 7] 3)).alloc (.cells #[.int .i64 0, .int .i64 0, .int .i64 0, .int .i64 100, .int .i64 102, .int .i64 1] 70)).heap[w.heap.size]? = some (.cells #[.int .i64 0, .int .i64 0, .int .i64 0, .int .i64 0, .int .i64 0, .int .i64 0, .int .i64 10, .slice (some ⟨w.heap.size + 1, 0, none⟩) 2 2, .slice (some ⟨w.heap.size + 1 + 1, 0, none⟩) 2 2, .slice (some ⟨w.heap.size + 1 + 1 + 1, 0, none⟩) 1 1, .int .i64 3] 36 (0, 0)) := by rw [heap_alloc_old _ _ (by simp <;> omega), heap_alloc_old _ _ (by simp <;> omega), heap_alloc_old _ _ (by simp), heap_alloc_new]
  have b1 : ((((w.alloc (.cells #[.int .i64 0, .int .i64 0, .int .i64 0, .int .i64 0, .int .i64 0, .int .i64 0, .int .i64 10, .slice (some ⟨w.heap.size + 1, 0, none⟩) 2 2, .slice (some ⟨w.heap.size + 1 + 1, 0, none⟩) 2 2, .slice (some ⟨w.heap.size + 1 + 1 + 1, 0, none⟩) 1 1, .int .i64 3] 36)).alloc (.cells #[.int .i64 0, .int .i64 5] 3)).alloc (.cells #[.int .i64 0, .int .i64 7] 3)).alloc (.cells #[.int .i64 0, .int .i64 0, .int .i64 0, .int .i64 100, .int .i64 102, .int .i64 1] 70)).heap[w.heap.size + 1]? = some (.cells (([0, 5] : List Int).map (Value.int .i64)).toArray 3 (0, 0)) := by rw [heap_alloc_old _ _ (by simp <;> omega), heap_alloc_old _ _ (by simp)]; simpa using heap_alloc_new (w.alloc _) _
  have b2 : ((((w.alloc (.cells #[.int .i64 0, .int .i64 0, .int .i64 0, .int .i64 0, .int .i64 0, .int .i64 0, .int .i64 10, .slice (some ⟨w.heap.size + 1, 0, none⟩) 2 2, .slice (some ⟨w.heap.size + 1 + 1, 0, none⟩) 2 2, .slice (some ⟨w.heap.size + 1 + 1 + 1, 0, none⟩) 1 1, .int .i64 3] 36)).alloc (.cells #[.int .i64 0, .int .i64 5] 3)).alloc (.cells #[.int .i64 0, .int .i64 7] 3)).alloc (.cells #[.int .i64 0, .int .i64 0, .int .i64 0, .int .i64 100, .int .i64 102, .int .i64 1] 70)).heap[w.heap.size + 1 + 1]? = some (.cells (([0, 7] : List Int).map (Value.int .i64)).toArray 3 (0, 0)) := by rw [heap_alloc_old _ _ (by simp)]; simpa using heap_alloc_new ((w.alloc _).alloc _) _
  have b3 : ((((w.alloc (.cells #[.int .i64 0, .int .i64 0, .int .i64 0, .int .i64 0, .int .i64 0, .int .i64 0, .int .i64 10, .slice (some ⟨w.heap.size + 1, 0, none⟩) 2 2, .slice (some ⟨w.heap.size + 1 + 1, 0, none⟩) 2 2, .slice (some ⟨w.heap.size + 1 + 1 + 1, 0, none⟩) 1 1, .int .i64 3] 36)).alloc (.cells #[.int .i64 0, .int .i64 5] 3)).alloc (.cells #[.int .i64 0, .int .i64 7] 3)).alloc (.cells #[.int .i64 0, .int .i64 0, .int .i64 0, .int .i64 100, .int .i64 102, .int .i64 1] 70)).heap[w.heap.size + 1 + 1 + 1]? = some (.cells (flatP one29.phs).toArray 70 (0, 0)) := by simpa [flatP, one29, Ph.cells] using heap_alloc_new (((w.alloc _).alloc _).alloc _) (.cells #[.int .i64 0, .int .i64 0, .int .i64 0, .int .i64 100, .int .i64 102, .int .i64 1] 70)
  have hg : w.grownBy ((((w.alloc (.cells #[.int .i64 0, .int .i64 0, .int .i64 0, .int .i64 0, .int .i64 0, .int .i64 0, .int .i64 10, .slice (some ⟨w.heap.size + 1, 0, none⟩) 2 2, .slice (some ⟨w.heap.size + 1 + 1, 0, none⟩) 2 2, .slice (some ⟨w.heap.size + 1 + 1 + 1, 0, none⟩) 1 1, .int .i64 3] 36)).alloc (.cells #[.int .i64 0, .int .i64 5] 3)).alloc (.cells #[.int .i64 0, .int .i64 7] 3)).alloc (.cells #[.int .i64 0, .int .i64 0, .int .i64 0, .int .i64 100, .int .i64 102, .int .i64 1] 70)) none := gb_alloc (gb_alloc (gb_alloc (gb_alloc (gb_refl _ _) _) _) _) _
  generalize ((((w.alloc (.cells #[.int .i64 0, .int .i64 0, .int .i64 0, .int .i64 0, .int .i64 0, .int .i64 0, .int .i64 10, .slice (some ⟨w.heap.size + 1, 0, none⟩) 2 2, .slice (some ⟨w.heap.size + 1 + 1, 0, none⟩) 2 2, .slice (some ⟨w.heap.size + 1 + 1 + 1, 0, none⟩) 1 1, .int .i64 3] 36)).alloc (.cells #[.int .i64 0, .int .i64 5] 3)).alloc (.cells #[.int .i64 0, .int .i64 7] 3)).alloc (.cells #[.int .i64 0, .int .i64 0, .int .i64 0, .int .i64 100, .int .i64 102, .int .i64 1] 70)) = w4 at *
  obtain ⟨e0_, e1_, e2_, e3_, e4_, e5_, e6_, e7_, e8_, e9_, e10_⟩ := cells11 b0
  exact bodyPost_ret (v := .agg #[.int .i64 0, .int .i64 0, .int .i64 0, .int .i64 0, .int .i64 0, .int .i64 0, .int .i64 10, .slice (some ⟨w.heap.size + 1, 0, none⟩) 2 2, .slice (some ⟨w.heap.size + 1 + 1, 0, none⟩) 2 2, .slice (some ⟨w.heap.size + 1 + 1 + 1, 0, none⟩) 1 1, .int .i64 3]) (by simp [results, Tryz.results52, go_sem, e0_, e1_, e2_, e3_, e4_, e5_, e6_, e7_, e8_, e9_, e10_]) rfl ⟨_, rfl, ⟨_, _, _, rfl, ⟨Sl.of_block b1 rfl (by omega), Sl.of_block b2 rfl (by omega), SlC.of_block (ys := flatP one29.phs) b3 rfl (by omega)⟩⟩, hg⟩
set_option maxRecDepth 100000 in
set_option maxHeartbeats 8000000 in
theorem awake28_any (w : World) : Calls Tryz.prog 22 #[] w fun e w' => e = .returned (.bool true) ∧ w.grownBy w' none := by
  have LOC : Hid (∀ (v : Value) (u : World), IsPr one29 v u → Calls Tryz.prog 23 #[v, .int .i64 0] u fun e w' => e = .returned (.tuple #[.agg #[.int .i64 0, .int .i64 0, .int .i64 0, .int .i64 100, .int .i64 0, .int .i64 0, .int .i64 0, .int .i64 0, .int .i64 0, .int .i64 0, .int .i64 0, .int .i64 0], .int .i64 0]) ∧ u.grownBy w' none) := Lib.hid (fun v u h => by
    obtain ⟨vl, vh, vp, rfl, hi⟩ := h
    have := locate_any one29 vl vh vp 0 u hi (by decide)
    rw [one28_loc] at this
    exact this)
  have BOX : Hid (∀ (v : Value) (u : World), IsPr one29 v u → Calls Tryz.prog 24 #[v, .int .i64 0] u fun e w' => e = .returned (.tuple #[.int .i64 1, .int .i64 0]) ∧ u.grownBy w' none) := Lib.hid (fun v u h => by
    obtain ⟨vl, vh, vp, rfl, hi⟩ := h
    have := boxes_any one29 vl vh vp 0 u hi (by decide)
    rw [one28_box] at this
    exact this)
  go_enter Tryz.func22, Tryz.ntmps22
  go_wp2_with fail
  (with_reducible refine (one28_any w).mono ?_)
  rintro e w1 ⟨v1, rfl, hv, hg⟩
  have G1 := Lib.hid hg; have V1 := Lib.hid hv
  clear hv hg
  go_wp2_with fail
  (with_reducible refine (LOC.out v1 w1 V1.out).mono ?_)
  rintro e w2 ⟨rfl, hg⟩
  have hg3 := gb_alloc (gb_refl w2 none) (.cells #[.int .i64 0, .int .i64 0, .int .i64 0, .int .i64 100, .int .i64 0, .int .i64 0, .int .i64 0, .int .i64 0, .int .i64 0, .int .i64 0, .int .i64 0, .int .i64 0] 27)
  have X3 := Lib.hid (heap_alloc_new w2 (.cells #[.int .i64 0, .int .i64 0, .int .i64 0, .int .i64 100, .int .i64 0, .int .i64 0, .int .i64 0, .int .i64 0, .int .i64 0, .int .i64 0, .int .i64 0, .int .i64 0] 27))
  have G3 := Lib.hid (gb_trans (gb_trans G1.out hg) hg3)
  clear hg hg3 V1 G1
  go_wp2_with fail
  generalize w2.alloc (.cells #[.int .i64 0, .int .i64 0, .int .i64 0, .int .i64 100, .int .i64 0, .int .i64 0, .int .i64 0, .int .i64 0, .int .i64 0, .int .i64 0, .int .i64 0, .int .i64 0] 27) = w3 at *
  generalize w2.heap.size = b at *
  (with_reducible refine (one28_any w3).mono ?_)
  rintro e w4 ⟨v4, rfl, hv, hg⟩
  have X4 := Lib.hid (block_kept hg X3.out rfl); have G4 := Lib.hid (gb_trans G3.out hg); have V4 := Lib.hid hv
  clear hv hg X3 G3
  go_wp2_with fail
  (with_reducible refine (BOX.out v4 w4 V4.out).mono ?_)
  rintro e w5 ⟨rfl, hg⟩
  have X5 := Lib.hid (block_kept hg X4.out rfl); have G5 := Lib.hid (gb_trans G4.out hg)
  clear hg X4 G4 V4
  obtain ⟨d0_, d1_, d2_, d3_, d4_, d5_, d6_, d7_, d8_, d9_, d10_, d11_⟩ := cells12 X5.out
  go_wp2_with fail
  go_ret
  exact ⟨rfl, G5.out⟩
end Go.Proofs.YtcealhikmbchoaaGreat
