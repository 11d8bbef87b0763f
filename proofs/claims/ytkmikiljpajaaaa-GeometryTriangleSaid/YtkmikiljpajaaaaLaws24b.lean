/- The walk of GeometryTriangle. -/
import Derived.Test.YtkmikiljpajaaaaAwake24
import Derived.Test.YtkmikiljpajaaaaTri
import Derived.Test.YtkmikiljpajaaaaRgPos
import Derived.Test.YtkmikiljpajaaaaGrown
namespace Go.Proofs.Ytkmikiljpajaaaa
set_option linter.all false
open Go.RowKit Rg

set_option maxRecDepth 100000 in
set_option maxHeartbeats 1000000 in
theorem geometryTriangle_walk (w : World) (v : Value) (xs : List Int) (hs : Sl w v xs) (_hx : ∀ x ∈ xs, -9223372036854775808 ≤ x ∧ x ≤ 9223372036854775807) :
    Calls Try.prog 7 #[v] w fun e w' => e = .returned (.bool true) ∧ Below w.heap.size w w' := by
  go_enter Try.func7, Try.ntmps7
  go_wp2_with fail
  (with_reducible refine (new_any w v xs hs).mono ?_)
  rintro e w1 ⟨rfl, hS, hg1⟩
  have HG1 := Lib.hid hg1; have HS1 := Lib.hid hS; clear hg1 hs hS
  go_wp2_with fail
  (with_reducible refine (posn_any w.heap.size w1 w.heap.size 1000 HS1.out (by omega) (by omega)).mono ?_)
  rintro e w2 ⟨x0, y0, z0, rfl, hv0, hS2, hg2⟩
  have HS2 := Lib.hid hS2; have HG2 := Lib.hid hg2; have HV0 := Lib.hid hv0; clear hS2 hg2 HS1 hv0
  go_wp2_with fail
  (with_reducible refine (posn_any w.heap.size w2 w.heap.size 1000 HS2.out (by omega) (by omega)).mono ?_)
  rintro e w3 ⟨x1, y1, z1, rfl, hv1, hS3, hg3⟩
  have HS3 := Lib.hid hS3; have HG3 := Lib.hid (gb_trans HG2.out hg3); have HV1 := Lib.hid hv1; clear hS3 hg3 HS2 HG2 hv1
  go_wp2_with fail
  (with_reducible refine (posn_any w.heap.size w3 w.heap.size 1000 HS3.out (by omega) (by omega)).mono ?_)
  rintro e w4 ⟨x2, y2, z2, rfl, hv2, hS4, hg4⟩
  have HG4 := Lib.hid (gb_new HG1.out (gb_trans HG3.out hg4) (by simp)); have HV2 := Lib.hid hv2; clear hS4 hg4 HS3 HG3 HG1 hv2
  have SAC := Lib.hid (fun u => square_any x0 y0 z0 x2 y2 z2 u)
  have SAB := Lib.hid (fun u => square_any x0 y0 z0 x1 y1 z1 u)
  have SBC := Lib.hid (fun u => square_any x1 y1 z1 x2 y2 z2 u)
  have SBA := Lib.hid (fun u => square_any x1 y1 z1 x0 y0 z0 u)
  have TRI := Lib.hid (tri_plain x0 y0 z0 x1 y1 z1 x2 y2 z2)
  have EAC := Lib.hid (sqP_valid HV0.out HV2.out); have EAB := Lib.hid (sqP_valid HV0.out HV1.out); have EBC := Lib.hid (sqP_valid HV1.out HV2.out); have EBA := Lib.hid ((sqP_valid HV1.out HV0.out).trans (sqD_comm _ _ _ _ _ _))
  rw [EAC.out] at SAC; rw [EAB.out] at SAB; rw [EBC.out] at SBC; rw [EBA.out] at SBA
  have b1 := sqD_nonneg x0 y0 z0 x2 y2 z2; have b2 := sqD_nonneg x0 y0 z0 x1 y1 z1; have b3 := sqD_nonneg x1 y1 z1 x2 y2 z2
  have b4 := sqD_small HV0.out HV2.out; have b5 := sqD_small HV0.out HV1.out; have b6 := sqD_small HV1.out HV2.out
  have HZ := Lib.hid (sqD_zero (x0 := x0) (y0 := y0) (z0 := z0) (x1 := x1) (y1 := y1) (z1 := z1))
  have HEQ := Lib.hid (fun (h : x0 = x1 ∧ y0 = y1 ∧ z0 = z1) => show sqD x0 y0 z0 x2 y2 z2 = sqD x1 y1 z1 x2 y2 z2 from by rw [h.1, h.2.1, h.2.2])
  clear EAC EAB EBC EBA HV0 HV1 HV2
  generalize sqD x0 y0 z0 x2 y2 z2 = ac at *
  generalize sqD x0 y0 z0 x1 y1 z1 = ab at *
  generalize sqD x1 y1 z1 x2 y2 z2 = bc at *
  have FAC := Lib.hid (fun u => gfloor_any ac u (by omega))
  have CAB := Lib.hid (fun u => gceil_any ab u (by omega))
  have CBC := Lib.hid (fun u => gceil_any bc u (by omega))
  have f1 := floorI_le (n := ac) (by omega)
  have f2 := ceilI_sq_ge b2; have f3 := ceilI_sq_ge b3
  have f4 : ceilI ab ≤ 3037000500 := by have := floorI_le (n := ab) (by omega); unfold ceilI; split <;> omega
  have f5 : ceilI bc ≤ 3037000500 := by have := floorI_le (n := bc) (by omega); unfold ceilI; split <;> omega
  have f2' := f2.1; have f3' := f3.1; clear f2 f3
  have tri := TRI.out
  generalize floorI ac = fl at *
  generalize ceilI ab = c1 at *
  generalize ceilI bc = c2 at *
  clear TRI
  have ws : IntKind.i64.wrap (c1 + c2) = c1 + c2 := by rw [IntKind.wrap_i64]; omega
  have dt : decide (fl ≤ c1 + c2) = true := decide_eq_true tri
  have A0 : Hid ((((w4.alloc (.cells #[.int .i64 x0, .int .i64 y0, .int .i64 z0] 40)).alloc (.cells #[.int .i64 x1, .int .i64 y1, .int .i64 z1] 40)).alloc (.cells #[.int .i64 x2, .int .i64 y2, .int .i64 z2] 40)).heap[w4.heap.size]? = some (.cells #[.int .i64 x0, .int .i64 y0, .int .i64 z0] 40 (0, 0))) := Lib.hid (by rw [heap_alloc_old _ _ (by simp; omega), heap_alloc_old _ _ (by simp), heap_alloc_new])
  have A1 : Hid ((((w4.alloc (.cells #[.int .i64 x0, .int .i64 y0, .int .i64 z0] 40)).alloc (.cells #[.int .i64 x1, .int .i64 y1, .int .i64 z1] 40)).alloc (.cells #[.int .i64 x2, .int .i64 y2, .int .i64 z2] 40)).heap[w4.heap.size + 1]? = some (.cells #[.int .i64 x1, .int .i64 y1, .int .i64 z1] 40 (0, 0))) := Lib.hid (by rw [heap_alloc_old _ _ (by simp)]; simpa using heap_alloc_new (w4.alloc _) _)
  have A2 : Hid ((((w4.alloc (.cells #[.int .i64 x0, .int .i64 y0, .int .i64 z0] 40)).alloc (.cells #[.int .i64 x1, .int .i64 y1, .int .i64 z1] 40)).alloc (.cells #[.int .i64 x2, .int .i64 y2, .int .i64 z2] 40)).heap[w4.heap.size + 1 + 1]? = some (.cells #[.int .i64 x2, .int .i64 y2, .int .i64 z2] 40 (0, 0))) := Lib.hid (by simpa using heap_alloc_new ((w4.alloc _).alloc _) _)
  have HG5 : Hid (w.grownBy (((w4.alloc (.cells #[.int .i64 x0, .int .i64 y0, .int .i64 z0] 40)).alloc (.cells #[.int .i64 x1, .int .i64 y1, .int .i64 z1] 40)).alloc (.cells #[.int .i64 x2, .int .i64 y2, .int .i64 z2] 40)) none) := Lib.hid (gb_alloc (gb_alloc (gb_alloc HG4.out _) _) _)
  go_wp2_with fail
  generalize ((w4.alloc (.cells #[.int .i64 x0, .int .i64 y0, .int .i64 z0] 40)).alloc (.cells #[.int .i64 x1, .int .i64 y1, .int .i64 z1] 40)).alloc (.cells #[.int .i64 x2, .int .i64 y2, .int .i64 z2] 40) = w5 at *
  obtain ⟨a0, a1, a2⟩ := cells3 A0.out
  obtain ⟨d0, d1, d2⟩ := cells3 A1.out
  obtain ⟨e0, e1, e2⟩ := cells3 A2.out
  have l0 := block_lt' A0.out; have l1 := block_lt' A1.out; have l2 := block_lt' A2.out
  have k0 := fun (x : Up w5) => (ever_cell x l0).trans a0
  have k1 := fun (x : Up w5) => (ever_cell x l0).trans a1
  have k2 := fun (x : Up w5) => (ever_cell x l0).trans a2
  have k3 := fun (x : Up w5) => (ever_cell x l1).trans d0
  have k4 := fun (x : Up w5) => (ever_cell x l1).trans d1
  have k5 := fun (x : Up w5) => (ever_cell x l1).trans d2
  have k6 := fun (x : Up w5) => (ever_cell x l2).trans e0
  have k7 := fun (x : Up w5) => (ever_cell x l2).trans e1
  have k8 := fun (x : Up w5) => (ever_cell x l2).trans e2
  clear a0 a1 a2 d0 d1 d2 e0 e1 e2 HG4 f1 f2' f3' f4 f5 b1 b2 b3 b4 b5 b6
  have ARM : True := trivial
  by_cases he : x0 = x1 ∧ y0 = y1 ∧ z0 = z1
  · have hab := HZ.out.2 he
    have hac := HEQ.out he
    obtain ⟨rfl, rfl, rfl⟩ := he
    subst hab; subst hac
    have hsame : same3 x0 y0 z0 x0 y0 z0 = true := same3_iff.2 ⟨rfl, rfl, rfl⟩
    clear HZ HEQ
    (refine wp_region_grown (by kernel_rfl) (by kernel_rfl) ?_; (repeat (go_big_quiet_step (first
      | (go_at_call 27; first | (with_reducible exact Calls.grown_of (SAB.out _)) | (with_reducible exact Calls.grown_of (SAC.out _)))
      | (go_at_call 23; exact Calls.grown_same (FAC.out _))
      | (go_at_call 24; first | (with_reducible exact Calls.grown_same (CAB.out _)) | (with_reducible exact Calls.grown_same (CBC.out _)))
      | (go_at_call 25; exact Calls.grown_of (awake24_any _))))); refine wpQuiet_nil ?_; intro wq hq)
    go_wp2
    go_ret
    exact ⟨rfl, gb_end (gb_trans HG5.out hq)⟩
  · have hab : (ab == 0) = false := by
      rw [beq_eq_false_iff_ne]; exact fun h => he (HZ.out.1 h)
    have hsame := same3_no he
    clear HZ HEQ
    (refine wp_region_grown (by kernel_rfl) (by kernel_rfl) ?_; (repeat (go_big_quiet_step (first
      | (go_at_call 27; first | (with_reducible exact Calls.grown_of (SAC.out _)) | (with_reducible exact Calls.grown_of (SAB.out _)) | (with_reducible exact Calls.grown_of (SBC.out _)) | (with_reducible exact Calls.grown_of (SBA.out _)))
      | (go_at_call 23; exact Calls.grown_same (FAC.out _))
      | (go_at_call 24; first | (with_reducible exact Calls.grown_same (CAB.out _)) | (with_reducible exact Calls.grown_same (CBC.out _)))
      | (go_at_call 25; exact Calls.grown_of (awake24_any _))))); refine wpQuiet_nil ?_; intro wq hq)
    go_wp2
    go_ret
    exact ⟨rfl, gb_end (gb_trans HG5.out hq)⟩
end Go.Proofs.Ytkmikiljpajaaaa
