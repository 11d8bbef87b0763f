/- The walk of BoundIntervals. Written by gen_law26e.py. -/
import Derived.Test.YtkckcaijfedijaaAwake26
import Derived.Test.YtkckcaijfedijaaLit
import Derived.Test.YtkckcaijfedijaaRef
import Derived.Test.YtkckcaijfedijaaProb
namespace Go.Proofs.Ytkckcaijfedijaa
set_option linter.all false
open Go.RowKit Rg

set_option maxRecDepth 100000 in
set_option maxHeartbeats 8000000 in
theorem boundIntervals_walk (w : World) (rst : Int) (rvl rvh : Value) (rls rhs : List Int) (hr1 : Sl w rvl rls) (hr2 : Sl w rvh rhs) (b0 b1 b2 b3 b4 b5 p0 p1 p2 a0 a1 a2 a3 a4 a5 z0 z1 y0 y1 : Int) (v : Value) (xs : List Int) (hs : Sl w v xs) (_hx : ∀ x ∈ xs, -9223372036854775808 ≤ x ∧ x ≤ 9223372036854775807) :
    Calls Try.prog 3 #[.agg #[.int .i64 rst, rvl, rvh], .agg #[.int .i64 b0, .int .i64 b1, .int .i64 b2, .int .i64 b3, .int .i64 b4, .int .i64 b5], .agg #[.int .i64 p0, .int .i64 p1, .int .i64 p2], .agg #[.int .i64 a0, .int .i64 a1, .int .i64 a2, .int .i64 a3, .int .i64 a4, .int .i64 a5], .agg #[.int .i64 z0, .int .i64 z1], .agg #[.int .i64 y0, .int .i64 y1], v] w fun e w' => e = .returned (.bool true) ∧ Below w.heap.size w w' := by
  obtain ⟨ra, rn, rc, rfl⟩ := sl_slice hr1; obtain ⟨sa, sn, sc, rfl⟩ := sl_slice hr2
  have hv : v.oneCell' = true := by obtain ⟨va, vn, vc, rfl⟩ := sl_slice hs; rfl
  go_enter Try.func3, Try.ntmps3
  have k0_0 : (w.alloc (.cells #[.int .i64 rst, .slice ra rn rc, .slice sa sn sc] 24)).heap[w.heap.size]? = some (.cells #[.int .i64 rst, .slice ra rn rc, .slice sa sn sc] 24 (0, 0)) := by exact heap_alloc_new _ _
  have k0_1 := block_kept (gb_alloc (gb_refl (w.alloc (.cells #[.int .i64 rst, .slice ra rn rc, .slice sa sn sc] 24)) none) (.cells #[.int .i64 b0, .int .i64 b1, .int .i64 b2, .int .i64 b3, .int .i64 b4, .int .i64 b5] 28)) k0_0 rfl
  have k1_1 : ((w.alloc (.cells #[.int .i64 rst, .slice ra rn rc, .slice sa sn sc] 24)).alloc (.cells #[.int .i64 b0, .int .i64 b1, .int .i64 b2, .int .i64 b3, .int .i64 b4, .int .i64 b5] 28)).heap[w.heap.size + 1]? = some (.cells #[.int .i64 b0, .int .i64 b1, .int .i64 b2, .int .i64 b3, .int .i64 b4, .int .i64 b5] 28 (0, 0)) := by simpa using heap_alloc_new (w.alloc (.cells #[.int .i64 rst, .slice ra rn rc, .slice sa sn sc] 24)) (.cells #[.int .i64 b0, .int .i64 b1, .int .i64 b2, .int .i64 b3, .int .i64 b4, .int .i64 b5] 28)
  clear k0_0
  have k0_2 := block_kept (gb_alloc (gb_refl ((w.alloc (.cells #[.int .i64 rst, .slice ra rn rc, .slice sa sn sc] 24)).alloc (.cells #[.int .i64 b0, .int .i64 b1, .int .i64 b2, .int .i64 b3, .int .i64 b4, .int .i64 b5] 28)) none) (.cells #[.int .i64 p0, .int .i64 p1, .int .i64 p2] 26)) k0_1 rfl
  have k1_2 := block_kept (gb_alloc (gb_refl ((w.alloc (.cells #[.int .i64 rst, .slice ra rn rc, .slice sa sn sc] 24)).alloc (.cells #[.int .i64 b0, .int .i64 b1, .int .i64 b2, .int .i64 b3, .int .i64 b4, .int .i64 b5] 28)) none) (.cells #[.int .i64 p0, .int .i64 p1, .int .i64 p2] 26)) k1_1 rfl
  have k2_2 : (((w.alloc (.cells #[.int .i64 rst, .slice ra rn rc, .slice sa sn sc] 24)).alloc (.cells #[.int .i64 b0, .int .i64 b1, .int .i64 b2, .int .i64 b3, .int .i64 b4, .int .i64 b5] 28)).alloc (.cells #[.int .i64 p0, .int .i64 p1, .int .i64 p2] 26)).heap[w.heap.size + 1 + 1]? = some (.cells #[.int .i64 p0, .int .i64 p1, .int .i64 p2] 26 (0, 0)) := by simpa using heap_alloc_new ((w.alloc (.cells #[.int .i64 rst, .slice ra rn rc, .slice sa sn sc] 24)).alloc (.cells #[.int .i64 b0, .int .i64 b1, .int .i64 b2, .int .i64 b3, .int .i64 b4, .int .i64 b5] 28)) (.cells #[.int .i64 p0, .int .i64 p1, .int .i64 p2] 26)
  clear k0_1 k1_1
  have k0_3 := block_kept (gb_alloc (gb_refl (((w.alloc (.cells #[.int .i64 rst, .slice ra rn rc, .slice sa sn sc] 24)).alloc (.cells #[.int .i64 b0, .int .i64 b1, .int .i64 b2, .int .i64 b3, .int .i64 b4, .int .i64 b5] 28)).alloc (.cells #[.int .i64 p0, .int .i64 p1, .int .i64 p2] 26)) none) (.cells #[.int .i64 a0, .int .i64 a1, .int .i64 a2, .int .i64 a3, .int .i64 a4, .int .i64 a5] 30)) k0_2 rfl
  have k1_3 := block_kept (gb_alloc (gb_refl (((w.alloc (.cells #[.int .i64 rst, .slice ra rn rc, .slice sa sn sc] 24)).alloc (.cells #[.int .i64 b0, .int .i64 b1, .int .i64 b2, .int .i64 b3, .int .i64 b4, .int .i64 b5] 28)).alloc (.cells #[.int .i64 p0, .int .i64 p1, .int .i64 p2] 26)) none) (.cells #[.int .i64 a0, .int .i64 a1, .int .i64 a2, .int .i64 a3, .int .i64 a4, .int .i64 a5] 30)) k1_2 rfl
  have k2_3 := block_kept (gb_alloc (gb_refl (((w.alloc (.cells #[.int .i64 rst, .slice ra rn rc, .slice sa sn sc] 24)).alloc (.cells #[.int .i64 b0, .int .i64 b1, .int .i64 b2, .int .i64 b3, .int .i64 b4, .int .i64 b5] 28)).alloc (.cells #[.int .i64 p0, .int .i64 p1, .int .i64 p2] 26)) none) (.cells #[.int .i64 a0, .int .i64 a1, .int .i64 a2, .int .i64 a3, .int .i64 a4, .int .i64 a5] 30)) k2_2 rfl
  have k3_3 : ((((w.alloc (.cells #[.int .i64 rst, .slice ra rn rc, .slice sa sn sc] 24)).alloc (.cells #[.int .i64 b0, .int .i64 b1, .int .i64 b2, .int .i64 b3, .int .i64 b4, .int .i64 b5] 28)).alloc (.cells #[.int .i64 p0, .int .i64 p1, .int .i64 p2] 26)).alloc (.cells #[.int .i64 a0, .int .i64 a1, .int .i64 a2, .int .i64 a3, .int .i64 a4, .int .i64 a5] 30)).heap[w.heap.size + 1 + 1 + 1]? = some (.cells #[.int .i64 a0, .int .i64 a1, .int .i64 a2, .int .i64 a3, .int .i64 a4, .int .i64 a5] 30 (0, 0)) := by simpa using heap_alloc_new (((w.alloc (.cells #[.int .i64 rst, .slice ra rn rc, .slice sa sn sc] 24)).alloc (.cells #[.int .i64 b0, .int .i64 b1, .int .i64 b2, .int .i64 b3, .int .i64 b4, .int .i64 b5] 28)).alloc (.cells #[.int .i64 p0, .int .i64 p1, .int .i64 p2] 26)) (.cells #[.int .i64 a0, .int .i64 a1, .int .i64 a2, .int .i64 a3, .int .i64 a4, .int .i64 a5] 30)
  clear k0_2 k1_2 k2_2
  have k0_4 := block_kept (gb_alloc (gb_refl ((((w.alloc (.cells #[.int .i64 rst, .slice ra rn rc, .slice sa sn sc] 24)).alloc (.cells #[.int .i64 b0, .int .i64 b1, .int .i64 b2, .int .i64 b3, .int .i64 b4, .int .i64 b5] 28)).alloc (.cells #[.int .i64 p0, .int .i64 p1, .int .i64 p2] 26)).alloc (.cells #[.int .i64 a0, .int .i64 a1, .int .i64 a2, .int .i64 a3, .int .i64 a4, .int .i64 a5] 30)) none) (.cells #[.int .i64 z0, .int .i64 z1] 32)) k0_3 rfl
  have k1_4 := block_kept (gb_alloc (gb_refl ((((w.alloc (.cells #[.int .i64 rst, .slice ra rn rc, .slice sa sn sc] 24)).alloc (.cells #[.int .i64 b0, .int .i64 b1, .int .i64 b2, .int .i64 b3, .int .i64 b4, .int .i64 b5] 28)).alloc (.cells #[.int .i64 p0, .int .i64 p1, .int .i64 p2] 26)).alloc (.cells #[.int .i64 a0, .int .i64 a1, .int .i64 a2, .int .i64 a3, .int .i64 a4, .int .i64 a5] 30)) none) (.cells #[.int .i64 z0, .int .i64 z1] 32)) k1_3 rfl
  have k2_4 := block_kept (gb_alloc (gb_refl ((((w.alloc (.cells #[.int .i64 rst, .slice ra rn rc, .slice sa sn sc] 24)).alloc (.cells #[.int .i64 b0, .int .i64 b1, .int .i64 b2, .int .i64 b3, .int .i64 b4, .int .i64 b5] 28)).alloc (.cells #[.int .i64 p0, .int .i64 p1, .int .i64 p2] 26)).alloc (.cells #[.int .i64 a0, .int .i64 a1, .int .i64 a2, .int .i64 a3, .int .i64 a4, .int .i64 a5] 30)) none) (.cells #[.int .i64 z0, .int .i64 z1] 32)) k2_3 rfl
  have k3_4 := block_kept (gb_alloc (gb_refl ((((w.alloc (.cells #[.int .i64 rst, .slice ra rn rc, .slice sa sn sc] 24)).alloc (.cells #[.int .i64 b0, .int .i64 b1, .int .i64 b2, .int .i64 b3, .int .i64 b4, .int .i64 b5] 28)).alloc (.cells #[.int .i64 p0, .int .i64 p1, .int .i64 p2] 26)).alloc (.cells #[.int .i64 a0, .int .i64 a1, .int .i64 a2, .int .i64 a3, .int .i64 a4, .int .i64 a5] 30)) none) (.cells #[.int .i64 z0, .int .i64 z1] 32)) k3_3 rfl
  have k4_4 : (((((w.alloc (.cells #[.int .i64 rst, .slice ra rn rc, .slice sa sn sc] 24)).alloc (.cells #[.int .i64 b0, .int .i64 b1, .int .i64 b2, .int .i64 b3, .int .i64 b4, .int .i64 b5] 28)).alloc (.cells #[.int .i64 p0, .int .i64 p1, .int .i64 p2] 26)).alloc (.cells #[.int .i64 a0, .int .i64 a1, .int .i64 a2, .int .i64 a3, .int .i64 a4, .int .i64 a5] 30)).alloc (.cells #[.int .i64 z0, .int .i64 z1] 32)).heap[w.heap.size + 1 + 1 + 1 + 1]? = some (.cells #[.int .i64 z0, .int .i64 z1] 32 (0, 0)) := by simpa using heap_alloc_new ((((w.alloc (.cells #[.int .i64 rst, .slice ra rn rc, .slice sa sn sc] 24)).alloc (.cells #[.int .i64 b0, .int .i64 b1, .int .i64 b2, .int .i64 b3, .int .i64 b4, .int .i64 b5] 28)).alloc (.cells #[.int .i64 p0, .int .i64 p1, .int .i64 p2] 26)).alloc (.cells #[.int .i64 a0, .int .i64 a1, .int .i64 a2, .int .i64 a3, .int .i64 a4, .int .i64 a5] 30)) (.cells #[.int .i64 z0, .int .i64 z1] 32)
  clear k0_3 k1_3 k2_3 k3_3
  have k0_5 := block_kept (gb_alloc (gb_refl (((((w.alloc (.cells #[.int .i64 rst, .slice ra rn rc, .slice sa sn sc] 24)).alloc (.cells #[.int .i64 b0, .int .i64 b1, .int .i64 b2, .int .i64 b3, .int .i64 b4, .int .i64 b5] 28)).alloc (.cells #[.int .i64 p0, .int .i64 p1, .int .i64 p2] 26)).alloc (.cells #[.int .i64 a0, .int .i64 a1, .int .i64 a2, .int .i64 a3, .int .i64 a4, .int .i64 a5] 30)).alloc (.cells #[.int .i64 z0, .int .i64 z1] 32)) none) (.cells #[.int .i64 y0, .int .i64 y1] 32)) k0_4 rfl
  have k1_5 := block_kept (gb_alloc (gb_refl (((((w.alloc (.cells #[.int .i64 rst, .slice ra rn rc, .slice sa sn sc] 24)).alloc (.cells #[.int .i64 b0, .int .i64 b1, .int .i64 b2, .int .i64 b3, .int .i64 b4, .int .i64 b5] 28)).alloc (.cells #[.int .i64 p0, .int .i64 p1, .int .i64 p2] 26)).alloc (.cells #[.int .i64 a0, .int .i64 a1, .int .i64 a2, .int .i64 a3, .int .i64 a4, .int .i64 a5] 30)).alloc (.cells #[.int .i64 z0, .int .i64 z1] 32)) none) (.cells #[.int .i64 y0, .int .i64 y1] 32)) k1_4 rfl
  have k2_5 := block_kept (gb_alloc (gb_refl (((((w.alloc (.cells #[.int .i64 rst, .slice ra rn rc, .slice sa sn sc] 24)).alloc (.cells #[.int .i64 b0, .int .i64 b1, .int .i64 b2, .int .i64 b3, .int .i64 b4, .int .i64 b5] 28)).alloc (.cells #[.int .i64 p0, .int .i64 p1, .int .i64 p2] 26)).alloc (.cells #[.int .i64 a0, .int .i64 a1, .int .i64 a2, .int .i64 a3, .int .i64 a4, .int .i64 a5] 30)).alloc (.cells #[.int .i64 z0, .int .i64 z1] 32)) none) (.cells #[.int .i64 y0, .int .i64 y1] 32)) k2_4 rfl
  have k3_5 := block_kept (gb_alloc (gb_refl (((((w.alloc (.cells #[.int .i64 rst, .slice ra rn rc, .slice sa sn sc] 24)).alloc (.cells #[.int .i64 b0, .int .i64 b1, .int .i64 b2, .int .i64 b3, .int .i64 b4, .int .i64 b5] 28)).alloc (.cells #[.int .i64 p0, .int .i64 p1, .int .i64 p2] 26)).alloc (.cells #[.int .i64 a0, .int .i64 a1, .int .i64 a2, .int .i64 a3, .int .i64 a4, .int .i64 a5] 30)).alloc (.cells #[.int .i64 z0, .int .i64 z1] 32)) none) (.cells #[.int .i64 y0, .int .i64 y1] 32)) k3_4 rfl
  have k4_5 := block_kept (gb_alloc (gb_refl (((((w.alloc (.cells #[.int .i64 rst, .slice ra rn rc, .slice sa sn sc] 24)).alloc (.cells #[.int .i64 b0, .int .i64 b1, .int .i64 b2, .int .i64 b3, .int .i64 b4, .int .i64 b5] 28)).alloc (.cells #[.int .i64 p0, .int .i64 p1, .int .i64 p2] 26)).alloc (.cells #[.int .i64 a0, .int .i64 a1, .int .i64 a2, .int .i64 a3, .int .i64 a4, .int .i64 a5] 30)).alloc (.cells #[.int .i64 z0, .int .i64 z1] 32)) none) (.cells #[.int .i64 y0, .int .i64 y1] 32)) k4_4 rfl
  have k5_5 : ((((((w.alloc (.cells #[.int .i64 rst, .slice ra rn rc, .slice sa sn sc] 24)).alloc (.cells #[.int .i64 b0, .int .i64 b1, .int .i64 b2, .int .i64 b3, .int .i64 b4, .int .i64 b5] 28)).alloc (.cells #[.int .i64 p0, .int .i64 p1, .int .i64 p2] 26)).alloc (.cells #[.int .i64 a0, .int .i64 a1, .int .i64 a2, .int .i64 a3, .int .i64 a4, .int .i64 a5] 30)).alloc (.cells #[.int .i64 z0, .int .i64 z1] 32)).alloc (.cells #[.int .i64 y0, .int .i64 y1] 32)).heap[w.heap.size + 1 + 1 + 1 + 1 + 1]? = some (.cells #[.int .i64 y0, .int .i64 y1] 32 (0, 0)) := by simpa using heap_alloc_new (((((w.alloc (.cells #[.int .i64 rst, .slice ra rn rc, .slice sa sn sc] 24)).alloc (.cells #[.int .i64 b0, .int .i64 b1, .int .i64 b2, .int .i64 b3, .int .i64 b4, .int .i64 b5] 28)).alloc (.cells #[.int .i64 p0, .int .i64 p1, .int .i64 p2] 26)).alloc (.cells #[.int .i64 a0, .int .i64 a1, .int .i64 a2, .int .i64 a3, .int .i64 a4, .int .i64 a5] 30)).alloc (.cells #[.int .i64 z0, .int .i64 z1] 32)) (.cells #[.int .i64 y0, .int .i64 y1] 32)
  clear k0_4 k1_4 k2_4 k3_4 k4_4
  have hgw : w.grownBy ((((((w.alloc (.cells #[.int .i64 rst, .slice ra rn rc, .slice sa sn sc] 24)).alloc (.cells #[.int .i64 b0, .int .i64 b1, .int .i64 b2, .int .i64 b3, .int .i64 b4, .int .i64 b5] 28)).alloc (.cells #[.int .i64 p0, .int .i64 p1, .int .i64 p2] 26)).alloc (.cells #[.int .i64 a0, .int .i64 a1, .int .i64 a2, .int .i64 a3, .int .i64 a4, .int .i64 a5] 30)).alloc (.cells #[.int .i64 z0, .int .i64 z1] 32)).alloc (.cells #[.int .i64 y0, .int .i64 y1] 32)) none := gb_alloc (gb_alloc (gb_alloc (gb_alloc (gb_alloc (gb_alloc (gb_refl w none) _) _) _) _) _) _
  have K0 := Lib.hid k0_5
  have K1 := Lib.hid k1_5
  have K2 := Lib.hid k2_5
  have K3 := Lib.hid k3_5
  have K4 := Lib.hid k4_5
  have K5 := Lib.hid k5_5
  clear k0_5 k1_5 k2_5 k3_5 k4_5 k5_5
  have HR1 := Lib.hid (hr1.after hgw); have HR2 := Lib.hid (hr2.after hgw); have HV := Lib.hid (hs.after hgw); have GW := Lib.hid hgw
  clear hr1 hr2 hs hgw
  go_wp2_with fail
  refine calls_name (fun w1 hw => ?_)
  have K0 := Lib.hid (show w1.heap[w.heap.size]? = some (.cells #[.int .i64 rst, .slice ra rn rc, .slice sa sn sc] 24 (0, 0)) from by rw [hw]; exact K0.out)
  have K1 := Lib.hid (show w1.heap[w.heap.size + 1]? = some (.cells #[.int .i64 b0, .int .i64 b1, .int .i64 b2, .int .i64 b3, .int .i64 b4, .int .i64 b5] 28 (0, 0)) from by rw [hw]; exact K1.out)
  have K2 := Lib.hid (show w1.heap[w.heap.size + 1 + 1]? = some (.cells #[.int .i64 p0, .int .i64 p1, .int .i64 p2] 26 (0, 0)) from by rw [hw]; exact K2.out)
  have K3 := Lib.hid (show w1.heap[w.heap.size + 1 + 1 + 1]? = some (.cells #[.int .i64 a0, .int .i64 a1, .int .i64 a2, .int .i64 a3, .int .i64 a4, .int .i64 a5] 30 (0, 0)) from by rw [hw]; exact K3.out)
  have K4 := Lib.hid (show w1.heap[w.heap.size + 1 + 1 + 1 + 1]? = some (.cells #[.int .i64 z0, .int .i64 z1] 32 (0, 0)) from by rw [hw]; exact K4.out)
  have K5 := Lib.hid (show w1.heap[w.heap.size + 1 + 1 + 1 + 1 + 1]? = some (.cells #[.int .i64 y0, .int .i64 y1] 32 (0, 0)) from by rw [hw]; exact K5.out)
  have HR1 := Lib.hid (show Sl w1 _ _ from by rw [hw]; exact HR1.out); have HR2 := Lib.hid (show Sl w1 _ _ from by rw [hw]; exact HR2.out); have HV := Lib.hid (show Sl w1 _ _ from by rw [hw]; exact HV.out); have GW := Lib.hid (show w.grownBy w1 none from by rw [hw]; exact GW.out)
  clear hw
  (with_reducible refine (smallTable_any _ _ _ rls rhs w1 HR1.out HR2.out).mono ?_)
  rintro r w2 ⟨rfl, hg⟩
  have K0 := Lib.hid (block_kept hg K0.out rfl)
  have K1 := Lib.hid (block_kept hg K1.out rfl)
  have K2 := Lib.hid (block_kept hg K2.out rfl)
  have K3 := Lib.hid (block_kept hg K3.out rfl)
  have K4 := Lib.hid (block_kept hg K4.out rfl)
  have K5 := Lib.hid (block_kept hg K5.out rfl)
  have HR1 := Lib.hid (HR1.out.after hg); have HR2 := Lib.hid (HR2.out.after hg); have HV := Lib.hid (HV.out.after hg); have GW := Lib.hid (gb_trans GW.out hg)
  clear hg
  cases hsm : (decide (rls.length ≤ 300) && decide (rhs.length ≤ 300))
  · go_wp2_with fail
    (with_reducible refine (awake26_any _).mono ?_)
    rintro r w3 ⟨rfl, hg⟩
    have HGE := Lib.hid (gb_trans GW.out hg)
    go_wp2_with fail
    go_ret
    exact ⟨rfl, gb_end HGE.out⟩
  clear hsm
  go_wp2_with fail
  (with_reducible refine (new_any w2 v xs HV.out).mono ?_)
  rintro e w3 ⟨rfl, hS, hg⟩
  have hlt := block_lt' K5.out
  have S3 := Lib.hid hS
  have M3 := Lib.hid ((((((((Mem.nil (w0 := w2) (p := w2.heap.size) hg).more (block_kept hg K0.out rfl) (by have := block_lt' K0.out; omega)).more (block_kept hg K1.out rfl) (by have := block_lt' K1.out; omega)).more (block_kept hg K2.out rfl) (by have := block_lt' K2.out; omega)).more (block_kept hg K3.out rfl) (by have := block_lt' K3.out; omega)).more (block_kept hg K4.out rfl) (by have := block_lt' K4.out; omega)).more (block_kept hg K5.out rfl) (by have := block_lt' K5.out; omega)))
  have A1 : Apart w2.heap.size (.slice ra rn rc) := HR1.out.apart_lt (Nat.le_refl _)
  have A2 : Apart w2.heap.size (.slice sa sn sc) := HR2.out.apart_lt (Nat.le_refl _)
  have TB3 := Lib.hid (TbIn.mk (HR1.out.after hg) (HR2.out.after hg) A1 A2 : TbIn w2.heap.size w3 ⟨rst, .slice ra rn rc, .slice sa sn sc⟩)
  clear hg hS A1 A2 HR1 HR2 HV K0 K1 K2 K3 K4 K5 hlt
  go_wp2_with fail
  generalize hq : w2.heap.size = q at *
  have hq2 : w2.heap.size ≤ q := by omega
  clear hq
  (with_reducible refine (table_any q w3 q S3.out).mono ?_)
  rintro e w4 ⟨tst, tvl, tvh, tls, ths, rfl, hT, -, -, htn, ol, oh, -, hS, hg⟩
  have hp3 := S3.out.lt.2
  have S4 := Lib.hid hS; have M4 := Lib.hid (M3.out.draw hg hq2); have TB4 := Lib.hid (TB3.out.draw hg)
  have TT4 : Hid (TbOf q w4 ⟨tst, tvl, tvh⟩ tls ths) := Lib.hid ⟨Sl_of_owns ol rfl, Sl_of_owns oh rfl, owns_sl_apart ol hp3, owns_sl_apart oh hp3⟩
  have HL := Lib.hid (Sl_of_owns ol rfl : Sl w4 tvl tls); have HH := Lib.hid (Sl_of_owns oh rfl : Sl w4 tvh ths)
  have hlen : 2 ≤ tls.length ∧ tls.length = ths.length ∧ tls.length ≤ 300 := ⟨hT.2.2.2.1, hT.2.2.1, by omega⟩
  obtain ⟨ta, tn, tc, rfl⟩ := sl_slice HL.out; obtain ⟨ua, un, uc, rfl⟩ := sl_slice HH.out
  clear hS hg S3 M3 TB3 ol oh hT htn
  go_wp2_with fail
  (with_reducible refine (box_any q w4 q 60 40 S4.out (by omega) (by omega) (by omega) (by omega)).mono ?_)
  rintro e w5 ⟨x0, x1, x2, x3, x4, x5, rfl, -, hS, hg⟩
  have S5 := Lib.hid hS; have M5 := Lib.hid (M4.out.draw hg hq2); have TB5 := Lib.hid (TB4.out.draw hg); have TT5 := Lib.hid (TT4.out.draw hg)
  clear hS hg S4 M4 TB4 TT4 HL HH
  go_wp2_with fail
  (with_reducible refine (phase_any q w5 q S5.out).mono ?_)
  rintro e w6 ⟨h0, h1, h2, h3, h4, h5, rfl, -, hS, hg⟩
  have S6 := Lib.hid hS; have M6 := Lib.hid (M5.out.draw hg hq2); have TB6 := Lib.hid (TB5.out.draw hg); have TT6 := Lib.hid (TT5.out.draw hg)
  have hp6 := hS.lt.2
  clear hS hg S5 M5 TB5 TT5
  have hg7 : w6.grownBy (((w6.alloc (.cells #[.int .i64 tst, .slice ta tn tc, .slice ua un uc] 24)).alloc (.cells #[.int .i64 x0, .int .i64 x1, .int .i64 x2, .int .i64 x3, .int .i64 x4, .int .i64 x5] 28)).alloc (.cells #[.int .i64 h0, .int .i64 h1, .int .i64 h2, .int .i64 h3, .int .i64 h4, .int .i64 h5] 30)) none := gb_alloc (gb_alloc (gb_alloc (gb_refl _ _) _) _) _
  have M7 := Lib.hid (((M6.out.alloc' w6.heap.size #[.int .i64 tst, .slice ta tn tc, .slice ua un uc] 24 hp6 rfl).alloc' (w6.heap.size + 1) #[.int .i64 x0, .int .i64 x1, .int .i64 x2, .int .i64 x3, .int .i64 x4, .int .i64 x5] 28 (by simp; omega) (by simp)).alloc' (w6.heap.size + 1 + 1) #[.int .i64 h0, .int .i64 h1, .int .i64 h2, .int .i64 h3, .int .i64 h4, .int .i64 h5] 30 (by simp; omega) (by simp))
  have S7 := Lib.hid (S6.out.later (row := none) hg7 (by simp)); have TB7 := Lib.hid (TB6.out.draw (gb_none hg7)); have TT7 := Lib.hid (TT6.out.draw (gb_none hg7))
  clear hg7 M6 S6 TB6 TT6
  go_wp2_with fail
  generalize (((w6.alloc (.cells #[.int .i64 tst, .slice ta tn tc, .slice ua un uc] 24)).alloc (.cells #[.int .i64 x0, .int .i64 x1, .int .i64 x2, .int .i64 x3, .int .i64 x4, .int .i64 x5] 28)).alloc (.cells #[.int .i64 h0, .int .i64 h1, .int .i64 h2, .int .i64 h3, .int .i64 h4, .int .i64 h5] 30)) = w7 at *
  generalize w6.heap.size = n6 at *
  have hp7 := S7.out.lt.2
  obtain ⟨r0_, r1_, r2_⟩ := cells3 (M7.out.at 8 rfl)
  obtain ⟨t0_, t1_, t2_⟩ := cells3 (M7.out.at 2 rfl)
  have u8 := M7.out.pulled (B := q) 8 rfl; have u2 := M7.out.pulled (B := q) 2 rfl
  refine Rg.region (Pulled w7 q q) (Pull q) (fun k => if k = 4 then some (fun _ v u => BentV q 0 v u) else if k = 5 then some (isBlk w7 3 24) else none) (fun _ => false) 0 8 (by kernel_rfl) (by kernel_rfl) (by kernel_rfl) (by kernel_rfl) (by kernel_rfl) (by kernel_rfl) (by kernel_rfl) Pull.size (Pulled.start S7.out) (fun hne => ?_)
  (repeat (refine rLexL_quiet (by rfl) (by rfl) (by rfl) (by rfl) ?_; go_big_quiet_step (fail); refine wpQuiet_nil ?_))
  refine rg_drawM (BentV q 0) 20 #[.pointer (some ⟨q, 0, none⟩), .agg #[.int .i64 tst, .slice ta tn tc, .slice ua un uc]] rfl rfl (fun v u u' h hg => by obtain ⟨t, e, h⟩ := h; exact ⟨t, e, h.draw hg⟩) (fun _ => by go_simp) (fun u hu => (bentTable_any q u q tst _ _ tls ths hu.2 (TT7.out.draw hu.1).1 (TT7.out.draw hu.1).2.1 hlen.1 hlen.2.1 hlen.2.2).mono fun e w' h => h.draw hu.2.lt.2) (fun vb ub hvb => ?_)
  obtain ⟨⟨bst, bvl, bvh⟩, rfl, bls, bhs, f1, f2, -, -⟩ := hvb
  obtain ⟨ba, bn, bc, rfl⟩ := sl_slice f1; obtain ⟨ca, cn, cc, rfl⟩ := sl_slice f2
  clear f1 f2 ub
  simp only [Act.put, List.setIfInBounds_toArray, List.set_cons_zero, List.set_cons_succ]
  refine rg_litB 3 #[.int .i64 rst, .slice ra rn rc, .slice sa sn sc, .int .i64 tst, .slice ta tn tc, .slice ua un uc, .int .i64 bst, .slice ba bn bc, .slice ca cn cc] 24 rfl rfl rfl (fun _ => by go_simp) hp7 (fun nb hnb => ?_)
  simp only [Act.put, List.setIfInBounds_toArray, List.set_cons_zero, List.set_cons_succ]
  refine rLexL_val (.int .i64 3) (by rfl) (by rfl) (by rfl) (by rfl) (fun _ => by go_simp) ?_
  simp only [Act.put, List.setIfInBounds_toArray, List.set_cons_zero, List.set_cons_succ]
  (repeat (refine rLexL_quiet (by rfl) (by rfl) (by rfl) (by rfl) ?_; go_big_quiet_step (fail); refine wpQuiet_nil ?_))
  rintro wq ⟨hgq, hqs⟩ hf -
  have HB8 : Hid (wq.heap[nb]? = some (.cells (flatT [⟨rst, .slice ra rn rc, .slice sa sn sc⟩, ⟨tst, .slice ta tn tc, .slice ua un uc⟩, ⟨bst, .slice ba bn bc, .slice ca cn cc⟩]).toArray 24 (0, 0))) := Lib.hid (hf 5)
  have h4 : BentV q 0 (.agg #[.int .i64 bst, .slice ba bn bc, .slice ca cn cc]) wq := hf 4
  have HL8 : Hid (∀ t ∈ ([⟨rst, .slice ra rn rc, .slice sa sn sc⟩, ⟨tst, .slice ta tn tc, .slice ua un uc⟩, ⟨bst, .slice ba bn bc, .slice ca cn cc⟩] : List Tb), TbIn q wq t) := Lib.hid (by
    intro t ht
    simp only [List.mem_cons, List.not_mem_nil, or_false] at ht
    rcases ht with rfl | rfl | rfl
    · exact TB7.out.draw hgq
    · exact (TT7.out.draw hgq).in
    · exact h4.out)
  have M8 := Lib.hid (M7.out.draw hgq hq2); have S8 := Lib.hid hqs
  have hn8 : nb ≠ q := by omega
  obtain ⟨LT, hLT, hL3⟩ : ∃ LT : List Tb, LT = [⟨rst, .slice ra rn rc, .slice sa sn sc⟩, ⟨tst, .slice ta tn tc, .slice ua un uc⟩, ⟨bst, .slice ba bn bc, .slice ca cn cc⟩] ∧ LT.length = 3 := ⟨_, rfl, rfl⟩
  rw [← hLT] at HB8 HL8
  clear hLT hf h4 hgq hqs r0_ r1_ r2_ t0_ t1_ t2_ u8 u2 M7 S7 TB7 TT7 hnb hne hp7 hlen
  refine wpList_nil ?_
  go_wp2_with fail
  go_loopw [64] (fun i wr => ∃ k : Nat, k ≤ 3 ∧ i = .int .i64 k ∧ Src q wr q ∧ wq.grownBy wr (some q)) (fun i _ => 3 - (intOf i).toNat)
  case atStart => exact ⟨0, by omega, rfl, S8.out, gb_refl _ _⟩
  case round =>
    obtain ⟨k, hk, rfl, hS, hgr⟩ := hrel
    by_cases hlt : k < 3
    · have hkL : k < LT.length := by omega
      have hkd : decide ((k : Int) < 3) = true := decide_eq_true (by omega)
      obtain ⟨r0_, r1_, r2_⟩ := rowT (block_keptp hgr HB8.out hn8) k hkL
      have hin := (HL8.out _ (List.getElem_mem hkL)).draw hgr
      have M9 := Lib.hid (M8.out.draw hgr hq2); have S9 := Lib.hid hS; have hp9 := hS.lt.2
      generalize LT[k] = t at *
      obtain ⟨est, evl, evh⟩ := t
      obtain ⟨els, ehs, hin⟩ := hin
      obtain ⟨ea, en, ec, he⟩ := sl_slice hin.1; obtain ⟨fa, fn, fc, he'⟩ := sl_slice hin.2.1
      simp only [] at r0_ r1_ r2_ he he'
      subst he; subst he'
      have M10 := Lib.hid (M9.out.alloc' wr.heap.size #[.int .i64 est, .slice ea en ec, .slice fa fn fc] 24 hp9 rfl); have S10 := Lib.hid (S9.out.later (row := none) (gb_alloc (gb_refl wr none) (.cells #[.int .i64 est, .slice ea en ec, .slice fa fn fc] 24)) (by simp))
      have TE10 := Lib.hid (hin.draw (gb_none (gb_alloc (gb_refl wr none) (.cells #[.int .i64 est, .slice ea en ec, .slice fa fn fc] 24))))
      have G10 := Lib.hid (gb_trans hgr (gb_none (gb_alloc (gb_refl wr none) (.cells #[.int .i64 est, .slice ea en ec, .slice fa fn fc] 24))))
      clear hS hgr hin M9 S9 hp9
      go_wp2_with fail
      generalize wr.alloc (.cells #[.int .i64 est, .slice ea en ec, .slice fa fn fc] 24) = w10 at *
      generalize wr.heap.size = te at *
      clear r0_ r1_ r2_
      have TE11 : Hid (∀ u, w10.grownBy u (some q) → TbOf q u ⟨est, .slice ea en ec, .slice fa fn fc⟩ els ehs) := Lib.hid (fun u hu => TE10.out.draw hu)
      clear TE10
      obtain ⟨b0_, b1_, b2_, b3_, b4_, b5_⟩ := six (M10.out.at 8 rfl)
      have u0_ := M10.out.pulled (B := q) 8 rfl
      obtain ⟨x0_, x1_, x2_, x3_, x4_, x5_⟩ := six (M10.out.at 2 rfl)
      have u1_ := M10.out.pulled (B := q) 2 rfl
      have hp_ := S10.out.lt.2
      refine Rg.region (Pulled w10 q q) (Pull q) (fun k => if k = 4 then some (isSome' (fun v => ∃ x y z a b c, v = .agg #[.int .i64 x, .int .i64 y, .int .i64 z, .int .i64 a, .int .i64 b, .int .i64 c] ∧ True)) else if k = 5 then some (isBlk w10 3 28) else none) (fun _ => false) 0 8 (by kernel_rfl) (by kernel_rfl) (by kernel_rfl) (by kernel_rfl) (by kernel_rfl) (by kernel_rfl) (by kernel_rfl) Pull.size (Pulled.start S10.out) (fun hne => ?_)
      (repeat (refine rLexL_quiet (by rfl) (by rfl) (by rfl) (by rfl) ?_; go_big_quiet_step (fail); refine wpQuiet_nil ?_))
      refine rg_drawF (fun v => ∃ x y z a b c, v = .agg #[.int .i64 x, .int .i64 y, .int .i64 z, .int .i64 a, .int .i64 b, .int .i64 c] ∧ True) 21 #[.pointer (some ⟨q, 0, none⟩), .agg #[.int .i64 x0, .int .i64 x1, .int .i64 x2, .int .i64 x3, .int .i64 x4, .int .i64 x5]] rfl rfl (fun _ => by go_simp) (fun u hu _ => (bent_any q u q x0 x1 x2 x3 x4 x5 hu.2).mono fun e w' h => h.draw) (fun vb hvb => ?_)
      obtain ⟨y0', y1', y2', y3', y4', y5', rfl, -⟩ := hvb
      simp only [Act.put, List.setIfInBounds_toArray, List.set_cons_zero, List.set_cons_succ]
      (repeat (refine rLexL_quiet (by rfl) (by rfl) (by rfl) (by rfl) ?_; go_big_quiet_step (fail); refine wpQuiet_nil ?_))
      refine rg_litB 3 #[.int .i64 b0, .int .i64 b1, .int .i64 b2, .int .i64 b3, .int .i64 b4, .int .i64 b5, .int .i64 x0, .int .i64 x1, .int .i64 x2, .int .i64 x3, .int .i64 x4, .int .i64 x5, .int .i64 y0', .int .i64 y1', .int .i64 y2', .int .i64 y3', .int .i64 y4', .int .i64 y5'] 28 rfl rfl rfl (fun _ => by go_simp) hp_ (fun nx nxh => ?_)
      simp only [Act.put, List.setIfInBounds_toArray, List.set_cons_zero, List.set_cons_succ]
      refine rLexL_val (.int .i64 3) (by rfl) (by rfl) (by rfl) (by rfl) (fun _ => by go_simp) ?_
      simp only [Act.put, List.setIfInBounds_toArray, List.set_cons_zero, List.set_cons_succ]
      (repeat (refine rLexL_quiet (by rfl) (by rfl) (by rfl) (by rfl) ?_; go_big_quiet_step (fail); refine wpQuiet_nil ?_))
      rintro wqnx ⟨hgq, hqs⟩ hf -
      have HBx : Hid (wqnx.heap[nx]? = some (.cells (flatP [⟨b0, b1, b2, b3, b4, b5⟩, ⟨x0, x1, x2, x3, x4, x5⟩, ⟨y0', y1', y2', y3', y4', y5'⟩]).toArray 28 (0, 0))) := Lib.hid (hf 5)
      have M11 := Lib.hid (M10.out.draw hgq hq2); have S11 := Lib.hid hqs; have GQnx := Lib.hid hgq
      have hnx : nx ≠ q := by omega
      clear hf hgq hqs hne hp_ nxh b0_ b1_ b2_ b3_ b4_ b5_ x0_ x1_ x2_ x3_ x4_ x5_ u0_ u1_
      refine wpList_nil ?_
      obtain ⟨Lnx, hL, hLnx⟩ : ∃ Lnx : List Ph, Lnx = [⟨b0, b1, b2, b3, b4, b5⟩, ⟨x0, x1, x2, x3, x4, x5⟩, ⟨y0', y1', y2', y3', y4', y5'⟩] ∧ Lnx.length = 3 := ⟨_, rfl, rfl⟩
      rw [← hL] at HBx
      clear hL
      go_wp2_with fail
      go_loopw [75] (fun i wr => ∃ k : Nat, k ≤ 3 ∧ i = .int .i64 k ∧ Src q wr q ∧ wqnx.grownBy wr (some q)) (fun i _ => 3 - (intOf i).toNat)
      case atStart => exact ⟨0, by omega, rfl, S11.out, gb_refl _ _⟩
      case round =>
        obtain ⟨knx, hknx, rfl, hS, hgr⟩ := hrel
        by_cases hlt : knx < 3
        · have hkL : knx < Lnx.length := by omega
          have hkdnx : decide ((knx : Int) < 3) = true := decide_eq_true (by omega)
          obtain ⟨r0_, r1_, r2_, r3_, r4_, r5_⟩ := rowP (block_keptp hgr HBx.out hnx) knx hkL
          generalize Lnx[knx] = t at *
          obtain ⟨c0, c1, c2, c3, c4, c5⟩ := t
          simp only [] at r0_ r1_ r2_ r3_ r4_ r5_
          have hp_ := hS.lt.2
          have M12 := Lib.hid ((M11.out.draw hgr hq2).alloc' wr.heap.size #[.int .i64 c0, .int .i64 c1, .int .i64 c2, .int .i64 c3, .int .i64 c4, .int .i64 c5] 28 hp_ rfl); have S12 := Lib.hid (hS.later (row := none) (gb_alloc (gb_refl wr none) (.cells #[.int .i64 c0, .int .i64 c1, .int .i64 c2, .int .i64 c3, .int .i64 c4, .int .i64 c5] 28)) (by simp))
          have G12 := Lib.hid (gb_trans hgr (gb_none (gb_alloc (gb_refl wr none) (.cells #[.int .i64 c0, .int .i64 c1, .int .i64 c2, .int .i64 c3, .int .i64 c4, .int .i64 c5] 28))))
          clear hS hgr hp_
          go_wp2_with fail
          generalize wr.alloc (.cells #[.int .i64 c0, .int .i64 c1, .int .i64 c2, .int .i64 c3, .int .i64 c4, .int .i64 c5] 28) = w12 at *
          generalize wr.heap.size = xe at *
          clear r0_ r1_ r2_ r3_ r4_ r5_
          have GC12 : Hid (w10.grownBy w12 (some q)) := Lib.hid (gb_trans GQnx.out G12.out)
          obtain ⟨p0_, p1_, p2_⟩ := cells3 (M12.out.at 8 rfl)
          have u0_ := M12.out.pulled (B := q) 8 rfl
          have hp_ := S12.out.lt.2
          refine Rg.region (Pulled w12 q q) (Pull q) (fun k => if k = 2 then some (isSome' (fun v => ∃ x y z, v = .agg #[.int .i64 x, .int .i64 y, .int .i64 z] ∧ vP x y z = true)) else if k = 3 then some (isBlk w12 2 26) else none) (fun _ => false) 0 6 (by kernel_rfl) (by kernel_rfl) (by kernel_rfl) (by kernel_rfl) (by kernel_rfl) (by kernel_rfl) (by kernel_rfl) Pull.size (Pulled.start S12.out) (fun hne => ?_)
          (repeat (refine rLexL_quiet (by rfl) (by rfl) (by rfl) (by rfl) ?_; go_big_quiet_step (fail); refine wpQuiet_nil ?_))
          refine rg_drawF (fun v => ∃ x y z, v = .agg #[.int .i64 x, .int .i64 y, .int .i64 z] ∧ vP x y z = true) 22 #[.pointer (some ⟨q, 0, none⟩), .int .i64 60] rfl rfl (fun _ => by go_simp) (fun u hu _ => (posn_any q u q 60 hu.2 (by omega) (by omega)).mono fun e w' h => h.draw) (fun vb hvb => ?_)
          obtain ⟨s0, s1, s2, rfl, -⟩ := hvb
          simp only [Act.put, List.setIfInBounds_toArray, List.set_cons_zero, List.set_cons_succ]
          (repeat (refine rLexL_quiet (by rfl) (by rfl) (by rfl) (by rfl) ?_; go_big_quiet_step (fail); refine wpQuiet_nil ?_))
          refine rg_litB 2 #[.int .i64 p0, .int .i64 p1, .int .i64 p2, .int .i64 s0, .int .i64 s1, .int .i64 s2] 26 rfl rfl rfl (fun _ => by go_simp) hp_ (fun np nph => ?_)
          simp only [Act.put, List.setIfInBounds_toArray, List.set_cons_zero, List.set_cons_succ]
          refine rLexL_val (.int .i64 2) (by rfl) (by rfl) (by rfl) (by rfl) (fun _ => by go_simp) ?_
          simp only [Act.put, List.setIfInBounds_toArray, List.set_cons_zero, List.set_cons_succ]
          (repeat (refine rLexL_quiet (by rfl) (by rfl) (by rfl) (by rfl) ?_; go_big_quiet_step (fail); refine wpQuiet_nil ?_))
          rintro wqnp ⟨hgq, hqs⟩ hf -
          have HBp : Hid (wqnp.heap[np]? = some (.cells (flat3 [(p0, p1, p2), (s0, s1, s2)]).toArray 26 (0, 0))) := Lib.hid (hf 3)
          have M13 := Lib.hid (M12.out.draw hgq hq2); have S13 := Lib.hid hqs; have GQnp := Lib.hid hgq
          have hnp : np ≠ q := by omega
          clear hf hgq hqs hne hp_ nph p0_ p1_ p2_ u0_
          refine wpList_nil ?_
          obtain ⟨Lnp, hL, hLnp⟩ : ∃ Lnp : List (Int × Int × Int), Lnp = [(p0, p1, p2), (s0, s1, s2)] ∧ Lnp.length = 2 := ⟨_, rfl, rfl⟩
          rw [← hL] at HBp
          clear hL
          go_wp2_with fail
          go_loopw [84] (fun i wr => ∃ k : Nat, k ≤ 2 ∧ i = .int .i64 k ∧ Src q wr q ∧ wqnp.grownBy wr (some q)) (fun i _ => 2 - (intOf i).toNat)
          case atStart => exact ⟨0, by omega, rfl, S13.out, gb_refl _ _⟩
          case round =>
            obtain ⟨knp, hknp, rfl, hS, hgr⟩ := hrel
            by_cases hlt : knp < 2
            · have hkL : knp < Lnp.length := by omega
              have hkdnp : decide ((knp : Int) < 2) = true := decide_eq_true (by omega)
              obtain ⟨r0_, r1_, r2_⟩ := row3 (block_keptp hgr HBp.out hnp) knp hkL
              generalize Lnp[knp] = t at *
              obtain ⟨d0, d1, d2⟩ := t
              simp only [] at r0_ r1_ r2_
              have hp_ := hS.lt.2
              have M14 := Lib.hid ((M13.out.draw hgr hq2).alloc' wr.heap.size #[.int .i64 d0, .int .i64 d1, .int .i64 d2] 26 hp_ rfl); have S14 := Lib.hid (hS.later (row := none) (gb_alloc (gb_refl wr none) (.cells #[.int .i64 d0, .int .i64 d1, .int .i64 d2] 26)) (by simp))
              have G14 := Lib.hid (gb_trans hgr (gb_none (gb_alloc (gb_refl wr none) (.cells #[.int .i64 d0, .int .i64 d1, .int .i64 d2] 26))))
              have HI := Lib.hid (fun (u : World) (hu : (wr.alloc (.cells #[.int .i64 d0, .int .i64 d1, .int .i64 d2] 26)).grownBy u none) => binterval_any est (.slice ea en ec) (.slice fa fn fc) els ehs c0 c1 c2 c3 c4 c5 d0 d1 d2 u (TE11.out u (gb_trans (gb_trans GC12.out (gb_trans GQnp.out G14.out)) (gb_none hu))).1 (TE11.out u (gb_trans (gb_trans GC12.out (gb_trans GQnp.out G14.out)) (gb_none hu))).2.1)
              have HJ := Lib.hid (fun (u : World) (hu : (wr.alloc (.cells #[.int .i64 d0, .int .i64 d1, .int .i64 d2] 26)).grownBy u none) => rbinterval_any est (.slice ea en ec) (.slice fa fn fc) els ehs c0 c1 c2 c3 c4 c5 d0 d1 d2 u (TE11.out u (gb_trans (gb_trans GC12.out (gb_trans GQnp.out G14.out)) (gb_none hu))).1 (TE11.out u (gb_trans (gb_trans GC12.out (gb_trans GQnp.out G14.out)) (gb_none hu))).2.1)
              simp only [bndV] at HI HJ
              generalize bndA est els ehs c0 c1 c2 c3 c4 c5 d0 d1 d2 = va at *
              generalize bndB est els ehs c0 c1 c2 c3 c4 c5 d0 d1 d2 = vb at *
              generalize bndE est els ehs c0 c1 c2 c3 c4 c5 d0 d1 d2 = ve at *
              clear hS hgr hp_
              obtain ⟨m0_, m1_, m2_⟩ := cells3 (M14.out.at 0 rfl); obtain ⟨c0_, c1_, c2_, c3_, c4_, c5_⟩ := six (M14.out.at 1 rfl); obtain ⟨e0_, e1_, e2_⟩ := cells3 (M14.out.at 2 rfl)
              have hl1_ := M14.out.lt 1 rfl; have hl2_ := M14.out.lt 2 rfl
              go_wp2_with fail
              generalize wr.alloc (.cells #[.int .i64 d0, .int .i64 d1, .int .i64 d2] 26) = w14 at *
              generalize wr.heap.size = pe at *
              (with_reducible refine (HI.out w14 (gb_refl _ _)).mono ?_)
              rintro r w15 ⟨rfl, hg⟩
              clear m0_ m1_ m2_ c0_ c1_ c2_ c3_ c4_ c5_ e0_ e1_ e2_ r0_ r1_ r2_ hl1_ hl2_
              have M15 := Lib.hid (M14.out.later hg)
              obtain ⟨m0_, m1_, m2_⟩ := cells3 (M15.out.at 0 rfl); obtain ⟨c0_, c1_, c2_, c3_, c4_, c5_⟩ := six (M15.out.at 1 rfl); obtain ⟨e0_, e1_, e2_⟩ := cells3 (M15.out.at 2 rfl)
              go_wp2_with fail
              (with_reducible refine (HJ.out w15 hg).mono ?_)
              rintro r w16 ⟨rfl, hg2⟩
              clear m0_ m1_ m2_ c0_ c1_ c2_ c3_ c4_ c5_ e0_ e1_ e2_
              have HGN := Lib.hid (gb_trans G14.out (gb_none (gb_trans hg hg2))); have HSN := Lib.hid (S14.out.later (row := none) (gb_trans hg hg2) (by simp))
              clear hg hg2 HI HJ M14 M15 S14 G14
              go_wp2_with fail
              go_roundw
              case rel => exact ⟨knp + 1, by omega, by go_num, HSN.out, HGN.out⟩
              case measure => simp [intOf]; omega
            · have hkxknp : decide ((knp : Int) < 2) = false := decide_eq_false (by omega)
              have GC16 : Hid (w10.grownBy wr (some q)) := Lib.hid (gb_trans GC12.out (gb_trans GQnp.out hgr))
              have G16 : Hid (wqnx.grownBy wr (some q)) := Lib.hid (gb_trans G12.out (gb_trans GQnp.out hgr))
              have M16 := Lib.hid (M13.out.draw hgr hq2); have S16 := Lib.hid hS
              clear hS hgr M12 S12 M13 S13 HBp GC12 G12 GQnp hnp hLnp
              go_wp2_with fail
              generalize wr = w16 at *
              obtain ⟨a0_, a1_, a2_, a3_, a4_, a5_⟩ := six (M16.out.at 7 rfl)
              have u0_ := M16.out.pulled (B := q) 7 rfl
              obtain ⟨h0_, h1_, h2_, h3_, h4_, h5_⟩ := six (M16.out.at 2 rfl)
              have u1_ := M16.out.pulled (B := q) 2 rfl
              have hp_ := S16.out.lt.2
              refine Rg.region (Pulled w16 q q) (Pull q) (fun k => if k = 4 then some (isSome' (fun v => ∃ x y z a b c, v = .agg #[.int .i64 x, .int .i64 y, .int .i64 z, .int .i64 a, .int .i64 b, .int .i64 c] ∧ True)) else if k = 5 then some (isBlk w16 3 30) else none) (fun _ => false) 0 8 (by kernel_rfl) (by kernel_rfl) (by kernel_rfl) (by kernel_rfl) (by kernel_rfl) (by kernel_rfl) (by kernel_rfl) Pull.size (Pulled.start S16.out) (fun hne => ?_)
              (repeat (refine rLexL_quiet (by rfl) (by rfl) (by rfl) (by rfl) ?_; go_big_quiet_step (fail); refine wpQuiet_nil ?_))
              refine rg_drawF (fun v => ∃ x y z a b c, v = .agg #[.int .i64 x, .int .i64 y, .int .i64 z, .int .i64 a, .int .i64 b, .int .i64 c] ∧ True) 25 #[.pointer (some ⟨q, 0, none⟩), .agg #[.int .i64 h0, .int .i64 h1, .int .i64 h2, .int .i64 h3, .int .i64 h4, .int .i64 h5]] rfl rfl (fun _ => by go_simp) (fun u hu _ => (bentPhase_any q u q h0 h1 h2 h3 h4 h5 hu.2).mono fun e w' h => h.draw) (fun vb hvb => ?_)
              obtain ⟨i0, i1, i2, i3, i4, i5, rfl, -⟩ := hvb
              simp only [Act.put, List.setIfInBounds_toArray, List.set_cons_zero, List.set_cons_succ]
              (repeat (refine rLexL_quiet (by rfl) (by rfl) (by rfl) (by rfl) ?_; go_big_quiet_step (fail); refine wpQuiet_nil ?_))
              refine rg_litB 3 #[.int .i64 a0, .int .i64 a1, .int .i64 a2, .int .i64 a3, .int .i64 a4, .int .i64 a5, .int .i64 h0, .int .i64 h1, .int .i64 h2, .int .i64 h3, .int .i64 h4, .int .i64 h5, .int .i64 i0, .int .i64 i1, .int .i64 i2, .int .i64 i3, .int .i64 i4, .int .i64 i5] 30 rfl rfl rfl (fun _ => by go_simp) hp_ (fun nv nvh => ?_)
              simp only [Act.put, List.setIfInBounds_toArray, List.set_cons_zero, List.set_cons_succ]
              refine rLexL_val (.int .i64 3) (by rfl) (by rfl) (by rfl) (by rfl) (fun _ => by go_simp) ?_
              simp only [Act.put, List.setIfInBounds_toArray, List.set_cons_zero, List.set_cons_succ]
              (repeat (refine rLexL_quiet (by rfl) (by rfl) (by rfl) (by rfl) ?_; go_big_quiet_step (fail); refine wpQuiet_nil ?_))
              rintro wqnv ⟨hgq, hqs⟩ hf -
              have HBv : Hid (wqnv.heap[nv]? = some (.cells (flatP [⟨a0, a1, a2, a3, a4, a5⟩, ⟨h0, h1, h2, h3, h4, h5⟩, ⟨i0, i1, i2, i3, i4, i5⟩]).toArray 30 (0, 0))) := Lib.hid (hf 5)
              have M17 := Lib.hid (M16.out.draw hgq hq2); have S17 := Lib.hid hqs; have GQnv := Lib.hid hgq
              have hnv : nv ≠ q := by omega
              clear hf hgq hqs hne hp_ nvh a0_ a1_ a2_ a3_ a4_ a5_ h0_ h1_ h2_ h3_ h4_ h5_ u0_ u1_
              refine wpList_nil ?_
              obtain ⟨Lnv, hL, hLnv⟩ : ∃ Lnv : List Ph, Lnv = [⟨a0, a1, a2, a3, a4, a5⟩, ⟨h0, h1, h2, h3, h4, h5⟩, ⟨i0, i1, i2, i3, i4, i5⟩] ∧ Lnv.length = 3 := ⟨_, rfl, rfl⟩
              rw [← hL] at HBv
              clear hL
              go_wp2_with fail
              go_loopw [125] (fun i wr => ∃ k : Nat, k ≤ 3 ∧ i = .int .i64 k ∧ Src q wr q ∧ wqnv.grownBy wr (some q)) (fun i _ => 3 - (intOf i).toNat)
              case atStart => exact ⟨0, by omega, rfl, S17.out, gb_refl _ _⟩
              case round =>
                obtain ⟨knv, hknv, rfl, hS, hgr⟩ := hrel
                by_cases hlt : knv < 3
                · have hkL : knv < Lnv.length := by omega
                  have hkdnv : decide ((knv : Int) < 3) = true := decide_eq_true (by omega)
                  obtain ⟨r0_, r1_, r2_, r3_, r4_, r5_⟩ := rowP (block_keptp hgr HBv.out hnv) knv hkL
                  generalize Lnv[knv] = t at *
                  obtain ⟨d0, d1, d2, d3, d4, d5⟩ := t
                  simp only [] at r0_ r1_ r2_ r3_ r4_ r5_
                  have hp_ := hS.lt.2
                  have M18 := Lib.hid ((M17.out.draw hgr hq2).alloc' wr.heap.size #[.int .i64 d0, .int .i64 d1, .int .i64 d2, .int .i64 d3, .int .i64 d4, .int .i64 d5] 30 hp_ rfl); have S18 := Lib.hid (hS.later (row := none) (gb_alloc (gb_refl wr none) (.cells #[.int .i64 d0, .int .i64 d1, .int .i64 d2, .int .i64 d3, .int .i64 d4, .int .i64 d5] 30)) (by simp))
                  have G18 := Lib.hid (gb_trans hgr (gb_none (gb_alloc (gb_refl wr none) (.cells #[.int .i64 d0, .int .i64 d1, .int .i64 d2, .int .i64 d3, .int .i64 d4, .int .i64 d5] 30))))
                  have HI := Lib.hid (fun (u : World) (hu : (wr.alloc (.cells #[.int .i64 d0, .int .i64 d1, .int .i64 d2, .int .i64 d3, .int .i64 d4, .int .i64 d5] 30)).grownBy u none) => zone_any est (.slice ea en ec) (.slice fa fn fc) els ehs c0 c1 c2 c3 c4 c5 d0 d1 d2 d3 d4 d5 u (TE11.out u (gb_trans (gb_trans GC16.out (gb_trans GQnv.out G18.out)) (gb_none hu))).1 (TE11.out u (gb_trans (gb_trans GC16.out (gb_trans GQnv.out G18.out)) (gb_none hu))).2.1)
                  have HJ := Lib.hid (fun (u : World) (hu : (wr.alloc (.cells #[.int .i64 d0, .int .i64 d1, .int .i64 d2, .int .i64 d3, .int .i64 d4, .int .i64 d5] 30)).grownBy u none) => rzone_any est (.slice ea en ec) (.slice fa fn fc) els ehs c0 c1 c2 c3 c4 c5 d0 d1 d2 d3 d4 d5 u (TE11.out u (gb_trans (gb_trans GC16.out (gb_trans GQnv.out G18.out)) (gb_none hu))).1 (TE11.out u (gb_trans (gb_trans GC16.out (gb_trans GQnv.out G18.out)) (gb_none hu))).2.1)
                  simp only [znV] at HI HJ
                  generalize znF est els ehs c0 c1 c2 c3 c4 c5 d0 d1 d2 d3 d4 d5 = zf at *
                  generalize znT est els ehs c0 c1 c2 c3 c4 c5 d0 d1 d2 d3 d4 d5 = zt at *
                  generalize znE est els ehs c0 c1 c2 c3 c4 c5 d0 d1 d2 d3 d4 d5 = ze at *
                  clear hS hgr hp_
                  obtain ⟨m0_, m1_, m2_, m3_, m4_, m5_⟩ := six (M18.out.at 0 rfl); obtain ⟨c0_, c1_, c2_, c3_, c4_, c5_⟩ := six (M18.out.at 1 rfl); obtain ⟨e0_, e1_, e2_⟩ := cells3 (M18.out.at 2 rfl)
                  have hl1_ := M18.out.lt 1 rfl; have hl2_ := M18.out.lt 2 rfl
                  go_wp2_with fail
                  generalize wr.alloc (.cells #[.int .i64 d0, .int .i64 d1, .int .i64 d2, .int .i64 d3, .int .i64 d4, .int .i64 d5] 30) = w18 at *
                  generalize wr.heap.size = pe at *
                  (with_reducible refine (HI.out w18 (gb_refl _ _)).mono ?_)
                  rintro r w19 ⟨rfl, hg⟩
                  clear m0_ m1_ m2_ m3_ m4_ m5_ c0_ c1_ c2_ c3_ c4_ c5_ e0_ e1_ e2_ r0_ r1_ r2_ r3_ r4_ r5_ hl1_ hl2_
                  have hp_ := (S18.out.later (row := none) hg (by simp)).lt.2
                  have M20 := Lib.hid ((M18.out.later hg).alloc' w19.heap.size #[.int .i64 zf, .int .i64 zt] 32 hp_ rfl); have HG20 := Lib.hid (gb_alloc hg (.cells #[.int .i64 zf, .int .i64 zt] 32))
                  clear hg
                  obtain ⟨m0_, m1_, m2_, m3_, m4_, m5_⟩ := six (M20.out.at 1 rfl); obtain ⟨c0_, c1_, c2_, c3_, c4_, c5_⟩ := six (M20.out.at 2 rfl); obtain ⟨e0_, e1_, e2_⟩ := cells3 (M20.out.at 3 rfl)
                  have hl1_ := M20.out.lt 1 rfl; have hl2_ := M20.out.lt 2 rfl; have hl3_ := M20.out.lt 3 rfl
                  go_wp2_with fail
                  generalize w19.alloc (.cells #[.int .i64 zf, .int .i64 zt] 32) = w20 at *
                  generalize w19.heap.size = ze1 at *
                  (with_reducible refine (HJ.out w20 HG20.out).mono ?_)
                  rintro r w21 ⟨rfl, hg⟩
                  clear m0_ m1_ m2_ m3_ m4_ m5_ c0_ c1_ c2_ c3_ c4_ c5_ e0_ e1_ e2_ hl1_ hl2_ hl3_
                  have HG21 := Lib.hid (gb_alloc (gb_trans HG20.out hg) (.cells #[.int .i64 zf, .int .i64 zt] 32))
                  have hp_ := (S18.out.later (row := none) (gb_trans HG20.out hg) (by simp)).lt.2
                  have M22 := Lib.hid ((M20.out.later hg).alloc' w21.heap.size #[.int .i64 zf, .int .i64 zt] 32 hp_ rfl)
                  clear hg
                  obtain ⟨n0_, n1_⟩ := cells2 (M22.out.at 0 rfl)
                  obtain ⟨o0_, o1_⟩ := cells2 (M22.out.at 1 rfl)
                  obtain ⟨m0_, m1_, m2_, m3_, m4_, m5_⟩ := six (M22.out.at 2 rfl)
                  have u0_ := M22.out.up 0 rfl; have u1_ := M22.out.up 1 rfl; have u2_ := M22.out.up 2 rfl
                  have q1_ : same2 zf zt zf zt = true := by simp [same2]
                  have q2_ : sameZ zf zt zf zt = true := by simp [sameZ]
                  have PA := Lib.hid (fun u => validPhase_any d0 d1 d2 d3 d4 d5 u); have PB := Lib.hid (fun u => rvalidPhase_any d0 d1 d2 d3 d4 d5 u)
                  generalize phP d0 d1 d2 d3 d4 d5 = ph at *
                  go_wp2_with fail
                  generalize w21.alloc (.cells #[.int .i64 zf, .int .i64 zt] 32) = w22 at *
                  generalize w21.heap.size = ze2 at *
                  (refine wp_region_grown (by kernel_rfl) (by kernel_rfl) ?_; (repeat (go_big_quiet_step (first
                    | (go_at_call 28; exact Calls.grown_of (PA.out _))
                    | (go_at_call 29; exact Calls.grown_of (PB.out _))))); refine wpQuiet_nil ?_; intro wq hq)
                  have HGN := Lib.hid (gb_trans G18.out (gb_none (gb_trans HG21.out hq))); have HSN := Lib.hid (S18.out.later (row := none) (gb_trans HG21.out hq) (by simp))
                  clear hq HI HJ M18 M20 M22 S18 G18 HG20 HG21 PA PB n0_ n1_ o0_ o1_ m0_ m1_ m2_ m3_ m4_ m5_ u0_ u1_ u2_ hp_
                  go_wp2_with fail
                  go_roundw
                  case rel => exact ⟨knv + 1, by omega, by go_num, HSN.out, HGN.out⟩
                  case measure => simp [intOf]; omega
                · have hkxknv : decide ((knv : Int) < 3) = false := decide_eq_false (by omega)
                  have HGN := Lib.hid (gb_trans G16.out (gb_trans GQnv.out hgr))
                  have HSN := Lib.hid hS
                  go_wp2_with fail
                  go_roundw
                  case rel => exact ⟨knx + 1, by omega, by go_num, HSN.out, HGN.out⟩
                  case measure => simp [intOf]; omega
        · have hkxknx : decide ((knx : Int) < 3) = false := decide_eq_false (by omega)
          have HGN := Lib.hid (gb_trans G10.out (gb_trans GQnx.out hgr))
          have HSN := Lib.hid hS
          go_wp2_with fail
          go_roundw
          case rel => exact ⟨k + 1, by omega, by go_num, HSN.out, HGN.out⟩
          case measure => simp [intOf]; omega
    · have hkxk : decide ((k : Int) < 3) = false := decide_eq_false (by omega)
      have M30 := Lib.hid (M8.out.draw hgr hq2); have S30 := Lib.hid hS
      clear hS hgr M8 S8 HB8 HL8
      go_wp2_with fail
      generalize wr = w30 at *
      obtain ⟨z0_, z1_⟩ := cells2 (M30.out.at 4 rfl)
      have u0_ := M30.out.pulled (B := q) 4 rfl
      have hp_ := S30.out.lt.2
      refine Rg.region (Pulled w30 q q) (Pull q) (fun k => if k = 2 then some (isInt fun x => 0 ≤ x ∧ x < 20) else if k = 4 then some (isInt fun x => 0 ≤ x ∧ x < 20) else if k = 6 then some (isBlk w30 2 32) else none) (fun _ => false) 0 9 (by kernel_rfl) (by kernel_rfl) (by kernel_rfl) (by kernel_rfl) (by kernel_rfl) (by kernel_rfl) (by kernel_rfl) Pull.size (Pulled.start S30.out) (fun hne => ?_)
      (repeat (refine rLexL_quiet (by rfl) (by rfl) (by rfl) (by rfl) ?_; go_big_quiet_step (fail); refine wpQuiet_nil ?_))
      refine rg_draw (fun x => 0 ≤ x ∧ x < 20) 30 #[.pointer (some ⟨q, 0, none⟩), .int .i64 20] rfl rfl (fun _ => by go_simp) (fun u hu _ => n_any q u q _ hu.2 (by omega) (by omega)) (fun e1 h1_ => ?_)
      simp only [Act.put, List.setIfInBounds_toArray, List.set_cons_zero, List.set_cons_succ]
      (repeat (refine rLexL_quiet (by rfl) (by rfl) (by rfl) (by rfl) ?_; go_big_quiet_step (fail); refine wpQuiet_nil ?_))
      refine rg_draw (fun x => 0 ≤ x ∧ x < 20) 30 #[.pointer (some ⟨q, 0, none⟩), .int .i64 20] rfl rfl (fun _ => by go_simp) (fun u hu _ => n_any q u q _ hu.2 (by omega) (by omega)) (fun e2 h2_ => ?_)
      simp only [Act.put, List.setIfInBounds_toArray, List.set_cons_zero, List.set_cons_succ]
      (repeat (refine rLexL_quiet (by rfl) (by rfl) (by rfl) (by rfl) ?_; go_big_quiet_step (fail); refine wpQuiet_nil ?_))
      refine rg_litB 2 #[.int .i64 z0, .int .i64 z1, .int .i64 e1, .int .i64 e2] 32 rfl rfl rfl (fun _ => by go_simp) hp_ (fun nz nzh => ?_)
      simp only [Act.put, List.setIfInBounds_toArray, List.set_cons_zero, List.set_cons_succ]
      refine rLexL_val (.int .i64 2) (by rfl) (by rfl) (by rfl) (by rfl) (fun _ => by go_simp) ?_
      simp only [Act.put, List.setIfInBounds_toArray, List.set_cons_zero, List.set_cons_succ]
      (repeat (refine rLexL_quiet (by rfl) (by rfl) (by rfl) (by rfl) ?_; go_big_quiet_step (fail); refine wpQuiet_nil ?_))
      rintro wqnz ⟨hgq, hqs⟩ hf -
      have HBz : Hid (wqnz.heap[nz]? = some (.cells (flatZ [⟨z0, z1⟩, ⟨e1, e2⟩]).toArray 32 (0, 0))) := Lib.hid (hf 6)
      have M31 := Lib.hid (M30.out.draw hgq hq2); have S31 := Lib.hid hqs; have GQnz := Lib.hid hgq
      have hnz : nz ≠ q := by omega
      clear hf hgq hqs hne hp_ nzh z0_ z1_ u0_ h1_ h2_
      refine wpList_nil ?_
      obtain ⟨Lnz, hL, hLnz⟩ : ∃ Lnz : List Zn, Lnz = [⟨z0, z1⟩, ⟨e1, e2⟩] ∧ Lnz.length = 2 := ⟨_, rfl, rfl⟩
      rw [← hL] at HBz
      clear hL
      go_wp2_with fail
      go_loopw [169] (fun i wr => ∃ k : Nat, k ≤ 2 ∧ i = .int .i64 k ∧ Src q wr q ∧ wqnz.grownBy wr (some q)) (fun i _ => 2 - (intOf i).toNat)
      case atStart => exact ⟨0, by omega, rfl, S31.out, gb_refl _ _⟩
      case round =>
        obtain ⟨knz, hknz, rfl, hS, hgr⟩ := hrel
        by_cases hlt : knz < 2
        · have hkL : knz < Lnz.length := by omega
          have hkdnz : decide ((knz : Int) < 2) = true := decide_eq_true (by omega)
          obtain ⟨r0_, r1_⟩ := rowZ (block_keptp hgr HBz.out hnz) knz hkL
          generalize Lnz[knz] = t at *
          obtain ⟨f0, f1⟩ := t
          simp only [] at r0_ r1_
          have hp_ := hS.lt.2
          have M32 := Lib.hid ((M31.out.draw hgr hq2).alloc' wr.heap.size #[.int .i64 f0, .int .i64 f1] 32 hp_ rfl); have S32 := Lib.hid (hS.later (row := none) (gb_alloc (gb_refl wr none) (.cells #[.int .i64 f0, .int .i64 f1] 32)) (by simp))
          have G32 := Lib.hid (gb_trans hgr (gb_none (gb_alloc (gb_refl wr none) (.cells #[.int .i64 f0, .int .i64 f1] 32))))
          clear hS hgr hp_
          go_wp2_with fail
          generalize wr.alloc (.cells #[.int .i64 f0, .int .i64 f1] 32) = w32 at *
          generalize wr.heap.size = xe at *
          clear r0_ r1_
          obtain ⟨z0_, z1_⟩ := cells2 (M32.out.at 4 rfl)
          have u0_ := M32.out.pulled (B := q) 4 rfl
          have hp_ := S32.out.lt.2
          refine Rg.region (Pulled w32 q q) (Pull q) (fun k => if k = 2 then some (isInt fun x => 0 ≤ x ∧ x < 20) else if k = 4 then some (isInt fun x => 0 ≤ x ∧ x < 20) else if k = 6 then some (isBlk w32 2 32) else none) (fun _ => false) 0 9 (by kernel_rfl) (by kernel_rfl) (by kernel_rfl) (by kernel_rfl) (by kernel_rfl) (by kernel_rfl) (by kernel_rfl) Pull.size (Pulled.start S32.out) (fun hne => ?_)
          (repeat (refine rLexL_quiet (by rfl) (by rfl) (by rfl) (by rfl) ?_; go_big_quiet_step (fail); refine wpQuiet_nil ?_))
          refine rg_draw (fun x => 0 ≤ x ∧ x < 20) 30 #[.pointer (some ⟨q, 0, none⟩), .int .i64 20] rfl rfl (fun _ => by go_simp) (fun u hu _ => n_any q u q _ hu.2 (by omega) (by omega)) (fun e3 h1_ => ?_)
          simp only [Act.put, List.setIfInBounds_toArray, List.set_cons_zero, List.set_cons_succ]
          (repeat (refine rLexL_quiet (by rfl) (by rfl) (by rfl) (by rfl) ?_; go_big_quiet_step (fail); refine wpQuiet_nil ?_))
          refine rg_draw (fun x => 0 ≤ x ∧ x < 20) 30 #[.pointer (some ⟨q, 0, none⟩), .int .i64 20] rfl rfl (fun _ => by go_simp) (fun u hu _ => n_any q u q _ hu.2 (by omega) (by omega)) (fun e4 h2_ => ?_)
          simp only [Act.put, List.setIfInBounds_toArray, List.set_cons_zero, List.set_cons_succ]
          (repeat (refine rLexL_quiet (by rfl) (by rfl) (by rfl) (by rfl) ?_; go_big_quiet_step (fail); refine wpQuiet_nil ?_))
          refine rg_litB 2 #[.int .i64 y0, .int .i64 y1, .int .i64 e3, .int .i64 e4] 32 rfl rfl rfl (fun _ => by go_simp) hp_ (fun ny nyh => ?_)
          simp only [Act.put, List.setIfInBounds_toArray, List.set_cons_zero, List.set_cons_succ]
          refine rLexL_val (.int .i64 2) (by rfl) (by rfl) (by rfl) (by rfl) (fun _ => by go_simp) ?_
          simp only [Act.put, List.setIfInBounds_toArray, List.set_cons_zero, List.set_cons_succ]
          (repeat (refine rLexL_quiet (by rfl) (by rfl) (by rfl) (by rfl) ?_; go_big_quiet_step (fail); refine wpQuiet_nil ?_))
          rintro wqny ⟨hgq, hqs⟩ hf -
          have HBy : Hid (wqny.heap[ny]? = some (.cells (flatZ [⟨y0, y1⟩, ⟨e3, e4⟩]).toArray 32 (0, 0))) := Lib.hid (hf 6)
          have M33 := Lib.hid (M32.out.draw hgq hq2); have S33 := Lib.hid hqs; have GQny := Lib.hid hgq
          have hny : ny ≠ q := by omega
          clear hf hgq hqs hne hp_ nyh z0_ z1_ u0_ h1_ h2_
          refine wpList_nil ?_
          obtain ⟨Lny, hL, hLny⟩ : ∃ Lny : List Zn, Lny = [⟨y0, y1⟩, ⟨e3, e4⟩] ∧ Lny.length = 2 := ⟨_, rfl, rfl⟩
          rw [← hL] at HBy
          clear hL
          go_wp2_with fail
          go_loopw [181] (fun i wr => ∃ k : Nat, k ≤ 2 ∧ i = .int .i64 k ∧ Src q wr q ∧ wqny.grownBy wr (some q)) (fun i _ => 2 - (intOf i).toNat)
          case atStart => exact ⟨0, by omega, rfl, S33.out, gb_refl _ _⟩
          case round =>
            obtain ⟨kny, hkny, rfl, hS, hgr⟩ := hrel
            by_cases hlt : kny < 2
            · have hkL : kny < Lny.length := by omega
              have hkdny : decide ((kny : Int) < 2) = true := decide_eq_true (by omega)
              obtain ⟨r0_, r1_⟩ := rowZ (block_keptp hgr HBy.out hny) kny hkL
              generalize Lny[kny] = t at *
              obtain ⟨g0, g1⟩ := t
              simp only [] at r0_ r1_
              have hp_ := hS.lt.2
              have M34 := Lib.hid ((M33.out.draw hgr hq2).alloc' wr.heap.size #[.int .i64 g0, .int .i64 g1] 32 hp_ rfl); have S34 := Lib.hid (hS.later (row := none) (gb_alloc (gb_refl wr none) (.cells #[.int .i64 g0, .int .i64 g1] 32)) (by simp))
              have G34 := Lib.hid (gb_trans hgr (gb_none (gb_alloc (gb_refl wr none) (.cells #[.int .i64 g0, .int .i64 g1] 32))))
              obtain ⟨ma, mb, mo, hme⟩ : ∃ ma mb mo, meV f0 f1 g0 g1 = .tuple #[.agg #[.int .i64 ma, .int .i64 mb], .bool mo] := by
                unfold meV
                split
                · exact ⟨_, _, _, rfl⟩
                · exact ⟨_, _, _, rfl⟩
              have HI := Lib.hid (fun (u : World) => meets_any f0 f1 g0 g1 u); have HJ := Lib.hid (fun (u : World) => rmeets_any f0 f1 g0 g1 u)
              rw [hme] at HI HJ
              clear hS hgr hp_ hme
              obtain ⟨m0_, m1_⟩ := cells2 (M34.out.at 0 rfl); obtain ⟨c0_, c1_⟩ := cells2 (M34.out.at 1 rfl)
              have hl1_ := M34.out.lt 1 rfl
              go_wp2_with fail
              generalize wr.alloc (.cells #[.int .i64 g0, .int .i64 g1] 32) = w34 at *
              generalize wr.heap.size = pe at *
              (with_reducible refine (HI.out w34).mono ?_)
              rintro r w35 ⟨rfl, hg⟩
              clear m0_ m1_ c0_ c1_ r0_ r1_ hl1_
              have hp_ := (S34.out.later (row := none) hg (by simp)).lt.2
              have M36 := Lib.hid ((M34.out.later hg).alloc' w35.heap.size #[.int .i64 ma, .int .i64 mb] 32 hp_ rfl); have HG36 := Lib.hid (gb_alloc hg (.cells #[.int .i64 ma, .int .i64 mb] 32))
              clear hg
              obtain ⟨m0_, m1_⟩ := cells2 (M36.out.at 1 rfl); obtain ⟨c0_, c1_⟩ := cells2 (M36.out.at 2 rfl)
              have hl1_ := M36.out.lt 1 rfl; have hl2_ := M36.out.lt 2 rfl
              go_wp2_with fail
              generalize w35.alloc (.cells #[.int .i64 ma, .int .i64 mb] 32) = w36 at *
              generalize w35.heap.size = me1 at *
              (with_reducible refine (HJ.out w36).mono ?_)
              rintro r w37 ⟨rfl, hg⟩
              clear m0_ m1_ c0_ c1_ hl1_ hl2_
              have HG37 := Lib.hid (gb_alloc (gb_trans HG36.out hg) (.cells #[.int .i64 ma, .int .i64 mb] 32))
              have hp_ := (S34.out.later (row := none) (gb_trans HG36.out hg) (by simp)).lt.2
              have M38 := Lib.hid ((M36.out.later hg).alloc' w37.heap.size #[.int .i64 ma, .int .i64 mb] 32 hp_ rfl)
              clear hg
              obtain ⟨n0_, n1_⟩ := cells2 (M38.out.at 0 rfl)
              obtain ⟨o0_, o1_⟩ := cells2 (M38.out.at 1 rfl)
              have hl1_ := M38.out.lt 1 rfl
              have q1_ : same2 ma mb ma mb = true := by simp [same2]
              have q2_ : sameZ ma mb ma mb = true := by simp [sameZ]
              have HGN := Lib.hid (gb_trans G34.out (gb_none HG37.out)); have HSN := Lib.hid (S34.out.later (row := none) HG37.out (by simp))
              go_wp2_with fail
              go_roundw
              case rel => exact ⟨kny + 1, by omega, by go_num, HSN.out, HGN.out⟩
              case measure => simp [intOf]; omega
            · have hkxkny : decide ((kny : Int) < 2) = false := decide_eq_false (by omega)
              have HGN := Lib.hid (gb_trans G32.out (gb_trans GQny.out hgr))
              have HSN := Lib.hid hS
              go_wp2_with fail
              go_roundw
              case rel => exact ⟨knz + 1, by omega, by go_num, HSN.out, HGN.out⟩
              case measure => simp [intOf]; omega
        · have hkxknz : decide ((knz : Int) < 2) = false := decide_eq_false (by omega)
          have HG9 := Lib.hid (gb_trans GW.out (M31.out.draw hgr hq2).gr)
          go_wp2_with fail
          (with_reducible refine (awake26_any _).mono ?_)
          rintro r w8 ⟨rfl, hg⟩
          have HGE := Lib.hid (gb_trans HG9.out hg)
          go_wp2_with fail
          go_ret
          exact ⟨rfl, gb_end HGE.out⟩
end Go.Proofs.Ytkckcaijfedijaa
