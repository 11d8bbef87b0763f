/- Reference 24's All: the points of a box. -/
import Derived.Test.YtcealhikmbchoaaGreatRgPos
import Derived.Test.YtcealhikmbchoaaGreatGeo
namespace Go.Proofs.YtcealhikmbchoaaGreat
set_option linter.all false
open Go.RowKit

theorem Tryz.infoPosT : (Tryz.prog.info? 23).map (fun i => (i.zero, i.size, i.bytes)) = some (some (.agg #[.int .i64 0, .int .i64 0, .int .i64 0]), 3, 24) := by kernel_rfl
theorem six' {w : World} {b : Nat} {x y z p q r : Value} {t : TypeId} {fr : Nat × Nat} (h : w.heap[b]? = some (.cells #[x, y, z, p, q, r] t fr)) :
    w.cell? ⟨b, 0, none⟩ = some x ∧ w.cell? ⟨b, 1, none⟩ = some y ∧ w.cell? ⟨b, 2, none⟩ = some z ∧ w.cell? ⟨b, 3, none⟩ = some p ∧ w.cell? ⟨b, 4, none⟩ = some q ∧ w.cell? ⟨b, 5, none⟩ = some r := by simp [World.cell?, h]

/-- The loop's own row so far, and the box. -/
def Rows24 (w : World) (x0 y0 z0 x1 y1 z1 : Int) (l : List (Int × Int × Int)) (out : Value) (wr : World) : Prop :=
  wr.ownsRow (w.heap.size + 1) 23 3 out l.length (flat3 l) ∧ wr.heap[w.heap.size]? = some (.cells #[.int .i64 x0, .int .i64 y0, .int .i64 z0, .int .i64 x1, .int .i64 y1, .int .i64 z1] 25 (0, 0)) ∧ w.grownBy wr none

set_option maxRecDepth 100000 in
set_option maxHeartbeats 1000000 in
theorem all_any (x0 y0 z0 x1 y1 z1 : Int) (nx ny nz : Nat) (w : World) (hx : x1 = x0 + nx - 1) (hy : y1 = y0 + ny - 1) (hz : z1 = z0 + nz - 1) (bx : -1000000 ≤ x0 ∧ x0 ≤ 1000000) (by' : -1000000 ≤ y0 ∧ y0 ≤ 1000000) (bz : -1000000 ≤ z0 ∧ z0 ≤ 1000000) (h1 : nx ≤ 20) (h2 : ny ≤ 20) (h3 : nz ≤ 20) :
    Calls Tryz.prog 55 #[.agg #[.int .i64 x0, .int .i64 y0, .int .i64 z0, .int .i64 x1, .int .i64 y1, .int .i64 z1]] w fun e w' => ∃ v, e = .returned v ∧ Rows24 w x0 y0 z0 x1 y1 z1 (preX x0 y0 z0 ny nz nx) v w' := by
  go_enter Tryz.func55, Tryz.ntmps55
  have H0 : Hid (Rows24 w x0 y0 z0 x1 y1 z1 [] (.slice none 0 0) (w.alloc (.cells #[.int .i64 x0, .int .i64 y0, .int .i64 z0, .int .i64 x1, .int .i64 y1, .int .i64 z1] 25))) :=
    Lib.hid ⟨World.ownsRow_nil _ _ _ _, heap_alloc_new _ _, gb_alloc (gb_refl _ _) _⟩
  have HX := Lib.hid hx; have HY := Lib.hid hy; have HZ := Lib.hid hz; clear hx hy hz
  go_wp2_with fail
  go_loopw [3, 4] (fun out x wr => ∃ i : Nat, i ≤ nx ∧ x = .int .i64 (x0 + i) ∧ Rows24 w x0 y0 z0 x1 y1 z1 (preX x0 y0 z0 ny nz i) out wr) (fun _ x _ => (x0 + nx - intOf x).toNat)
  case atStart => exact ⟨0, by omega, by simp, H0.out⟩
  case round =>
    obtain ⟨i, hi, rfl, hr⟩ := hrel
    obtain ⟨m0, m1, m2, m3, m4, m5⟩ := six' hr.2.1
    have HR := Lib.hid hr; clear hr H0
    by_cases hlt : i < nx
    · have hle : x0 + (i : Int) ≤ x1 := by rw [HX.out]; omega
      go_wp2_with fail
      clear m0 m1 m2 m3 m4 m5
      go_loopw [3, 5] (fun out y wr => ∃ j : Nat, j ≤ ny ∧ y = .int .i64 (y0 + j) ∧ Rows24 w x0 y0 z0 x1 y1 z1 (preX x0 y0 z0 ny nz i ++ preY (x0 + i) y0 z0 nz j) out wr) (fun _ y _ => (y0 + ny - intOf y).toNat)
      case atStart => exact ⟨0, by omega, by simp, by simpa [preY_zero] using HR.out⟩
      case round =>
        obtain ⟨j, hj, rfl, hr⟩ := hrel
        obtain ⟨m0, m1, m2, m3, m4, m5⟩ := six' hr.2.1
        have HR2 := Lib.hid hr; clear hr HR
        by_cases hlt2 : j < ny
        · have hle2 : y0 + (j : Int) ≤ y1 := by rw [HY.out]; omega
          go_wp2_with fail
          clear m0 m1 m2 m3 m4 m5
          go_loopw [3, 6] (fun out z wr => ∃ k : Nat, k ≤ nz ∧ z = .int .i64 (z0 + k) ∧ Rows24 w x0 y0 z0 x1 y1 z1 (preX x0 y0 z0 ny nz i ++ preY (x0 + i) y0 z0 nz j ++ preZ (x0 + i) (y0 + j) z0 k) out wr) (fun _ z _ => (z0 + nz - intOf z).toNat)
          case atStart => exact ⟨0, by omega, by simp, by simpa [preZ_zero] using HR2.out⟩
          case round =>
            obtain ⟨k, hk, rfl, hr⟩ := hrel
            obtain ⟨m0, m1, m2, m3, m4, m5⟩ := six' hr.2.1
            have HR3 := Lib.hid hr; clear hr HR2
            by_cases hlt3 : k < nz
            · have hle3 : z0 + (k : Int) ≤ z1 := by rw [HZ.out]; omega
              have hown := HR3.out.1
              have hBx := HR3.out.2.1
              have hlen : (preX x0 y0 z0 ny nz i ++ preY (x0 + i) y0 z0 nz j ++ preZ (x0 + i) (y0 + j) z0 k).length ≤ 10000 := by
                simp only [List.length_append, preX_length, preY_length, preZ_length]
                have e1 : ny * nz ≤ 20 * 20 := Nat.mul_le_mul h2 h3
                have e2 : i * (ny * nz) ≤ 20 * (20 * 20) := Nat.mul_le_mul (by omega) e1
                have e3 : j * nz ≤ 20 * 20 := Nat.mul_le_mul (by omega) h3
                omega
              have hbl := block_lt hBx
              have hg := HR3.out.2.2
              have PUSH := Lib.hid (fun (v' : Value) (w1 : World) (h : w1.ownsRow (w.heap.size + 1) 23 3 v' ((preX x0 y0 z0 ny nz i ++ preY (x0 + i) y0 z0 nz j ++ preZ (x0 + i) (y0 + j) z0 k).length + 1) (flat3 (preX x0 y0 z0 ny nz i ++ preY (x0 + i) y0 z0 nz j ++ preZ (x0 + i) (y0 + j) z0 k) ++ [.int .i64 (x0 + (i : Int)), .int .i64 (y0 + (j : Int)), .int .i64 (z0 + (k : Int))])) (hg1 : (wr.alloc (.cells #[.int .i64 (x0 + (i : Int)), .int .i64 (y0 + (j : Int)), .int .i64 (z0 + (k : Int))] 23)).grownBy w1 u3.ownBlock) =>
                show Rows24 w x0 y0 z0 x1 y1 z1 (preX x0 y0 z0 ny nz i ++ preY (x0 + i) y0 z0 nz j ++ preZ (x0 + i) (y0 + j) z0 (k + 1)) v' w1 from by
                  refine ⟨?_, ?_, push_grown hg hown (by omega) hg1⟩
                  · rw [preZ_succ, ← List.append_assoc, flat3_append, List.length_append]; exact h
                  · rw [hg1.block _ (by simp; omega) (fun e => by have := (hown.lt _ e.symm).1; omega), heap_alloc_old _ _ hbl]; exact hBx)
              clear hg hBx
              go_wp2_with (at_builtin; refine wpList_push rfl _ _ 99 rfl (w.heap.size + 1) 23 (.agg #[.int .i64 0, .int .i64 0, .int .i64 0]) 3 24 Tryz.underlying99 Tryz.infoPosT rfl (by decide) (by decide) _ _ _ rfl (hown.alloc _) wr.heap.size 1 [.int .i64 (x0 + (i : Int)), .int .i64 (y0 + (j : Int)), .int .i64 (z0 + (k : Int))] 23 rfl (heap_alloc_new _ _) rfl (by simp [Value.oneCell']) (by omega) (by simp; omega) ?_; intro v' w1 hown' hg')
              have HN := Lib.hid (PUSH.out v' w1 hown' hg')
              clear hown hown' hg' PUSH
              go_roundw
              case rel => exact ⟨k + 1, by omega, by go_num, HN.out⟩
              case measure => simp [intOf]; omega
            · obtain rfl : k = nz := by omega
              have hle3 : z1 < z0 + (k : Int) := by rw [HZ.out]; omega
              go_wp2
              go_roundw
              case rel => exact ⟨j + 1, by omega, by go_num, by have := HR3.out; rwa [List.append_assoc, ← preY_succ] at this⟩
              case measure => simp [intOf]; omega
        · obtain rfl : j = ny := by omega
          have hle2 : y1 < y0 + (j : Int) := by rw [HY.out]; omega
          go_wp2
          go_roundw
          case rel => exact ⟨i + 1, by omega, by go_num, by have := HR2.out; rwa [← preX_succ] at this⟩
          case measure => simp [intOf]; omega
    · obtain rfl : i = nx := by omega
      have hle : x1 < x0 + (i : Int) := by rw [HX.out]; omega
      go_wp2
      go_ret
      exact ⟨_, rfl, HR.out⟩
end Go.Proofs.YtcealhikmbchoaaGreat
