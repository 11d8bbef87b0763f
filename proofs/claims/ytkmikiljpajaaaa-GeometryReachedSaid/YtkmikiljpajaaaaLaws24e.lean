/- The walk of GeometryReached. Written by gen_laws24e.py. -/
import Derived.Test.YtkmikiljpajaaaaAwake24
import Derived.Test.YtkmikiljpajaaaaReach24
import Derived.Test.YtkmikiljpajaaaaAll24
import Derived.Test.YtkmikiljpajaaaaRgPos
import Derived.Test.YtkmikiljpajaaaaGrown
namespace Go.Proofs.Ytkmikiljpajaaaa
set_option linter.all false
open Go.RowKit Rg

theorem leastOf_succ {px py pz : Int} (L : List (Int × Int × Int)) (i : Nat) (h : i < L.length) : leastOf px py pz (L.take (i + 1)) = min (leastOf px py pz (L.take i)) (dOf px py pz L[i]) := by
  unfold leastOf
  rw [List.take_succ_eq_append_getElem h, List.foldl_append]; rfl
theorem mostOf_succ {px py pz : Int} (L : List (Int × Int × Int)) (i : Nat) (h : i < L.length) : mostOf px py pz (L.take (i + 1)) = max (mostOf px py pz (L.take i)) (dOf px py pz L[i]) := by
  unfold mostOf
  rw [List.take_succ_eq_append_getElem h, List.foldl_append]; rfl
theorem hownlen {w : World} {B e : Nat} {v : Value} {n : Nat} {ys : List Value} (h : w.ownsRow B e 3 v n ys) : ys.length = n * 3 := h.1
set_option maxRecDepth 100000 in
set_option maxHeartbeats 2000000 in
theorem geometryReached_walk (w : World) (v : Value) (xs : List Int) (hs : Sl w v xs) (_hx : ∀ x ∈ xs, -9223372036854775808 ≤ x ∧ x ≤ 9223372036854775807) :
    Calls Try.prog 8 #[v] w fun e w' => e = .returned (.bool true) ∧ Below w.heap.size w w' := by
  go_enter Try.func8, Try.ntmps8
  go_wp2_with fail
  (with_reducible refine (new_any w v xs hs).mono ?_)
  rintro e w1 ⟨rfl, hS, hg1⟩
  have HG1 := Lib.hid hg1; have HS1 := Lib.hid hS; clear hg1 hs hS
  go_wp2_with fail
  (with_reducible refine (box_any w.heap.size w1 w.heap.size 6 4 HS1.out (by omega) (by omega) (by omega) (by omega)).mono ?_)
  rintro e w2 ⟨x0, y0, z0, x1, y1, z1, rfl, hB, hS2, hg2⟩
  have HS2 := Lib.hid hS2; have HG2 := Lib.hid hg2; have HB := Lib.hid hB; clear hS2 hg2 HS1 hB
  go_wp2_with fail
  (with_reducible refine (place_any w.heap.size w2 w.heap.size 9 HS2.out (by omega) (by omega)).mono ?_)
  rintro e w3 ⟨px, py, pz, rfl, hP, hS3, hg3⟩
  have HG3 := Lib.hid (gb_new HG1.out (gb_trans HG2.out hg3) (by simp)); have HP := Lib.hid hP
  have hB' := HB.out
  obtain ⟨⟨i1, i2, i3, i4, i5, i6⟩, i7, i8, i9, i10, i11, i12⟩ := hB'
  have bB := Lib.hid (boxIn_ok HB.out (by omega) (by omega))
  have T0 : Hid (((w3.alloc (.cells #[.int .i64 x0, .int .i64 y0, .int .i64 z0, .int .i64 x1, .int .i64 y1, .int .i64 z1] 44)).alloc (.cells #[.int .i64 px, .int .i64 py, .int .i64 pz] 40)).heap[w3.heap.size]? = some (.cells #[.int .i64 x0, .int .i64 y0, .int .i64 z0, .int .i64 x1, .int .i64 y1, .int .i64 z1] 44 (0, 0))) := Lib.hid (by rw [heap_alloc_old _ _ (by simp), heap_alloc_new])
  have T1 : Hid (((w3.alloc (.cells #[.int .i64 x0, .int .i64 y0, .int .i64 z0, .int .i64 x1, .int .i64 y1, .int .i64 z1] 44)).alloc (.cells #[.int .i64 px, .int .i64 py, .int .i64 pz] 40)).heap[w3.heap.size + 1]? = some (.cells #[.int .i64 px, .int .i64 py, .int .i64 pz] 40 (0, 0))) := Lib.hid (by simpa using heap_alloc_new (w3.alloc _) _)
  have HG4 : Hid (w.grownBy ((w3.alloc (.cells #[.int .i64 x0, .int .i64 y0, .int .i64 z0, .int .i64 x1, .int .i64 y1, .int .i64 z1] 44)).alloc (.cells #[.int .i64 px, .int .i64 py, .int .i64 pz] 40)) none) := Lib.hid (gb_alloc (gb_alloc HG3.out _) _)
  clear hS3 hg3 HS2 HG1 HG2 HG3 hP HB
  obtain ⟨nx, hnx⟩ : ∃ n : Nat, x1 = x0 + n - 1 := ⟨(x1 - x0 + 1).toNat, by omega⟩
  obtain ⟨ny, hny⟩ : ∃ n : Nat, y1 = y0 + n - 1 := ⟨(y1 - y0 + 1).toNat, by omega⟩
  obtain ⟨nz, hnz⟩ : ∃ n : Nat, z1 = z0 + n - 1 := ⟨(z1 - z0 + 1).toNat, by omega⟩
  have ALL := Lib.hid (fun u => all_any x0 y0 z0 x1 y1 z1 nx ny nz u hnx hny hnz (by omega) (by omega) (by omega) (by omega) (by omega) (by omega))
  have NX := Lib.hid hnx; have NY := Lib.hid hny; have NZ := Lib.hid hnz; clear hnx hny hnz
  go_wp2_with fail
  generalize (w3.alloc (.cells #[.int .i64 x0, .int .i64 y0, .int .i64 z0, .int .i64 x1, .int .i64 y1, .int .i64 z1] 44)).alloc (.cells #[.int .i64 px, .int .i64 py, .int .i64 pz] 40) = w4 at *
  (with_reducible refine (ALL.out _).mono ?_)
  rintro e w5 ⟨lv, rfl, hown, hbx, hg5⟩
  have U0 := Lib.hid (block_kept hg5 T0.out rfl)
  have U1 := Lib.hid (block_kept hg5 T1.out rfl)
  clear T0 T1
  have T0 := U0
  have T1 := U1
  clear U0 U1
  have HG5 := Lib.hid (gb_trans HG4.out hg5)
  obtain ⟨la, lc, rfl⟩ := owns_slice hown
  have HOWN := Lib.hid hown
  clear hg5 HG4 hbx hown ALL
  go_wp2_with fail
  have hpos : 0 < (preX x0 y0 z0 ny nz nx).length := by
    rw [preX_length]
    have a1 : 1 ≤ nx := by have := NX.out; omega
    have a2 : 1 ≤ ny := by have := NY.out; omega
    have a3 : 1 ≤ nz := by have := NZ.out; omega
    exact Nat.mul_pos a1 (Nat.mul_pos a2 a3)
  obtain ⟨g, cap, hv, hgB, hgl⟩ := HOWN.out.form hpos
  simp only [Value.slice.injEq, true_and] at hv
  obtain ⟨rfl, rfl⟩ := hv
  have HMEM : Hid (∀ q ∈ preX x0 y0 z0 ny nz nx, vP q.1 q.2.1 q.2.2 = true ∧ conP x0 y0 z0 x1 y1 z1 q.1 q.2.1 q.2.2 = true ∧ sqP px py pz q.1 q.2.1 q.2.2 = dOf px py pz q ∧ 0 ≤ dOf px py pz q ∧ dOf px py pz q ≤ 52776558133248) := Lib.hid (by
    intro q hq
    have hm := mem_preX.1 hq
    have n0 := NX.out; have n1 := NY.out; have n2 := NZ.out
    have p6 := HP.out
    unfold placeIn at p6
    have v1 : vP q.1 q.2.1 q.2.2 = true := vP_mk (by omega)
    have v2 : vP px py pz = true := vP_mk (by omega)
    refine ⟨v1, conP_iff.2 ⟨bB.out, v1, by omega, by omega, by omega, by omega, by omega, by omega⟩, sqP_valid v2 v1, sqD_nonneg _ _ _ _ _ _, sqD_small v2 v1⟩)
  have HFIN : Hid (leastOf px py pz (preX x0 y0 z0 ny nz nx) = nearP x0 y0 z0 x1 y1 z1 px py pz ∧ mostOf px py pz (preX x0 y0 z0 ny nz nx) = farP x0 y0 z0 x1 y1 z1 px py pz ∧ ((preX x0 y0 z0 ny nz nx).length : Int) = ptsP x0 y0 z0 x1 y1 z1) := Lib.hid (by
    have n0 := NX.out; have n1 := NY.out; have n2 := NZ.out
    have p6 := HP.out
    unfold placeIn at p6
    have v2 : vP px py pz = true := vP_mk (by omega)
    have bb := bB.out
    have hn : nearD x0 y0 z0 x1 y1 z1 px py pz ≤ 1152921504606846976 := by
      have s0 := (sq_small (d := nearS px x0 x1) (by unfold nearS; omega) (by unfold nearS; omega)).2.1
      have s1 := (sq_small (d := nearS py y0 y1) (by unfold nearS; omega) (by unfold nearS; omega)).2.1
      have s2 := (sq_small (d := nearS pz z0 z1) (by unfold nearS; omega) (by unfold nearS; omega)).2.1
      unfold nearD; omega
    obtain ⟨r1, r2⟩ := reached_plain (px := px) (py := py) (pz := pz) n0 n1 n2 (by omega) (by omega) (by omega) hn
    refine ⟨by rw [r1, nearP_ok bb v2], by rw [r2, farP_ok bb v2], ?_⟩
    rw [preX_length]
    unfold ptsP; rw [bb]; unfold ptsD
    rw [show x1 - x0 + 1 = (nx : Int) by omega, show y1 - y0 + 1 = (ny : Int) by omega, show z1 - z0 + 1 = (nz : Int) by omega]
    simp [Int.mul_assoc])
  have HLEN : Hid ((preX x0 y0 z0 ny nz nx).length ≤ 1000) := Lib.hid (by
    rw [preX_length]
    have n0 := NX.out; have n1 := NY.out; have n2 := NZ.out
    have e1 : ny * nz ≤ 5 * 5 := Nat.mul_le_mul (by omega) (by omega)
    have e2 : nx * (ny * nz) ≤ 5 * (5 * 5) := Nat.mul_le_mul (by omega) e1
    omega)
  clear hpos
  generalize preX x0 y0 z0 ny nz nx = L at *
  go_loopw [6, 7, 8, 21] (fun a b c d wr => ∃ i : Nat, i ≤ L.length ∧ d = .int .i64 i ∧ c = .int .i64 i ∧ a = .int .i64 (leastOf px py pz (L.take i)) ∧ b = .int .i64 (mostOf px py pz (L.take i)) ∧ w5.grownBy wr none) (fun _ _ _ d _ => L.length - (intOf d).toNat)
  case atStart => exact ⟨0, by omega, rfl, rfl, rfl, rfl, gb_refl _ _⟩
  case round =>
    obtain ⟨i, hi, rfl, rfl, rfl, rfl, hgr⟩ := hrel
    by_cases hlt : i < L.length
    · have hown2 := owns_keep HOWN.out hgr
      have cadd : ∀ j, (⟨g, 0, none⟩ : Addr).add j = ⟨g, j, none⟩ := by intro j; unfold Addr.add; split <;> simp_all
      obtain ⟨f1, f2, f3⟩ := flat3_at L i hlt
      have c0 := hown2.cells (g := g) rfl _ _ f1; have c1 := hown2.cells (g := g) rfl _ _ f2; have c2 := hown2.cells (g := g) rfl _ _ f3
      rw [cadd] at c0 c1 c2
      clear f1 f2 f3 cadd hown2
      have A0 := Lib.hid (block_kept hgr T0.out rfl); have A1 := Lib.hid (block_kept hgr T1.out rfl)
      generalize hq : L[i] = q at *
      obtain ⟨qx, qy, qz⟩ := q
      have HQ := Lib.hid hq; clear hq
      have zg := World.block_lt_of_cell? wr _ c0
      have D0 := Lib.hid ((heap_alloc_old wr (.cells #[.int .i64 qx, .int .i64 qy, .int .i64 qz] 40) (block_lt A0.out)).trans A0.out)
      have D1 := Lib.hid ((heap_alloc_old wr (.cells #[.int .i64 qx, .int .i64 qy, .int .i64 qz] 40) (block_lt A1.out)).trans A1.out)
      have D2 := Lib.hid (heap_alloc_new wr (.cells #[.int .i64 qx, .int .i64 qy, .int .i64 qz] 40))
      obtain ⟨m0, m1, m2⟩ := cells3 A1.out
      have lt1 := block_lt A1.out; have lt0 := block_lt A0.out
      have hmq := HMEM.out (qx, qy, qz) (HQ.out ▸ List.getElem_mem hlt)
      obtain ⟨-, hcon, hsq, hd0, hd1⟩ := hmq
      have LS := Lib.hid (leastOf_succ (px := px) (py := py) (pz := pz) L i hlt); have MS := Lib.hid (mostOf_succ (px := px) (py := py) (pz := pz) L i hlt)
      rw [HQ.out] at LS MS
      have hll := HLEN.out
      generalize hdv : dOf px py pz (qx, qy, qz) = dv at *
      replace hcon : conP x0 y0 z0 x1 y1 z1 qx qy qz = true := hcon
      replace hsq : sqP px py pz qx qy qz = dv := hsq
      have CON := Lib.hid hcon; clear hcon hdv
      have SQ := Lib.hid (fun (u : World) => hsq ▸ square_any px py pz qx qy qz u); clear hsq
      generalize leastOf px py pz (L.take i) = ml at *
      generalize mostOf px py pz (L.take i) = mm at *
      go_wp2_with fail
      (with_reducible refine (SQ.out _).mono ?_)
      rintro e w6 ⟨rfl, hg6⟩
      have E0 := Lib.hid (block_kept hg6 D0.out rfl); have E1 := Lib.hid (block_kept hg6 D1.out rfl); have E2 := Lib.hid (block_kept hg6 D2.out rfl)
      have HG6 := Lib.hid (gb_trans hgr (gb_trans (gb_alloc (gb_refl _ _) _) hg6))
      clear hg6 D0 D1 D2 m0 m1 m2 c0 c1 c2
      obtain ⟨m0, m1, m2⟩ := cells3 E2.out
      obtain ⟨k0, k1, k2, k3, k4, k5⟩ := cells6 E0.out
      go_wp2_with fail
      (with_reducible refine (contains_any x0 y0 z0 x1 y1 z1 qx qy qz _).mono ?_)
      rintro e w7 ⟨rfl, hg7⟩
      rw [CON.out]
      have HG7 := Lib.hid (gb_trans HG6.out hg7)
      clear hg7 E0 E1 E2 m0 m1 m2 k0 k1 k2 k3 k4 k5 HG6
      go_wp2_with fail
      go_roundw
      case rel =>
        refine ⟨i + 1, by omega, by go_num, by go_num, ?_, ?_, HG7.out⟩
        · rw [LS.out]
        · rw [MS.out]
      case measure => simp [intOf]; omega
    · obtain rfl : i = L.length := by omega
      rw [List.take_length]
      obtain ⟨fn, ff, fp⟩ := HFIN.out
      have FN := Lib.hid fn; have FF := Lib.hid ff; have FP := Lib.hid fp; clear fn ff fp
      have A0 := Lib.hid (block_kept hgr T0.out rfl); have A1 := Lib.hid (block_kept hgr T1.out rfl)
      obtain ⟨m0, m1, m2⟩ := cells3 A1.out
      obtain ⟨k0, k1, k2, k3, k4, k5⟩ := cells6 A0.out
      have lt1 := block_lt A1.out; have lt0 := block_lt A0.out
      have hll := HLEN.out
      rw [FN.out, FF.out]
      go_wp2_with fail
      (with_reducible refine (near_any x0 y0 z0 x1 y1 z1 px py pz _).mono ?_)
      rintro e w6 ⟨rfl, hg6⟩
      obtain ⟨cb6, hb6⟩ := gb_at hg6 lt0
      obtain ⟨cp6, hp6⟩ := gb_at hg6 lt1
      go_wp2_with fail
      (with_reducible refine (far_any x0 y0 z0 x1 y1 z1 px py pz _).mono ?_)
      rintro e w7 ⟨rfl, hg7⟩
      obtain ⟨cb7, hb7⟩ := gb_at hg7 hb6
      go_wp2_with fail
      (with_reducible refine (points_any x0 y0 z0 x1 y1 z1 _).mono ?_)
      rintro e w8 ⟨rfl, hg8⟩
      rw [← FP.out]
      go_wp2_with fail
      (with_reducible refine (awake24_any _).mono ?_)
      rintro e w9 ⟨rfl, hg9⟩
      have HG := Lib.hid (gb_trans HG5.out (gb_trans hgr (gb_trans hg6 (gb_trans hg7 (gb_trans hg8 hg9)))))
      go_wp2_with fail
      go_ret
      exact ⟨rfl, gb_end HG.out⟩
end Go.Proofs.Ytkmikiljpajaaaa
