/- The walk of BoundTight. Written by a program (walkgen.py). -/
import Derived.Test.YtkckcaijfedijaaAwake26
import Derived.Test.YtkckcaijfedijaaBndP
import Derived.Test.YtkckcaijfedijaaAll24
import Derived.Test.YtkckcaijfedijaaMem
import Derived.Test.YtkckcaijfedijaaRgPos
namespace Go.Proofs.Ytkckcaijfedijaa
set_option linter.all false
open Go.RowKit Rg

set_option maxRecDepth 100000 in
set_option maxHeartbeats 2000000 in
theorem boundTight_walk (w : World) (v : Value) (xs : List Int) (hs : Sl w v xs) (_hx : ∀ x ∈ xs, -9223372036854775808 ≤ x ∧ x ≤ 9223372036854775807) :
    Calls Try.prog 6 #[v] w fun e w' => e = .returned (.bool true) ∧ Below w.heap.size w w' := by
  go_enter Try.func6, Try.ntmps6
  go_wp2_with fail
  (with_reducible refine (new_any w v xs hs).mono ?_)
  rintro e w1 ⟨rfl, hS, hg⟩
  have S1 := Lib.hid hS; have M1 := Lib.hid (Mem.nil (p := w.heap.size) hg); clear hg hs hS
  go_wp2_with fail
  (with_reducible refine (table_any w.heap.size w1 w.heap.size S1.out).mono ?_)
  rintro e w2 ⟨step, vl, vh, ls, hs, rfl, hT, hst, hre, hln, ol, oh, -, hS, hg⟩
  have hp1 := S1.out.lt.2
  have S2 := Lib.hid hS; have M2 := Lib.hid (((M1.out.draw hg (by omega)).slice (Sl_of_owns oh rfl) (owns_sl_apart oh hp1)).slice (Sl_of_owns ol rfl) (owns_sl_apart ol hp1))
  have HT := Lib.hid hT; have HR := Lib.hid (reach_small hT.1 hst hre hln)
  obtain ⟨la, ln, lc, rfl⟩ := sl_slice (Sl_of_owns ol rfl); obtain ⟨ha, hn, hc, rfl⟩ := sl_slice (Sl_of_owns oh rfl)
  clear hg hS S1 M1 hp1 ol oh hT hst hre hln
  go_wp2_with fail
  (with_reducible refine (box_any w.heap.size w2 w.heap.size 40 4 S2.out (by omega) (by omega) (by omega) (by omega)).mono ?_)
  rintro e w3 ⟨x0, y0, z0, x1, y1, z1, rfl, hB, hS, hg⟩
  have HB := Lib.hid hB; clear hB
  have S3 := Lib.hid hS; have M3 := Lib.hid (M2.out.draw hg (by omega)); clear hg hS S2 M2
  go_wp2_with fail
  (with_reducible refine (place_any w.heap.size w3 w.heap.size 60 S3.out (by omega) (by omega)).mono ?_)
  rintro e w4 ⟨px, py, pz, rfl, hP, hS, hg⟩
  have HP := Lib.hid hP; clear hP
  have S4 := Lib.hid hS; have M4 := Lib.hid (M3.out.draw hg (by omega)); clear hg hS S3 M3
  go_wp2_with fail
  refine calls_name (fun w5 hw => ?_)
  have hp := S4.out.lt.2
  have M5 := Lib.hid (show Mem w (w.heap.size) _ _ w5 from by rw [hw]; exact (((M4.out).alloc' (w4.heap.size) #[.int .i64 step, .slice la ln lc, .slice ha hn hc] 24 (by first | omega | (simp; done) | (simp <;> omega)) (by first | rfl | simp)).alloc' (w4.heap.size + 1) #[.int .i64 x0, .int .i64 y0, .int .i64 z0, .int .i64 x1, .int .i64 y1, .int .i64 z1] 28 (by first | omega | (simp; done) | (simp <;> omega)) (by first | rfl | simp)).alloc' (w4.heap.size + 1 + 1) #[.int .i64 px, .int .i64 py, .int .i64 pz] 26 (by first | omega | (simp; done) | (simp <;> omega)) (by first | rfl | simp))
  clear hw S4 M4
  have NR := Lib.hid (near_mk HT.out HR.out.1 HB.out HP.out (by omega) (by omega) (by omega))
  have hB := HB.out; have hP := HP.out
  unfold boxIn placeIn at hB; unfold placeIn at hP
  obtain ⟨nx, hnx⟩ : ∃ n : Nat, x1 = x0 + n - 1 := ⟨(x1 - x0 + 1).toNat, by omega⟩
  obtain ⟨ny, hny⟩ : ∃ n : Nat, y1 = y0 + n - 1 := ⟨(y1 - y0 + 1).toNat, by omega⟩
  obtain ⟨nz, hnz⟩ : ∃ n : Nat, z1 = z0 + n - 1 := ⟨(z1 - z0 + 1).toNat, by omega⟩
  have ALL := Lib.hid (fun u => all_any x0 y0 z0 x1 y1 z1 nx ny nz u hnx hny hnz (by omega) (by omega) (by omega) (by omega) (by omega) (by omega))
  have TP := Lib.hid (tight_plain NR.out hnx hny hnz)
  have HMEM : Hid (∀ q ∈ preX x0 y0 z0 ny nz nx, intV step ls hs q.1 q.2.1 q.2.2 px py pz = .tuple #[.int .i64 (loA step ls (floorI (sqD q.1 q.2.1 q.2.2 px py pz))), .int .i64 (hiA step hs (ceilI (sqD q.1 q.2.1 q.2.2 px py pz))), .int .i64 0]) := Lib.hid (by
    intro q hq
    have hm := mem_preX.1 hq
    exact (NR.out.point (by omega) (by omega) (by omega)).2.2.2.2)
  have HLEN : Hid ((preX x0 y0 z0 ny nz nx).length ≤ 1000 ∧ 0 < (preX x0 y0 z0 ny nz nx).length) := Lib.hid (by
    rw [preX_length]
    have e1 : ny * nz ≤ 5 * 5 := Nat.mul_le_mul (by omega) (by omega)
    have e2 : nx * (ny * nz) ≤ 5 * (5 * 5) := Nat.mul_le_mul (by omega) e1
    exact ⟨by omega, Nat.mul_pos (by omega) (Nat.mul_pos (by omega) (by omega))⟩)
  clear hnx hny hnz hB hP
  obtain ⟨m0_0, m0_1, m0_2⟩ := cells3 (M5.out.at 0 rfl)
  obtain ⟨m1_0, m1_1, m1_2, m1_3, m1_4, m1_5⟩ := six (M5.out.at 1 rfl)
  obtain ⟨m2_0, m2_1, m2_2⟩ := cells3 (M5.out.at 2 rfl)
  (with_reducible refine (binterval_any step _ _ ls hs x0 y0 z0 x1 y1 z1 px py pz w5 (M5.out.sl 0 rfl) (M5.out.sl 1 rfl)).mono ?_)
  rintro e w6 ⟨rfl, hg⟩
  rw [NR.out.val]
  have M6 := Lib.hid (M5.out.later hg); clear hg M5 
  clear m0_0 m0_1 m0_2 m1_0 m1_1 m1_2 m1_3 m1_4 m1_5 m2_0 m2_1 m2_2
  obtain ⟨m1_0, m1_1, m1_2, m1_3, m1_4, m1_5⟩ := six (M6.out.at 1 rfl)
  have TP1 := Lib.hid TP.out.1; have TP2 := Lib.hid TP.out.2
  rw [← TP1.out, ← TP2.out]
  clear TP
  go_wp2_with fail
  (with_reducible refine (ALL.out _).mono ?_)
  rintro e w7 ⟨lv, rfl, hown, -, hg⟩
  have M7 := Lib.hid (M6.out.later hg)
  obtain ⟨la', lc', rfl⟩ := owns_slice hown
  obtain ⟨g, cap, hv, hgB, hgl⟩ := hown.form HLEN.out.2
  simp only [Value.slice.injEq, true_and] at hv
  obtain ⟨rfl, rfl⟩ := hv
  have HOWN := Lib.hid hown; have HGP := Lib.hid (show w6.heap.size ≤ g by omega)
  clear hg hown ALL m1_0 m1_1 m1_2 m1_3 m1_4 m1_5 M6 hgB hgl
  generalize preX x0 y0 z0 ny nz nx = L at *
  have hll := HLEN.out.1
  go_wp2_with fail
  go_loopw [10, 11, 36] (fun a b d wr => ∃ i : Nat, i ≤ L.length ∧ d = .int .i64 i ∧ a = .int .i64 (lowest step ls px py pz (L.take i)) ∧ b = .int .i64 (highest step hs px py pz (L.take i)) ∧ w7.grownBy wr none) (fun _ _ d _ => L.length - (intOf d).toNat)
  case atStart => exact ⟨0, by omega, rfl, rfl, rfl, gb_refl _ _⟩
  case round =>
    obtain ⟨i, hi, rfl, rfl, rfl, hgr⟩ := hrel
    by_cases hlt : i < L.length
    · have hown2 := owns_keep HOWN.out hgr
      have cadd : ∀ j, (⟨g, 0, none⟩ : Addr).add j = ⟨g, j, none⟩ := by intro j; unfold Addr.add; split <;> simp_all
      obtain ⟨f1, f2, f3⟩ := flat3_at L i hlt
      have c0 := hown2.cells (g := g) rfl _ _ f1; have c1 := hown2.cells (g := g) rfl _ _ f2; have c2 := hown2.cells (g := g) rfl _ _ f3
      rw [cadd] at c0 c1 c2
      clear f1 f2 f3 cadd hown2
      have hmq := HMEM.out L[i] (List.getElem_mem hlt)
      have LS := Lib.hid (lowest_succ (step := step) (ls := ls) (px := px) (py := py) (pz := pz) L i hlt); have MS := Lib.hid (highest_succ (step := step) (hs := hs) (px := px) (py := py) (pz := pz) L i hlt)
      generalize hq : L[i] = q at *
      obtain ⟨qx, qy, qz⟩ := q
      clear hq
      replace hmq : intV step ls hs qx qy qz px py pz = .tuple #[.int .i64 (loA step ls (floorI (sqD qx qy qz px py pz))), .int .i64 (hiA step hs (ceilI (sqD qx qy qz px py pz))), .int .i64 0] := hmq
      generalize loA step ls (floorI (sqD qx qy qz px py pz)) = tl at *
      generalize hiA step hs (ceilI (sqD qx qy qz px py pz)) = th at *
      have IV := Lib.hid hmq; clear hmq
      generalize lowest step ls px py pz (L.take i) = ml at *
      generalize highest step hs px py pz (L.take i) = mm at *
      have zg := World.block_lt_of_cell? wr _ c0
      have MR := Lib.hid ((M7.out.later hgr).later (gb_alloc (gb_refl _ _) (.cells #[.int .i64 qx, .int .i64 qy, .int .i64 qz] 26)))
      have D2 := Lib.hid (heap_alloc_new wr (.cells #[.int .i64 qx, .int .i64 qy, .int .i64 qz] 26))
      have HGR := Lib.hid (gb_alloc hgr (.cells #[.int .i64 qx, .int .i64 qy, .int .i64 qz] 26))
      obtain ⟨m0_0, m0_1, m0_2⟩ := cells3 (MR.out.at 0 rfl)
      obtain ⟨m2_0, m2_1, m2_2⟩ := cells3 (MR.out.at 2 rfl)
      clear hgr
      go_wp2_with fail
      (with_reducible refine (interval_any step _ _ ls hs _ _ _ _ _ _ _ (MR.out.sl 0 rfl) (MR.out.sl 1 rfl)).mono ?_)
      rintro e w8 ⟨rfl, hg8⟩
      rw [IV.out]
      have HGN := Lib.hid (gb_trans HGR.out hg8)
      clear hg8 m0_0 m0_1 m0_2 m2_0 m2_1 m2_2 c0 c1 c2
      go_wp2_with fail
      go_roundw
      case rel => exact ⟨i + 1, by omega, by go_num, by rw [LS.out], by rw [MS.out], HGN.out⟩
      case measure => simp [intOf]; omega
    · obtain rfl : i = L.length := by omega
      rw [List.take_length]
      go_wp2_with fail
      (with_reducible refine (awake26_any _).mono ?_)
      rintro e w9 ⟨rfl, hg9⟩
      have HGE := Lib.hid (gb_trans M7.out.gr (gb_trans hgr hg9))
      go_wp2_with fail
      go_ret
      exact ⟨rfl, gb_end HGE.out⟩
end Go.Proofs.Ytkckcaijfedijaa
