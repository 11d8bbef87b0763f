/- The walk of GeometryNumbers. -/
import Derived.Test.YtkmikiljpajaaaaAwake24
import Derived.Test.YtkmikiljpajaaaaRefC
import Derived.Test.YtkmikiljpajaaaaRgLit
namespace Go.Proofs.Ytkmikiljpajaaaa
set_option linter.all false
open Go.RowKit Rg

set_option maxRecDepth 100000 in
set_option maxHeartbeats 2000000 in
theorem geometryNumbers_walk (w : World) (n : Int) (_h : -9223372036854775808 ≤ n) (h' : n ≤ 9223372036854775807) (ax ay az : Int) (bx by' bz : Int) (v : Value) (xs : List Int) (hs : Sl w v xs) (_hx : ∀ x ∈ xs, -9223372036854775808 ≤ x ∧ x ≤ 9223372036854775807) :
    Calls Try.prog 14 #[.int .i64 n, .agg #[.int .i64 ax, .int .i64 ay, .int .i64 az], .agg #[.int .i64 bx, .int .i64 by', .int .i64 bz], v] w fun e w' => e = .returned (.bool true) ∧ Below w.heap.size w w' := by
  go_enter Try.func14, Try.ntmps14
  have T0 : Hid (((w.alloc (.cells #[.int .i64 ax, .int .i64 ay, .int .i64 az] 40)).alloc (.cells #[.int .i64 bx, .int .i64 by', .int .i64 bz] 40)).heap[w.heap.size]? = some (.cells #[.int .i64 ax, .int .i64 ay, .int .i64 az] 40 (0, 0))) := Lib.hid (by rw [heap_alloc_old _ _ (by simp), heap_alloc_new])
  have T1 : Hid (((w.alloc (.cells #[.int .i64 ax, .int .i64 ay, .int .i64 az] 40)).alloc (.cells #[.int .i64 bx, .int .i64 by', .int .i64 bz] 40)).heap[w.heap.size + 1]? = some (.cells #[.int .i64 bx, .int .i64 by', .int .i64 bz] 40 (0, 0))) := Lib.hid (by simpa using heap_alloc_new (w.alloc _) _)
  have HG0 : Hid (w.grownBy ((w.alloc (.cells #[.int .i64 ax, .int .i64 ay, .int .i64 az] 40)).alloc (.cells #[.int .i64 bx, .int .i64 by', .int .i64 bz] 40)) none) := Lib.hid (gb_alloc (gb_alloc (gb_refl _ _) _) _)
  have hs0 : Sl ((w.alloc (.cells #[.int .i64 ax, .int .i64 ay, .int .i64 az] 40)).alloc (.cells #[.int .i64 bx, .int .i64 by', .int .i64 bz] 40)) v xs := hs.later HG0.out (by simp)
  have HSZ : Hid (((w.alloc (.cells #[.int .i64 ax, .int .i64 ay, .int .i64 az] 40)).alloc (.cells #[.int .i64 bx, .int .i64 by', .int .i64 bz] 40)).heap.size = w.heap.size + 2) := Lib.hid (by simp)
  clear hs
  go_wp2_with fail
  generalize (w.alloc (.cells #[.int .i64 ax, .int .i64 ay, .int .i64 az] 40)).alloc (.cells #[.int .i64 bx, .int .i64 by', .int .i64 bz] 40) = w0 at *
  (with_reducible refine (new_any w0 v xs hs0).mono ?_)
  rintro e w1 ⟨rfl, hS, hg1⟩
  have HP : Hid (w0.heap.size = w.heap.size + 2) := HSZ
  have HG1 := Lib.hid (gb_trans HG0.out hg1); have HS1 := Lib.hid hS
  have A0 := Lib.hid (block_kept hg1 T0.out rfl); have A1 := Lib.hid (block_kept hg1 T1.out rfl)
  clear hg1 hS hs0 T0 T1 HG0 HSZ
  generalize w0.heap.size = p at *
  obtain rfl : p = w.heap.size + 2 := HP.out
  go_wp2_with fail
  (with_reducible refine (n_any (w.heap.size + 2) w1 (w.heap.size + 2) 1000 HS1.out (by omega) (by omega)).mono ?_)
  rintro e w2 ⟨n1, rfl, hn1, hS2, hg2⟩
  have HS2 := Lib.hid hS2; have HG2 := Lib.hid (gb_new HG1.out hg2 (by simp))
  have B0 := Lib.hid (block_keptp hg2 A0.out (by omega)); have B1 := Lib.hid (block_keptp hg2 A1.out (by omega))
  clear hS2 hg2 A0 A1 HS1 HG1
  go_wp2_with fail
  (with_reducible refine (n_any (w.heap.size + 2) w2 (w.heap.size + 2) 35184372088832 HS2.out (by omega) (by omega)).mono ?_)
  rintro e w3 ⟨n2, rfl, hn2, hS3, hg3⟩
  have HS3 := Lib.hid (hS3.later (gb_alloc (gb_refl w3 none) (.cells #[.int .i64 n, .int .i64 n1, .int .i64 n2, .int .i64 (-1), .int .i64 0] 3)) (by simp)); have HG3 := Lib.hid (gb_alloc (gb_new HG2.out hg3 (by simp)) (.cells #[.int .i64 n, .int .i64 n1, .int .i64 n2, .int .i64 (-1), .int .i64 0] 3))
  have A0 := Lib.hid ((heap_alloc_old w3 (.cells #[.int .i64 n, .int .i64 n1, .int .i64 n2, .int .i64 (-1), .int .i64 0] 3) (block_lt' (block_keptp hg3 B0.out (by omega)))).trans (block_keptp hg3 B0.out (by omega)))
  have A1 := Lib.hid ((heap_alloc_old w3 (.cells #[.int .i64 n, .int .i64 n1, .int .i64 n2, .int .i64 (-1), .int .i64 0] 3) (block_lt' (block_keptp hg3 B1.out (by omega)))).trans (block_keptp hg3 B1.out (by omega)))
  have A2 : Hid ((w3.alloc (.cells #[.int .i64 n, .int .i64 n1, .int .i64 n2, .int .i64 (-1), .int .i64 0] 3)).heap[w3.heap.size]? = some (.cells (([n, n1, n2, -1, 0] : List Int).map (Value.int .i64)).toArray 3 (0, 0))) := Lib.hid (heap_alloc_new _ _)
  clear hS3 hg3 B0 B1 HS2 HG2
  have HB : Hid (∀ (i : Nat) (hi : i < 5), ([n, n1, n2, -1, 0] : List Int)[i]?.getD 0 ≤ 9223372036854775807) := Lib.hid (by
    intro i hi
    match i, hi with
    | 0, _ => exact h'
    | 1, _ => show n1 ≤ _; omega
    | 2, _ => show n2 ≤ _; omega
    | 3, _ => show (-1 : Int) ≤ _; omega
    | 4, _ => show (0 : Int) ≤ _; omega)
  go_wp2_with fail
  generalize w3.alloc (.cells #[.int .i64 n, .int .i64 n1, .int .i64 n2, .int .i64 (-1), .int .i64 0] 3) = w4 at *
  have HL : Hid (([n, n1, n2, -1, 0] : List Int).length = 5) := Lib.hid rfl
  generalize ([n, n1, n2, -1, 0] : List Int) = L at *
  generalize w3.heap.size = g at *
  go_loopw [26] (fun a wr => ∃ i : Nat, i ≤ 5 ∧ a = .int .i64 i ∧ wr = w4) (fun a _ => 5 - (intOf a).toNat)
  case atStart => exact ⟨0, by omega, rfl, rfl⟩
  case round =>
    obtain ⟨i, hi, rfl, hw⟩ := hrel
    replace hw := hw.symm
    subst hw
    by_cases hlt : i < 5
    · have hc := row1 A2.out i (by rw [HL.out]; exact hlt)
      have hb := HB.out i hlt
      generalize hx : L[i]?.getD 0 = x at *
      clear hx
      have C1 := Lib.hid (gfloor_any x w4 hb); have C2 := Lib.hid (rfloor24_any x w4 hb); have C3 := Lib.hid (gceil_any x w4 hb); have C4 := Lib.hid (rceil24_any x w4 hb)
      clear hb
      go_wp2_with fail
      (with_reducible refine (C1.out).mono ?_)
      rintro e w5 ⟨rfl, rfl⟩
      go_wp2_with fail
      (with_reducible refine (C2.out).mono ?_)
      rintro e w5 ⟨rfl, rfl⟩
      go_wp2_with fail
      (with_reducible refine (C3.out).mono ?_)
      rintro e w5 ⟨rfl, rfl⟩
      go_wp2_with fail
      (with_reducible refine (C4.out).mono ?_)
      rintro e w5 ⟨rfl, rfl⟩
      go_wp2_with fail
      go_roundw
      case rel => exact ⟨i + 1, by omega, by go_num, trivial⟩
      case measure => simp [intOf]; omega
    · clear A2 HB HL
      obtain ⟨a0, a1, a2⟩ := cells3 A0.out
      obtain ⟨b0, b1, b2⟩ := cells3 A1.out
      have la := fun (o : Nat) (u : Cls (Pulled w4 (w.heap.size + 2) (w.heap.size + 2))) => Pulled.cell (B := w.heap.size + 2) (p := w.heap.size + 2) (o := o) (x := w4.cell? ⟨w.heap.size, o, none⟩) rfl (block_lt' A0.out) (by omega) u
      have lb := fun (o : Nat) (u : Cls (Pulled w4 (w.heap.size + 2) (w.heap.size + 2))) => Pulled.cell (B := w.heap.size + 2) (p := w.heap.size + 2) (o := o) (x := w4.cell? ⟨w.heap.size + 1, o, none⟩) rfl (block_lt' A1.out) (by omega) u
      have hp4 := HS3.out.lt.2
      go_wp2_with fail
      refine Rg.region (Pulled w4 (w.heap.size + 2) (w.heap.size + 2)) (Pull (w.heap.size + 2)) (fun k => if k = 3 then some (isSome' fun v => ∃ x y z, v = .agg #[.int .i64 x, .int .i64 y, .int .i64 z] ∧ vP x y z = true) else if k = 5 then some (isSome' fun v => ∃ x y z, v = .agg #[.int .i64 x, .int .i64 y, .int .i64 z] ∧ vP x y z = true) else if k = 6 then some (isBlk w4 4 40) else none)
        (fun _ => false) 0 7 (by kernel_rfl) (by kernel_rfl) (by kernel_rfl) (by kernel_rfl) (by kernel_rfl) (by kernel_rfl) (by kernel_rfl) Pull.size (Pulled.start HS3.out) (fun hne => ?_)
      (repeat (refine rLexL_quiet (by rfl) (by rfl) (by rfl) (by rfl) ?_; go_big_quiet_step (fail); refine wpQuiet_nil ?_))
      refine rg_drawF (fun v => ∃ x y z, v = .agg #[.int .i64 x, .int .i64 y, .int .i64 z] ∧ vP x y z = true) 26 #[.pointer (some ⟨w.heap.size + 2, 0, none⟩), .int .i64 50] rfl rfl (fun _ => by go_simp) (fun u hu _ => (posn_any _ u _ 50 hu.2 (by omega) (by omega)).mono fun _ _ h => h.draw) ?_
      rintro _ ⟨c0, c1, c2, rfl, -⟩
      simp only [Act.put, List.setIfInBounds_toArray, List.set_cons_zero, List.set_cons_succ]
      (repeat (refine rLexL_quiet (by rfl) (by rfl) (by rfl) (by rfl) ?_; go_big_quiet_step (fail); refine wpQuiet_nil ?_))
      refine rg_drawF (fun v => ∃ x y z, v = .agg #[.int .i64 x, .int .i64 y, .int .i64 z] ∧ vP x y z = true) 26 #[.pointer (some ⟨w.heap.size + 2, 0, none⟩), .int .i64 5] rfl rfl (fun _ => by go_simp) (fun u hu _ => (posn_any _ u _ 5 hu.2 (by omega) (by omega)).mono fun _ _ h => h.draw) ?_
      rintro _ ⟨d0, d1, d2, rfl, -⟩
      simp only [Act.put, List.setIfInBounds_toArray, List.set_cons_zero, List.set_cons_succ]
      refine rg_litB 4 (flat3 [(ax, ay, az), (bx, by', bz), (c0, c1, c2), (d0, d1, d2)]).toArray 40 rfl rfl rfl (fun _ => by go_simp; rfl) hp4 (fun gb hgb => ?_)
      simp only [Act.put, List.setIfInBounds_toArray, List.set_cons_zero, List.set_cons_succ]
      rintro wz hq hf hD
      have HBL := Lib.hid (show wz.heap[gb]? = some (.cells (flat3 [(ax, ay, az), (bx, by', bz), (c0, c1, c2), (d0, d1, d2)]).toArray 40 (0, 0)) from hf 6)
      have HGQ := Lib.hid (gb_new HG3.out hq.1 (by simp))
      have HLL : Hid ([(ax, ay, az), (bx, by', bz), (c0, c1, c2), (d0, d1, d2)].length = 4) := Lib.hid rfl
      generalize [(ax, ay, az), (bx, by', bz), (c0, c1, c2), (d0, d1, d2)] = LL at *
      clear hf hD hq hne la lb a0 a1 a2 b0 b1 b2 A0 A1 HG3 HS3 hp4
      go_wp2_with fail
      go_loopw [52] (fun a wr => ∃ i : Nat, i ≤ 4 ∧ a = .int .i64 i ∧ wz.grownBy wr none) (fun a _ => 4 - (intOf a).toNat)
      case atStart => exact ⟨0, by omega, rfl, gb_refl _ _⟩
      case round =>
        obtain ⟨i, hi, rfl, hgr⟩ := hrel
        by_cases hlt : i < 4
        · have HBR := Lib.hid (block_kept hgr HBL.out rfl)
          obtain ⟨c0, c1, c2⟩ := row3 HBR.out i (by rw [HLL.out]; exact hlt)
          have hbl := block_lt HBR.out
          generalize hq : LL[i]'(by rw [HLL.out]; exact hlt) = q at *
          obtain ⟨px, py, pz⟩ := q
          have HGR := Lib.hid hgr
          have D0 := Lib.hid (heap_alloc_new wr (.cells #[.int .i64 px, .int .i64 py, .int .i64 pz] 40))
          have D1 := Lib.hid ((heap_alloc_old wr (.cells #[.int .i64 px, .int .i64 py, .int .i64 pz] 40) hbl).trans HBR.out)
          have D2 := Lib.hid (gb_alloc hgr (.cells #[.int .i64 px, .int .i64 py, .int .i64 pz] 40))
          clear hgr hq
          go_wp2_with fail
          generalize wr.alloc (.cells #[.int .i64 px, .int .i64 py, .int .i64 pz] 40) = w5 at *
          generalize wr.heap.size = pb at *
          clear c0 c1 c2
          obtain ⟨e0, e1, e2⟩ := cells3 D0.out
          have l0 := block_lt' D0.out
          have k0 := fun (x : Up w5) => (ever_cell x l0).trans e0
          have k1 := fun (x : Up w5) => (ever_cell x l0).trans e1
          have k2 := fun (x : Up w5) => (ever_cell x l0).trans e2
          (refine wp_region_grown (by kernel_rfl) (by kernel_rfl) ?_; (repeat (go_big_quiet_step (first
            | (go_at_call 62; exact Calls.grown_of (valid_any _ _ _ _))
            | (go_at_call 63; exact Calls.grown_of (rvalid_any _ _ _ _))))); refine wpQuiet_nil ?_; intro wq hq)
          have E0 := Lib.hid (block_kept hq D0.out rfl); have E1 := Lib.hid (block_kept hq D1.out rfl); have E2 := Lib.hid (gb_trans D2.out hq)
          clear hq D0 D1 D2 k0 k1 k2 e0 e1 e2 l0
          go_wp2_with fail
          go_loopw [63] (fun a wr => ∃ j : Nat, j ≤ 4 ∧ a = .int .i64 j ∧ wq.grownBy wr none) (fun a _ => 4 - (intOf a).toNat)
          case atStart => exact ⟨0, by omega, rfl, gb_refl _ _⟩
          case round =>
            obtain ⟨j, hj, rfl, hgr⟩ := hrel
            by_cases hlt2 : j < 4
            · have HBR := Lib.hid (block_kept hgr E1.out rfl); have HPR := Lib.hid (block_kept hgr E0.out rfl)
              obtain ⟨c0, c1, c2⟩ := row3 HBR.out j (by rw [HLL.out]; exact hlt2)
              have hbl := block_lt HBR.out; have hpl := block_lt HPR.out
              generalize hq : LL[j]'(by rw [HLL.out]; exact hlt2) = q at *
              obtain ⟨qx, qy, qz⟩ := q
              have HGR := Lib.hid hgr
              have D0 := Lib.hid (heap_alloc_new wr (.cells #[.int .i64 qx, .int .i64 qy, .int .i64 qz] 40))
              have D1 := Lib.hid ((heap_alloc_old wr (.cells #[.int .i64 qx, .int .i64 qy, .int .i64 qz] 40) hpl).trans HPR.out)
              have D2 := Lib.hid (gb_alloc hgr (.cells #[.int .i64 qx, .int .i64 qy, .int .i64 qz] 40))
              clear hgr hq
              go_wp2_with fail
              generalize wr.alloc (.cells #[.int .i64 qx, .int .i64 qy, .int .i64 qz] 40) = w6 at *
              generalize wr.heap.size = qb at *
              clear c0 c1 c2
              obtain ⟨e0, e1, e2⟩ := cells3 D0.out
              obtain ⟨f0, f1, f2⟩ := cells3 D1.out
              have l0 := block_lt' D0.out
              have l1 := block_lt' D1.out
              have k0 := fun (x : Up w6) => (ever_cell x l0).trans e0
              have k1 := fun (x : Up w6) => (ever_cell x l0).trans e1
              have k2 := fun (x : Up w6) => (ever_cell x l0).trans e2
              have m0 := fun (x : Up w6) => (ever_cell x l1).trans f0
              have m1 := fun (x : Up w6) => (ever_cell x l1).trans f1
              have m2 := fun (x : Up w6) => (ever_cell x l1).trans f2
              (refine wp_region_grown (by kernel_rfl) (by kernel_rfl) ?_; (repeat (go_big_quiet_step (first
                | (go_at_call 64; exact Calls.grown_of (compare_any _ _ _ _ _ _ _))
                | (go_at_call 65; exact Calls.grown_of (rcompare_any _ _ _ _ _ _ _))
                | (go_at_call 27; exact Calls.grown_of (square_any _ _ _ _ _ _ _))
                | (go_at_call 66; exact Calls.grown_of (rsquare_any _ _ _ _ _ _ _))))); refine wpQuiet_nil ?_; intro wq hq)
              have HGN := Lib.hid (gb_trans D2.out hq)
              clear k0 k1 k2 m0 m1 m2 e0 e1 e2 f0 f1 f2 hq D0 D1 D2
              go_wp2_with fail
              go_roundw
              case rel => exact ⟨j + 1, by omega, by go_num, HGN.out⟩
              case measure => simp [intOf]; omega
            · obtain rfl : j = 4 := by omega
              have HGN := Lib.hid (gb_trans E2.out hgr)
              go_wp2
              go_roundw
              case rel => exact ⟨i + 1, by omega, by go_num, HGN.out⟩
              case measure => simp [intOf]; omega
        · obtain rfl : i = 4 := by omega
          go_wp2_with fail
          (with_reducible refine (awake24_any _).mono ?_)
          rintro e w5 ⟨rfl, hg5⟩
          have HG := Lib.hid (gb_trans HGQ.out (gb_trans hgr hg5))
          go_wp2
          go_ret
          exact ⟨rfl, gb_end HG.out⟩
end Go.Proofs.Ytkmikiljpajaaaa
