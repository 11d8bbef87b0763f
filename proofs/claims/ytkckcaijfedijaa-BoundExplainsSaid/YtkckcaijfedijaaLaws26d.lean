/- The walk of BoundExplains. Written by a program (walkgen.py). -/
import Derived.Test.YtkckcaijfedijaaAwake26
import Derived.Test.YtkckcaijfedijaaBndP
import Derived.Test.YtkckcaijfedijaaMem
import Derived.Test.YtkckcaijfedijaaRgPos
import Derived.Test.YtkckcaijfedijaaOne
import Derived.Test.YtkckcaijfedijaaPhase
import Derived.Test.YtkckcaijfedijaaRgMore
namespace Go.Proofs.Ytkckcaijfedijaa
set_option linter.all false
open Go.RowKit Rg

set_option maxRecDepth 100000 in
set_option maxHeartbeats 2000000 in
theorem boundExplains_walk (w : World) (v : Value) (xs : List Int) (hs : Sl w v xs) (_hx : ∀ x ∈ xs, -9223372036854775808 ≤ x ∧ x ≤ 9223372036854775807) :
    Calls Try.prog 5 #[v] w fun e w' => e = .returned (.bool true) ∧ Below w.heap.size w w' := by
  go_enter Try.func5, Try.ntmps5
  go_wp2_with fail
  (with_reducible refine (new_any w v xs hs).mono ?_)
  rintro e w1 ⟨rfl, hS, hg⟩
  have S1 := Lib.hid hS; have M1 := Lib.hid (Mem.nil (p := w.heap.size) hg); clear hg hs hS
  go_wp2_with fail
  (with_reducible refine (table_any w.heap.size w1 w.heap.size S1.out).mono ?_)
  rintro e w2 ⟨step, vl, vh, ls, hs, rfl, hT, hst, hre, hln, ol, oh, -, hS, hg⟩
  have hp1 := S1.out.lt.2
  have S2 := Lib.hid hS; have M2 := Lib.hid (((M1.out.draw hg (by omega)).slice (Sl_of_owns oh rfl) (owns_sl_apart oh hp1)).slice (Sl_of_owns ol rfl) (owns_sl_apart ol hp1))
  have HT := Lib.hid hT; have HR := Lib.hid (reach_small hT.1 hst hre hln)
  obtain ⟨la, ln, lc, rfl⟩ := sl_slice (Sl_of_owns ol rfl); obtain ⟨ha, hn, hc, rfl⟩ := sl_slice (Sl_of_owns oh rfl)
  clear hg hS S1 M1 hp1 ol oh hT hst hre hln
  go_wp2_with fail
  (with_reducible refine (box_any w.heap.size w2 w.heap.size 60 40 S2.out (by omega) (by omega) (by omega) (by omega)).mono ?_)
  rintro e w3 ⟨x0, y0, z0, x1, y1, z1, rfl, hB, hS, hg⟩
  have HB := Lib.hid hB; clear hB
  have S3 := Lib.hid hS; have M3 := Lib.hid (M2.out.draw hg (by omega)); clear hg hS S2 M2
  go_wp2_with fail
  (with_reducible refine (phase_any w.heap.size w3 w.heap.size S3.out).mono ?_)
  rintro e w4 ⟨px, py, pz, e, l, n, rfl, hH, hS, hg⟩
  have HH := Lib.hid hH; clear hH
  have S4 := Lib.hid hS; have M4 := Lib.hid (M3.out.draw hg (by omega)); clear hg hS S3 M3
  go_wp2_with fail
  refine calls_name (fun w5 hw => ?_)
  have hp := S4.out.lt.2
  have M5 := Lib.hid (show Mem w (w.heap.size) _ _ w5 from by rw [hw]; exact (((M4.out).alloc' (w4.heap.size) #[.int .i64 step, .slice la ln lc, .slice ha hn hc] 24 (by first | omega | (simp; done) | (simp <;> omega)) (by first | rfl | simp)).alloc' (w4.heap.size + 1) #[.int .i64 x0, .int .i64 y0, .int .i64 z0, .int .i64 x1, .int .i64 y1, .int .i64 z1] 28 (by first | omega | (simp; done) | (simp <;> omega)) (by first | rfl | simp)).alloc' (w4.heap.size + 1 + 1) #[.int .i64 px, .int .i64 py, .int .i64 pz, .int .i64 e, .int .i64 l, .int .i64 n] 30 (by first | omega | (simp; done) | (simp <;> omega)) (by first | rfl | simp))
  have S5 := Lib.hid (show Src w.heap.size w5 w.heap.size from by rw [hw]; exact S4.out.later (row := none) (gb_alloc (gb_alloc (gb_alloc (gb_refl _ _) _) _) _) (by simp))
  clear hw S4 M4 hp
  have NR := Lib.hid (near_mk HT.out HR.out.1 HB.out HH.out.1 (by omega) (by omega) (by omega))
  have PHP : Hid (phP px py pz e l n = true) := Lib.hid (by have h := HH.out; exact phP_iff.2 ⟨place_ok h.1 (by omega), by have := h.2; omega, by have := h.2; omega, by have := h.2; omega, by have := h.2; omega, by have := h.2; omega⟩)
  have hB := HB.out
  unfold boxIn placeIn at hB
  generalize w4.heap.size = n4 at *
  obtain ⟨m1_0, m1_1, m1_2, m1_3, m1_4, m1_5⟩ := six (M5.out.at 1 rfl)
  (with_reducible refine (point_any w.heap.size w5 w.heap.size x0 y0 z0 x1 y1 z1 S5.out (by omega) (by omega) (by omega)).mono ?_)
  rintro r w6 ⟨qx, qy, qz, rfl, hq, hS, hg⟩
  have hp6 := hS.lt.2
  have M7 := Lib.hid ((M5.out.draw hg (by omega)).alloc' (w6.heap.size) #[.int .i64 qx, .int .i64 qy, .int .i64 qz] 26 hp6 rfl)
  have S7 := Lib.hid (hS.later (row := none) (gb_alloc (gb_refl w6 none) (.cells #[.int .i64 qx, .int .i64 qy, .int .i64 qz] 26)) (by simp))
  clear m1_0 m1_1 m1_2 m1_3 m1_4 m1_5 hB hg hS S5 M5
  have PQ := NR.out.point (q := qx) (r := qy) (s := qz) ⟨hq.1, hq.2.1⟩ ⟨hq.2.2.1, hq.2.2.2.1⟩ ⟨hq.2.2.2.2.1, hq.2.2.2.2.2⟩
  have OQ := NR.out.one (q := qx) (r := qy) (s := qz) ⟨hq.1, hq.2.1⟩ ⟨hq.2.2.1, hq.2.2.2.1⟩ ⟨hq.2.2.2.2.1, hq.2.2.2.2.2⟩
  obtain ⟨-, hce, b0, b1, hI⟩ := PQ
  have hO := OQ.zone PHP.out
  rw [(one_near qx qy qz px py pz).1, (one_near qx qy qz px py pz).2] at hO
  have hZ := NR.out.zone PHP.out
  have tb := time_bounds HT.out (sqD_nonneg qx qy qz px py pz) (by have := (near_point (px := px) (py := py) (pz := pz) (x0 := x0) (x1 := x1) (y0 := y0) (y1 := y1) (z0 := z0) (z1 := z1) (q := qx) (r := qy) (s := qz) ⟨hq.1, hq.2.1⟩ ⟨hq.2.2.1, hq.2.2.2.1⟩ ⟨hq.2.2.2.2.1, hq.2.2.2.2.2⟩).2; have := (far_small NR.out.vb NR.out.vp).2.2; omega) hce
  clear OQ NR PHP hq hce
  generalize loA step ls (floorI (sqD qx qy qz px py pz)) = tl at *
  generalize hiA step hs (ceilI (sqD qx qy qz px py pz)) = th at *
  generalize loA step ls (floorI (nearD x0 y0 z0 x1 y1 z1 px py pz)) = lo at *
  generalize hiA step hs (ceilI (farD x0 y0 z0 x1 y1 z1 px py pz)) = hi at *
  have IV := Lib.hid hI; have OV := Lib.hid hO; have ZV := Lib.hid hZ; clear hI hO hZ
  obtain ⟨m0_0, m0_1, m0_2⟩ := cells3 (M7.out.at 0 rfl)
  obtain ⟨m1_0, m1_1, m1_2, m1_3, m1_4, m1_5⟩ := six (M7.out.at 1 rfl)
  obtain ⟨m3_0, m3_1, m3_2⟩ := cells3 (M7.out.at 3 rfl)
  have l1 := M7.out.lt 1 rfl
  go_wp2_with fail
  generalize w6.alloc (.cells #[.int .i64 qx, .int .i64 qy, .int .i64 qz] 26) = w7 at *
  generalize w6.heap.size = n6 at *
  (with_reducible refine (interval_any step _ _ ls hs _ _ _ _ _ _ _ (M7.out.sl 0 rfl) (M7.out.sl 1 rfl)).mono ?_)
  rintro r w8 ⟨rfl, hg⟩
  rw [IV.out]
  have M8 := Lib.hid (M7.out.later hg); have S8 := Lib.hid (S7.out.later hg (by simp))
  clear hg M7 S7 m0_0 m0_1 m0_2 m1_0 m1_1 m1_2 m1_3 m1_4 m1_5 m3_0 m3_1 m3_2 l1 IV
  obtain ⟨m0_0, m0_1, m0_2⟩ := cells3 (M8.out.at 0 rfl)
  obtain ⟨m1_0, m1_1, m1_2, m1_3, m1_4, m1_5⟩ := six (M8.out.at 1 rfl)
  obtain ⟨m3_0, m3_1, m3_2⟩ := cells3 (M8.out.at 3 rfl)
  have u0 := M8.out.made 0 rfl; have u1 := M8.out.made 1 rfl; have u3 := M8.out.made 3 rfl
  go_wp2_with fail
  refine Rg.region (Made w8) (MakesS 9) (fun k => if k = 2 then some (isV (.agg #[.int .i64 qx, .int .i64 qy, .int .i64 qz, .int .i64 qx, .int .i64 qy, .int .i64 qz])) else if k = 4 then some (isV (.tuple #[.agg #[.int .i64 (e - th), .int .i64 (l - tl)], .int .i64 0])) else if k = 8 then some (isVar w8 2 32) else if k = 9 then some (isRow #[.int .i64 (e - th), .int .i64 (l - tl)] 32) else none)
    (fun k => k == 8) 0 10 (by kernel_rfl) (by kernel_rfl) (by kernel_rfl) (by kernel_rfl) (by kernel_rfl) (by kernel_rfl) (by kernel_rfl) (MakesS.size 9) (Made.start w8) (fun hne => ?_)
  (repeat (refine rLexL_quiet (by rfl) (by rfl) (by rfl) (by rfl) ?_; go_big_quiet_step (fail); refine wpQuiet_nil ?_))
  refine rg_fixG Made.grown (MakesS.none (by decide)) (.agg #[.int .i64 qx, .int .i64 qy, .int .i64 qz, .int .i64 qx, .int .i64 qy, .int .i64 qz]) 35 #[.agg #[.int .i64 qx, .int .i64 qy, .int .i64 qz]] rfl rfl rfl (fun _ => by go_simp) (fun u hu => one_any _ _ _ u) ?_
  simp only [Act.put, List.setIfInBounds_toArray, List.set_cons_zero, List.set_cons_succ]
  (repeat (refine rLexL_quiet (by rfl) (by rfl) (by rfl) (by rfl) ?_; go_big_quiet_step (fail); refine wpQuiet_nil ?_))
  refine rg_fixG Made.grown (MakesS.none (by decide)) (.tuple #[.agg #[.int .i64 (e - th), .int .i64 (l - tl)], .int .i64 0]) 26 #[.agg #[.int .i64 step, .slice la ln lc, .slice ha hn hc], .agg #[.int .i64 qx, .int .i64 qy, .int .i64 qz, .int .i64 qx, .int .i64 qy, .int .i64 qz], .agg #[.int .i64 px, .int .i64 py, .int .i64 pz, .int .i64 e, .int .i64 l, .int .i64 n]] rfl rfl rfl (fun _ => by go_simp) (fun u hu => by have h := zone_any step _ _ ls hs qx qy qz qx qy qz px py pz e l n u ((M8.out.later hu).sl 0 rfl) ((M8.out.later hu).sl 1 rfl); rwa [OV.out] at h) ?_
  simp only [Act.put, List.setIfInBounds_toArray, List.set_cons_zero, List.set_cons_succ]
  (repeat (refine rLexL_quiet (by rfl) (by rfl) (by rfl) (by rfl) ?_; go_big_quiet_step (fail); refine wpQuiet_nil ?_))
  refine rg_var #[.int .i64 0, .int .i64 0] 32 (by decide) rfl rfl (fun _ => by go_simp) (fun za hza => ?_)
  simp only [Act.put, List.setIfInBounds_toArray, List.set_cons_zero, List.set_cons_succ]
  refine rg_storeRow za #[.int .i64 (e - th), .int .i64 (l - tl)] 32 _ _ _ 8 ⟨⟨8, .data⟩, by simp, rfl, rfl⟩ rfl rfl rfl rfl (by kernel_rfl) (by simp [Value.oneCell']) hza rfl rfl rfl ?_ rfl
  simp only [Act.put, List.setIfInBounds_toArray, List.set_cons_zero, List.set_cons_succ]
  rintro wq hq hf hD
  have hz0 := isRow.out (v := undef) (hf 9)
  have M9 := Lib.hid ((M8.out.later hq).more hz0 (by have := S8.out.lt.2; omega))
  have S9 := Lib.hid (S8.out.later hq (by simp))
  generalize wq = w9 at *
  clear hf hD hz0 hq hne u0 u1 u3 m0_0 m0_1 m0_2 m1_0 m1_1 m1_2 m1_3 m1_4 m1_5 m3_0 m3_1 m3_2 M8 S8 OV hza
  obtain ⟨m2_0, m2_1, m2_2, m2_3, m2_4, m2_5⟩ := six (M9.out.at 2 rfl)
  obtain ⟨m3_0, m3_1, m3_2, m3_3, m3_4, m3_5⟩ := six (M9.out.at 3 rfl)
  obtain ⟨m4_0, m4_1, m4_2⟩ := cells3 (M9.out.at 4 rfl)
  go_wp2_with fail
  (with_reducible refine (zone_any step _ _ ls hs _ _ _ _ _ _ _ _ _ _ _ _ _ (M9.out.sl 0 rfl) (M9.out.sl 1 rfl)).mono ?_)
  rintro r w10 ⟨rfl, hg⟩
  rw [ZV.out]
  have hp10 := Nat.lt_of_lt_of_le S9.out.lt.2 hg.size
  have M11 := Lib.hid (((M9.out.later hg).alloc' w10.heap.size #[.int .i64 (e - hi), .int .i64 (l - lo)] 32 hp10 rfl))
  have S11 := Lib.hid ((S9.out.later hg (by simp)).later (row := none) (gb_alloc (gb_refl w10 none) (.cells #[.int .i64 (e - hi), .int .i64 (l - lo)] 32)) (by simp))
  clear hg m2_0 m2_1 m2_2 m2_3 m2_4 m2_5 m3_0 m3_1 m3_2 m3_3 m3_4 m3_5 m4_0 m4_1 m4_2 M9 S9 ZV hp10
  go_wp2_with fail
  generalize w10.alloc (.cells #[.int .i64 (e - hi), .int .i64 (l - lo)] 32) = w11 at *
  generalize w10.heap.size = zb at *
  have hh := HH.out
  unfold phaseIn at hh
  obtain ⟨-, q1, q2, q3, q4, -⟩ := hh
  obtain ⟨m3_0, m3_1, m3_2, m3_3, m3_4, m3_5⟩ := six (M11.out.at 3 rfl)
  have u3 := M11.out.pulled (B := w.heap.size) 3 rfl
  have hp11 := S11.out.lt.2
  have wa : IntKind.i64.wrap (e - th - 1) = e - th - 1 := by rw [IntKind.wrap_i64]; omega
  have wb : IntKind.i64.wrap (l - tl + 1) = l - tl + 1 := by rw [IntKind.wrap_i64]; omega
  refine Rg.region (Pulled w11 w.heap.size w.heap.size) (Pull w.heap.size) (fun k => if k = 21 then some (isInt fun x => 0 ≤ x ∧ x < 900) else if k = 23 then some (isBlk w11 5 3) else none) (fun _ => false) 0 26 (by kernel_rfl) (by kernel_rfl) (by kernel_rfl) (by kernel_rfl) (by kernel_rfl) (by kernel_rfl) (by kernel_rfl) Pull.size (Pulled.start S11.out) (fun hne => ?_)
  (repeat (refine rLexL_quiet (by rfl) (by rfl) (by rfl) (by rfl) ?_; go_big_quiet_step (fail); refine wpQuiet_nil ?_))
  refine rg_draw (fun x => 0 ≤ x ∧ x < 900) 30 #[.pointer (some ⟨w.heap.size, 0, none⟩), .int .i64 900] rfl rfl (fun _ => by go_simp) (fun u hu _ => n_any _ u _ 900 hu.2 (by omega) (by omega)) (fun k hk => ?_)
  simp only [Act.put, List.setIfInBounds_toArray, List.set_cons_zero, List.set_cons_succ]
  have wc : IntKind.i64.wrap (e - k) = e - k := by rw [IntKind.wrap_i64]; omega
  (repeat (refine rLexL_quiet (by rfl) (by rfl) (by rfl) (by rfl) ?_; go_big_quiet_step (fail); refine wpQuiet_nil ?_))
  refine rg_litB 5 #[.int .i64 (e - th - 1), .int .i64 (e - th), .int .i64 (l - tl), .int .i64 (l - tl + 1), .int .i64 (e - k)] 3 rfl rfl rfl (fun _ => by go_simp) hp11 (fun gb hgb => ?_)
  simp only [Act.put, List.setIfInBounds_toArray, List.set_cons_zero, List.set_cons_succ]
  refine rLexL_val (.int .i64 5) (by rfl) (by rfl) (by rfl) (by rfl) (fun _ => by go_simp) ?_
  simp only [Act.put, List.setIfInBounds_toArray, List.set_cons_zero, List.set_cons_succ]
  (repeat (refine rLexL_quiet (by rfl) (by rfl) (by rfl) (by rfl) ?_; go_big_quiet_step (fail); refine wpQuiet_nil ?_))
  rintro wq hq hf hD
  have hbl : wq.heap[gb]? = some (.cells (([e - th - 1, e - th, l - tl, l - tl + 1, e - k] : List Int).map (Value.int .i64)).toArray 3 (0, 0)) := hf 23
  refine wpList_nil ?_
  have M12 := Lib.hid ((M11.out.draw hq.1 (Nat.le_refl _)).more hbl (by have := hp11; omega))
  clear hf hD hbl hq hne u3 m3_0 m3_1 m3_2 m3_3 m3_4 m3_5 wa wb wc M11 S11 hp11
  have HBD : Hid (∀ i : Nat, i < 5 → -3000000000000 ≤ ([e - th - 1, e - th, l - tl, l - tl + 1, e - k] : List Int)[i]?.getD 0 ∧ ([e - th - 1, e - th, l - tl, l - tl + 1, e - k] : List Int)[i]?.getD 0 ≤ 3000000000000) := Lib.hid (by
    intro i hi
    match i, hi with
    | 0, _ => show _ ≤ e - th - 1 ∧ e - th - 1 ≤ _; omega
    | 1, _ => show _ ≤ e - th ∧ e - th ≤ _; omega
    | 2, _ => show _ ≤ l - tl ∧ l - tl ≤ _; omega
    | 3, _ => show _ ≤ l - tl + 1 ∧ l - tl + 1 ≤ _; omega
    | 4, _ => show _ ≤ e - k ∧ e - k ≤ _; omega)
  have HL5 : Hid (([e - th - 1, e - th, l - tl, l - tl + 1, e - k] : List Int).length = 5) := Lib.hid rfl
  generalize ([e - th - 1, e - th, l - tl, l - tl + 1, e - k] : List Int) = L at *
  go_wp2_with fail
  go_loopw [88] (fun a wr => ∃ i : Nat, i ≤ 5 ∧ a = .int .i64 i ∧ wr = wq) (fun a _ => 5 - (intOf a).toNat)
  case atStart => exact ⟨0, by omega, rfl, rfl⟩
  case round =>
    obtain ⟨i, hi, rfl, hw⟩ := hrel
    replace hw := hw.symm
    subst hw
    by_cases hlt : i < 5
    · have hc := row1 (M12.out.at 0 rfl) i (by rw [HL5.out]; exact hlt)
      obtain ⟨bo1, bo2⟩ := HBD.out i hlt
      generalize hx : L[i]?.getD 0 = o at *
      clear hx
      obtain ⟨m1_0, m1_1⟩ := cells2 (M12.out.at 1 rfl)
      obtain ⟨m2_0, m2_1⟩ := cells2 (M12.out.at 2 rfl)
      obtain ⟨m4_0, m4_1, m4_2, m4_3, m4_4, m4_5⟩ := six (M12.out.at 4 rfl)
      have ws1 : IntKind.i64.wrap (o + tl) = o + tl := by rw [IntKind.wrap_i64]; omega
      have ws2 : IntKind.i64.wrap (o + th) = o + th := by rw [IntKind.wrap_i64]; omega
      rcases Int.lt_or_le l (o + tl) with h1 | h1 <;> rcases Int.lt_or_le (o + th) e with h2 | h2
      all_goals
        go_wp2_with fail
        go_roundw
        case rel => exact ⟨i + 1, by omega, by go_num, trivial⟩
        case measure => simp [intOf]; omega
    · go_wp2_with fail
      (with_reducible refine (awake26_any _).mono ?_)
      rintro r w13 ⟨rfl, hg⟩
      have HGE := Lib.hid (gb_trans M12.out.gr hg)
      go_wp2_with fail
      go_ret
      exact ⟨rfl, gb_end HGE.out⟩
end Go.Proofs.Ytkckcaijfedijaa
