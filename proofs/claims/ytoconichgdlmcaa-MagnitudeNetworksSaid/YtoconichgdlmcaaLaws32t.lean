/- The walk of MagnitudeTens. Written by gen_law32t.py. -/
import Derived.Test.YtoconichgdlmcaaScl
namespace Go.Proofs.Ytoconichgdlmcaa
set_option linter.all false
open Go.RowKit Rg

/-- A slice of numbers in memory, apart from block q. -/
def SlQ (q : Nat) (u : World) (v : Value) (xs : List Int) : Prop := Sl u v xs ∧ ∀ b off len cap, v = .slice (some ⟨b, off, none⟩) len cap → b ≠ q
theorem SlQ.draw {q : Nat} {u u' : World} {v : Value} {xs : List Int} (h : SlQ q u v xs) (hg : u.grownBy u' (some q)) : SlQ q u' v xs := ⟨h.1.later hg (fun b off len cap e _ => by have := h.2 _ _ _ _ e; simp; omega), h.2⟩
theorem cells1 {w : World} {b : Nat} {x : Value} {t : TypeId} {fr : Nat × Nat} (h : w.heap[b]? = some (.cells #[x] t fr)) : w.cell? ⟨b, 0, none⟩ = some x := by simp [World.cell?, h]
theorem near32_any (p q : Int) (w : World) (h : -4 ≤ p - q ∧ p - q ≤ 4) :
    Calls Try.prog 18 #[.int .i64 p, .int .i64 q] w fun e w' => e = .returned (.bool true) ∧ w = w' := by
  have hw : IntKind.i64.wrap (p - q) = p - q := by rw [IntKind.wrap_i64]; omega
  have h1 : decide (p - q ≥ -4) = true := decide_eq_true (by omega)
  have h2 : decide (p - q ≤ 4) = true := decide_eq_true (by omega)
  go_enter Try.func18, Try.ntmps18
  go_wp2
  go_ret
  exact ⟨rfl, rfl⟩
theorem btw0 {step : Int} {ls hs : List Int} (ht : tOk step ls hs) (h : 0 ≤ reachS step ls) : btwE step ls hs 0 0 = 0 := by
  have := btwE_ok (near := 0 * 0) (far := 0 * 0) ht (sq_nonneg (Int.le_refl 0)) (Int.le_refl _) (by rw [ceilI_sq (by omega)]; exact h)
  rw [Int.mul_zero] at this
  exact this
theorem Sca.tok {s : Sca} (h : s.ok = true) : tOk s.step s.ls s.hs := by
  simp only [Sca.ok, Bool.and_eq_true, decide_eq_true_eq] at h
  have := h.1.1; unfold tE at this
  by_cases ht : tOk s.step s.ls s.hs
  · exact ht
  · rw [if_neg ht] at this; omega
theorem stnV_ok {s : Sca} {l : List Stg} {a near far : Int} (h : stnE s l a near far = 0) : stnV s l a near far = .tuple #[.agg #[.int .i64 (stnL s l a near far), .int .i64 (stnH s l a near far)], .int .i64 0] := by
  unfold stnV; rw [h]

set_option maxRecDepth 100000 in
set_option maxHeartbeats 20000000 in
theorem magnitudeTens_walk (w : World) (v : Value) (xs : List Int) (hs : Sl w v xs) (_hx : ∀ x ∈ xs, -9223372036854775808 ≤ x ∧ x ≤ 9223372036854775807) :
    Calls Try.prog 5 #[v] w fun e w' => e = .returned (.bool true) ∧ Below w.heap.size w w' := by
  have hv : v.oneCell' = true := by obtain ⟨va, vn, vc, rfl⟩ := sl_slice hs; rfl
  go_enter Try.func5, Try.ntmps5
  go_wp2_with fail
  (with_reducible refine (new_any w v xs hs).mono ?_)
  rintro e w1 ⟨rfl, hS, hg⟩
  have hq2 : w.heap.size ≤ w.heap.size := Nat.le_refl _
  have S1 := Lib.hid hS
  have M1 := Lib.hid (Mem.nil (w0 := w) (p := w.heap.size) hg)
  clear hS hg hs _hx
  generalize hq : w.heap.size = q at S1 M1 hq2 ⊢
  have hq2 : w.heap.size ≤ q := by omega
  clear hq
  go_wp2_with fail
  have hq3 := S1.out.lt.2
  (with_reducible refine (scale_any q w1 q S1.out hq3).mono ?_)
  rintro e w2 ⟨s, vl, vh, rfl, hok, h400, s1, s2, ap1, ap2, hS, hg⟩
  have L2 := Lib.hid (show SlQ q w2 vl s.ls from ⟨s1, fun b off len cap e => by have := ap1 b off len cap e; omega⟩)
  have H2 := Lib.hid (show SlQ q w2 vh s.hs from ⟨s2, fun b off len cap e => by have := ap2 b off len cap e; omega⟩)
  obtain ⟨la, lc, rfl⟩ := s1.shape; obtain ⟨ha, hc, rfl⟩ := s2.shape
  clear s1 s2 ap1 ap2
  have M2 := Lib.hid (M1.out.draw hg hq2); have S2 := Lib.hid (hS)
  clear hg hS M1 S1
  have TP := Lib.hid (fun (A D : Nat) h1 h2 h3 h4 => tens_plain s A D _ _ hok h1 h2 h3 h4 (btw0 (Sca.tok hok) (by omega)) rfl rfl)
  have ST := Lib.hid (fun (L : List Stv) (v : Value) (a : Int) (u : World) (h1 : SlQ q u (.slice la s.ls.length lc) s.ls) (h2 : SlQ q u (.slice ha s.hs.length hc) s.hs) (h3 : StIn u v L) => station_any s _ _ v L a 0 0 u h1.1 h2.1 h3 (by omega))
  have NIL := Lib.hid (fun (u : World) => (show StIn u (.slice none 0 0) [] from ⟨⟨rfl, .inl ⟨rfl, _, _, rfl⟩⟩, by simp⟩))
  clear hok h400 hq3
  generalize s.ls.length = ln at *
  generalize s.hs.length = hn at *
  generalize hsv : s.val (.slice la ln lc) (.slice ha hn hc) = sv at *
  obtain ⟨step, ls, hs, num, den⟩ := s
  subst hsv
  simp only [Sca.val] at ST ⊢
  have hp_ := S2.out.lt.2
  have ha_ : w2.grownBy (w2.alloc (.cells #[.int .i64 step, .slice la ln lc, .slice ha hn hc, .int .i64 num, .int .i64 den] 39)) none := gb_alloc (gb_refl _ _) _
  have hb_ := heap_alloc_new w2 (.cells #[.int .i64 step, .slice la ln lc, .slice ha hn hc, .int .i64 num, .int .i64 den] 39)
  have M3 := Lib.hid (M2.out.later ha_); have S3 := Lib.hid (S2.out.later (row := none) ha_ (by simp)); have L3 := Lib.hid (L2.out.draw (gb_none ha_)); have H3 := Lib.hid (H2.out.draw (gb_none ha_))
  have M3 := Lib.hid (M3.out.more hb_ (by omega))
  clear hp_ ha_ hb_ M2 S2 L2 H2
  go_wp2_with fail
  generalize w2.alloc (.cells #[.int .i64 step, .slice la ln lc, .slice ha hn hc, .int .i64 num, .int .i64 den] 39) = w3 at *
  generalize w2.heap.size = xb at *
  (with_reducible refine (n_any q w3 q 1000000 S3.out (by omega) (by omega)).mono ?_)
  rintro r w4 ⟨ax, rfl, hax, hS, hg⟩
  have M4 := Lib.hid (M3.out.draw hg hq2); have S4 := Lib.hid (hS); have L4 := Lib.hid (L3.out.draw hg); have H4 := Lib.hid (H3.out.draw hg)
  clear hg hS M3 S3 L3 H3
  obtain ⟨A, hA⟩ : ∃ A : Nat, 1 + ax = A := ⟨(1 + ax).toNat, by omega⟩
  have hwa : IntKind.i64.wrap (1 + ax) = (A : Int) := by rw [IntKind.wrap_i64]; omega
  have HA : Hid (1 ≤ A ∧ A ≤ 1000000) := Lib.hid (by omega)
  clear hA hax
  go_wp2_with fail
  (with_reducible refine (n_any q w4 q 100 S4.out (by omega) (by omega)).mono ?_)
  rintro r w5 ⟨dx, rfl, hdx, hS, hg⟩
  have M5 := Lib.hid (M4.out.draw hg hq2); have S5 := Lib.hid (hS); have L5 := Lib.hid (L4.out.draw hg); have H5 := Lib.hid (H4.out.draw hg)
  clear hg hS M4 S4 L4 H4
  obtain ⟨D, hD⟩ : ∃ D : Nat, 1 + dx = D := ⟨(1 + dx).toNat, by omega⟩
  have hwd : IntKind.i64.wrap (1 + dx) = (D : Int) := by rw [IntKind.wrap_i64]; omega
  have HD : Hid (1 ≤ D ∧ D ≤ 100) := Lib.hid (by omega)
  clear hD hdx
  obtain ⟨⟨e1, e2, e3, e4⟩, t1, t2, t3, t4⟩ := TP.out A D HA.out.1 HA.out.2 HD.out.1 HD.out.2
  have V1 := stnV_ok e1; have V2 := stnV_ok e2; have V3 := stnV_ok e3; have V4 := stnV_ok e4
  have ST1 := Lib.hid (ST.out [] (.slice none 0 0) A); have ST2 := Lib.hid (ST.out [] (.slice none 0 0) (10 * (A : Int))); have ST4 := Lib.hid (ST.out [] (.slice none 0 0) ((A : Int) * D))
  have ST3 := Lib.hid (fun (b c : Nat) => ST.out [⟨⟨0, 1, 0, 0, D, 0, 0, [], 0, 0⟩, .slice none 0 0⟩] (.slice (some ⟨b, 0, none⟩) 1 1) A)
  simp only [List.map_nil, List.map_cons, V1, V2, V3, V4] at ST1 ST2 ST3 ST4
  clear V1 V2 V3 V4 e1 e2 e3 e4 TP ST
  generalize stnL ⟨step, ls, hs, num, den⟩ [] A 0 0 = m0 at *
  generalize stnH ⟨step, ls, hs, num, den⟩ [] A 0 0 = m1 at *
  generalize stnL ⟨step, ls, hs, num, den⟩ [] (10 * (A : Int)) 0 0 = n0 at *
  generalize stnH ⟨step, ls, hs, num, den⟩ [] (10 * (A : Int)) 0 0 = n1 at *
  generalize stnL ⟨step, ls, hs, num, den⟩ [⟨0, 1, 0, 0, D, 0, 0, [], 0, 0⟩] A 0 0 = u0 at *
  generalize stnH ⟨step, ls, hs, num, den⟩ [⟨0, 1, 0, 0, D, 0, 0, [], 0, 0⟩] A 0 0 = u1 at *
  generalize stnL ⟨step, ls, hs, num, den⟩ [] ((A : Int) * D) 0 0 = x0 at *
  generalize stnH ⟨step, ls, hs, num, den⟩ [] ((A : Int) * D) 0 0 = x1 at *
  have HAD : Hid (A * D ≤ 1000000 * 100) := Lib.hid (Nat.mul_le_mul HA.out.2 HD.out.2)
  have hw10 : IntKind.i64.wrap (10 * (A : Int)) = 10 * (A : Int) := by have := HA.out; rw [IntKind.wrap_i64]; omega
  have hwAD : IntKind.i64.wrap ((A : Int) * D) = (A : Int) * D := by
    have e : (A : Int) * D = ((A * D : Nat) : Int) := by simp
    have := HAD.out
    rw [e, IntKind.wrap_i64]; omega
  have T1 := Lib.hid t1; have T2 := Lib.hid t2; have T3 := Lib.hid t3; have T4 := Lib.hid t4
  clear t1 t2 t3 t4 HAD
  obtain ⟨x0_, x1_, x2_, x3_, x4_⟩ := cells5 (M5.out.at 0 rfl)
  go_wp2_with fail
  (with_reducible refine (ST1.out w5 L5.out H5.out (NIL.out _)).mono ?_)
  rintro r w6 ⟨rfl, hg⟩
  clear x0_ x1_ x2_ x3_ x4_ hwa hwd
  have M6 := Lib.hid (M5.out.later hg); have S6 := Lib.hid (S5.out.later (row := none) hg (by simp)); have L6 := Lib.hid (L5.out.draw (gb_none hg)); have H6 := Lib.hid (H5.out.draw (gb_none hg))
  clear hg M5 S5 L5 H5
  have hp_ := S6.out.lt.2
  have ha_ : w6.grownBy (w6.alloc (.cells #[.int .i64 m0, .int .i64 m1] 28)) none := gb_alloc (gb_refl _ _) _
  have hb_ := heap_alloc_new w6 (.cells #[.int .i64 m0, .int .i64 m1] 28)
  have M7 := Lib.hid (M6.out.later ha_); have S7 := Lib.hid (S6.out.later (row := none) ha_ (by simp)); have L7 := Lib.hid (L6.out.draw (gb_none ha_)); have H7 := Lib.hid (H6.out.draw (gb_none ha_))
  have M7 := Lib.hid (M7.out.more hb_ (by omega))
  clear hp_ ha_ hb_ M6 S6 L6 H6
  obtain ⟨x0_, x1_, x2_, x3_, x4_⟩ := cells5 (M7.out.at 1 rfl)
  go_wp2_with fail
  generalize w6.alloc (.cells #[.int .i64 m0, .int .i64 m1] 28) = w7 at *
  generalize w6.heap.size = mb at *
  (with_reducible refine (ST2.out w7 L7.out H7.out (NIL.out _)).mono ?_)
  rintro r w8 ⟨rfl, hg⟩
  clear x0_ x1_ x2_ x3_ x4_ hw10
  have M8 := Lib.hid (M7.out.later hg); have S8 := Lib.hid (S7.out.later (row := none) hg (by simp)); have L8 := Lib.hid (L7.out.draw (gb_none hg)); have H8 := Lib.hid (H7.out.draw (gb_none hg))
  clear hg M7 S7 L7 H7
  have hp_ := S8.out.lt.2
  have ha_ : w8.grownBy (w8.alloc (.cells #[.int .i64 n0, .int .i64 n1] 28)) none := gb_alloc (gb_refl _ _) _
  have hb_ := heap_alloc_new w8 (.cells #[.int .i64 n0, .int .i64 n1] 28)
  have M9 := Lib.hid (M8.out.later ha_); have S9 := Lib.hid (S8.out.later (row := none) ha_ (by simp)); have L9 := Lib.hid (L8.out.draw (gb_none ha_)); have H9 := Lib.hid (H8.out.draw (gb_none ha_))
  have M9 := Lib.hid (M9.out.more hb_ (by omega))
  clear hp_ ha_ hb_ M8 S8 L8 H8
  go_upto_region 6 with fail
  generalize w8.alloc (.cells #[.int .i64 n0, .int .i64 n1] 28) = w9 at *
  generalize w8.heap.size = nb at *
  have hp_ := S9.out.lt.2
  have hl_ : (w9.alloc (.cells #[.int .i64 0, .int .i64 1, .int .i64 0, .int .i64 0, .int .i64 D, .int .i64 0, .int .i64 0, .slice none 0 0, .int .i64 0, .int .i64 0] 50)).heap.size = w9.heap.size + 1 := by simp
  have ha_ : w9.grownBy (w9.alloc (.cells #[.int .i64 0, .int .i64 1, .int .i64 0, .int .i64 0, .int .i64 D, .int .i64 0, .int .i64 0, .slice none 0 0, .int .i64 0, .int .i64 0] 50)) none := gb_alloc (gb_refl _ _) _
  have hb_ := heap_alloc_new w9 (.cells #[.int .i64 0, .int .i64 1, .int .i64 0, .int .i64 0, .int .i64 D, .int .i64 0, .int .i64 0, .slice none 0 0, .int .i64 0, .int .i64 0] 50)
  have hc_ : (w9.alloc (.cells #[.int .i64 0, .int .i64 1, .int .i64 0, .int .i64 0, .int .i64 D, .int .i64 0, .int .i64 0, .slice none 0 0, .int .i64 0, .int .i64 0] 50)).grownBy ((w9.alloc (.cells #[.int .i64 0, .int .i64 1, .int .i64 0, .int .i64 0, .int .i64 D, .int .i64 0, .int .i64 0, .slice none 0 0, .int .i64 0, .int .i64 0] 50)).alloc (.cells #[.slice (some ⟨w9.heap.size, 0, none⟩) 1 1] 43)) none := gb_alloc (gb_refl _ _) _
  have hd_ := heap_alloc_new (w9.alloc (.cells #[.int .i64 0, .int .i64 1, .int .i64 0, .int .i64 0, .int .i64 D, .int .i64 0, .int .i64 0, .slice none 0 0, .int .i64 0, .int .i64 0] 50)) (.cells #[.slice (some ⟨w9.heap.size, 0, none⟩) 1 1] 43)
  rw [hl_] at hd_
  have he_ := gb_trans ha_ hc_
  have hf_ := block_kept hc_ hb_ rfl
  have M11 := Lib.hid (M9.out.later he_); have S11 := Lib.hid (S9.out.later (row := none) he_ (by simp)); have L11 := Lib.hid (L9.out.draw (gb_none he_)); have H11 := Lib.hid (H9.out.draw (gb_none he_))
  have M11 := Lib.hid ((M11.out.more hf_ (by omega)).more hd_ (by omega))
  clear hp_ hl_ ha_ hb_ hc_ hd_ he_ hf_ M9 S9 L9 H9
  obtain ⟨x0_, x1_, x2_, x3_, x4_⟩ := cells5 (M11.out.at 4 rfl)
  have r0_ := cells1 (M11.out.at 0 rfl)
  go_wp2_with fail
  generalize ((w9.alloc (.cells #[.int .i64 0, .int .i64 1, .int .i64 0, .int .i64 0, .int .i64 D, .int .i64 0, .int .i64 0, .slice none 0 0, .int .i64 0, .int .i64 0] 50)).alloc (.cells #[.slice (some ⟨w9.heap.size, 0, none⟩) 1 1] 43)) = w11 at *
  generalize w9.heap.size = rowb at *
  have SI := Lib.hid (show StIn w11 (.slice (some ⟨rowb, 0, none⟩) 1 1) [⟨⟨0, 1, 0, 0, D, 0, 0, [], 0, 0⟩, .slice none 0 0⟩] from ⟨⟨rfl, .inr ⟨rowb, 0, 1, rfl, M11.out.lt 1 rfl, by simp, by omega, fun j u hj => by
    have hj' : (flatS [⟨⟨0, 1, 0, 0, D, 0, 0, [], 0, 0⟩, .slice none 0 0⟩]).toArray[j]? = some u := by simpa using hj
    have hb := M11.out.at 1 rfl
    simp only [World.cell?, hb, Nat.zero_add]
    exact hj'⟩⟩, fun x hx => by simp only [List.mem_singleton] at hx; subst hx; exact .inl ⟨rfl, _, _, rfl⟩⟩)
  (with_reducible refine (ST3.out rowb 1 w11 L11.out H11.out SI.out).mono ?_)
  rintro r w12 ⟨rfl, hg⟩
  clear x0_ x1_ x2_ x3_ x4_ r0_ SI
  have M12 := Lib.hid (M11.out.later hg); have S12 := Lib.hid (S11.out.later (row := none) hg (by simp)); have L12 := Lib.hid (L11.out.draw (gb_none hg)); have H12 := Lib.hid (H11.out.draw (gb_none hg))
  clear hg M11 S11 L11 H11
  have hp_ := S12.out.lt.2
  have ha_ : w12.grownBy (w12.alloc (.cells #[.int .i64 u0, .int .i64 u1] 28)) none := gb_alloc (gb_refl _ _) _
  have hb_ := heap_alloc_new w12 (.cells #[.int .i64 u0, .int .i64 u1] 28)
  have M13 := Lib.hid (M12.out.later ha_); have S13 := Lib.hid (S12.out.later (row := none) ha_ (by simp)); have L13 := Lib.hid (L12.out.draw (gb_none ha_)); have H13 := Lib.hid (H12.out.draw (gb_none ha_))
  have M13 := Lib.hid (M13.out.more hb_ (by omega))
  clear hp_ ha_ hb_ M12 S12 L12 H12
  obtain ⟨x0_, x1_, x2_, x3_, x4_⟩ := cells5 (M13.out.at 5 rfl)
  go_wp2_with fail
  generalize w12.alloc (.cells #[.int .i64 u0, .int .i64 u1] 28) = w13 at *
  generalize w12.heap.size = ub at *
  (with_reducible refine (ST4.out w13 L13.out H13.out (NIL.out _)).mono ?_)
  rintro r w14 ⟨rfl, hg⟩
  clear x0_ x1_ x2_ x3_ x4_ hwAD
  have M14 := Lib.hid (M13.out.later hg); have S14 := Lib.hid (S13.out.later (row := none) hg (by simp)); have L14 := Lib.hid (L13.out.draw (gb_none hg)); have H14 := Lib.hid (H13.out.draw (gb_none hg))
  clear hg M13 S13 L13 H13
  have t1 := T1.out; have t2 := T2.out; have t3 := T3.out; have t4 := T4.out
  have k0a : IntKind.i64.wrap (n0 - m0) = n0 - m0 := by rw [IntKind.wrap_i64]; omega
  have k0b : decide (n0 - m0 ≥ 97) = true := decide_eq_true (by omega)
  have k0c : decide (n0 - m0 ≤ 103) = true := decide_eq_true (by omega)
  have k1a : IntKind.i64.wrap (n1 - m1) = n1 - m1 := by rw [IntKind.wrap_i64]; omega
  have k1b : decide (n1 - m1 ≥ 97) = true := decide_eq_true (by omega)
  have k1c : decide (n1 - m1 ≤ 103) = true := decide_eq_true (by omega)
  have NE1 := Lib.hid (fun u => near32_any u0 x0 u t3); have NE2 := Lib.hid (fun u => near32_any u1 x1 u t4)
  clear t1 t2 t3 t4 T1 T2 T3 T4
  have hp_ := S14.out.lt.2
  have ha_ : w14.grownBy (w14.alloc (.cells #[.int .i64 x0, .int .i64 x1] 28)) none := gb_alloc (gb_refl _ _) _
  have hb_ := heap_alloc_new w14 (.cells #[.int .i64 x0, .int .i64 x1] 28)
  have M15 := Lib.hid (M14.out.later ha_); have S15 := Lib.hid (S14.out.later (row := none) ha_ (by simp)); have L15 := Lib.hid (L14.out.draw (gb_none ha_)); have H15 := Lib.hid (H14.out.draw (gb_none ha_))
  have M15 := Lib.hid (M15.out.more hb_ (by omega))
  clear hp_ ha_ hb_ M14 S14 L14 H14
  obtain ⟨m0_, m1_⟩ := cells2' (M15.out.at 5 rfl)
  obtain ⟨n0_, n1_⟩ := cells2' (M15.out.at 4 rfl)
  obtain ⟨u0_, u1_⟩ := cells2' (M15.out.at 1 rfl)
  obtain ⟨y0_, y1_⟩ := cells2' (M15.out.at 0 rfl)
  go_wp2_with fail
  generalize w14.alloc (.cells #[.int .i64 x0, .int .i64 x1] 28) = w15 at *
  generalize w14.heap.size = yb at *
  (with_reducible refine (NE1.out _).mono ?_)
  rintro r w' ⟨rfl, rfl⟩
  go_wp2_with fail
  (with_reducible refine (NE2.out _).mono ?_)
  rintro r w' ⟨rfl, rfl⟩
  go_wp2_with fail
  have HGM := Lib.hid M15.out.gr
  (with_reducible refine (awake32_any _).mono ?_)
  rintro r w9 ⟨rfl, hg⟩
  have HGE := Lib.hid (gb_trans HGM.out hg)
  go_wp2_with fail
  go_ret
  exact ⟨rfl, gb_end HGE.out⟩
end Go.Proofs.Ytoconichgdlmcaa
