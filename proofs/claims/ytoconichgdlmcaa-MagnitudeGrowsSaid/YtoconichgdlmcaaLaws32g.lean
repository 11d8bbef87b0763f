/- The walk of MagnitudeGrows. Written by gen_law32g.py. -/
import Derived.Test.YtoconichgdlmcaaLaws32t
import Derived.Test.YtoconichgdlmcaaRspD
namespace Go.Proofs.Ytoconichgdlmcaa
set_option linter.all false
open Go.RowKit Rg

/-- Stages in memory, apart from block q. -/
def StQ (q : Nat) (u : World) (v : Value) (L : List Stv) : Prop := StIn u v L ∧ (∀ b off len cap, v = .slice (some ⟨b, off, none⟩) len cap → b ≠ q) ∧ ∀ x ∈ L, ∀ b off len cap, x.tv = .slice (some ⟨b, off, none⟩) len cap → b ≠ q
theorem StQ.draw {q : Nat} {u u' : World} {v : Value} {L : List Stv} (h : StQ q u v L) (hg : u.grownBy u' (some q)) : StQ q u' v L :=
  ⟨⟨h.1.1.draw hg (fun b off len cap e _ => h.2.1 b off len cap e), fun x hx => (h.1.2 x hx).later hg (fun b off len cap e _ => by have := h.2.2 x hx b off len cap e; simpa using this)⟩, h.2⟩

set_option maxRecDepth 100000 in
set_option maxHeartbeats 20000000 in
theorem magnitudeGrows_walk (w : World) (v : Value) (xs : List Int) (hs : Sl w v xs) (_hx : ∀ x ∈ xs, -9223372036854775808 ≤ x ∧ x ≤ 9223372036854775807) :
    Calls Try.prog 4 #[v] w fun e w' => e = .returned (.bool true) ∧ Below w.heap.size w w' := by
  have hv : v.oneCell' = true := by obtain ⟨va, vn, vc, rfl⟩ := sl_slice hs; rfl
  go_enter Try.func4, Try.ntmps4
  go_wp2_with fail
  (with_reducible refine (new_any w v xs hs).mono ?_)
  rintro e w1 ⟨rfl, hS, hg⟩
  have hq2 : w.heap.size ≤ w.heap.size := Nat.le_refl _
  have S1 := Lib.hid hS
  have M1 := Lib.hid (Mem.nil (w0 := w) (p := w.heap.size) hg)
  clear hS hg hs _hx
  generalize hq : w.heap.size = q at S1 M1 hq2 ⊢
  have hq2 : w.heap.size ≤ q := by omega
  clear hq
  go_wp2_with fail
  have hq3 := S1.out.lt.2
  (with_reducible refine (scale_any q w1 q S1.out hq3).mono ?_)
  rintro e w2 ⟨s, vl, vh, rfl, hok, h400, s1, s2, ap1, ap2, hS, hg⟩
  have L2 := Lib.hid (show SlQ q w2 vl s.ls from ⟨s1, fun b off len cap e => by have := ap1 b off len cap e; omega⟩)
  have H2 := Lib.hid (show SlQ q w2 vh s.hs from ⟨s2, fun b off len cap e => by have := ap2 b off len cap e; omega⟩)
  obtain ⟨la, lc, rfl⟩ := s1.shape; obtain ⟨ha, hc, rfl⟩ := s2.shape
  clear s1 s2 ap1 ap2
  have M2 := Lib.hid (M1.out.draw hg hq2); have S2 := Lib.hid (hS)
  clear hg hS M1 S1
  go_wp2_with fail
  have hq4 := S2.out.lt.2
  (with_reducible refine (resp_any q w2 q S2.out hq4).mono ?_)
  rintro e w3 ⟨RL, rv, rfl, r1, -, ap1, ap2, hS, hg⟩
  have R3 := Lib.hid (show StQ q w3 rv RL from ⟨r1, fun b off len cap e => by have := ap1 b off len cap e; omega, fun x hx b off len cap e => by have := ap2 x hx b off len cap e; omega⟩)
  obtain ⟨ra, rc, rfl⟩ := r1.1.slice
  clear r1 ap1 ap2 hq3 hq4
  have M3 := Lib.hid (M2.out.draw hg hq2); have S3 := Lib.hid (hS); have L3 := Lib.hid (L2.out.draw hg); have H3 := Lib.hid (H2.out.draw hg)
  clear hg hS M2 S2 L2 H2
  have GP := Lib.hid (fun (A B : Nat) (x y : Int) h1 h2 h3 h4 h5 h6 => grows32_plain s (RL.map Stv.s) A B x y hok h1 h2 h3 h4 h5 h6)
  have H4 := Lib.hid h400
  have ST := Lib.hid (fun (a n : Int) (hn : n ≤ 9223372036854775807) (u : World) (h1 : SlQ q u (.slice la s.ls.length lc) s.ls) (h2 : SlQ q u (.slice ha s.hs.length hc) s.hs) (h3 : StQ q u (.slice ra RL.length rc) RL) => station_any s _ _ _ RL a n n u h1.1 h2.1 h3.1 hn)
  clear hok h400
  generalize s.ls.length = ln at *
  generalize s.hs.length = hn at *
  generalize RL.length = rn at *
  generalize hsv : s.val (.slice la ln lc) (.slice ha hn hc) = sv at *
  obtain ⟨step, ls, hs, num, den⟩ := s
  subst hsv
  simp only [Sca.val] at ST H4 ⊢
  have hp_ := S3.out.lt.2
  have hl_ : (w3.alloc (.cells #[.int .i64 step, .slice la ln lc, .slice ha hn hc, .int .i64 num, .int .i64 den] 39)).heap.size = w3.heap.size + 1 := by simp
  have ha_ : w3.grownBy (w3.alloc (.cells #[.int .i64 step, .slice la ln lc, .slice ha hn hc, .int .i64 num, .int .i64 den] 39)) none := gb_alloc (gb_refl _ _) _
  have hb_ := heap_alloc_new w3 (.cells #[.int .i64 step, .slice la ln lc, .slice ha hn hc, .int .i64 num, .int .i64 den] 39)
  have hc_ : (w3.alloc (.cells #[.int .i64 step, .slice la ln lc, .slice ha hn hc, .int .i64 num, .int .i64 den] 39)).grownBy ((w3.alloc (.cells #[.int .i64 step, .slice la ln lc, .slice ha hn hc, .int .i64 num, .int .i64 den] 39)).alloc (.cells #[.slice ra rn rc] 43)) none := gb_alloc (gb_refl _ _) _
  have hd_ := heap_alloc_new (w3.alloc (.cells #[.int .i64 step, .slice la ln lc, .slice ha hn hc, .int .i64 num, .int .i64 den] 39)) (.cells #[.slice ra rn rc] 43)
  rw [hl_] at hd_
  have he_ := gb_trans ha_ hc_
  have hf_ := block_kept hc_ hb_ rfl
  have M5 := Lib.hid (M3.out.later he_); have S5 := Lib.hid (S3.out.later (row := none) he_ (by simp)); have L5 := Lib.hid (L3.out.draw (gb_none he_)); have H5 := Lib.hid (H3.out.draw (gb_none he_)); have R5 := Lib.hid (R3.out.draw (gb_none he_))
  have M5 := Lib.hid ((M5.out.more hf_ (by omega)).more hd_ (by omega))
  clear hp_ hl_ ha_ hb_ hc_ hd_ he_ hf_ M3 S3 L3 H3 R3
  go_wp2_with fail
  generalize ((w3.alloc (.cells #[.int .i64 step, .slice la ln lc, .slice ha hn hc, .int .i64 num, .int .i64 den] 39)).alloc (.cells #[.slice ra rn rc] 43)) = w5 at *
  generalize w3.heap.size = xb at *
  (with_reducible refine (n_any q w5 q 100000 S5.out (by omega) (by omega)).mono ?_)
  rintro r w6 ⟨ax, rfl, hax, hS, hg⟩
  have M6 := Lib.hid (M5.out.draw hg hq2); have S6 := Lib.hid (hS); have L6 := Lib.hid (L5.out.draw hg); have H6 := Lib.hid (H5.out.draw hg); have R6 := Lib.hid (R5.out.draw hg)
  clear hg hS M5 S5 L5 H5 R5
  obtain ⟨A, hA⟩ : ∃ A : Nat, 1 + ax = A := ⟨(1 + ax).toNat, by omega⟩
  have hwa : IntKind.i64.wrap (1 + ax) = (A : Int) := by rw [IntKind.wrap_i64]; omega
  have hA1 : 1 ≤ A ∧ A ≤ 100000 := by omega
  clear hA hax
  go_wp2_with fail
  (with_reducible refine (n_any q w6 q 100000 S6.out (by omega) (by omega)).mono ?_)
  rintro r w7 ⟨bx, rfl, hbx, hS, hg⟩
  have M7 := Lib.hid (M6.out.draw hg hq2); have S7 := Lib.hid (hS); have L7 := Lib.hid (L6.out.draw hg); have H7 := Lib.hid (H6.out.draw hg); have R7 := Lib.hid (R6.out.draw hg)
  clear hg hS M6 S6 L6 H6 R6
  obtain ⟨B, hB⟩ : ∃ B : Nat, 1 + bx = B := ⟨(1 + bx).toNat, by omega⟩
  have hwb : IntKind.i64.wrap (1 + bx) = (B : Int) := by rw [IntKind.wrap_i64]; omega
  have hB1 : 1 ≤ B ∧ B ≤ 100000 := by omega
  clear hB hbx
  go_wp2_with fail
  (with_reducible refine (n_any q w7 q 300 S7.out (by omega) (by omega)).mono ?_)
  rintro r w8 ⟨cx, rfl, hcx, hS, hg⟩
  have M8 := Lib.hid (M7.out.draw hg hq2); have S8 := Lib.hid (hS); have L8 := Lib.hid (L7.out.draw hg); have H8 := Lib.hid (H7.out.draw hg); have R8 := Lib.hid (R7.out.draw hg)
  clear hg hS M7 S7 L7 H7 R7
  go_wp2_with fail
  (with_reducible refine (n_any q w8 q 300 S8.out (by omega) (by omega)).mono ?_)
  rintro r w9 ⟨dx, rfl, hdx, hS, hg⟩
  have M9 := Lib.hid (M8.out.draw hg hq2); have S9 := Lib.hid (hS); have L9 := Lib.hid (L8.out.draw hg); have H9 := Lib.hid (H8.out.draw hg); have R9 := Lib.hid (R8.out.draw hg)
  clear hg hS M8 S8 L8 H8 R8
  obtain ⟨mn, hmn, hmn1⟩ : ∃ m : Nat, min (A : Int) (B : Int) = m ∧ 1 ≤ m := ⟨min A B, by omega, by omega⟩
  obtain ⟨mx, hmx, hmx1⟩ : ∃ m : Nat, max (A : Int) (B : Int) = m ∧ mn ≤ m ∧ m ≤ 100000 := ⟨max A B, by omega, by omega, by omega⟩
  obtain ⟨x, hx, hx0⟩ : ∃ x : Int, min cx dx = x ∧ 0 ≤ x := ⟨_, rfl, by omega⟩
  obtain ⟨y, hy, hy0, hy1⟩ : ∃ y : Int, max cx dx = y ∧ x ≤ y ∧ y ≤ 300 := ⟨_, rfl, by omega, by omega⟩
  have hxx : 0 ≤ x * x ∧ x * x ≤ 300 * 300 := ⟨Int.mul_nonneg hx0 hx0, Int.mul_le_mul (by omega) (by omega) hx0 (by omega)⟩
  have hyy : 0 ≤ y * y ∧ y * y ≤ 300 * 300 := ⟨Int.mul_nonneg (by omega) (by omega), Int.mul_le_mul (by omega) (by omega) (by omega) (by omega)⟩
  have hwx : IntKind.i64.wrap (x * x) = x * x := by rw [IntKind.wrap_i64]; omega
  have hwy : IntKind.i64.wrap (y * y) = y * y := by rw [IntKind.wrap_i64]; omega
  obtain ⟨e1, e2, GR⟩ := GP.out mn mx x y hmn1 hmx1.1 hmx1.2 hx0 hy0 (by have := H4.out; show y ≤ reachS step ls; omega)
  have ST1 := Lib.hid (ST.out mn (x * x) (by omega)); have ST2 := Lib.hid (ST.out mx (y * y) (by omega)); have ST3 := Lib.hid (ST.out 1 0 (by omega))
  unfold stnV at ST1 ST2 ST3
  rw [e2] at ST3
  rw [← e1] at ST2
  have GRH := Lib.hid GR
  clear hA1 hB1 hcx hdx hmn1 hmx1 hx0 hy0 hy1 hxx hyy GP H4 e1 e2 GR ST
  generalize stnE ⟨step, ls, hs, num, den⟩ (RL.map Stv.s) mn (x * x) (x * x) = E at *
  generalize stnL ⟨step, ls, hs, num, den⟩ (RL.map Stv.s) mn (x * x) (x * x) = m0 at *
  generalize stnH ⟨step, ls, hs, num, den⟩ (RL.map Stv.s) mn (x * x) (x * x) = m1 at *
  generalize stnL ⟨step, ls, hs, num, den⟩ (RL.map Stv.s) mx (y * y) (y * y) = n0 at *
  generalize stnH ⟨step, ls, hs, num, den⟩ (RL.map Stv.s) mx (y * y) (y * y) = n1 at *
  generalize stnL ⟨step, ls, hs, num, den⟩ (RL.map Stv.s) 1 0 0 = u0 at *
  generalize stnH ⟨step, ls, hs, num, den⟩ (RL.map Stv.s) 1 0 0 = u1 at *
  obtain ⟨x0_, x1_, x2_, x3_, x4_⟩ := cells5 (M9.out.at 1 rfl)
  have r0_ := cells1 (M9.out.at 0 rfl)
  go_wp2_with fail
  (with_reducible refine (ST1.out w9 L9.out H9.out R9.out).mono ?_)
  rintro r w10 ⟨rfl, hg⟩
  clear x0_ x1_ x2_ x3_ x4_ r0_ hwa hwb ST1
  have M10 := Lib.hid (M9.out.later hg); have S10 := Lib.hid (S9.out.later (row := none) hg (by simp)); have L10 := Lib.hid (L9.out.draw (gb_none hg)); have H10 := Lib.hid (H9.out.draw (gb_none hg)); have R10 := Lib.hid (R9.out.draw (gb_none hg))
  clear hg M9 S9 L9 H9 R9
  have hp_ := S10.out.lt.2
  have ha_ : w10.grownBy (w10.alloc (.cells #[.int .i64 m0, .int .i64 m1] 28)) none := gb_alloc (gb_refl _ _) _
  have hb_ := heap_alloc_new w10 (.cells #[.int .i64 m0, .int .i64 m1] 28)
  have M11 := Lib.hid (M10.out.later ha_); have S11 := Lib.hid (S10.out.later (row := none) ha_ (by simp)); have L11 := Lib.hid (L10.out.draw (gb_none ha_)); have H11 := Lib.hid (H10.out.draw (gb_none ha_)); have R11 := Lib.hid (R10.out.draw (gb_none ha_))
  have M11 := Lib.hid (M11.out.more hb_ (by omega))
  clear hp_ ha_ hb_ M10 S10 L10 H10 R10
  obtain ⟨x0_, x1_, x2_, x3_, x4_⟩ := cells5 (M11.out.at 2 rfl)
  have r0_ := cells1 (M11.out.at 1 rfl)
  go_wp2_with fail
  generalize w10.alloc (.cells #[.int .i64 m0, .int .i64 m1] 28) = w11 at *
  generalize w10.heap.size = mb at *
  (with_reducible refine (ST2.out w11 L11.out H11.out R11.out).mono ?_)
  rintro r w12 ⟨rfl, hg⟩
  clear x0_ x1_ x2_ x3_ x4_ r0_ hmn hmx hx hy hwx hwy ST2
  have M12 := Lib.hid (M11.out.later hg); have S12 := Lib.hid (S11.out.later (row := none) hg (by simp)); have L12 := Lib.hid (L11.out.draw (gb_none hg)); have H12 := Lib.hid (H11.out.draw (gb_none hg)); have R12 := Lib.hid (R11.out.draw (gb_none hg))
  clear hg M11 S11 L11 H11 R11
  have g1_ : (E != E) = false := by simp
  have g2_ : (E == E) = true := by simp
  by_cases hE : E = 0
  · obtain ⟨t1, t2, t3, t4⟩ := GRH.out hE
    subst hE
    have k1 : decide (m0 ≤ m1) = true := decide_eq_true t1
    have k2 : decide (n0 ≤ n1) = true := decide_eq_true t2
    have k3 : decide (m0 ≤ n0) = true := decide_eq_true t3
    have k4 : decide (m1 ≤ n1) = true := decide_eq_true t4
    clear t1 t2 t3 t4 GRH ST3 g1_ g2_
    have hp_ := S12.out.lt.2
    have ha_ : w12.grownBy (w12.alloc (.cells #[.int .i64 n0, .int .i64 n1] 28)) none := gb_alloc (gb_refl _ _) _
    have hb_ := heap_alloc_new w12 (.cells #[.int .i64 n0, .int .i64 n1] 28)
    have M13 := Lib.hid (M12.out.later ha_); have S13 := Lib.hid (S12.out.later (row := none) ha_ (by simp)); have L13 := Lib.hid (L12.out.draw (gb_none ha_)); have H13 := Lib.hid (H12.out.draw (gb_none ha_)); have R13 := Lib.hid (R12.out.draw (gb_none ha_))
    have M13 := Lib.hid (M13.out.more hb_ (by omega))
    clear hp_ ha_ hb_ M12 S12 L12 H12 R12
    obtain ⟨m0_, m1_⟩ := cells2' (M13.out.at 1 rfl)
    obtain ⟨n0_, n1_⟩ := cells2' (M13.out.at 0 rfl)
    go_wp2_with fail
    generalize w12.alloc (.cells #[.int .i64 n0, .int .i64 n1] 28) = w13 at *
    generalize w12.heap.size = nb at *
    have HGM := Lib.hid M13.out.gr
    (with_reducible refine (awake32_any _).mono ?_)
    rintro r w9 ⟨rfl, hg⟩
    have HGE := Lib.hid (gb_trans HGM.out hg)
    go_wp2_with fail
    go_ret
    exact ⟨rfl, gb_end HGE.out⟩
  have hE' : (E != 0) = true := by simpa using hE
  clear hE GRH
  have hp_ := S12.out.lt.2
  have ha_ : w12.grownBy (w12.alloc (.cells #[.int .i64 n0, .int .i64 n1] 28)) none := gb_alloc (gb_refl _ _) _
  have hb_ := heap_alloc_new w12 (.cells #[.int .i64 n0, .int .i64 n1] 28)
  have M13 := Lib.hid (M12.out.later ha_); have S13 := Lib.hid (S12.out.later (row := none) ha_ (by simp)); have L13 := Lib.hid (L12.out.draw (gb_none ha_)); have H13 := Lib.hid (H12.out.draw (gb_none ha_)); have R13 := Lib.hid (R12.out.draw (gb_none ha_))
  have M13 := Lib.hid (M13.out.more hb_ (by omega))
  clear hp_ ha_ hb_ M12 S12 L12 H12 R12
  obtain ⟨x0_, x1_, x2_, x3_, x4_⟩ := cells5 (M13.out.at 3 rfl)
  have r0_ := cells1 (M13.out.at 2 rfl)
  go_wp2_with fail
  generalize w12.alloc (.cells #[.int .i64 n0, .int .i64 n1] 28) = w13 at *
  generalize w12.heap.size = nb at *
  (with_reducible refine (ST3.out w13 L13.out H13.out R13.out).mono ?_)
  rintro r w14 ⟨rfl, hg⟩
  clear x0_ x1_ x2_ x3_ x4_ r0_ ST3
  have M14 := Lib.hid (M13.out.later hg); have S14 := Lib.hid (S13.out.later (row := none) hg (by simp)); have L14 := Lib.hid (L13.out.draw (gb_none hg)); have H14 := Lib.hid (H13.out.draw (gb_none hg)); have R14 := Lib.hid (R13.out.draw (gb_none hg))
  clear hg M13 S13 L13 H13 R13
  have hp_ := S14.out.lt.2
  have ha_ : w14.grownBy (w14.alloc (.cells #[.int .i64 u0, .int .i64 u1] 28)) none := gb_alloc (gb_refl _ _) _
  have hb_ := heap_alloc_new w14 (.cells #[.int .i64 u0, .int .i64 u1] 28)
  have M15 := Lib.hid (M14.out.later ha_); have S15 := Lib.hid (S14.out.later (row := none) ha_ (by simp)); have L15 := Lib.hid (L14.out.draw (gb_none ha_)); have H15 := Lib.hid (H14.out.draw (gb_none ha_)); have R15 := Lib.hid (R14.out.draw (gb_none ha_))
  have M15 := Lib.hid (M15.out.more hb_ (by omega))
  clear hp_ ha_ hb_ M14 S14 L14 H14 R14
  go_wp2_with fail
  generalize w14.alloc (.cells #[.int .i64 u0, .int .i64 u1] 28) = w15 at *
  generalize w14.heap.size = ub at *
  have HGM := Lib.hid M15.out.gr
  (with_reducible refine (awake32_any _).mono ?_)
  rintro r w9 ⟨rfl, hg⟩
  have HGE := Lib.hid (gb_trans HGM.out hg)
  go_wp2_with fail
  go_ret
  exact ⟨rfl, gb_end HGE.out⟩
end Go.Proofs.Ytoconichgdlmcaa
