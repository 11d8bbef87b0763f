/- The walk of TravelContains. Written by gen_laws25c.py. -/
import Derived.Test.YtkmikiljpajaaaaTrvH
import Derived.Test.YtkmikiljpajaaaaLaws25a
import Derived.Test.YtkmikiljpajaaaaRgPos
import Derived.Test.YtkmikiljpajaaaaTri
import Derived.Test.YtkmikiljpajaaaaGeoF
namespace Go.Proofs.Ytkmikiljpajaaaa
set_option linter.all false
open Go.RowKit Rg

theorem intV_ok {step : Int} {ls hs : List Int} {x0 y0 z0 x1 y1 z1 d : Int} (h : tOk step ls hs) (v0 : vP x0 y0 z0 = true) (v1 : vP x1 y1 z1 = true) (hd : sqD x0 y0 z0 x1 y1 z1 = d) (hr : ceilI d ≤ reachS step ls) :
    intV step ls hs x0 y0 z0 x1 y1 z1 = .tuple #[.int .i64 (loA step ls (floorI d)), .int .i64 (hiA step hs (ceilI d)), .int .i64 0] := by
  have h0 : 0 ≤ d := hd ▸ sqD_nonneg _ _ _ _ _ _
  unfold intV; rw [if_pos h, v0, v1, hd]; simp only [Bool.and_self, if_true]
  exact btw_good h h0 (Int.le_refl _) hr
theorem place_ok {m x y z : Int} (h : placeIn m x y z) (hm : m ≤ 10000) : vP x y z = true := by
  obtain ⟨a, b, c, d, e, f⟩ := h
  simp [vP]; omega
theorem sq_abs {d m : Int} (h0 : -m ≤ d) (h1 : d ≤ m) : d * d ≤ m * m := by
  rcases Int.le_total 0 d with h | h
  · exact Int.mul_le_mul h1 h1 h (by omega)
  · have := Int.mul_le_mul (a := -d) (b := -d) (c := m) (d := m) (by omega) (by omega) (by omega) (by omega)
    rwa [Int.neg_mul_neg] at this

set_option maxRecDepth 100000 in
set_option maxHeartbeats 2000000 in
theorem travelContains_walk (w : World) (v : Value) (xs : List Int) (hs : Sl w v xs) (_hx : ∀ x ∈ xs, -9223372036854775808 ≤ x ∧ x ≤ 9223372036854775807) :
    Calls Try.prog 13 #[v] w fun e w' => e = .returned (.bool true) ∧ Below w.heap.size w w' := by
  go_enter Try.func13, Try.ntmps13
  go_wp2_with fail
  (with_reducible refine (new_any w v xs hs).mono ?_)
  rintro e w1 ⟨rfl, hS, hg1⟩
  have HG1 := Lib.hid hg1; clear hg1 hs
  go_wp2_with fail
  (with_reducible refine (table_any w.heap.size w1 w.heap.size hS).mono ?_)
  rintro e w2 ⟨step, vl, vh, ls, hs, rfl, tok, hst, h400, hlen, ol, oh, -, hS2, hg2⟩
  obtain ⟨al, cl, rfl⟩ := owns_slice ol
  obtain ⟨ah, ch, rfl⟩ := owns_slice oh
  obtain ⟨r1, r2⟩ := reach_small tok.1 hst h400 hlen
  have hg3 := gb_alloc (gb_refl w2 none) (.cells #[.int .i64 step, .slice al ls.length cl, .slice ah hs.length ch] 26)
  have sl := Lib.hid (Sl_of_owns ol rfl); have sh := Lib.hid (Sl_of_owns oh rfl)
  have HG2 := Lib.hid hg2
  have hrl : ∀ b off len cap, Value.slice al ls.length cl = .slice (some ⟨b, off, none⟩) len cap → 0 < len → some b ≠ some w.heap.size := by
    intro b off len cap e _ e2
    have := (ol.lt b (by rw [e]; rfl)).1; have := hS.lt; simp at e2; omega
  have hrh : ∀ b off len cap, Value.slice ah hs.length ch = .slice (some ⟨b, off, none⟩) len cap → 0 < len → some b ≠ some w.heap.size := by
    intro b off len cap e _ e2
    have := (oh.lt b (by rw [e]; rfl)).1; have := hS.lt; simp at e2; omega
  have Hrl := Lib.hid hrl; have Hrh := Lib.hid hrh; clear hrl hrh
  have HT := Lib.hid tok
  have HS2 := Lib.hid hS2
  clear hS hg2 ol oh h400 hlen hst tok hS2
  have hp2 := HS2.out.lt.2
  have HS3 := Lib.hid (HS2.out.later hg3 (by simp))
  have R3 := Lib.hid (heap_alloc_new w2 (.cells #[.int .i64 step, .slice al ls.length cl, .slice ah hs.length ch] 26))
  have SL := Lib.hid (sl.out.after hg3); have SH := Lib.hid (sh.out.after hg3)
  have HG3 := Lib.hid (gb_alloc (gb_new HG1.out HG2.out (by simp)) (.cells #[.int .i64 step, .slice al ls.length cl, .slice ah hs.length ch] 26))
  clear hg3 HS2 sl sh HG1 HG2
  go_wp2_with fail
  generalize w2.alloc (.cells #[.int .i64 step, .slice al ls.length cl, .slice ah hs.length ch] 26) = w3 at *
  (with_reducible refine (place_any w.heap.size w3 w.heap.size 60 HS3.out (by omega) (by omega)).mono ?_)
  rintro e w4 ⟨a0, a1, a2, rfl, hA, hS4, hg4⟩
  have HS4 := Lib.hid hS4; have HA := Lib.hid hA; have HG4 := Lib.hid hg4; clear hS4 hA hg4 HS3
  go_wp2_with fail
  (with_reducible refine (place_any w.heap.size w4 w.heap.size 60 HS4.out (by omega) (by omega)).mono ?_)
  rintro e w5 ⟨b0, b1, b2, rfl, hB, hS5, hg5⟩
  have HS5 := Lib.hid hS5; have HB := Lib.hid hB; have HG5 := Lib.hid (gb_trans HG4.out hg5); clear hS5 hB hg5 HS4 HG4
  go_wp2_with fail
  (with_reducible refine (place_any w.heap.size w5 w.heap.size 30 HS5.out (by omega) (by omega)).mono ?_)
  rintro e w6 ⟨y0, y1, y2, rfl, hY, hS6, hg6⟩
  have HY := Lib.hid hY; have HG6 := Lib.hid (gb_trans HG5.out hg6); clear hS6 hY hg6 HS5 HG5
  have R6 := Lib.hid (block_keptp HG6.out R3.out (by omega))
  have S6l := Lib.hid (SL.out.later HG6.out Hrl.out); have S6h := Lib.hid (SH.out.later HG6.out Hrh.out)
  have HH6 := Lib.hid (gb_new HG3.out HG6.out (by simp))
  clear SL SH Hrl Hrh HG6 HG3 R3
  have hg7 : w6.grownBy (((w6.alloc (.cells #[.int .i64 a0, .int .i64 a1, .int .i64 a2] 40)).alloc (.cells #[.int .i64 b0, .int .i64 b1, .int .i64 b2] 40)).alloc (.cells #[.int .i64 y0, .int .i64 y1, .int .i64 y2] 40)) none := gb_alloc (gb_alloc (gb_alloc (gb_refl _ _) _) _) _
  have TT := Lib.hid (block_kept hg7 R6.out rfl)
  have T0 : Hid ((((w6.alloc (.cells #[.int .i64 a0, .int .i64 a1, .int .i64 a2] 40)).alloc (.cells #[.int .i64 b0, .int .i64 b1, .int .i64 b2] 40)).alloc (.cells #[.int .i64 y0, .int .i64 y1, .int .i64 y2] 40)).heap[w6.heap.size]? = some (.cells #[.int .i64 a0, .int .i64 a1, .int .i64 a2] 40 (0, 0))) := Lib.hid (by rw [heap_alloc_old _ _ (by simp <;> omega), heap_alloc_old _ _ (by simp), heap_alloc_new])
  have T1 : Hid ((((w6.alloc (.cells #[.int .i64 a0, .int .i64 a1, .int .i64 a2] 40)).alloc (.cells #[.int .i64 b0, .int .i64 b1, .int .i64 b2] 40)).alloc (.cells #[.int .i64 y0, .int .i64 y1, .int .i64 y2] 40)).heap[w6.heap.size + 1]? = some (.cells #[.int .i64 b0, .int .i64 b1, .int .i64 b2] 40 (0, 0))) := Lib.hid (by rw [heap_alloc_old _ _ (by simp)]; simpa using heap_alloc_new (w6.alloc _) _)
  have T2 : Hid ((((w6.alloc (.cells #[.int .i64 a0, .int .i64 a1, .int .i64 a2] 40)).alloc (.cells #[.int .i64 b0, .int .i64 b1, .int .i64 b2] 40)).alloc (.cells #[.int .i64 y0, .int .i64 y1, .int .i64 y2] 40)).heap[w6.heap.size + 1 + 1]? = some (.cells #[.int .i64 y0, .int .i64 y1, .int .i64 y2] 40 (0, 0))) := Lib.hid (by simpa using heap_alloc_new ((w6.alloc _).alloc _) _)
  have S7l := Lib.hid (S6l.out.after hg7); have S7h := Lib.hid (S6h.out.after hg7); have HH7 := Lib.hid (gb_trans HH6.out hg7)
  clear hg7 R6 S6l S6h HH6
  have hA' := HA.out; have hB' := HB.out; have hY' := HY.out
  obtain ⟨i1, i2, i3, i4, i5, i6⟩ := hA'
  obtain ⟨j1, j2, j3, j4, j5, j6⟩ := hB'
  obtain ⟨k1, k2, k3, k4, k5, k6⟩ := hY'
  have ws0 : IntKind.i64.wrap (a0 + y0) = a0 + y0 := by rw [IntKind.wrap_i64]; omega
  have ws1 : IntKind.i64.wrap (a1 + y1) = a1 + y1 := by rw [IntKind.wrap_i64]; omega
  have ws2 : IntKind.i64.wrap (a2 + y2) = a2 + y2 := by rw [IntKind.wrap_i64]; omega
  have ws3 : IntKind.i64.wrap (b0 + y0) = b0 + y0 := by rw [IntKind.wrap_i64]; omega
  have ws4 : IntKind.i64.wrap (b1 + y1) = b1 + y1 := by rw [IntKind.wrap_i64]; omega
  have ws5 : IntKind.i64.wrap (b2 + y2) = b2 + y2 := by rw [IntKind.wrap_i64]; omega
  go_wp2_with fail
  generalize ((w6.alloc (.cells #[.int .i64 a0, .int .i64 a1, .int .i64 a2] 40)).alloc (.cells #[.int .i64 b0, .int .i64 b1, .int .i64 b2] 40)).alloc (.cells #[.int .i64 y0, .int .i64 y1, .int .i64 y2] 40) = w7 at *
  have la := Made.cells (block_lt' T0.out); have lb := Made.cells (block_lt' T1.out); have ly := Made.cells (block_lt' T2.out)
  obtain ⟨m0, m1, m2⟩ := cells3 T0.out
  obtain ⟨n0, n1, n2⟩ := cells3 T1.out
  obtain ⟨o0, o1, o2⟩ := cells3 T2.out
  refine Rg.region (Made w7) (MakesS 34) (fun k => if k = 32 then some (isVar w7 3 40) else if k = 33 then some (isVar w7 3 40) else if k = 34 then some (isRow #[.int .i64 (a0 + y0), .int .i64 (a1 + y1), .int .i64 (a2 + y2)] 40) else none) (fun k => k == 32 || k == 33) 0 35 (by kernel_rfl) (by kernel_rfl) (by kernel_rfl) (by kernel_rfl) (by kernel_rfl) (by kernel_rfl) (by kernel_rfl) (MakesS.size 34) (Made.start w7) (fun hne => ?_)
  (repeat (refine rLexL_quiet (by rfl) (by rfl) (by rfl) (by rfl) ?_; go_big_quiet_step (fail); refine wpQuiet_nil ?_))
  refine rg_var #[.int .i64 0, .int .i64 0, .int .i64 0] 40 (by decide) rfl rfl (fun _ => by go_simp) (fun c hc => ?_)
  simp only [Act.put, List.setIfInBounds_toArray, List.set_cons_zero, List.set_cons_succ]
  refine rg_var #[.int .i64 0, .int .i64 0, .int .i64 0] 40 (by decide) rfl rfl (fun _ => by go_simp) (fun d hd => ?_)
  simp only [Act.put, List.setIfInBounds_toArray, List.set_cons_zero, List.set_cons_succ]
  refine rg_storeRow c #[.int .i64 (a0 + y0), .int .i64 (a1 + y1), .int .i64 (a2 + y2)] 40 _ _ _ 32 ⟨⟨32, .data⟩, by simp, rfl, rfl⟩ rfl rfl rfl rfl (by kernel_rfl) (by simp [Value.oneCell']) hc rfl rfl rfl ?_ rfl
  simp only [Act.put, List.setIfInBounds_toArray, List.set_cons_zero, List.set_cons_succ]
  rintro wq hq hf hD
  have hc6 := isRow.out (v := undef) (hf 34)
  obtain ⟨dcs, hdcs, hd6⟩ := isVar.out (hf 33)
  have hcd : c ≠ d := (hD 32 _ _ rfl (by kernel_rfl) rfl rfl c rfl (Nat.zero_le _)).2 33 _ _ rfl (by decide) (by kernel_rfl) rfl rfl d rfl (Nat.zero_le _)
  refine wpList_store_row rfl _ _ _ rfl d #[.int .i64 (b0 + y0), .int .i64 (b1 + y1), .int .i64 (b2 + y2)] rfl rfl _ _ hd6 (by kernel_rfl) hdcs (by simp [Value.oneCell']) ?_
  have hg8 : w7.grownBy (wq.setRow d #[.int .i64 (b0 + y0), .int .i64 (b1 + y1), .int .i64 (b2 + y2)]) none := gb_setRow hq (.inl hd)
  have U2 := Lib.hid ((setRow_far (cs := #[.int .i64 (b0 + y0), .int .i64 (b1 + y1), .int .i64 (b2 + y2)]) hcd).trans hc6)
  have U3 := Lib.hid (setRow_at (cs := #[.int .i64 (b0 + y0), .int .i64 (b1 + y1), .int .i64 (b2 + y2)]) hd6)
  have UT := Lib.hid (block_kept hg8 TT.out rfl); have U0 := Lib.hid (block_kept hg8 T0.out rfl); have U1 := Lib.hid (block_kept hg8 T1.out rfl)
  have S8l := Lib.hid (S7l.out.after hg8); have S8h := Lib.hid (S7h.out.after hg8); have HH8 := Lib.hid (gb_trans HH7.out hg8)
  generalize wq.setRow d #[.int .i64 (b0 + y0), .int .i64 (b1 + y1), .int .i64 (b2 + y2)] = w8 at *
  clear hf hD hc6 hd6 hdcs hcd hg8 hq hc hd hne la lb ly m0 m1 m2 n0 n1 n2 o0 o1 o2 ws0 ws1 ws2 ws3 ws4 ws5 TT T0 T1 T2 S7l S7h HH7
  refine wpList_nil ?_
  simp only [Act.put, List.setIfInBounds_toArray, List.set_cons_zero, List.set_cons_succ]
  have va := place_ok HA.out (by omega); have vb := place_ok HB.out (by omega)
  have vc : vP (a0 + y0) (a1 + y1) (a2 + y2) = true := by simp [vP]; omega
  have vd : vP (b0 + y0) (b1 + y1) (b2 + y2) = true := by simp [vP]; omega
  obtain ⟨dd, hdd⟩ : ∃ dd, sqD a0 a1 a2 b0 b1 b2 = dd := ⟨_, rfl⟩
  have hdd2 : sqD b0 b1 b2 a0 a1 a2 = dd := by rw [← hdd]; exact sqD_comm _ _ _ _ _ _
  have hdd3 : sqD (a0 + y0) (a1 + y1) (a2 + y2) (b0 + y0) (b1 + y1) (b2 + y2) = dd := by
    rw [← hdd]; unfold sqD
    rw [show a0 + y0 - (b0 + y0) = a0 - b0 by omega, show a1 + y1 - (b1 + y1) = a1 - b1 by omega, show a2 + y2 - (b2 + y2) = a2 - b2 by omega]
  have hd0 : 0 ≤ dd := hdd ▸ sqD_nonneg _ _ _ _ _ _
  have hdl : dd ≤ 200 * 200 := by
    have q0 := sq_abs (d := a0 - b0) (m := 120) (by omega) (by omega)
    have q1 := sq_abs (d := a1 - b1) (m := 120) (by omega) (by omega)
    have q2 := sq_abs (d := a2 - b2) (m := 60) (by omega) (by omega)
    rw [← hdd]; unfold sqD; omega
  have hce : ceilI dd ≤ 200 := ceilI_le_root hd0 hdl (by omega)
  have hrr : ceilI dd ≤ reachS step ls := by omega
  have E1 := Lib.hid (intV_ok HT.out va vb hdd hrr); have E2 := Lib.hid (intV_ok HT.out vb va hdd2 hrr); have E3 := Lib.hid (intV_ok HT.out vc vd hdd3 hrr)
  have hlo : loA step ls (floorI dd) ≤ hiA step hs (ceilI dd) := by
    have hfl := floorI_le (n := dd) (by omega)
    have hcg : floorI dd ≤ ceilI dd := by unfold ceilI; split <;> omega
    have := grows_plain HT.out hfl.1 hcg hrr
    omega
  clear hdd hdd2 hdd3 hd0 hdl hce hrr va vb vc vd i1 i2 i3 i4 i5 i6 j1 j2 j3 j4 j5 j6 k1 k2 k3 k4 k5 k6
  generalize loA step ls (floorI dd) = lo at *
  generalize hiA step hs (ceilI dd) = hi at *
  have tt := cells3 UT.out
  obtain ⟨t0, t1, t2⟩ := tt
  obtain ⟨m0, m1, m2⟩ := cells3 U0.out
  obtain ⟨n0, n1, n2⟩ := cells3 U1.out
  obtain ⟨o0, o1, o2⟩ := cells3 U2.out
  obtain ⟨r0, r1', r2'⟩ := cells3 U3.out
  go_wp2_with fail
  (with_reducible refine (interval_any _ _ _ _ _ _ _ _ _ _ _ w8 S8l.out S8h.out).mono ?_)
  rintro e w9 ⟨rfl, hgn⟩
  rw [E1.out]
  clear t0 t1 t2 m0 m1 m2 n0 n1 n2 o0 o1 o2 r0 r1' r2'
  have XT := Lib.hid (block_kept hgn UT.out rfl); have X0 := Lib.hid (block_kept hgn U0.out rfl); have X1 := Lib.hid (block_kept hgn U1.out rfl); have X2 := Lib.hid (block_kept hgn U2.out rfl); have X3 := Lib.hid (block_kept hgn U3.out rfl)
  have Xl := Lib.hid (S8l.out.after hgn); have Xh := Lib.hid (S8h.out.after hgn); have XH := Lib.hid (gb_trans HH8.out hgn)
  clear hgn UT U0 U1 U2 U3 S8l S8h HH8
  have UT := XT; have U0 := X0; have U1 := X1; have U2 := X2; have U3 := X3; have S8l := Xl; have S8h := Xh; have HH8 := XH
  clear XT X0 X1 X2 X3 Xl Xh XH
  have tt := cells3 UT.out
  obtain ⟨t0, t1, t2⟩ := tt
  obtain ⟨m0, m1, m2⟩ := cells3 U0.out
  obtain ⟨n0, n1, n2⟩ := cells3 U1.out
  obtain ⟨o0, o1, o2⟩ := cells3 U2.out
  obtain ⟨r0, r1', r2'⟩ := cells3 U3.out
  go_wp2_with fail
  (with_reducible refine (interval_any _ _ _ _ _ _ _ _ _ _ _ w9 S8l.out S8h.out).mono ?_)
  rintro e w10 ⟨rfl, hgn⟩
  rw [E2.out]
  clear t0 t1 t2 m0 m1 m2 n0 n1 n2 o0 o1 o2 r0 r1' r2'
  have XT := Lib.hid (block_kept hgn UT.out rfl); have X0 := Lib.hid (block_kept hgn U0.out rfl); have X1 := Lib.hid (block_kept hgn U1.out rfl); have X2 := Lib.hid (block_kept hgn U2.out rfl); have X3 := Lib.hid (block_kept hgn U3.out rfl)
  have Xl := Lib.hid (S8l.out.after hgn); have Xh := Lib.hid (S8h.out.after hgn); have XH := Lib.hid (gb_trans HH8.out hgn)
  clear hgn UT U0 U1 U2 U3 S8l S8h HH8
  have UT := XT; have U0 := X0; have U1 := X1; have U2 := X2; have U3 := X3; have S8l := Xl; have S8h := Xh; have HH8 := XH
  clear XT X0 X1 X2 X3 Xl Xh XH
  have tt := cells3 UT.out
  obtain ⟨t0, t1, t2⟩ := tt
  obtain ⟨m0, m1, m2⟩ := cells3 U0.out
  obtain ⟨n0, n1, n2⟩ := cells3 U1.out
  obtain ⟨o0, o1, o2⟩ := cells3 U2.out
  obtain ⟨r0, r1', r2'⟩ := cells3 U3.out
  go_wp2_with fail
  (with_reducible refine (interval_any _ _ _ _ _ _ _ _ _ _ _ w10 S8l.out S8h.out).mono ?_)
  rintro e w11 ⟨rfl, hgn⟩
  rw [E3.out]
  clear t0 t1 t2 m0 m1 m2 n0 n1 n2 o0 o1 o2 r0 r1' r2'
  have XT := Lib.hid (block_kept hgn UT.out rfl); have X0 := Lib.hid (block_kept hgn U0.out rfl); have X1 := Lib.hid (block_kept hgn U1.out rfl); have X2 := Lib.hid (block_kept hgn U2.out rfl); have X3 := Lib.hid (block_kept hgn U3.out rfl)
  have Xl := Lib.hid (S8l.out.after hgn); have Xh := Lib.hid (S8h.out.after hgn); have XH := Lib.hid (gb_trans HH8.out hgn)
  clear hgn UT U0 U1 U2 U3 S8l S8h HH8
  have UT := XT; have U0 := X0; have U1 := X1; have U2 := X2; have U3 := X3; have S8l := Xl; have S8h := Xh; have HH8 := XH
  clear XT X0 X1 X2 X3 Xl Xh XH
  go_wp2_with fail
  (with_reducible refine (awake25_any _).mono ?_)
  rintro e w12 ⟨rfl, hgn⟩
  go_wp2
  go_ret
  exact ⟨rfl, gb_end (gb_trans HH8.out hgn)⟩
end Go.Proofs.Ytkmikiljpajaaaa
