/- magnitude.Station. -/
import Derived.Test.YtmgfdfbhfhmekaaGreatMag
namespace Go.Proofs.YtmgfdfbhfhmekaaGreat
set_option linter.all false
open Go.RowKit Rg

theorem at0_bounds {step : Int} {ls hs : List Int} (h : tOk step ls hs) (k : Nat) : 0 ≤ at0 ls k ∧ at0 ls k ≤ 1099511627776 ∧ 0 ≤ at0 hs k ∧ at0 hs k ≤ 1099511627776 := by
  by_cases hk : k < ls.length
  · have := tOk_at h hk; omega
  · have hl := h.2.2.1
    unfold at0
    rw [List.getElem?_eq_none (by omega), List.getElem?_eq_none (by omega)]
    simp
theorem btw_bounds (step : Int) (ls hs : List Int) (near far : Int) : 0 ≤ btwA step ls hs near far ∧ btwA step ls hs near far ≤ 1099511627776 ∧ 0 ≤ btwB step ls hs near far ∧ btwB step ls hs near far ≤ 1099511627776 := by
  unfold btwA btwB
  by_cases h : btwE step ls hs near far = 0
  · rw [if_pos h, if_pos h]
    have ht : tOk step ls hs := by
      unfold btwE at h
      by_cases ht : tOk step ls hs
      · exact ht
      · rw [if_pos ht] at h; omega
    have a := at0_bounds ht (loI step (floorI near)); have b := at0_bounds ht (upI step (ceilI far))
    omega
  · rw [if_neg h, if_neg h]; omega
theorem grX_in {a : Nat} {r : Int × Nat × Nat} (ha : a < 9223372036854775808) (h1 : r.2.1 ≠ 0 → 0 ≤ logNatS (natL r.2.1) ∧ logNatS (natL r.2.1) ≤ 500000) (h2 : r.2.2 ≠ 0 → 0 ≤ logNatS (natL r.2.2) ∧ logNatS (natL r.2.2) ≤ 500000) (h3 : r.1 = 0 → 1 ≤ r.2.2) : -1000000 ≤ grX a r ∧ grX a r ≤ 1000000 := by
  unfold grX
  by_cases h : grE r = 0
  · rw [if_pos h]
    unfold grE at h
    have e0 : r.1 = 0 := by
      by_cases e : r.1 = 0
      · exact e
      · rw [if_pos e] at h; exact absurd h e
    rw [if_neg (by rw [e0]; simp)] at h
    have e1 : r.2.1 ≠ 0 := fun e => by rw [if_pos e] at h; omega
    have := h1 e1; have := h2 (by have := h3 e0; omega); have := logS_in a ha
    unfold grd
    simp only [Int.toNat_natCast]
    omega
  · rw [if_neg h]; omega
theorem stn_cases (s : Sca) (l : List Stg) (a : Nat) (near far : Int) (hok : s.ok = true) (ha : inB a 1 1073741823 = true) :
    stnE s l a near far = (if grE (gainE l s.num s.den) ≠ 0 then grE (gainE l s.num s.den) else btwE s.step s.ls s.hs near far) ∧
    (stnE s l a near far = 0 → grX a (gainE l s.num s.den) = stnG s l a) := by
  have e : stnE s l a near far = (if grE (gainE l s.num s.den) ≠ 0 then grE (gainE l s.num s.den) else btwE s.step s.ls s.hs near far) := by
    unfold stnE
    rw [if_neg (by rw [hok]; decide), if_neg (by rw [ha]; decide)]
    unfold grE
    by_cases h1 : (gainE l s.num s.den).1 = 0
    · rw [if_neg (by rw [h1]; simp), if_neg (show ¬ (gainE l s.num s.den).1 ≠ 0 by rw [h1]; simp)]
      by_cases h2 : (gainE l s.num s.den).2.1 = 0
      · rw [if_pos h2, if_pos h2]; simp
      · rw [if_neg h2, if_neg h2]; simp
    · rw [if_pos h1, if_pos h1, if_pos h1]
  refine ⟨e, fun h => ?_⟩
  rw [e] at h
  have h0 : grE (gainE l s.num s.den) = 0 := by
    by_cases h0 : grE (gainE l s.num s.den) = 0
    · exact h0
    · rw [if_pos h0] at h; exact absurd h h0
  unfold grX stnG
  rw [if_pos h0]
theorem stn_err {s : Sca} {l : List Stg} {a near far c : Int} (h : stnE s l a near far = c) (hc : c ≠ 0) : Ending.returned (.tuple #[.agg #[.int .i64 0, .int .i64 0], .int .i64 c]) = .returned (stnV s l a near far) := by
  unfold stnV stnL stnH
  rw [h, if_neg hc, if_neg hc]
theorem stn_ok {s : Sca} {l : List Stg} {a near far x lo hi : Int} (h : stnE s l a near far = 0) (hx : x = stnG s l a) (h1 : btwA s.step s.ls s.hs near far = lo) (h2 : btwB s.step s.ls s.hs near far = hi) :
    Ending.returned (.tuple #[.agg #[.int .i64 (floorS ((x - 2) / 2) + lo), .int .i64 (-floorS ((-x - 6) / 2) + hi)], .int .i64 0]) = .returned (stnV s l a near far) := by
  unfold stnV stnL stnH
  rw [h, if_pos rfl, if_pos rfl, hx, h1, h2]

set_option maxRecDepth 100000 in
set_option maxHeartbeats 4000000 in
theorem station_any (s : Sca) (vl vh v : Value) (L : List Stv) (a near far : Int) (w : World) (hl : Sl w vl s.ls) (hh : Sl w vh s.hs) (hs : StIn w v L) (hf : far ≤ 9223372036854775807) :
    Calls Tryz.prog 15 #[.agg (s.val vl vh), .agg #[v], .int .i64 a, .int .i64 near, .int .i64 far] w fun e w' => e = .returned (stnV s (L.map Stv.s) a near far) ∧ w.grownBy w' none := by
  obtain ⟨step, ls, hs', num, den⟩ := s
  dsimp only at hl hh
  have SC := Lib.hid (fun (u : World) (hu : w.grownBy u none) => vscale_any ⟨step, ls, hs', num, den⟩ vl vh u (hl.after hu) (hh.after hu))
  have GR := Lib.hid (fun (n : Nat) (h1 : 1 ≤ n) (h2 : n ≤ 1073741823) (u : World) (hu : w.grownBy u none) => ground_any ⟨step, ls, hs', num, den⟩ vl vh v L n u (hl.after hu) (hh.after hu) (hs.after hu) h1 h2)
  have BT := Lib.hid (fun (u : World) (hu : w.grownBy u none) => between_any step near far vl vh ls hs' u (hl.after hu) (hh.after hu) hf)
  have BB := Lib.hid (btw_bounds step ls hs' near far)
  obtain ⟨M, hM⟩ : ∃ M : Nat, M = 881 := ⟨_, rfl⟩
  have GX := Lib.hid (fun (n : Nat) (h : n ≤ 1073741823) => grX_in (a := n) (r := gainE (L.map Stv.s) num den) (by omega) (fun h => logNatS_in (natL_ok hM (gainE_in hM).1).2 (natL_pos_len (by omega))) (fun h => logNatS_in (natL_ok hM (gainE_in hM).2.1).2 (natL_pos_len (by omega))) (gainE_in hM).2.2)
  have CA := Lib.hid (fun (n : Nat) (h1 : Sca.ok ⟨step, ls, hs', num, den⟩ = true) (h2 : inB n 1 1073741823 = true) => stn_cases ⟨step, ls, hs', num, den⟩ (L.map Stv.s) n near far h1 h2)
  have E27 := Lib.hid (fun (h : Sca.ok ⟨step, ls, hs', num, den⟩ = false) => stn_err (s := ⟨step, ls, hs', num, den⟩) (l := L.map Stv.s) (a := a) (near := near) (far := far) (c := 27) (by unfold stnE; rw [if_pos h]) (by decide))
  have E2 := Lib.hid (fun (h : Sca.ok ⟨step, ls, hs', num, den⟩ = true) (h2 : inB a 1 1073741823 = false) => stn_err (s := ⟨step, ls, hs', num, den⟩) (l := L.map Stv.s) (a := a) (near := near) (far := far) (c := 2) (by unfold stnE; rw [if_neg (by rw [h]; decide), if_pos h2]) (by decide))
  have EE := Lib.hid (fun (c : Int) => stn_err (s := ⟨step, ls, hs', num, den⟩) (l := L.map Stv.s) (a := a) (near := near) (far := far) (c := c))
  have EK := Lib.hid (fun (x lo hi : Int) => stn_ok (s := ⟨step, ls, hs', num, den⟩) (l := L.map Stv.s) (a := a) (near := near) (far := far) (x := x) (lo := lo) (hi := hi))
  have hv1 : vl.oneCell' = true := by obtain ⟨a, c, rfl⟩ := hl.shape; rfl
  have hv2 : vh.oneCell' = true := by obtain ⟨a, c, rfl⟩ := hh.shape; rfl
  have hv3 : v.oneCell' = true := by obtain ⟨a, c, rfl⟩ := hs.1.slice; rfl
  have g1 := gb_alloc (gb_refl w none) (.cells #[.int .i64 step, vl, vh, .int .i64 num, .int .i64 den] 26)
  have b1 := heap_alloc_new w (.cells #[.int .i64 step, vl, vh, .int .i64 num, .int .i64 den] 26)
  have l1 : (w.alloc (.cells #[.int .i64 step, vl, vh, .int .i64 num, .int .i64 den] 26)).heap.size = w.heap.size + 1 := by simp
  have g2 := gb_alloc (gb_refl (w.alloc (.cells #[.int .i64 step, vl, vh, .int .i64 num, .int .i64 den] 26)) none) (.cells #[v] 29)
  have b2 := heap_alloc_new (w.alloc (.cells #[.int .i64 step, vl, vh, .int .i64 num, .int .i64 den] 26)) (.cells #[v] 29)
  rw [l1] at b2
  have l2 : ((w.alloc (.cells #[.int .i64 step, vl, vh, .int .i64 num, .int .i64 den] 26)).alloc (.cells #[v] 29)).heap.size = w.heap.size + 1 + 1 := by simp
  have g3 := gb_alloc (gb_refl ((w.alloc (.cells #[.int .i64 step, vl, vh, .int .i64 num, .int .i64 den] 26)).alloc (.cells #[v] 29)) none) (.cells #[.int .i64 0, .int .i64 0] 46)
  have b3 := heap_alloc_new ((w.alloc (.cells #[.int .i64 step, vl, vh, .int .i64 num, .int .i64 den] 26)).alloc (.cells #[v] 29)) (.cells #[.int .i64 0, .int .i64 0] 46)
  rw [l2] at b3
  have W3 := Lib.hid (gb_trans (gb_trans g1 g2) g3); have S3 := Lib.hid (block_kept g3 (block_kept g2 b1 rfl) rfl); have R3 := Lib.hid (block_kept g3 b2 rfl); have O3 := Lib.hid b3
  clear hl hh hs hM g1 b1 l1 g2 b2 l2 g3 b3
  generalize hok : Sca.ok ⟨step, ls, hs', num, den⟩ = ok at *
  clear hok
  simp only [Sca.val] at SC GR ⊢
  unfold btw at BT
  generalize btwA step ls hs' near far = lo at *
  generalize btwB step ls hs' near far = hi at *
  generalize hbe : btwE step ls hs' near far = be at *
  clear hbe
  generalize stnV ⟨step, ls, hs', num, den⟩ (L.map Stv.s) a near far = RV at *
  go_enter Tryz.func15, Tryz.ntmps15
  go_wp2_with fail
  generalize ((w.alloc (.cells #[.int .i64 step, vl, vh, .int .i64 num, .int .i64 den] 26)).alloc (.cells #[v] 29)).alloc (.cells #[.int .i64 0, .int .i64 0] 46) = w3 at *
  generalize hz : w.heap.size = z at *
  have HZW : Hid (w.heap.size ≤ z) := Lib.hid (by omega)
  clear hz
  (with_reducible refine (SC.out w3 W3.out).mono ?_)
  rintro e w4 ⟨rfl, hg⟩
  have W4 := Lib.hid (gb_trans W3.out hg); have S4 := Lib.hid (block_kept hg S3.out rfl); have R4 := Lib.hid (block_kept hg R3.out rfl); have O4 := Lib.hid (block_kept hg O3.out rfl)
  clear hg W3 S3 R3 O3 SC
  have hzz : w.heap.size ≤ z + 1 + 1 := by have := HZW.out; omega
  have GZ := Lib.hid (gb_setCell (gb_setCell W4.out (a := ⟨z + 1 + 1, 0, none⟩) (.inl hzz) (.int .i64 0)) (a := ⟨z + 1 + 1, 1, none⟩) (.inl hzz) (.int .i64 0))
  have hbo := block_lt' O4.out
  have hf0 := frz O4.out 0; have hf1 := frz O4.out 1
  obtain ⟨p0_, p1_⟩ := cells2' O4.out
  clear hzz
  cases ok
  · go_wp2_with fail
    exact bodyPost_ret (v := .tuple #[.agg #[.int .i64 0, .int .i64 0], .int .i64 27]) (by simp [results, Tryz.results15, go_sem, p0_, p1_]) rfl ⟨E27.out trivial, GZ.out⟩
  obtain ⟨ia, hia⟩ : ∃ b, inB a 1 1073741823 = b := ⟨_, rfl⟩
  cases ia
  · have HE2 := Lib.hid (E2.out rfl hia)
    rcases three a 1 1073741823 with ha | ⟨ha1, ha2⟩ | ⟨ha1, ha2⟩
    · have ha' : decide (a < 1) = true := decide_eq_true ha
      clear hia ha
      go_wp2_with fail
      exact bodyPost_ret (v := .tuple #[.agg #[.int .i64 0, .int .i64 0], .int .i64 2]) (by simp [results, Tryz.results15, go_sem, p0_, p1_]) rfl ⟨HE2.out, GZ.out⟩
    · have ha' : decide (a < 1) = false := decide_eq_false (by omega)
      have ha3 : decide (a > 1073741823) = true := decide_eq_true (by omega)
      clear hia ha1 ha2
      go_wp2_with fail
      exact bodyPost_ret (v := .tuple #[.agg #[.int .i64 0, .int .i64 0], .int .i64 2]) (by simp [results, Tryz.results15, go_sem, p0_, p1_]) rfl ⟨HE2.out, GZ.out⟩
    · rw [inB_iff.2 ⟨ha1, ha2⟩] at hia; cases hia
  have hin := inB_iff.1 hia
  obtain ⟨n, rfl⟩ : ∃ n : Nat, a = n := ⟨a.toNat, by omega⟩
  have GRn := Lib.hid (GR.out n (by omega) (by omega))
  have GXn := Lib.hid (GX.out n (by omega))
  have CAn := Lib.hid (CA.out n rfl hia)
  have hn1 : decide ((n : Int) < 1) = false := decide_eq_false (by omega)
  have hn2 : decide ((n : Int) > 1073741823) = false := decide_eq_false (by omega)
  clear GR GX CA hia hin E27 E2
  generalize gainE (L.map Stv.s) num den = r at *

  clear GZ hbo hf0 hf1 p0_ p1_
  obtain ⟨q0_, q1_, q2_, q3_, q4_⟩ := cells5 S4.out
  have r0_ := cell_of R4.out 0 _ rfl
  have r0_ : w4.cell? ⟨z + 1, 0, none⟩ = some v := r0_
  have hs4 := block_lt' S4.out; have hr4 := block_lt' R4.out
  go_wp2_with fail
  clear q0_ q1_ q2_ q3_ q4_ r0_ hs4 hr4 hn1 hn2
  (with_reducible refine (GRn.out w4 W4.out).mono ?_)
  rintro e w5 ⟨rfl, hg⟩
  have W5 := Lib.hid (gb_trans W4.out hg); have S5 := Lib.hid (block_kept hg S4.out rfl); have R5 := Lib.hid (block_kept hg R4.out rfl); have O5 := Lib.hid (block_kept hg O4.out rfl)
  clear hg W4 S4 R4 O4
  clear GRn
  have hzz : w.heap.size ≤ z + 1 + 1 := by have := HZW.out; omega
  have GZ := Lib.hid (gb_setCell (gb_setCell W5.out (a := ⟨z + 1 + 1, 0, none⟩) (.inl hzz) (.int .i64 0)) (a := ⟨z + 1 + 1, 1, none⟩) (.inl hzz) (.int .i64 0))
  have hbo := block_lt' O5.out
  have hf0 := frz O5.out 0; have hf1 := frz O5.out 1
  obtain ⟨p0_, p1_⟩ := cells2' O5.out
  clear hzz
  generalize hge : grE r = ge at *
  by_cases h0 : ge = 0
  rotate_left
  · have HEE := Lib.hid (EE.out ge (by rw [CAn.out.1, if_pos h0]) h0)
    have h0' : (ge != 0) = true := by simpa using h0
    clear hge h0
    go_wp2_with fail
    exact bodyPost_ret (v := .tuple #[.agg #[.int .i64 0, .int .i64 0], .int .i64 ge]) (by simp [results, Tryz.results15, go_sem, p0_, p1_]) rfl ⟨HEE.out, GZ.out⟩
  have h0' : (ge != 0) = false := by simpa using h0
  rw [if_neg (by rw [h0]; simp)] at CAn
  subst h0
  clear hge
  clear GZ hbo hf0 hf1 p0_ p1_
  obtain ⟨q0_, q1_, q2_, q3_, q4_⟩ := cells5 S5.out
  have hs5 := block_lt' S5.out
  go_wp2_with fail
  clear q0_ q1_ q2_ q3_ q4_ hs5
  (with_reducible refine (BT.out w5 W5.out).mono ?_)
  rintro e w6 ⟨rfl, hg⟩
  have W6 := Lib.hid (gb_trans W5.out hg); have S6 := Lib.hid (block_kept hg S5.out rfl); have R6 := Lib.hid (block_kept hg R5.out rfl); have O6 := Lib.hid (block_kept hg O5.out rfl)
  clear hg W5 S5 R5 O5
  clear BT
  have hzz : w.heap.size ≤ z + 1 + 1 := by have := HZW.out; omega
  have GZ := Lib.hid (gb_setCell (gb_setCell W6.out (a := ⟨z + 1 + 1, 0, none⟩) (.inl hzz) (.int .i64 0)) (a := ⟨z + 1 + 1, 1, none⟩) (.inl hzz) (.int .i64 0))
  have hbo := block_lt' O6.out
  have hf0 := frz O6.out 0; have hf1 := frz O6.out 1
  obtain ⟨p0_, p1_⟩ := cells2' O6.out
  clear hzz
  by_cases h1 : be = 0
  rotate_left
  · have HEE := Lib.hid (EE.out be CAn.out.1 h1)
    have h1' : (be != 0) = true := by simpa using h1
    clear h1
    go_wp2_with fail
    exact bodyPost_ret (v := .tuple #[.agg #[.int .i64 0, .int .i64 0], .int .i64 be]) (by simp [results, Tryz.results15, go_sem, p0_, p1_]) rfl ⟨HEE.out, GZ.out⟩
  subst h1
  have HKK := Lib.hid (EK.out (grX n r) lo hi CAn.out.1 (CAn.out.2 CAn.out.1) rfl rfl)
  have gx := GXn.out
  clear EE EK CAn GXn GZ
  generalize grX n r = x at *
  have hw1 : IntKind.i64.wrap (x - 2) = x - 2 := by rw [IntKind.wrap_i64]; omega
  have hw2 : IntKind.i64.wrap (-x) = -x := by rw [IntKind.wrap_i64]; omega
  have hw3 : IntKind.i64.wrap (-x - 6) = -x - 6 := by rw [IntKind.wrap_i64]; omega
  go_wp2_with fail
  (with_reducible refine (half_any _ _).mono ?_)
  rintro e w' ⟨rfl, rfl⟩
  have hf1_ := floorS_in ((x - 2) / 2); have hbb := BB.out
  have hw4 : IntKind.i64.wrap (floorS ((x - 2) / 2) + lo) = floorS ((x - 2) / 2) + lo := by rw [IntKind.wrap_i64]; omega
  go_wp2_with fail
  (with_reducible refine (floor_any _ _).mono ?_)
  rintro e w' ⟨rfl, rfl⟩
  go_wp2_with fail
  (with_reducible refine (half_any _ _).mono ?_)
  rintro e w' ⟨rfl, rfl⟩
  have hf2_ := floorS_in ((-x - 6) / 2)
  have hw5 : IntKind.i64.wrap (-((-x - 6) / 2)) = -((-x - 6) / 2) := by rw [IntKind.wrap_i64]; omega
  have hw6 : wrap64 (-(-((-x - 6) / 2))) = (-x - 6) / 2 := by rw [Int.neg_neg]; exact IntWalk.wrap64_in _ (by omega)
  have hw7 : IntKind.i64.wrap (-floorS ((-x - 6) / 2) + hi) = -floorS ((-x - 6) / 2) + hi := by rw [IntKind.wrap_i64]; omega
  go_wp2_with fail
  (with_reducible refine (ceil_any _ _).mono ?_)
  rintro e w' ⟨rfl, rfl⟩
  rw [hw6]
  have hzz : w.heap.size ≤ z + 1 + 1 := by have := HZW.out; omega
  have GZ := Lib.hid (gb_setCell (gb_setCell W6.out (a := ⟨z + 1 + 1, 0, none⟩) (.inl hzz) (.int .i64 (floorS ((x - 2) / 2) + lo))) (a := ⟨z + 1 + 1, 1, none⟩) (.inl hzz) (.int .i64 (-floorS ((-x - 6) / 2) + hi)))
  clear hzz hw6
  generalize floorS ((x - 2) / 2) = f1 at *
  generalize floorS ((-x - 6) / 2) = f2 at *
  go_wp2_with fail
  exact bodyPost_ret (v := .tuple #[.agg #[.int .i64 (f1 + lo), .int .i64 (-f2 + hi)], .int .i64 0]) (by simp [results, Tryz.results15, go_sem, p0_, p1_]) rfl ⟨HKK.out, GZ.out⟩
end Go.Proofs.YtmgfdfbhfhmekaaGreat
