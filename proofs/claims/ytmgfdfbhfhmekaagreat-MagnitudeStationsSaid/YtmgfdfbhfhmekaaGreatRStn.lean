/- ref32.Station. -/
import Derived.Test.YtmgfdfbhfhmekaaGreatStn
import Derived.Test.YtmgfdfbhfhmekaaGreatR18M
import Derived.Test.YtmgfdfbhfhmekaaGreatR18B
import Derived.Test.YtmgfdfbhfhmekaaGreatRefC
namespace Go.Proofs.YtmgfdfbhfhmekaaGreat
set_option linter.all false
open Go.RowKit Rg

theorem rlognat_nat (n : Nat) (v : Value) (w : World) (hs : Sl w v (natL n)) (h : (n : Int) < bpow 64) (h0 : n ≠ 0) :
    Calls Tryz.prog 32 #[v] w fun e w' => e = .returned (.tuple #[.int .i64 (logNatS (natL n)), .int .i64 0]) ∧ w.grownBy w' none := by
  refine (rlognat_any (natL n) v w hs ((natL_is n).valid (natL_lt64 h)) (natL_pos_len (by omega))).mono ?_
  rintro e w' ⟨rfl, k, rfl⟩
  exact ⟨rfl, gb_drewN (gb_refl _ _) _⟩
set_option maxRecDepth 100000 in
set_option maxHeartbeats 4000000 in
theorem rstation_any (s : Sca) (vl vh v : Value) (L : List Stv) (a near far : Int) (w : World) (hl : Sl w vl s.ls) (hh : Sl w vh s.hs) (hs : StIn w v L) (hf : far ≤ 9223372036854775807) :
    Calls Tryz.prog 16 #[.agg (s.val vl vh), .agg #[v], .int .i64 a, .int .i64 near, .int .i64 far] w fun e w' => e = .returned (stnV s (L.map Stv.s) a near far) ∧ w.grownBy w' none := by
  obtain ⟨step, ls, hs', num, den⟩ := s
  dsimp only at hl hh
  have SC := Lib.hid (fun (u : World) (hu : w.grownBy u none) => rvscale_any ⟨step, ls, hs', num, den⟩ vl vh u (hl.after hu) (hh.after hu))
  have GR := Lib.hid (fun (u : World) (hu : w.grownBy u none) => rGain_any L v num den u (hs.after hu))
  have BT := Lib.hid (fun (u : World) (hu : w.grownBy u none) => rbetween_any step near far vl vh ls hs' u (hl.after hu) (hh.after hu) hf)
  have BB := Lib.hid (btw_bounds step ls hs' near far)
  obtain ⟨M, hM⟩ : ∃ M : Nat, M = 881 := ⟨_, rfl⟩
  have GX := Lib.hid (fun (n : Nat) (h : n ≤ 1073741823) => grX_in (a := n) (r := gainE (L.map Stv.s) num den) (by omega) (fun h => logNatS_in (natL_ok hM (gainE_in hM).1).2 (natL_pos_len (by omega))) (fun h => logNatS_in (natL_ok hM (gainE_in hM).2.1).2 (natL_pos_len (by omega))) (gainE_in hM).2.2)
  have CA := Lib.hid (fun (n : Nat) (h1 : Sca.ok ⟨step, ls, hs', num, den⟩ = true) (h2 : inB n 1 1073741823 = true) => stn_cases ⟨step, ls, hs', num, den⟩ (L.map Stv.s) n near far h1 h2)
  have E27 := Lib.hid (fun (h : Sca.ok ⟨step, ls, hs', num, den⟩ = false) => stn_err (s := ⟨step, ls, hs', num, den⟩) (l := L.map Stv.s) (a := a) (near := near) (far := far) (c := 27) (by unfold stnE; rw [if_pos h]) (by decide))
  have E2 := Lib.hid (fun (h : Sca.ok ⟨step, ls, hs', num, den⟩ = true) (h2 : inB a 1 1073741823 = false) => stn_err (s := ⟨step, ls, hs', num, den⟩) (l := L.map Stv.s) (a := a) (near := near) (far := far) (c := 2) (by unfold stnE; rw [if_neg (by rw [h]; decide), if_pos h2]) (by decide))
  have EE := Lib.hid (fun (c : Int) => stn_err (s := ⟨step, ls, hs', num, den⟩) (l := L.map Stv.s) (a := a) (near := near) (far := far) (c := c))
  have EK := Lib.hid (fun (x lo hi : Int) => stn_ok (s := ⟨step, ls, hs', num, den⟩) (l := L.map Stv.s) (a := a) (near := near) (far := far) (x := x) (lo := lo) (hi := hi))
  have hv1 : vl.oneCell' = true := by obtain ⟨a, c, rfl⟩ := hl.shape; rfl
  have hv2 : vh.oneCell' = true := by obtain ⟨a, c, rfl⟩ := hh.shape; rfl
  have hv3 : v.oneCell' = true := by obtain ⟨a, c, rfl⟩ := hs.1.slice; rfl
  have g1 := gb_alloc (gb_refl w none) (.cells #[.int .i64 step, vl, vh, .int .i64 num, .int .i64 den] 26)
  have b1 := heap_alloc_new w (.cells #[.int .i64 step, vl, vh, .int .i64 num, .int .i64 den] 26)
  have l1 : (w.alloc (.cells #[.int .i64 step, vl, vh, .int .i64 num, .int .i64 den] 26)).heap.size = w.heap.size + 1 := by simp
  have g2 := gb_alloc (gb_refl (w.alloc (.cells #[.int .i64 step, vl, vh, .int .i64 num, .int .i64 den] 26)) none) (.cells #[v] 29)
  have b2 := heap_alloc_new (w.alloc (.cells #[.int .i64 step, vl, vh, .int .i64 num, .int .i64 den] 26)) (.cells #[v] 29)
  rw [l1] at b2
  have l2 : ((w.alloc (.cells #[.int .i64 step, vl, vh, .int .i64 num, .int .i64 den] 26)).alloc (.cells #[v] 29)).heap.size = w.heap.size + 1 + 1 := by simp
  have g3 := gb_alloc (gb_refl ((w.alloc (.cells #[.int .i64 step, vl, vh, .int .i64 num, .int .i64 den] 26)).alloc (.cells #[v] 29)) none) (.cells #[.int .i64 0, .int .i64 0] 46)
  have b3 := heap_alloc_new ((w.alloc (.cells #[.int .i64 step, vl, vh, .int .i64 num, .int .i64 den] 26)).alloc (.cells #[v] 29)) (.cells #[.int .i64 0, .int .i64 0] 46)
  rw [l2] at b3
  have W3 := Lib.hid (gb_trans (gb_trans g1 g2) g3); have S3 := Lib.hid (block_kept g3 (block_kept g2 b1 rfl) rfl); have R3 := Lib.hid (block_kept g3 b2 rfl); have O3 := Lib.hid b3
  have GI := Lib.hid (gainE_in hM (l := L.map Stv.s) (num := num) (den := den))
  have GL : Hid (∀ k : Nat, (k = (gainE (L.map Stv.s) num den).2.1 ∨ k = (gainE (L.map Stv.s) num den).2.2) → (k : Int) < bpow 64 ∧ (0 < k → 0 ≤ logNatS (natL k) ∧ logNatS (natL k) ≤ 500000)) := Lib.hid (fun k hk => by
    have hlt : k < 2 ^ M := by rcases hk with rfl | rfl; exact GI.out.1; exact GI.out.2.1
    exact ⟨pow_bpow hlt (by omega), fun h => logNatS_in (natL_ok hM hlt).2 (natL_pos_len h)⟩)
  have GD : Hid ((gainE (L.map Stv.s) num den).1 = 0 → 1 ≤ (gainE (L.map Stv.s) num den).2.2) := Lib.hid GI.out.2.2
  clear GI
  clear hl hh hs hM g1 b1 l1 g2 b2 l2 g3 b3
  generalize hok : Sca.ok ⟨step, ls, hs', num, den⟩ = ok at *
  clear hok
  simp only [Sca.val] at SC ⊢
  unfold btw at BT
  generalize btwA step ls hs' near far = lo at *
  generalize btwB step ls hs' near far = hi at *
  generalize hbe : btwE step ls hs' near far = be at *
  clear hbe
  generalize stnV ⟨step, ls, hs', num, den⟩ (L.map Stv.s) a near far = RV at *
  go_enter Tryz.func16, Tryz.ntmps16
  go_wp2_with fail
  generalize ((w.alloc (.cells #[.int .i64 step, vl, vh, .int .i64 num, .int .i64 den] 26)).alloc (.cells #[v] 29)).alloc (.cells #[.int .i64 0, .int .i64 0] 46) = w3 at *
  generalize hz : w.heap.size = z at *
  have HZW : Hid (w.heap.size ≤ z) := Lib.hid (by omega)
  clear hz
  (with_reducible refine (SC.out w3 W3.out).mono ?_)
  rintro e w4 ⟨rfl, hg⟩
  have W4 := Lib.hid (gb_trans W3.out hg); have S4 := Lib.hid (block_kept hg S3.out rfl); have R4 := Lib.hid (block_kept hg R3.out rfl); have O4 := Lib.hid (block_kept hg O3.out rfl)
  clear hg W3 S3 R3 O3 SC
  have hzz : w.heap.size ≤ z + 1 + 1 := by have := HZW.out; omega
  have GZ := Lib.hid (gb_setCell (gb_setCell W4.out (a := ⟨z + 1 + 1, 0, none⟩) (.inl hzz) (.int .i64 0)) (a := ⟨z + 1 + 1, 1, none⟩) (.inl hzz) (.int .i64 0))
  have hbo := block_lt' O4.out
  have hf0 := frz O4.out 0; have hf1 := frz O4.out 1
  obtain ⟨p0_, p1_⟩ := cells2' O4.out
  clear hzz
  cases ok
  · go_wp2_with fail
    exact bodyPost_ret (v := .tuple #[.agg #[.int .i64 0, .int .i64 0], .int .i64 27]) (by simp [results, Tryz.results16, go_sem, p0_, p1_]) rfl ⟨E27.out trivial, GZ.out⟩
  obtain ⟨ia, hia⟩ : ∃ b, inB a 1 1073741823 = b := ⟨_, rfl⟩
  cases ia
  · have HE2 := Lib.hid (E2.out rfl hia)
    rcases three a 1 1073741823 with ha | ⟨ha1, ha2⟩ | ⟨ha1, ha2⟩
    · have ha' : decide (a < 1) = true := decide_eq_true ha
      clear hia ha
      go_wp2_with fail
      exact bodyPost_ret (v := .tuple #[.agg #[.int .i64 0, .int .i64 0], .int .i64 2]) (by simp [results, Tryz.results16, go_sem, p0_, p1_]) rfl ⟨HE2.out, GZ.out⟩
    · have ha' : decide (a < 1) = false := decide_eq_false (by omega)
      have ha3 : decide (a > 1073741823) = true := decide_eq_true (by omega)
      clear hia ha1 ha2
      go_wp2_with fail
      exact bodyPost_ret (v := .tuple #[.agg #[.int .i64 0, .int .i64 0], .int .i64 2]) (by simp [results, Tryz.results16, go_sem, p0_, p1_]) rfl ⟨HE2.out, GZ.out⟩
    · rw [inB_iff.2 ⟨ha1, ha2⟩] at hia; cases hia
  have hin := inB_iff.1 hia
  obtain ⟨n, rfl⟩ : ∃ n : Nat, a = n := ⟨a.toNat, by omega⟩
  have GXn := Lib.hid (GX.out n (by omega))
  have CAn := Lib.hid (CA.out n rfl hia)
  have hn1 : decide ((n : Int) < 1) = false := decide_eq_false (by omega)
  have hn2 : decide ((n : Int) > 1073741823) = false := decide_eq_false (by omega)
  clear GX CA hia E27 E2
  generalize gainE (L.map Stv.s) num den = r at *

  clear GZ hbo hf0 hf1 p0_ p1_
  obtain ⟨E, N, D⟩ := r
  simp only [] at GL GD
  have LA := Lib.hid (fun u => rlog_any n u (by omega) (by omega))
  have LI := Lib.hid (logS_in n (by omega))
  clear hin
  obtain ⟨q0_, q1_, q2_, q3_, q4_⟩ := cells5 S4.out
  have r0_ := cell_of R4.out 0 _ rfl
  have r0_ : w4.cell? ⟨z + 1, 0, none⟩ = some v := r0_
  have hs4 := block_lt' S4.out; have hr4 := block_lt' R4.out
  go_wp2_with fail
  clear q0_ q1_ q2_ q3_ q4_ r0_ hs4 hr4 hn1 hn2
  (with_reducible refine (GR.out w4 W4.out).mono ?_)
  rintro e wg ⟨v1, v2, rfl, t1, t2, hg⟩
  simp only [] at t1 t2
  obtain ⟨a1, c1, rfl⟩ := t1.shape; obtain ⟨a2, c2, rfl⟩ := t2.shape
  have g5 := gb_alloc hg (.cells #[.slice a1 (natL N).length c1, .slice a2 (natL D).length c2] 68)
  have g5' := gb_alloc (gb_refl wg none) (.cells #[.slice a1 (natL N).length c1, .slice a2 (natL D).length c2] 68)
  have F5 := Lib.hid (heap_alloc_new wg (.cells #[.slice a1 (natL N).length c1, .slice a2 (natL D).length c2] 68))
  have W5 := Lib.hid (gb_trans W4.out g5); have S5 := Lib.hid (block_kept g5 S4.out rfl); have O5 := Lib.hid (block_kept g5 O4.out rfl)
  have T1 := Lib.hid (t1.after g5'); have T2 := Lib.hid (t2.after g5')
  have HZ5 := Lib.hid (show z + 1 + 1 < wg.heap.size from Nat.lt_of_lt_of_le (block_lt' O4.out) hg.size)
  clear hg W4 S4 R4 O4 g5 g5' t1 t2 GR
  have HCA1 : Hid (stnE ⟨step, ls, hs', num, den⟩ (L.map Stv.s) n near far = if grE (E, N, D) ≠ 0 then grE (E, N, D) else be) := Lib.hid CAn.out.1
  have hzz : w.heap.size ≤ z + 1 + 1 := by have := HZW.out; omega
  have GZ := Lib.hid (gb_setCell (gb_setCell W5.out (a := ⟨z + 1 + 1, 0, none⟩) (.inl hzz) (.int .i64 0)) (a := ⟨z + 1 + 1, 1, none⟩) (.inl hzz) (.int .i64 0))
  have hbo := block_lt' O5.out
  have hf0 := frz O5.out 0; have hf1 := frz O5.out 1
  obtain ⟨p0_, p1_⟩ := cells2' O5.out
  clear hzz
  by_cases h0 : E = 0
  rotate_left
  · have HEE := Lib.hid (EE.out E (by rw [HCA1.out]; simp [grE, h0]) h0)
    have h0' : (E != 0) = true := by simpa using h0
    clear h0
    generalize (natL N).length = ln at *
    generalize (natL D).length = ld at *
    go_wp2_with fail
    exact bodyPost_ret (v := .tuple #[.agg #[.int .i64 0, .int .i64 0], .int .i64 E]) (by simp [results, Tryz.results16, go_sem, p0_, p1_]) rfl ⟨HEE.out, GZ.out⟩
  subst h0
  by_cases hN0 : N = 0
  · have HEE := Lib.hid (EE.out 24 (by rw [HCA1.out]; simp [grE, hN0]) (by decide))
    have hl0 : (((natL N).length : Int) == 0) = true := by rw [natL_len.2 hN0]; rfl
    obtain ⟨y0_, y1_⟩ := cells2' F5.out
    have hf5 := block_lt' F5.out
    clear hN0
    generalize (natL N).length = ln at *
    generalize (natL D).length = ld at *
    go_wp2_with fail
    exact bodyPost_ret (v := .tuple #[.agg #[.int .i64 0, .int .i64 0], .int .i64 24]) (by simp [results, Tryz.results16, go_sem, p0_, p1_]) rfl ⟨HEE.out, GZ.out⟩
  have hl0 : (((natL N).length : Int) == 0) = false := by have := natL_pos_len (show 0 < N by omega); exact beq_eq_false_iff_ne.2 (by omega)
  have hgr0 : grE (0, N, D) = 0 := by simp [grE, hN0]
  have HCA2 : Hid (stnE ⟨step, ls, hs', num, den⟩ (L.map Stv.s) n near far = be) := Lib.hid (by rw [HCA1.out, hgr0]; simp)
  have hD0 : D ≠ 0 := by have := GD.out rfl; omega
  have BN := Lib.hid ((GL.out N (.inl rfl)).2 (by omega)); have BD := Lib.hid ((GL.out D (.inr rfl)).2 (by omega))
  have LN := Lib.hid (fun (u : World) (hu : (wg.alloc (.cells #[.slice a1 (natL N).length c1, .slice a2 (natL D).length c2] 68)).grownBy u none) => rlognat_nat N _ u (T1.out.after hu) (GL.out N (.inl rfl)).1 hN0)
  have LD := Lib.hid (fun (u : World) (hu : (wg.alloc (.cells #[.slice a1 (natL N).length c1, .slice a2 (natL D).length c2] 68)).grownBy u none) => rlognat_nat D _ u (T2.out.after hu) (GL.out D (.inr rfl)).1 hD0)
  have HGX : Hid (grX n (0, N, D) = 2 * logS n + logNatS (natL D) - logNatS (natL N)) := Lib.hid (by unfold grX; rw [if_pos hgr0]; simp [grd])
  clear hgr0 hN0 hD0 GL GD T1 T2
  generalize grX n (0, N, D) = gx at *
  clear GZ hbo hf0 hf1 p0_ p1_
  generalize (natL N).length = ln at *
  generalize (natL D).length = ld at *
  obtain ⟨q0_, q1_, q2_, q3_, q4_⟩ := cells5 S5.out
  have hs5 := block_lt' S5.out
  obtain ⟨y0_, y1_⟩ := cells2' F5.out
  have hf5 := block_lt' F5.out
  go_wp2_with fail
  clear q0_ q1_ q2_ q3_ q4_ hs5 y0_ y1_ hf5
  generalize wg.alloc (.cells #[.slice a1 ln c1, .slice a2 ld c2] 68) = w5 at *
  generalize wg.heap.size = y at *
  (with_reducible refine (BT.out w5 W5.out).mono ?_)
  rintro e w6 ⟨rfl, hg⟩
  have W6 := Lib.hid (gb_trans W5.out hg); have O6 := Lib.hid (block_kept hg O5.out rfl); have F6 := Lib.hid (block_kept hg F5.out rfl); have U6 := Lib.hid hg
  clear hg W5 S5 O5 F5 BT
  have hzz : w.heap.size ≤ z + 1 + 1 := by have := HZW.out; omega
  have GZ := Lib.hid (gb_setCell (gb_setCell W6.out (a := ⟨z + 1 + 1, 0, none⟩) (.inl hzz) (.int .i64 0)) (a := ⟨z + 1 + 1, 1, none⟩) (.inl hzz) (.int .i64 0))
  have hbo := block_lt' O6.out
  have hf0 := frz O6.out 0; have hf1 := frz O6.out 1
  obtain ⟨p0_, p1_⟩ := cells2' O6.out
  clear hzz
  by_cases h1 : be = 0
  rotate_left
  · have HEE := Lib.hid (EE.out be HCA2.out h1)
    have h1' : (be != 0) = true := by simpa using h1
    clear h1
    go_wp2_with fail
    exact bodyPost_ret (v := .tuple #[.agg #[.int .i64 0, .int .i64 0], .int .i64 be]) (by simp [results, Tryz.results16, go_sem, p0_, p1_]) rfl ⟨HEE.out, GZ.out⟩
  subst h1
  have HKK := Lib.hid (EK.out gx lo hi HCA2.out (CAn.out.2 HCA2.out) rfl rfl)
  clear EE EK CAn GZ HCA1 HCA2 hbo hf0 hf1 p0_ p1_
  obtain ⟨y0_, y1_⟩ := cells2' F6.out
  have hf6 := block_lt' F6.out
  go_wp2_with fail
  (with_reducible refine (LA.out _).mono ?_)
  rintro e w' ⟨rfl, rfl⟩
  go_wp2_with fail
  clear y0_ y1_ hf6
  (with_reducible refine (LN.out w6 U6.out).mono ?_)
  rintro e w7 ⟨rfl, hg⟩
  have W7 := Lib.hid (gb_trans W6.out hg); have O7 := Lib.hid (block_kept hg O6.out rfl); have F7 := Lib.hid (block_kept hg F6.out rfl); have U7 := Lib.hid (gb_trans U6.out hg)
  clear hg W6 O6 F6 U6
  obtain ⟨y0_, y1_⟩ := cells2' F7.out
  have hf7 := block_lt' F7.out
  go_wp2_with fail
  clear y0_ y1_ hf7
  (with_reducible refine (LD.out w7 U7.out).mono ?_)
  rintro e w8 ⟨rfl, hg⟩
  have W8 := Lib.hid (gb_trans W7.out hg); have O8 := Lib.hid (block_kept hg O7.out rfl)
  clear hg W7 O7 F7 U7 LN LD
  have hgx := GXn.out
  have hla := LI.out; have hbn := BN.out; have hbd := BD.out
  have HX := HGX.out
  clear GXn HGX
  generalize logS n = la at *
  generalize logNatS (natL N) = lN at *
  generalize logNatS (natL D) = lD at *
  have w1_ : IntKind.i64.wrap (2 * la) = 2 * la := by rw [IntKind.wrap_i64]; omega
  have w2_ : IntKind.i64.wrap (2 * la + lD) = 2 * la + lD := by rw [IntKind.wrap_i64]; omega
  have w3_ : IntKind.i64.wrap (2 * la + lD - lN) = gx := by rw [IntKind.wrap_i64]; omega
  have w4_ : IntKind.i64.wrap (gx - 2) = gx - 2 := by rw [IntKind.wrap_i64]; omega
  have w5_ : IntKind.i64.wrap (gx + 6) = gx + 6 := by rw [IntKind.wrap_i64]; omega
  have w6_ : IntKind.i64.wrap (-(gx + 6)) = -gx - 6 := by rw [IntKind.wrap_i64]; omega
  clear HX hla hbn hbd
  go_wp2_with fail
  (with_reducible refine (rhalf_any _ _ (by omega) (by omega)).mono ?_)
  rintro e w' ⟨rfl, rfl⟩
  have hf1_ := floorS_in ((gx - 2) / 2); have hbb := BB.out
  have hw4 : IntKind.i64.wrap (floorS ((gx - 2) / 2) + lo) = floorS ((gx - 2) / 2) + lo := by rw [IntKind.wrap_i64]; omega
  go_wp2_with fail
  (with_reducible refine (rfloor_any _ _).mono ?_)
  rintro e w' ⟨rfl, rfl⟩
  go_wp2_with fail
  (with_reducible refine (rhalf_any _ _ (by omega) (by omega)).mono ?_)
  rintro e w' ⟨rfl, rfl⟩
  have hf2_ := floorS_in ((-gx - 6) / 2)
  have hw5 : IntKind.i64.wrap (-((-gx - 6) / 2)) = -((-gx - 6) / 2) := by rw [IntKind.wrap_i64]; omega
  have hw6 : wrap64 (-(-((-gx - 6) / 2))) = (-gx - 6) / 2 := by rw [Int.neg_neg]; exact IntWalk.wrap64_in _ (by omega)
  have hw7 : IntKind.i64.wrap (-floorS ((-gx - 6) / 2) + hi) = -floorS ((-gx - 6) / 2) + hi := by rw [IntKind.wrap_i64]; omega
  go_wp2_with fail
  (with_reducible refine (rceil_any _ _).mono ?_)
  rintro e w' ⟨rfl, rfl⟩
  rw [hw6]
  have hzz : w.heap.size ≤ z + 1 + 1 := by have := HZW.out; omega
  have GZ := Lib.hid (gb_setCell (gb_setCell W8.out (a := ⟨z + 1 + 1, 0, none⟩) (.inl hzz) (.int .i64 (floorS ((gx - 2) / 2) + lo))) (a := ⟨z + 1 + 1, 1, none⟩) (.inl hzz) (.int .i64 (-floorS ((-gx - 6) / 2) + hi)))
  have hbo := block_lt' O8.out
  have hf0 := frz O8.out 0; have hf1 := frz O8.out 1
  obtain ⟨p0_, p1_⟩ := cells2' O8.out
  clear hzz hw6
  generalize floorS ((gx - 2) / 2) = f1 at *
  generalize floorS ((-gx - 6) / 2) = f2 at *
  go_wp2_with fail
  exact bodyPost_ret (v := .tuple #[.agg #[.int .i64 (f1 + lo), .int .i64 (-f2 + hi)], .int .i64 0]) (by simp [results, Tryz.results16, go_sem, p0_, p1_]) rfl ⟨HKK.out, GZ.out⟩
end Go.Proofs.YtmgfdfbhfhmekaaGreat
