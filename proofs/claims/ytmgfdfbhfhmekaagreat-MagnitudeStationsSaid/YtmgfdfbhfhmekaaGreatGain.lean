/- response: gain, Gain. -/
import Derived.Test.YtmgfdfbhfhmekaaGreatNatG
import Derived.BigRegion
namespace Go.Proofs.YtmgfdfbhfhmekaaGreat
set_option linter.all false
open Go.RowKit Rg

/-- A gain is returned. -/
def GainAt (n d : Nat) (w : World) (e : Ending) (w' : World) : Prop := ∃ v1 v2, e = .returned (.tuple #[.agg #[v1, v2], .bool (decide (0 < d))]) ∧ Sl w' v1 (natL n) ∧ Sl w' v2 (natL d) ∧ w.grownBy w' none
set_option maxRecDepth 100000 in
set_option maxHeartbeats 4000000 in
theorem gain_nat (s : Stg) (tv : Value) (num den : Int) (w : World) (hs : Sl w tv s.taps) (hok : s.ok = true) (hn : num.natAbs ≤ 65536) (hd : den.natAbs ≤ 65536) :
    Calls Tryz.prog 66 #[s.val tv, .int .i64 num, .int .i64 den] w (GainAt (s.gn num den) (s.gd num den) w) := by
  obtain ⟨kind, n0, n1, n2, d0, d1, d2, taps, fac, sh⟩ := s
  dsimp only at hs
  obtain ⟨ta, tc, rfl⟩ := hs.shape
  obtain ⟨GN, hGN⟩ : ∃ n, Stg.gn ⟨kind, n0, n1, n2, d0, d1, d2, taps, fac, sh⟩ num den = n := ⟨_, rfl⟩
  obtain ⟨GD, hGD⟩ : ∃ n, Stg.gd ⟨kind, n0, n1, n2, d0, d1, d2, taps, fac, sh⟩ num den = n := ⟨_, rfl⟩
  rw [hGN, hGD]
  have g1 := gb_alloc (gb_refl w none) (.cells #[.int .i64 kind, .int .i64 n0, .int .i64 n1, .int .i64 n2, .int .i64 d0, .int .i64 d1, .int .i64 d2, .slice ta taps.length tc, .int .i64 fac, .int .i64 sh] 53)
  have b1 := heap_alloc_new w (.cells #[.int .i64 kind, .int .i64 n0, .int .i64 n1, .int .i64 n2, .int .i64 d0, .int .i64 d1, .int .i64 d2, .slice ta taps.length tc, .int .i64 fac, .int .i64 sh] 53)
  have l1 : (w.alloc (.cells #[.int .i64 kind, .int .i64 n0, .int .i64 n1, .int .i64 n2, .int .i64 d0, .int .i64 d1, .int .i64 d2, .slice ta taps.length tc, .int .i64 fac, .int .i64 sh] 53)).heap.size = w.heap.size + 1 := by simp
  have SM := Lib.hid (fun (u : World) (hu : w.grownBy u none) (h1 : termsOk taps = true) (h2 : taps.length ≤ 1000) => sum_any taps _ _ (hs.after hu) h1 h2)
  have g2 := gb_alloc (gb_refl (w.alloc (.cells #[.int .i64 kind, .int .i64 n0, .int .i64 n1, .int .i64 n2, .int .i64 d0, .int .i64 d1, .int .i64 d2, .slice ta taps.length tc, .int .i64 fac, .int .i64 sh] 53)) none) (.cells #[.slice none 0 0, .slice none 0 0] 68)
  have b2 := heap_alloc_new (w.alloc (.cells #[.int .i64 kind, .int .i64 n0, .int .i64 n1, .int .i64 n2, .int .i64 d0, .int .i64 d1, .int .i64 d2, .slice ta taps.length tc, .int .i64 fac, .int .i64 sh] 53)) (.cells #[.slice none 0 0, .slice none 0 0] 68)
  rw [l1] at b2
  have W2 := Lib.hid (gb_trans g1 g2); have B2 := Lib.hid (block_kept g2 b1 rfl); have O2 := Lib.hid b2
  obtain ⟨q0_, q1_, q2_, q3_, q4_, q5_, q6_, q7_, q8_, q9_⟩ := cells10 B2.out
  have hb2 := block_lt' B2.out; have ho2 := block_lt' O2.out
  clear g1 b1 l1 hs g2 b2
  simp only [Stg.val]
  go_enter Tryz.func66, Tryz.ntmps66
  have hk := hok
  unfold Stg.ok at hk
  dsimp only at hk
  by_cases h0 : kind = 0
  · subst h0
    rw [if_pos rfl] at hk
    simp only [Bool.and_eq_true, inB_iff] at hk
    have hgn : sqN n0 = GN := by rw [← hGN]; rfl
    have hgd : sqN d0 = GD := by rw [← hGD]; rfl
    have SA := Lib.hid (fun u => square_nat n0 u (by omega)); have SB := Lib.hid (fun u => square_nat d0 u (by omega))
    have HPos : Hid (0 < GD) := Lib.hid (by rw [← hgd]; exact Nat.mul_pos (by omega) (by omega))
    rw [hgn] at SA; rw [hgd] at SB
    clear hgn hgd hGN hGD hok hk SM
    go_wp2_with fail
    generalize (w.alloc (.cells #[.int .i64 0, .int .i64 n0, .int .i64 n1, .int .i64 n2, .int .i64 d0, .int .i64 d1, .int .i64 d2, .slice ta taps.length tc, .int .i64 fac, .int .i64 sh] 53)).alloc (.cells #[.slice none 0 0, .slice none 0 0] 68) = w2 at *
    generalize hz : w.heap.size = z at *
    have HZ := Lib.hid hz
    clear hz
    have u1_ := Made.cells hb2
    refine Rg.region (Made w2) Makes (fun k => if k = 3 then some (fun _ v u => isNat GN v u) else if k = 7 then some (fun _ v u => isNat GD v u) else none) (fun _ => false) 0 9 (by kernel_rfl) (by kernel_rfl) (by kernel_rfl) (by kernel_rfl) (by kernel_rfl) (by kernel_rfl) (by kernel_rfl) Makes.size (Made.start w2) (fun hne => ?_)
    (repeat (refine rLexL_quiet (by rfl) (by rfl) (by rfl) (by rfl) ?_; go_big_quiet_step (fail); refine wpQuiet_nil ?_))
    refine rg_mem (isNat GN) 82 #[.int .i64 n0] Made.grown (Makes.none _) rfl rfl rfl (fun v j u u' _ _ hR h => Sl.after h hR) (fun _ => by go_simp) (fun u _ _ => SA.out u) (fun v1 ua _ hv1 => ?_)
    obtain ⟨a1, c1, rfl⟩ := Sl.shape hv1
    simp only [Act.put, List.setIfInBounds_toArray, List.set_cons_zero, List.set_cons_succ]
    (repeat (refine rLexL_quiet (by rfl) (by rfl) (by rfl) (by rfl) ?_; go_big_quiet_step (fail); refine wpQuiet_nil ?_))
    refine rg_mem (isNat GD) 82 #[.int .i64 d0] Made.grown (Makes.none _) rfl rfl rfl (fun v j u u' _ _ hR h => Sl.after h hR) (fun _ => by go_simp) (fun u _ _ => SB.out u) (fun v2 ub _ hv2 => ?_)
    obtain ⟨a2, c2, rfl⟩ := Sl.shape hv2
    simp only [Act.put, List.setIfInBounds_toArray, List.set_cons_zero, List.set_cons_succ]
    (repeat (refine rLexL_quiet (by rfl) (by rfl) (by rfl) (by rfl) ?_; go_big_quiet_step (fail); refine wpQuiet_nil ?_))
    rintro wq hq hf -
    have S1 : Hid (Sl wq (.slice a1 (natL GN).length c1) (natL GN)) := Lib.hid (hf 3)
    have S2 : Hid (Sl wq (.slice a2 (natL GD).length c2) (natL GD)) := Lib.hid (hf 7)
    have OQ := Lib.hid (block_kept hq O2.out rfl); have WQ := Lib.hid (gb_trans W2.out hq)
    clear hf hq hne u1_ q0_ q1_ q2_ q3_ q4_ q5_ q6_ q7_ q8_ q9_ hb2 ho2 O2 W2 B2 SA SB
    have N1 := S1.out.ne_block OQ.out no_ints2; have N2 := S2.out.ne_block OQ.out no_ints2
    have R1 := Lib.hid ((S1.out.setCell (k := 0) (x := .slice a1 (natL GN).length c1) N1).setCell (k := 1) (x := .slice a2 (natL GD).length c2) N1)
    have R2 := Lib.hid ((S2.out.setCell (k := 0) (x := .slice a1 (natL GN).length c1) N2).setCell (k := 1) (x := .slice a2 (natL GD).length c2) N2)
    have hzz : w.heap.size ≤ z + 1 := by have := HZ.out; omega
    have G9 := Lib.hid (gb_setCell (gb_setCell WQ.out (a := ⟨z + 1, 0, none⟩) (.inl hzz) (.slice a1 (natL GN).length c1)) (a := ⟨z + 1, 1, none⟩) (.inl hzz) (.slice a2 (natL GD).length c2))
    have hc3 := block_lt' OQ.out
    have hf0 := frz OQ.out 0; have hf1 := frz OQ.out 1
    obtain ⟨p0_, p1_⟩ := cells2' OQ.out
    clear N1 N2 S1 S2 hzz
    go_wp2_with fail
    exact bodyPost_ret (v := .tuple #[.agg #[.slice a1 (natL GN).length c1, .slice a2 (natL GD).length c2], .bool true]) (by simp [results, Tryz.results66, go_sem, p0_, p1_]) rfl ⟨_, _, by rw [decide_eq_true HPos.out], R1.out, R2.out, G9.out⟩
  rw [if_neg h0] at hk
  by_cases h2 : kind = 2
  · subst h2
    rw [if_neg (by omega), if_pos rfl] at hk
    simp only [Bool.and_eq_true, inB_iff] at hk
    obtain ⟨k, rfl⟩ : ∃ k : Nat, sh = k := ⟨sh.toNat, by omega⟩
    have hts : termsOk taps = true := hk.1.1.1.2
    have hsl := sumL_in hts
    have hgn : sqN (sumL taps) = GN := by rw [← hGN]; rfl
    have hgd : sqN (2 ^ k) = GD := by rw [← hGD]; rfl
    have hp40 : (2 : Nat) ^ k ≤ 2 ^ 40 := Nat.pow_le_pow_right (by omega) (by omega)
    have hpz : ((2 : Int) ^ k) = ((2 ^ k : Nat) : Int) := by simp
    have hp0 : 0 < (2 : Nat) ^ k := Nat.pow_pos (by omega)
    have SA := Lib.hid (fun u => square_nat (sumL taps) u (by omega)); have SB := Lib.hid (fun u => square_nat (2 ^ k) u (by rw [hpz, Int.natAbs_natCast]; omega))
    have HPos : Hid (0 < GD) := Lib.hid (by rw [← hgd, hpz]; unfold sqN; rw [Int.natAbs_natCast]; exact Nat.mul_pos hp0 hp0)
    have hws : wrap64 ((2 : Int) ^ k) = 2 ^ k := by rw [hpz]; exact IntWalk.wrap64_in _ (by omega)
    have SMT := Lib.hid (fun (u : World) (hu : w.grownBy u none) => SM.out u hu hts (by omega))
    rw [hgn] at SA; rw [hgd] at SB
    have hk40 : k ≤ 40 := by omega
    clear hgn hgd hGN hGD hok hk SM hts hsl hp40 hp0 hpz
    generalize hsm : sumL taps = sm at *
    clear hsm
    go_wp2_with fail
    generalize (w.alloc (.cells #[.int .i64 2, .int .i64 n0, .int .i64 n1, .int .i64 n2, .int .i64 d0, .int .i64 d1, .int .i64 d2, .slice ta taps.length tc, .int .i64 fac, .int .i64 k] 53)).alloc (.cells #[.slice none 0 0, .slice none 0 0] 68) = w2 at *
    generalize hz : w.heap.size = z at *
    have HZ := Lib.hid hz
    clear hz
    have u1_ := Made.cells hb2
    refine Rg.region (Made w2) Makes (fun k => if k = 2 then some (isV (.int .i64 sm)) else if k = 3 then some (fun _ v u => isNat GN v u) else if k = 7 then some (fun _ v u => isNat GD v u) else none) (fun _ => false) 0 9 (by kernel_rfl) (by kernel_rfl) (by kernel_rfl) (by kernel_rfl) (by kernel_rfl) (by kernel_rfl) (by kernel_rfl) Makes.size (Made.start w2) (fun hne => ?_)
    (repeat (refine rLexL_quiet (by rfl) (by rfl) (by rfl) (by rfl) ?_; go_big_quiet_step (fail); refine wpQuiet_nil ?_))
    refine rg_fix (.int .i64 sm) 84 #[.slice ta taps.length tc] rfl rfl rfl (fun _ => by go_simp) (fun u hu => same_grown (SMT.out u (gb_trans W2.out hu))) ?_
    simp only [Act.put, List.setIfInBounds_toArray, List.set_cons_zero, List.set_cons_succ]
    (repeat (refine rLexL_quiet (by rfl) (by rfl) (by rfl) (by rfl) ?_; go_big_quiet_step (fail); refine wpQuiet_nil ?_))
    refine rg_mem (isNat GN) 82 #[.int .i64 sm] Made.grown (Makes.none _) rfl rfl rfl (fun v j u u' _ _ hR h => Sl.after h hR) (fun _ => by go_simp) (fun u _ _ => SA.out u) (fun v1 ua _ hv1 => ?_)
    obtain ⟨a1, c1, rfl⟩ := Sl.shape hv1
    simp only [Act.put, List.setIfInBounds_toArray, List.set_cons_zero, List.set_cons_succ]
    (repeat (refine rLexL_quiet (by rfl) (by rfl) (by rfl) (by rfl) ?_; go_big_quiet_step (fail); refine wpQuiet_nil ?_))
    refine rg_mem (isNat GD) 82 #[.int .i64 (2 ^ k)] Made.grown (Makes.none _) rfl rfl rfl (fun v j u u' _ _ hR h => Sl.after h hR) (fun _ => by go_simp) (fun u _ _ => SB.out u) (fun v2 ub _ hv2 => ?_)
    obtain ⟨a2, c2, rfl⟩ := Sl.shape hv2
    simp only [Act.put, List.setIfInBounds_toArray, List.set_cons_zero, List.set_cons_succ]
    (repeat (refine rLexL_quiet (by rfl) (by rfl) (by rfl) (by rfl) ?_; go_big_quiet_step (fail); refine wpQuiet_nil ?_))
    rintro wq hq hf -
    have S1 : Hid (Sl wq (.slice a1 (natL GN).length c1) (natL GN)) := Lib.hid (hf 3)
    have S2 : Hid (Sl wq (.slice a2 (natL GD).length c2) (natL GD)) := Lib.hid (hf 7)
    have OQ := Lib.hid (block_kept hq O2.out rfl); have WQ := Lib.hid (gb_trans W2.out hq)
    clear hf hq hne u1_ q0_ q1_ q2_ q3_ q4_ q5_ q6_ q7_ q8_ q9_ hb2 ho2 O2 W2 B2 SA SB SMT
    have N1 := S1.out.ne_block OQ.out no_ints2; have N2 := S2.out.ne_block OQ.out no_ints2
    have R1 := Lib.hid ((S1.out.setCell (k := 0) (x := .slice a1 (natL GN).length c1) N1).setCell (k := 1) (x := .slice a2 (natL GD).length c2) N1)
    have R2 := Lib.hid ((S2.out.setCell (k := 0) (x := .slice a1 (natL GN).length c1) N2).setCell (k := 1) (x := .slice a2 (natL GD).length c2) N2)
    have hzz : w.heap.size ≤ z + 1 := by have := HZ.out; omega
    have G9 := Lib.hid (gb_setCell (gb_setCell WQ.out (a := ⟨z + 1, 0, none⟩) (.inl hzz) (.slice a1 (natL GN).length c1)) (a := ⟨z + 1, 1, none⟩) (.inl hzz) (.slice a2 (natL GD).length c2))
    have hc3 := block_lt' OQ.out
    have hf0 := frz OQ.out 0; have hf1 := frz OQ.out 1
    obtain ⟨p0_, p1_⟩ := cells2' OQ.out
    clear N1 N2 S1 S2 hzz
    go_wp2_with fail
    exact bodyPost_ret (v := .tuple #[.agg #[.slice a1 (natL GN).length c1, .slice a2 (natL GD).length c2], .bool true]) (by simp [results, Tryz.results66, go_sem, p0_, p1_]) rfl ⟨_, _, by rw [decide_eq_true HPos.out], R1.out, R2.out, G9.out⟩
  obtain rfl : kind = 1 := by
    by_cases h1 : kind = 1
    · exact h1
    · rw [if_neg h1, if_neg h2] at hk; cases hk
  rw [if_pos rfl] at hk
  simp only [Bool.and_eq_true] at hk
  have t1 := termsOk3 hk.1.1.2; have t2 := termsOk3 hk.1.2
  have hgn : polN n0 n1 n2 num den = GN := by rw [← hGN]; rfl
  have hgd : polN d0 d1 d2 num den = GD := by rw [← hGD]; rfl
  have SA := Lib.hid (fun u => squared_nat n0 n1 n2 num den u t1.1 t1.2.1 t1.2.2 hn hd); have SB := Lib.hid (fun u => squared_nat d0 d1 d2 num den u t2.1 t2.2.1 t2.2.2 hn hd)
  rw [hgn] at SA; rw [hgd] at SB
  clear hgn hgd hGN hGD hok hk SM t1 t2 hn hd
  go_wp2_with fail
  generalize (w.alloc (.cells #[.int .i64 1, .int .i64 n0, .int .i64 n1, .int .i64 n2, .int .i64 d0, .int .i64 d1, .int .i64 d2, .slice ta taps.length tc, .int .i64 fac, .int .i64 sh] 53)).alloc (.cells #[.slice none 0 0, .slice none 0 0] 68) = w2 at *
  generalize hz : w.heap.size = z at *
  have HZ := Lib.hid hz
  clear hz
  have u1_ := Made.cells hb2
  refine Rg.region (Made w2) Makes (fun k => if k = 4 then some (fun _ v u => isNat GN v u) else if k = 9 then some (fun _ v u => isNat GD v u) else if k = 11 then some (isNew w2 #[.slice none 0 0, .slice none 0 0] 68) else none) (fun _ => false) 0 12 (by kernel_rfl) (by kernel_rfl) (by kernel_rfl) (by kernel_rfl) (by kernel_rfl) (by kernel_rfl) (by kernel_rfl) Makes.size (Made.start w2) (fun hne => ?_)
  (repeat (refine rLexL_quiet (by rfl) (by rfl) (by rfl) (by rfl) ?_; go_big_quiet_step (fail); refine wpQuiet_nil ?_))
  refine rg_mem (isNat GN) 83 #[.agg #[.int .i64 n0, .int .i64 n1, .int .i64 n2], .int .i64 num, .int .i64 den] Made.grown (Makes.none _) rfl rfl rfl (fun v j u u' _ _ hR h => Sl.after h hR) (fun _ => by go_simp) (fun u _ _ => SA.out u) (fun v1 ua _ hv1 => ?_)
  obtain ⟨a1, c1, rfl⟩ := Sl.shape hv1
  simp only [Act.put, List.setIfInBounds_toArray, List.set_cons_zero, List.set_cons_succ]
  (repeat (refine rLexL_quiet (by rfl) (by rfl) (by rfl) (by rfl) ?_; go_big_quiet_step (fail); refine wpQuiet_nil ?_))
  refine rg_mem (isNat GD) 83 #[.agg #[.int .i64 d0, .int .i64 d1, .int .i64 d2], .int .i64 num, .int .i64 den] Made.grown (Makes.none _) rfl rfl rfl (fun v j u u' _ _ hR h => Sl.after h hR) (fun _ => by go_simp) (fun u _ _ => SB.out u) (fun v2 ub _ hv2 => ?_)
  obtain ⟨a2, c2, rfl⟩ := Sl.shape hv2
  simp only [Act.put, List.setIfInBounds_toArray, List.set_cons_zero, List.set_cons_succ]
  (repeat (refine rLexL_quiet (by rfl) (by rfl) (by rfl) (by rfl) ?_; go_big_quiet_step (fail); refine wpQuiet_nil ?_))
  refine rg_new #[.slice none 0 0, .slice none 0 0] 68 rfl rfl (fun _ => by go_simp) (fun b hbz => ?_)
  simp only [Act.put, List.setIfInBounds_toArray, List.set_cons_zero, List.set_cons_succ]
  (repeat (refine rLexL_quiet (by rfl) (by rfl) (by rfl) (by rfl) ?_; go_big_quiet_step (fail); refine wpQuiet_nil ?_))
  rintro wq hq hf -
  have S1 : Hid (Sl wq (.slice a1 (natL GN).length c1) (natL GN)) := Lib.hid (hf 4)
  have S2 : Hid (Sl wq (.slice a2 (natL GD).length c2) (natL GD)) := Lib.hid (hf 9)
  have hr_ := isNew.out (hf 11)
  have OQ := Lib.hid (block_kept hq O2.out rfl)
  refine wpList_store_row rfl _ _ _ rfl b #[.slice a1 (natL GN).length c1, .slice a2 (natL GD).length c2] rfl rfl _ _ hr_ (by kernel_rfl) rfl (by simp [Value.oneCell']) ?_
  have N1 := S1.out.ne_block hr_ no_ints2; have N2 := S2.out.ne_block hr_ no_ints2
  have gr_ : wq.grownBy (wq.setRow b #[.slice a1 (natL GN).length c1, .slice a2 (natL GD).length c2]) (some b) := gb_setRow (gb_refl _ _) (.inr rfl)
  have T1 := Lib.hid (S1.out.later gr_ (fun b' off len cap e hl => by simpa using N1 b' off len cap e hl))
  have T2 := Lib.hid (S2.out.later gr_ (fun b' off len cap e hl => by simpa using N2 b' off len cap e hl))
  have hB := setRow_at (cs := #[.slice a1 (natL GN).length c1, .slice a2 (natL GD).length c2]) hr_
  have HB := Lib.hid hB
  have hbo : b ≠ z + 1 := by have := ho2; omega
  have OR := Lib.hid ((setRow_far (cs := #[.slice a1 (natL GN).length c1, .slice a2 (natL GD).length c2]) (Ne.symm hbo)).trans OQ.out)
  have WR := Lib.hid (gb_trans W2.out (gb_setRow (cs := #[.slice a1 (natL GN).length c1, .slice a2 (natL GD).length c2]) hq (.inl hbz)))
  clear S1 S2 N1 N2 gr_ hB hf hq hne u1_ q0_ q1_ q2_ q3_ q4_ q5_ q6_ q7_ q8_ q9_ hb2 ho2 O2 W2 B2 SA SB OQ hr_ hbz
  generalize wq.setRow b #[.slice a1 (natL GN).length c1, .slice a2 (natL GD).length c2] = w4 at *
  refine wpList_nil ?_
  simp only [Act.put, List.setIfInBounds_toArray, List.set_cons_zero, List.set_cons_succ]
  have N1 := T1.out.ne_block OR.out no_ints2; have N2 := T2.out.ne_block OR.out no_ints2
  have R1 := Lib.hid ((T1.out.setCell (k := 0) (x := .slice a1 (natL GN).length c1) N1).setCell (k := 1) (x := .slice a2 (natL GD).length c2) N1)
  have R2 := Lib.hid ((T2.out.setCell (k := 0) (x := .slice a1 (natL GN).length c1) N2).setCell (k := 1) (x := .slice a2 (natL GD).length c2) N2)
  have hzz : w.heap.size ≤ z + 1 := by have := HZ.out; omega
  have G9 := Lib.hid (gb_setCell (gb_setCell WR.out (a := ⟨z + 1, 0, none⟩) (.inl hzz) (.slice a1 (natL GN).length c1)) (a := ⟨z + 1, 1, none⟩) (.inl hzz) (.slice a2 (natL GD).length c2))
  have HLD : Hid (decide (0 < (natL GD).length) = decide (0 < GD)) := Lib.hid (by
    by_cases h : 0 < GD
    · rw [decide_eq_true h, decide_eq_true (natL_pos_len h)]
    · obtain rfl : GD = 0 := by omega
      rw [natL_zero]; rfl)
  have hc3 := block_lt' OR.out; have hc4 := block_lt' HB.out
  have hf0 := frz OR.out 0; have hf1 := frz OR.out 1
  obtain ⟨p0_, p1_⟩ := cells2' OR.out
  obtain ⟨x0_, x1_⟩ := cells2' HB.out
  have hbo' : z + 1 ≠ b := Ne.symm hbo
  clear N1 N2 T1 T2 hzz
  generalize (natL GN).length = ln at *
  generalize (natL GD).length = ld at *
  go_wp2_with fail
  go_region
  go_wp2_with fail
  have DR : ((w4.setCell ⟨z + 1, 0, none⟩ (.slice a1 ln c1)).setCell ⟨z + 1, 1, none⟩ (.slice a2 ld c2)).grownBy ((w4.setCell ⟨z + 1, 0, none⟩ (.slice a1 ln c1)).setCell ⟨z + 1, 1, none⟩ (.slice a2 ld c2)).drew none := gb_drew (gb_refl _ _)
  exact bodyPost_ret (v := .tuple #[.agg #[.slice a1 ln c1, .slice a2 ld c2], .bool (decide (0 < ld))]) (by simp [results, Tryz.results66, go_sem, p0_, p1_]) rfl ⟨_, _, by rw [HLD.out], R1.out.after DR, R2.out.after DR, gb_drew G9.out⟩
end Go.Proofs.YtmgfdfbhfhmekaaGreat
