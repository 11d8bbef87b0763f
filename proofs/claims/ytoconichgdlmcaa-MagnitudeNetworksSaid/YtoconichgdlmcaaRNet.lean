/- ref32.Network, Agree of both sides. -/
import Derived.Test.YtoconichgdlmcaaMm
import Derived.Test.YtoconichgdlmcaaRgY
import Derived.BigRegion
namespace Go.Proofs.Ytoconichgdlmcaa
set_option linter.all false
open Go.RowKit Rg

def agrE (a b : Est) : Bool := decide (max a.lo b.lo ≤ min a.hi b.hi)
theorem agree_any (a b : Est) (w : World) :
    Calls Try.prog 20 #[.agg #[.int .i64 a.lo, .int .i64 a.hi], .agg #[.int .i64 b.lo, .int .i64 b.hi]] w fun e w' => e = .returned (.bool (agrE a b)) ∧ w.grownBy w' none := by
  obtain ⟨a0, a1⟩ := a
  obtain ⟨b0, b1⟩ := b
  have HG := Lib.hid (gb_alloc (gb_alloc (gb_refl w none) (.cells #[.int .i64 a0, .int .i64 a1] 28)) (.cells #[.int .i64 b0, .int .i64 b1] 28))
  go_enter Try.func20, Try.ntmps20
  go_wp2
  go_ret
  exact ⟨rfl, HG.out⟩
theorem ragree_any (a b : Est) (w : World) :
    Calls Try.prog 21 #[.agg #[.int .i64 a.lo, .int .i64 a.hi], .agg #[.int .i64 b.lo, .int .i64 b.hi]] w fun e w' => e = .returned (.bool (agrE a b)) ∧ w.grownBy w' none := by
  obtain ⟨a0, a1⟩ := a
  obtain ⟨b0, b1⟩ := b
  have HG := Lib.hid (gb_alloc (gb_alloc (gb_refl w none) (.cells #[.int .i64 a0, .int .i64 a1] 28)) (.cells #[.int .i64 b0, .int .i64 b1] 28))
  go_enter Try.func21, Try.ntmps21
  go_wp2
  go_ret
  exact ⟨rfl, HG.out⟩
/-- What the loop over the estimates keeps. -/
structure NwAt (w : World) (z : Nat) (l : List Est) (k : Nat) (v1 v2 : Value) (u : World) : Prop where
  lo : u.ownsRow (z + 1) 3 1 v1 k (((l.take k).map Est.lo).map (Value.int .i64))
  hi : u.ownsRow (z + 1) 3 1 v2 k (((l.take k).map Est.hi).map (Value.int .i64))
  ap : ∀ b, v1.ownBlock = some b → v2.ownBlock ≠ some b
  ok : ∀ j (h : j < l.length), j < k → badE l[j] = false
  var : u.heap[z]? = some (.cells #[.int .i64 0, .int .i64 0] 28 (0, 0))
  gr : w.grownBy u none
set_option maxRecDepth 100000 in
set_option maxHeartbeats 8000000 in
theorem rnetwork_any (l : List Est) (v : Value) (w : World) (hs : SlC 2 w v l.length (flatE l)) (hl : l.length ≤ 1000) :
    Calls Try.prog 19 #[v] w fun e w' => e = .returned (netV l) ∧ w.grownBy w' none := by
  have g1 := gb_alloc (gb_refl w none) (.cells #[.int .i64 0, .int .i64 0] 28)
  have W1 := Lib.hid g1; have O1 := Lib.hid (heap_alloc_new w (.cells #[.int .i64 0, .int .i64 0] 28))
  have HS := Lib.hid hs
  obtain ⟨a, c, rfl⟩ := hs.slice
  have E24 := Lib.hid (fun (h : l.length = 0) => net_err (l := l) (c := 24) (by unfold netE; rw [if_pos h]) (by decide))
  have E1 := Lib.hid (fun (h : l.length ≠ 0) (h2 : l.any badE = true) => net_err (l := l) (c := 1) (by unfold netE; rw [if_neg h, if_pos h2]) (by decide))
  have EK : Hid (l.length ≠ 0 → l.any badE = false → netV l = .tuple #[.agg #[.int .i64 (med (l.map Est.lo)), .int .i64 (med (l.map Est.hi))], .int .i64 0]) := Lib.hid (fun h h2 => by
    have e : netE l = 0 := by unfold netE; rw [if_neg h, h2]; rfl
    unfold netV netL netH
    rw [e, if_pos rfl, if_pos rfl])
  clear hs g1
  have GZ := Lib.hid (gb_setCell (gb_setCell W1.out (a := ⟨w.heap.size, 0, none⟩) (.inl (Nat.le_refl _)) (.int .i64 0)) (a := ⟨w.heap.size, 1, none⟩) (.inl (Nat.le_refl _)) (.int .i64 0))
  have hbo := block_lt' O1.out
  have hf0 := frz O1.out 0; have hf1 := frz O1.out 1
  obtain ⟨p0_, p1_⟩ := cells2' O1.out
  generalize hn : l.length = n at *
  have HN := Lib.hid hn
  clear hn
  by_cases h0 : n = 0
  · have HE := Lib.hid (E24.out h0)
    have h0' : ((n : Int) == 0) = true := by simpa using h0
    clear h0
    go_enter Try.func19, Try.ntmps19
    go_wp2_with fail
    exact bodyPost_ret (v := .tuple #[.agg #[.int .i64 0, .int .i64 0], .int .i64 24]) (by simp [results, Try.results19, go_sem, p0_, p1_]) rfl ⟨HE.out, W1.out⟩
  have h0' : ((n : Int) == 0) = false := by simpa using h0
  have HE1 := Lib.hid (E1.out h0); have HEK := Lib.hid (EK.out h0)
  have H0 : Hid (0 < n) := Lib.hid (by omega)
  obtain ⟨b, off, cap, e1⟩ := HS.out.some H0.out
  simp only [Value.slice.injEq, true_and] at e1
  obtain ⟨rfl, rfl⟩ := e1
  have HBW : Hid (b < w.heap.size) := Lib.hid (by
    obtain ⟨b', off', cap', e, hb, -⟩ := HS.out.block H0.out
    simp only [Value.slice.injEq, Option.some.injEq, Addr.mk.injEq, true_and] at e
    omega)
  clear E24 E1 EK h0
  go_enter Try.func19, Try.ntmps19
  go_wp2_with fail
  clear GZ hbo hf0 hf1 p0_ p1_
  generalize w.alloc (.cells #[.int .i64 0, .int .i64 0] 28) = w1 at *
  generalize hz : w.heap.size = z at *
  have HZ := Lib.hid hz; clear hz
  go_loopw [4, 5, 6] (fun x y i u => ∃ k : Nat, k ≤ n ∧ i = .int .i64 k ∧ NwAt w z l k x y u) (fun _ _ i _ => n - (intOf i).toNat)
  case atStart => exact ⟨0, by omega, rfl, World.ownsRow_nil _ _ _ _, World.ownsRow_nil _ _ _ _, fun b h => by simp [Value.ownBlock] at h, fun j h h2 => by omega, O1.out, W1.out⟩
  case round =>
    obtain ⟨k, hk, rfl, hA⟩ := hrel
    obtain ⟨xa, xc, rfl⟩ := owns_slice hA.lo
    obtain ⟨ya, yc, rfl⟩ := owns_slice hA.hi
    have ALO := Lib.hid hA.lo; have AHI := Lib.hid hA.hi; have AAP := Lib.hid hA.ap; have AOK := Lib.hid hA.ok; have AVR := Lib.hid hA.var; have AGR := Lib.hid hA.gr
    clear hA
    by_cases hlt : k < n
    · have hd_ : decide ((k : Int) < (n : Int)) = true := decide_eq_true (by omega)
      have hkl : k < l.length := by have := HN.out; omega
      obtain ⟨hb, c0_, c1_⟩ := es_at (HS.out.after AGR.out) k hkl hlt
      have HT1 : Hid (((l.take (k + 1)).map Est.lo).map (Value.int .i64) = ((l.take k).map Est.lo).map (Value.int .i64) ++ [.int .i64 l[k].lo]) := Lib.hid (by rw [List.take_succ_eq_append_getElem hkl, List.map_append, List.map_append]; rfl)
      have HT2 : Hid (((l.take (k + 1)).map Est.hi).map (Value.int .i64) = ((l.take k).map Est.hi).map (Value.int .i64) ++ [.int .i64 l[k].hi]) := Lib.hid (by rw [List.take_succ_eq_append_getElem hkl, List.map_append, List.map_append]; rfl)
      have HBD : Hid (badE l[k] = decide (l[k].hi < l[k].lo)) := Lib.hid rfl
      have HMEM : Hid (l[k] ∈ l) := Lib.hid (List.getElem_mem hkl)
      have HLK : Hid (∀ h : k < l.length, l[k] = l[k]'hkl) := Lib.hid (fun _ => rfl)
      generalize l[k]'hkl = e at *
      obtain ⟨lo, hi⟩ := e
      dsimp only at *
      generalize ((l.take k).map Est.lo).map (Value.int .i64) = P1 at *
      generalize ((l.take k).map Est.hi).map (Value.int .i64) = P2 at *
      by_cases hbad : hi < lo
      · have hd2_ : decide (lo > hi) = true := decide_eq_true hbad
        have HEE := Lib.hid (HE1.out (List.any_eq_true.2 ⟨_, HMEM.out, by rw [HBD.out]; exact decide_eq_true hbad⟩))
        clear HE1 HEK hbad
        go_wp2_with fail
        go_quiet (fail)
        have hzz : w.heap.size ≤ z := by have := HZ.out; omega
        have V5 := Lib.hid (block_kept (gb_drewN (gb_refl wr none) nq) AVR.out rfl)
        have G5 := Lib.hid (gb_trans AGR.out (gb_drewN (gb_refl wr none) nq))
        clear c0_ c1_ hb AVR AGR
        generalize wr.drewN nq = w5 at *
        have GZ := Lib.hid (gb_setCell (gb_setCell G5.out (a := ⟨z, 0, none⟩) (.inl hzz) (.int .i64 0)) (a := ⟨z, 1, none⟩) (.inl hzz) (.int .i64 0))
        have hbo := block_lt' V5.out
        have hf0 := frz V5.out 0; have hf1 := frz V5.out 1
        obtain ⟨p0_, p1_⟩ := cells2' V5.out
        clear hzz
        go_wp2_with fail
        exact bodyPost_ret (v := .tuple #[.agg #[.int .i64 0, .int .i64 0], .int .i64 1]) (by simp [results, Try.results19, go_sem, p0_, p1_]) rfl ⟨HEE.out, GZ.out⟩
      · have hd2_ : decide (lo > hi) = false := decide_eq_false hbad
        have HBF : Hid (badE ⟨lo, hi⟩ = false) := Lib.hid (by rw [HBD.out]; exact decide_eq_false hbad)
        go_wp2_with fail
        go_quiet (fail)
        have G0 := gb_drewN (gb_refl wr none) nq
        have V5 := Lib.hid (block_kept G0 AVR.out rfl); have G5 := Lib.hid (gb_trans AGR.out G0); have L5 := Lib.hid (owns_keep ALO.out G0); have H5 := Lib.hid (owns_keep AHI.out G0)
        have c0_ : (wr.drewN nq).cell? ⟨b, off + k * 2, none⟩ = some (.int .i64 lo) := (gb_cell G0 hb (by simp)).trans c0_
        have c1_ : (wr.drewN nq).cell? ⟨b, off + k * 2 + 1, none⟩ = some (.int .i64 hi) := (gb_cell G0 hb (by simp)).trans c1_
        have hb5 : b < (wr.drewN nq).heap.size := Nat.lt_of_lt_of_le hb G0.size
        clear hb G0 AVR AGR ALO AHI
        generalize wr.drewN nq = w5 at *
        have hne0 : some b ≠ (Value.slice xa k xc).ownBlock := fun e => by have := (L5.out.lt b e.symm).1; have := HBW.out; have := HZ.out; omega
        have d0_ := GW.cell (B := z + 1) (v := .slice xa k xc) (n := k) (xs := P1) c0_ hb5 hne0
        have d1_ := GW.cell (B := z + 1) (v := .slice xa k xc) (n := k) (xs := P1) c1_ hb5 hne0
        have hBw : z + 1 ≤ w5.heap.size := by have := block_lt' V5.out; omega
        go_wp2_with fail
        refine Rg.region (GW w5 (z + 1) (.slice xa k xc) k P1) (MakesW (.slice xa k xc) 7) (fun j => if j = 6 then some (isLitW w5 #[.int .i64 lo] 1) else if j = 7 then some (isPushW w5 (z + 1) (.slice xa k xc) (k + 1) (P1 ++ [.int .i64 lo])) else if j = 14 then some (isLitW w5 #[.int .i64 hi] 1) else none) (fun _ => false) 0 15 (by kernel_rfl) (by kernel_rfl) (by kernel_rfl) (by kernel_rfl) (by kernel_rfl) (by kernel_rfl) (by kernel_rfl) MakesW.size (GW.start L5.out) (fun hne => ?_)
        (repeat (refine rLexL_quiet (by rfl) (by rfl) (by rfl) (by rfl) ?_; go_big_quiet_step (fail); refine wpQuiet_nil ?_))
        refine rgW_lit (fun bb e => (L5.out.lt bb e).2) #[.int .i64 lo] 1 (by decide) rfl rfl (fun _ => by go_simp) (fun b1_ hb1_ => ?_)
        simp only [Act.put, List.setIfInBounds_toArray, List.set_cons_zero, List.set_cons_succ]
        refine rgW_push hBw _ _ 22 Try.underlying22 Try.infoIntC rfl 6 b1_ (.int .i64 lo) rfl rfl rfl rfl rfl rfl ⟨⟨6, .data⟩, by simp, rfl, rfl⟩ rfl (by omega) (fun v6 => ?_)
        simp only [Act.put, List.setIfInBounds_toArray, List.set_cons_zero, List.set_cons_succ]
        (repeat (refine rLexL_quiet (by rfl) (by rfl) (by rfl) (by rfl) ?_; go_big_quiet_step (fail); refine wpQuiet_nil ?_))
        refine rgW_lit (fun bb e => (L5.out.lt bb e).2) #[.int .i64 hi] 1 (by decide) rfl rfl (fun _ => by go_simp) (fun b2_ hb2_ => ?_)
        simp only [Act.put, List.setIfInBounds_toArray, List.set_cons_zero, List.set_cons_succ]
        (repeat (refine rLexL_quiet (by rfl) (by rfl) (by rfl) (by rfl) ?_; go_big_quiet_step (fail); refine wpQuiet_nil ?_))
        rintro w6 ⟨hg6, -⟩ hf -
        obtain ⟨L6, L6b⟩ := (show isPushW w5 (z + 1) (.slice xa k xc) (k + 1) (P1 ++ [.int .i64 lo]) [] v6 w6 from hf 7)
        obtain ⟨b2, e2, -, hblk⟩ := (show isLitW w5 #[.int .i64 hi] 1 [] (.slice (some ⟨b2_, 0, none⟩) 1 1) w6 from hf 14)
        simp only [Value.slice.injEq, Option.some.injEq, Addr.mk.injEq, and_true] at e2
        subst e2
        have BL := Lib.hid hblk
        have LO6 := Lib.hid L6; have LB6 := Lib.hid L6b
        have H6 := Lib.hid (H5.out.kept hg6 (by
          cases hq : (Value.slice ya k yc).ownBlock with
          | none => exact .inl rfl
          | some g => exact .inr (fun e => AAP.out g e.symm hq)))
        have V6 := Lib.hid (show w6.heap[z]? = some (.cells #[.int .i64 0, .int .i64 0] 28 (0, 0)) from (hg6.block z (block_lt' V5.out) (fun e => by have := (L5.out.lt z e.symm).1; omega)).trans V5.out)
        have hwz : w.heap.size ≤ z := by have := HZ.out; omega
        have G6 := Lib.hid (gb_new G5.out hg6 (fun q hq => by have := (L5.out.lt q hq).1; omega))
        have hBw6 : Hid (z + 1 ≤ w6.heap.size) := Lib.hid (Nat.le_trans hBw hg6.size)
        clear hf hg6 hne d0_ d1_ c0_ c1_ hb5 hne0 hblk L6 L6b V5 G5
        go_wp2_with (at_builtin; go_loud (refine wpList_push32 rfl _ _ 22 rfl (z + 1) 3 (.int .i64 0) 1 8 Try.underlying22 Try.infoIntC rfl (by decide) (by decide) (.slice ya k yc) k P2 rfl H6.out b2_ 1 [.int .i64 hi] 3 rfl BL.out rfl (by simp [Value.oneCell']) (by omega) hBw6.out ?_); refine Hid.out ?_)
        refine Lib.hid ?_
        intro v7 w7 hown7 hg7 hv7
        have N7 : Hid (NwAt w z l (k + 1) v6 v7 w7) := Lib.hid (by
          refine ⟨?_, ?_, ?_, ?_, ?_, ?_⟩
          · rw [HT1.out]
            exact LO6.out.kept hg7 (by
              cases hq : v6.ownBlock with
              | none => exact .inl rfl
              | some g =>
                refine .inr (fun e => ?_)
                rcases LB6.out g hq with h | h
                · exact AAP.out g h e.symm
                · have := (H5.out.lt g e.symm).2; omega)
          · rw [HT2.out]; exact hown7
          · intro g hg e
            rcases hv7 with h | h
            · rw [h] at e
              rcases LB6.out g hg with h2 | h2
              · exact AAP.out g h2 e
              · have := (H5.out.lt g e).2; omega
            · rw [h] at e
              simp only [Option.some.injEq] at e
              have := (LO6.out.lt g hg).2; omega
          · intro j h hj
            by_cases hjk : j < k
            · exact AOK.out j h hjk
            · obtain rfl : j = k := by omega
              rw [HLK.out h]; exact HBF.out
          · exact (hg7.block z (block_lt' V6.out) (fun e => by have := (H6.out.lt z e.symm).1; omega)).trans V6.out
          · exact gb_new G6.out hg7 (fun q hq => by have := (H6.out.lt q hq).1; omega))
        clear hown7 hg7 hv7 V6 G6 H6 LO6 LB6 H5 L5 BL
        go_wp2_with fail
        go_roundw
        case rel => exact ⟨k + 1, by omega, by go_num, N7.out⟩
        case measure => simp [intOf]; omega
    · have hd_ : decide ((k : Int) < (n : Int)) = false := decide_eq_false (by omega)
      have hkn : k = n := by omega
      have HK := Lib.hid hkn
      have hany : l.any badE = false := by
        cases hq : l.any badE with
        | false => rfl
        | true =>
          obtain ⟨x, hx, hb⟩ := List.any_eq_true.1 hq
          obtain ⟨j, hj, rfl⟩ := List.getElem_of_mem hx
          rw [AOK.out j hj (by have := HN.out; omega)] at hb
          cases hb
      have HEE := Lib.hid (HEK.out hany)
      have hl1 : (l.map Est.lo).length = k := by rw [List.length_map, HN.out, hkn]
      have hl2 : (l.map Est.hi).length = k := by rw [List.length_map, HN.out, hkn]
      have S1 : Hid (Sl wr (.slice xa k xc) (l.map Est.lo)) := Lib.hid (Sl_of_owns (by have := ALO.out; rw [List.take_of_length_le (by rw [HN.out, hkn]; exact Nat.le_refl _)] at this; exact this) hl1.symm)
      have S2 : Hid (Sl wr (.slice ya k yc) (l.map Est.hi)) := Lib.hid (Sl_of_owns (by have := AHI.out; rw [List.take_of_length_le (by rw [HN.out, hkn]; exact Nat.le_refl _)] at this; exact this) hl2.symm)
      have M1 := Lib.hid (rmedian_any (l.map Est.lo) _ wr S1.out (by have := H0.out; omega) (by omega))
      have M2 := Lib.hid (fun u (hu : wr.grownBy u none) => rmedian_any (l.map Est.hi) _ u (S2.out.after hu) (by have := H0.out; omega) (by omega))
      clear hany HE1 HEK hkn hl1 hl2 S1 S2 ALO AHI AAP AOK
      generalize med (l.map Est.lo) = ml at *
      generalize med (l.map Est.hi) = mh at *
      go_wp2_with fail
      (with_reducible refine M1.out.mono ?_)
      rintro e w5 ⟨rfl, hg⟩
      have G5 := Lib.hid hg
      clear hg M1
      go_wp2_with fail
      (with_reducible refine (M2.out w5 G5.out).mono ?_)
      rintro e w6 ⟨rfl, hg⟩
      have G6 := Lib.hid (gb_trans (gb_trans AGR.out G5.out) hg)
      have V6 := Lib.hid (block_kept hg (block_kept G5.out AVR.out rfl) rfl)
      clear hg M2 G5 AVR AGR
      have hzz : w.heap.size ≤ z := by have := HZ.out; omega
      have GZ := Lib.hid (gb_setCell (gb_setCell G6.out (a := ⟨z, 0, none⟩) (.inl hzz) (.int .i64 ml)) (a := ⟨z, 1, none⟩) (.inl hzz) (.int .i64 mh))
      have hbo := block_lt' V6.out
      have hf0 := frz V6.out 0; have hf1 := frz V6.out 1
      obtain ⟨p0_, p1_⟩ := cells2' V6.out
      clear hzz
      go_wp2_with fail
      exact bodyPost_ret (v := .tuple #[.agg #[.int .i64 ml, .int .i64 mh], .int .i64 0]) (by simp [results, Try.results19, go_sem, p0_, p1_]) rfl ⟨by rw [HEE.out], GZ.out⟩
end Go.Proofs.Ytoconichgdlmcaa
