/- The walk of MagnitudeMedian. -/
import Derived.Test.YtoconichgdlmcaaMm
import Derived.Test.YtoconichgdlmcaaLaws32t
import Derived.BigRegion
namespace Go.Proofs.Ytoconichgdlmcaa
set_option linter.all false
open Go.RowKit Rg

set_option maxRecDepth 100000 in
set_option maxHeartbeats 20000000 in
theorem magnitudeMedian_walk (w : World) (v : Value) (xs : List Int) (hs : Sl w v xs) (_hx : ∀ x ∈ xs, -9223372036854775808 ≤ x ∧ x ≤ 9223372036854775807) (v1 : Value) (l1 : List Int) (hs1 : Sl w v1 l1) (hx1 : ∀ x ∈ l1, -9223372036854775808 ≤ x ∧ x ≤ 9223372036854775807) :
    Calls Try.prog 3 #[v, v1] w fun e w' => e = .returned (.bool true) ∧ Below w.heap.size w w' := by
  have hv : v.oneCell' = true := by obtain ⟨va, vn, vc, rfl⟩ := sl_slice hs; rfl
  have HL1 := Lib.hid hs1; have HX1 := Lib.hid hx1
  obtain ⟨oa, oc, rfl⟩ := hs1.shape
  clear hs1 hx1 _hx
  go_enter Try.func3, Try.ntmps3
  go_wp2_with fail
  (with_reducible refine (new_any w v xs hs).mono ?_)
  rintro e w1 ⟨rfl, hS, hg⟩
  have S1 := Lib.hid hS
  have G1 := Lib.hid hg
  have hq2 : w.heap.size ≤ w.heap.size := Nat.le_refl _
  clear hS hg hs
  generalize hq : w.heap.size = q at S1 hq2 ⊢
  have HQ := Lib.hid hq
  have hq2 : w.heap.size ≤ q := by omega
  clear hq
  go_wp2_with fail
  have ES : Calls Try.prog 8 #[.pointer (some ⟨q, 0, none⟩), .int .i64 8] w1 (NewEst q q 8 w1) := estimates_any q w1 q 8 (by decide) S1.out S1.out.lt.2
  (with_reducible refine ES.mono ?_)
  rintro e w2 ⟨l0, v0, rfl, hll, hok, hown, hS, hg⟩
  obtain ⟨va, vc, rfl⟩ := owns_slice hown
  have hqb : q < w1.heap.size := S1.out.lt.2
  have HB1 : Hid (w.heap.size ≤ w1.heap.size ∧ w1.heap.size ≤ w2.heap.size) := Lib.hid ⟨G1.out.size, hg.size⟩
  have S2 := Lib.hid hS; have G2 : Hid (w.grownBy w2 none) := Lib.hid (gb_new G1.out hg (fun k hk => by simp at hk; omega))
  have O2 := Lib.hid hown
  have HL0 : Hid ((l0 ++ [(⟨5, 9⟩ : Est)]).length = l0.length + 1) := Lib.hid (by simp)
  have HOK : Hid (∀ x ∈ l0 ++ [(⟨5, 9⟩ : Est)], EsOk x) := Lib.hid (fun x hx => (List.mem_append.1 hx).elim (hok x) (fun h => by rw [List.mem_singleton.1 h]; unfold EsOk; dsimp only; omega))
  have S2a := Lib.hid (S2.out.later (gb_alloc (gb_refl _ none) (.cells #[.int .i64 5, .int .i64 9] 28)) (by simp))
  have e9 : flatE l0 ++ [.int .i64 5, .int .i64 9] = flatE (l0 ++ [⟨5, 9⟩]) := by simp [flatE, Est.cells]
  have HE9 := Lib.hid e9
  clear hS hg hown hok e9 ES S1 G1
  generalize hn0 : l0.length = m at *
  generalize l0 ++ [(⟨5, 9⟩ : Est)] = l at *
  clear hn0
  go_wp2_with (at_builtin; go_loud (refine wpList_push rfl _ _ 25 rfl w1.heap.size 28 (.agg #[.int .i64 0, .int .i64 0]) 2 16 Try.underlying25 Try.infoEst rfl (by decide) (by decide) (.slice va m vc) m (flatE l0) rfl (O2.out.alloc _) w2.heap.size 1 [.int .i64 5, .int .i64 9] 28 rfl (heap_alloc_new _ _) rfl (by simp [Value.oneCell']) (by omega) (by have := HB1.out; simp; omega) ?_); refine Hid.out ?_)
  refine Lib.hid ?_
  intro v' w3 hown' hg'
  rw [HE9.out] at hown'
  obtain ⟨gx, cx, rfl, hgx, hgx2⟩ := hown'.form (by omega)
  have G3 := Lib.hid (push_grown G2.out O2.out HB1.out.1 hg')
  have S3 := Lib.hid (S2a.out.later hg' (fun k hk => by have := (O2.out.lt k hk).1; omega))
  generalize hn : m + 1 = n at *
  have O3 := Lib.hid hown'
  have HN : Hid (1 ≤ n ∧ n ≤ 9) := Lib.hid (by omega)
  have hn9 : n ≤ 9 := by omega
  have HQX : Hid (q < gx ∧ w1.heap.size ≤ gx) := Lib.hid ⟨by omega, hgx⟩
  clear hown' hg' HE9 O2 G2 S2 S2a hn hll hgx
  generalize w1.heap.size = b1 at *
  go_wp2_with fail
  go_loopw [7, 26] (fun c i wr => ∃ (k : Nat) (ys : List Int), k ≤ n ∧ i = .int .i64 k ∧ ys.length = k ∧ (∀ j (h1 : j < ys.length) (h2 : j < l.length), l[j].lo ≤ ys[j] ∧ ys[j] ≤ l[j].hi) ∧ wr.ownsRow w3.heap.size 3 1 c ys.length (ys.map (Value.int .i64)) ∧ Src q wr q ∧ w3.grownBy wr (some q)) (fun _ i _ => n - (intOf i).toNat)
  case atStart => exact ⟨0, [], by omega, rfl, rfl, fun j h => by simp at h, World.ownsRow_nil _ _ _ _, S3.out, gb_refl _ _⟩
  case round =>
    obtain ⟨k, ys, hk, rfl, hyl, hyb, hown, hS, hgr⟩ := hrel
    obtain ⟨ca, cc, rfl⟩ := owns_slice hown
    have HO := Lib.hid hown; have HS := Lib.hid hS; have HG := Lib.hid hgr; have HYB := Lib.hid hyb; have HYL := Lib.hid hyl
    have OX := Lib.hid (owns_keepp O3.out hgr hqb)
    clear hown hS hgr hyb
    rw [hyl]
    clear hyl
    by_cases hlt : k < n
    · have hd_ : decide ((k : Int) < (n : Int)) = true := decide_eq_true (by omega)
      obtain ⟨c0_, c1_⟩ := esCells OX.out HL0.out k hlt
      have hgl := (OX.out.lt gx rfl).2
      have d0_ := Pulled.cell (B := q) (p := q) c0_ hgl (by have := HQX.out.1; omega)
      have d1_ := Pulled.cell (B := q) (p := q) c1_ hgl (by have := HQX.out.1; omega)
      have HEK : Hid (EsOk (esAt l k)) := Lib.hid (by rw [esAt_eq (by have := HL0.out; omega)]; exact HOK.out _ (List.getElem_mem _))
      have HEL := Lib.hid (fun h => (esAt_eq (l := l) (i := k) h))
      generalize esAt l k = x at *
      obtain ⟨lo, hi⟩ := x
      dsimp only at *
      have hpq := HS.out.lt.2
      go_wp2_with fail
      refine Rg.region (Pulled wr q q) (Pull q) (fun k => if k = 12 then some (isInt fun y => lo ≤ y ∧ y ≤ hi) else if k = 13 then some (isBlk wr 1 3) else none) (fun _ => false) 0 14 (by kernel_rfl) (by kernel_rfl) (by kernel_rfl) (by kernel_rfl) (by kernel_rfl) (by kernel_rfl) (by kernel_rfl) Pull.size (Pulled.start HS.out) (fun hne => ?_)
      (repeat (refine rLexL_quiet (by rfl) (by rfl) (by rfl) (by rfl) ?_; go_big_quiet_step (fail); refine wpQuiet_nil ?_))
      refine rg_draw (fun y => lo ≤ y ∧ y ≤ hi) 9 #[.pointer (some ⟨q, 0, none⟩), .int .i64 lo, .int .i64 hi] rfl rfl (fun _ => by go_simp) (fun u hu _ => range_any q u q _ _ hu.2 HEK.out.1 (by have := HEK.out.2.1; dsimp only at this; omega) (by have := HEK.out.2.2; dsimp only at this; omega)) (fun y hy => ?_)
      have HY := Lib.hid hy
      clear hy
      simp only [Act.put, List.setIfInBounds_toArray, List.set_cons_zero, List.set_cons_succ]
      refine rg_litB 1 #[.int .i64 y] 3 rfl rfl rfl (fun _ => by go_simp) hpq (fun gb hgb => ?_)
      simp only [Act.put, List.setIfInBounds_toArray, List.set_cons_zero, List.set_cons_succ]
      (repeat (refine rLexL_quiet (by rfl) (by rfl) (by rfl) (by rfl) ?_; go_big_quiet_step (fail); refine wpQuiet_nil ?_))
      rintro w6 ⟨hg6, hs6⟩ hf -
      have BL := Lib.hid (show w6.heap[gb]? = some (.cells #[.int .i64 y] 3 (0, 0)) from hf 13)
      have O6 := Lib.hid (owns_keepp HO.out hg6 (by have := S3.out.lt.2; omega)); have G6 := Lib.hid (gb_trans HG.out hg6); have S6 := Lib.hid hs6
      have HW3 : Hid (w3.heap.size ≤ w6.heap.size ∧ q < w3.heap.size) := Lib.hid ⟨G6.out.size, S3.out.lt.2⟩
      clear hf hg6 hs6 hne d0_ d1_ c0_ c1_ HO HG HS OX
      rw [HYL.out] at O6
      go_wp2_with (at_builtin; go_loud (refine wpList_push rfl _ _ 22 rfl w3.heap.size 3 (.int .i64 0) 1 8 Try.underlying22 Try.infoIntC rfl (by decide) (by decide) (.slice ca k cc) k (ys.map (Value.int .i64)) rfl O6.out gb 1 [.int .i64 y] 3 rfl BL.out rfl (by simp [Value.oneCell']) (by omega) HW3.out.1 ?_); refine Hid.out ?_)
      refine Lib.hid ?_
      intro v' w7 hown' hg'
      have O7 : Hid (w7.ownsRow w3.heap.size 3 1 v' (ys ++ [y]).length ((ys ++ [y]).map (Value.int .i64))) := Lib.hid (by rw [List.length_append, HYL.out, List.map_append]; exact hown')
      have G7 := Lib.hid (push_grownr G6.out O6.out (Nat.le_refl _) hg')
      have S7 := Lib.hid (S6.out.later hg' (fun k' hk' => by have := (O6.out.lt k' hk').1; have := HW3.out.2; omega))
      have HB7 : Hid (∀ j (h1 : j < (ys ++ [y]).length) (h2 : j < l.length), l[j].lo ≤ (ys ++ [y])[j] ∧ (ys ++ [y])[j] ≤ l[j].hi) := Lib.hid (fun j h1 h2 => by
        by_cases hj : j < ys.length
        · rw [List.getElem_append_left hj]; exact HYB.out j hj h2
        · have hjk : j = k := by have := HYL.out; simp at h1; omega
          subst hjk
          have he := HEL.out h2
          rw [List.getElem_append_right (by omega)]
          simp only [List.getElem_singleton]
          rw [← he]; exact HY.out)
      clear hown' hg' O6 G6 S6 BL
      go_wp2_with fail
      go_roundw
      case rel => exact ⟨k + 1, ys ++ [y], by omega, by go_num, by simp [HYL.out], HB7.out, O7.out, S7.out, G7.out⟩
      case measure => simp [intOf]; omega
    · obtain ⟨HM1, HM2⟩ := median_plain l ys (by have := HYL.out; have := HL0.out; omega) HYB.out
      have HMD := Lib.hid (And.intro HM1 HM2)
      have HYN : Hid (ys.length = n) := Lib.hid (by have := HYL.out; omega)
      have hkn : k = n := by omega
      subst hkn
      have SY : Hid (Sl wr (.slice ca k cc) ys) := Lib.hid (Sl_of_owns (by have := HO.out; rw [HYN.out] at this; exact this) HYN.out.symm)
      have G4 : Hid (w.grownBy wr none) := Lib.hid (gb_new G3.out HG.out (fun k' hk' => by simp at hk'; omega))
      clear HM1 HM2 HO HYB HYL hk HS HG
      have hg6 : wr.grownBy (wr.alloc (.cells #[] 28)) none := gb_alloc (gb_refl _ _) _
      have PC : Hid (∀ j u, (flatE l)[j]? = some u → (wr.alloc (.cells #[] 28)).cell? ⟨gx, 0 + j, none⟩ = some u) := Lib.hid (fun j u h => by
        have hjl := (List.getElem?_eq_some_iff.1 h).1
        have h1 := OX.out.cellAt j (by rw [← OX.out.1]; exact hjl)
        rw [Nat.zero_add, cell_old _ _ _ (OX.out.lt gx rfl).2, h1]; exact h)
      have hfl : (flatE l).length = k * 2 := by rw [flatE_length, HL0.out]
      have HFL := Lib.hid hfl
      clear hfl hg6
      go_wp2_with (at_builtin; go_loud (refine wpList_copyAt32 rfl _ _ 25 rfl 28 (.agg #[.int .i64 0, .int .i64 0]) 2 16 Try.underlying25 Try.infoEst rfl (by decide) wr.heap.size rfl gx 0 k cx (flatE l) rfl HN.out.1 HFL.out PC.out (flatE_cell l) (by omega) (by omega) ?_); refine Hid.out ?_)
      refine Lib.hid ?_
      intro g gc w5 hown5 hg5
      have hg5' := gb_trans (gb_alloc (gb_refl wr none) (.cells #[] 28)) hg5
      have O5 := Lib.hid hown5
      have W5 := Lib.hid hg5'
      have HGW : Hid (wr.heap.size < g) := Lib.hid (by have := (hown5.lt g rfl).1; omega)
      clear hown5 hg5 hg5' PC HFL O3 G3 S3
      generalize wr = w4 at *
      go_wp2_with fail
      go_loopw [50] (fun i u => ∃ (j : Nat) (l' : List Est), j ≤ k ∧ i = .int .i64 j ∧ l'.Perm l ∧ u.ownsRow (w4.heap.size + 1) 28 2 (.slice (some ⟨g, 0, none⟩) k gc) k (flatE l') ∧ w4.grownBy u none) (fun i _ => k - (intOf i).toNat)
      case atStart => exact ⟨0, l, by omega, rfl, List.Perm.refl _, O5.out, W5.out⟩
      case round =>
        obtain ⟨j, l', hj, rfl, hpm, hown, hgr⟩ := hrel
        have PM := Lib.hid hpm; have OY := Lib.hid hown; have GU := Lib.hid hgr
        have HLL : Hid (l'.length = k) := Lib.hid (by rw [hpm.length_eq]; exact HL0.out)
        clear hpm hown hgr O5 W5
        by_cases hjk : j < k
        · have hd_ : decide ((j : Int) < (k : Int)) = true := decide_eq_true (by omega)
          by_cases hjl : j < l1.length
          · have hd2_ : decide ((j : Int) < (l1.length : Int)) = true := decide_eq_true (by omega)
            have hkx := HX1.out l1[j] (List.getElem_mem hjl)
            obtain ⟨ob, ooff, ocap, hov, hob, -, -, ho3⟩ := (HL1.out.later (row := none) (gb_trans G4.out GU.out) (by simp)).block (by omega)
            simp only [Value.slice.injEq, true_and] at hov
            obtain ⟨hsa, rfl⟩ := hov
            have c0_ := ho3 j hjl
            rw [show at0 l1 j = l1[j] by simp [at0, hjl]] at c0_
            generalize l1[j] = ok at *
            have MOD := Lib.hid (fun u => mod_any ok k u (by omega) (by omega))
            obtain ⟨m2, hm, hmp⟩ : ∃ m : Nat, ok % (k : Int) = m ∧ m < k := ⟨(ok % (k : Int)).toNat, by have := Int.emod_nonneg ok (show (k : Int) ≠ 0 by omega); omega, by have := Int.emod_nonneg ok (show (k : Int) ≠ 0 by omega); have := Int.emod_lt_of_pos ok (show (0 : Int) < k by omega); omega⟩
            rw [hm] at MOD
            clear ho3 hm
            go_wp2_with fail
            (with_reducible refine (MOD.out _).mono ?_)
            rintro e w' ⟨rfl, rfl⟩
            obtain ⟨i0_, i1_⟩ := esCells OY.out HLL.out j hjk
            obtain ⟨k0_, k1_⟩ := esCells OY.out HLL.out m2 hmp
            have hf := fun i => OY.out.frozenAt i
            have hgl : g < wr.heap.size := (OY.out.lt g rfl).2
            have HS := Lib.hid (ownsE_swap OY.out HLL.out j m2 hjk hmp)
            have HPM := Lib.hid ((swapE_perm l' (i := j) (k := m2) (by have := HLL.out; omega) (by have := HLL.out; omega)).trans PM.out)
            have HGS := Lib.hid (fun (a b c d : Value) (x1 x2 x3 x4 : Nat) => gb_setCell (gb_setCell (gb_setCell (gb_setCell GU.out (a := ⟨g, x1, none⟩) (.inl (Nat.le_of_lt HGW.out)) a) (a := ⟨g, x2, none⟩) (.inl (Nat.le_of_lt HGW.out)) b) (a := ⟨g, x3, none⟩) (.inl (Nat.le_of_lt HGW.out)) c) (a := ⟨g, x4, none⟩) (.inl (Nat.le_of_lt HGW.out)) d)
            have hd3_ : decide ((m2 : Int) < (k : Int)) = true := decide_eq_true (by omega)
            clear c0_ MOD hkx
            by_cases hkm : j = m2
            · subst hkm
              clear k0_ k1_
              go_wp2_with fail
              go_region
              rw [← hsa]
              clear hsa
              have H11 := Lib.hid (owns_keep HS.out (gb_drew (gb_refl _ none)))
              have G11 := Lib.hid (gb_trans (HGS.out (.int .i64 (esAt l' j).lo) (.int .i64 (esAt l' j).hi) (.int .i64 (esAt l' j).lo) (.int .i64 (esAt l' j).hi) (j * 2) (j * 2 + 1) (j * 2) (j * 2 + 1)) (gb_drew (gb_refl _ none)))
              clear HS hf i0_ i1_ HGS
              go_wp2_with fail
              go_roundw
              case rel => exact ⟨j + 1, swapE l' j j, by omega, by go_num, HPM.out, H11.out, G11.out⟩
              case measure => simp [intOf]; omega
            · obtain ⟨n0_, n1_, n2_, n3_, n4_, n5_, n6_, n7_⟩ := apartE hkm
              go_wp2_with fail
              go_region
              rw [← hsa]
              clear hsa
              have H11 := Lib.hid (owns_keep HS.out (gb_drew (gb_refl _ none)))
              have G11 := Lib.hid (gb_trans (HGS.out (.int .i64 (esAt l' m2).lo) (.int .i64 (esAt l' m2).hi) (.int .i64 (esAt l' j).lo) (.int .i64 (esAt l' j).hi) (j * 2) (j * 2 + 1) (m2 * 2) (m2 * 2 + 1)) (gb_drew (gb_refl _ none)))
              clear HS hf i0_ i1_ k0_ k1_ HGS n0_ n1_ n2_ n3_ n4_ n5_ n6_ n7_
              go_wp2_with fail
              go_roundw
              case rel => exact ⟨j + 1, swapE l' j m2, by omega, by go_num, HPM.out, H11.out, G11.out⟩
              case measure => simp [intOf]; omega
          · have hd2_ : decide ((j : Int) < (l1.length : Int)) = false := decide_eq_false (by omega)
            go_wp2_with fail
            go_roundw
            case rel => exact ⟨j + 1, l', by omega, by go_num, PM.out, OY.out, GU.out⟩
            case measure => simp [intOf]; omega
        · have hd_ : decide ((j : Int) < (k : Int)) = false := decide_eq_false (by omega)
          have NX := Lib.hid (fun u (hu : wr.grownBy u none) => network_any l _ u ((slc_ownE (owns_keep OX.out GU.out) HL0.out).after hu) (by have := HL0.out; omega))
          have NY := Lib.hid (fun u (hu : wr.grownBy u none) => network_any l' _ u ((slc_ownE OY.out HLL.out).after hu) (by have := HLL.out; omega))
          rw [netV_ok (l := l) (by have := HL0.out; have := HN.out; omega) HOK.out] at NX
          rw [netV_ok (l := l') (by have := HLL.out; have := HN.out; omega) (fun x hx => HOK.out x (PM.out.mem_iff.1 hx)), med_congr (PM.out.map Est.lo), med_congr (PM.out.map Est.hi)] at NY
          have RM := Lib.hid (fun u (hu : wr.grownBy u none) => rmedian_any ys _ u ((SY.out.after GU.out).after hu) (by have := HYN.out; have := HN.out; omega) (by have := HYN.out; have := HN.out; omega))
          have GW := Lib.hid (gb_trans G4.out GU.out)
          obtain ⟨u1_, u2_⟩ := HMD.out
          have u1_ : decide (med (l.map Est.lo) ≤ med ys) = true := decide_eq_true u1_
          have u2_ : decide (med ys ≤ med (l.map Est.hi)) = true := decide_eq_true u2_
          clear HMD OY GU OX SY HOK PM HLL HL0 HX1
          generalize med (l.map Est.lo) = A at *
          generalize med (l.map Est.hi) = C at *
          generalize med ys = D at *
          go_wp2_with fail
          (with_reducible refine (NX.out wr (gb_refl _ _)).mono ?_)
          rintro e w5 ⟨rfl, hg⟩
          have W5 := Lib.hid hg
          have g6 := gb_alloc (gb_refl w5 none) (.cells #[.int .i64 A, .int .i64 C] 28)
          have A6 := Lib.hid (heap_alloc_new w5 (.cells #[.int .i64 A, .int .i64 C] 28))
          have W6 := Lib.hid (gb_trans W5.out g6)
          clear hg NX g6 W5
          go_wp2_with fail
          generalize w5.alloc (.cells #[.int .i64 A, .int .i64 C] 28) = w6 at *
          generalize w5.heap.size = ab at *
          (with_reducible refine (NY.out w6 W6.out).mono ?_)
          rintro e w7 ⟨rfl, hg⟩
          have W7 := Lib.hid (gb_trans W6.out hg); have A7 := Lib.hid (block_kept hg A6.out rfl)
          clear hg NY W6 A6
          have g8 := gb_alloc (gb_refl w7 none) (.cells #[.int .i64 A, .int .i64 C] 28)
          have B8 := Lib.hid (heap_alloc_new w7 (.cells #[.int .i64 A, .int .i64 C] 28))
          have W8 := Lib.hid (gb_trans W7.out g8); have A8 := Lib.hid (block_kept g8 A7.out rfl)
          clear g8 W7 A7
          go_wp2_with fail
          generalize w7.alloc (.cells #[.int .i64 A, .int .i64 C] 28) = w8 at *
          generalize w7.heap.size = bb at *
          (with_reducible refine (RM.out w8 W8.out).mono ?_)
          rintro e w9 ⟨rfl, hg⟩
          have W9 := Lib.hid (gb_trans W8.out hg); have A9 := Lib.hid (block_kept hg A8.out rfl); have B9 := Lib.hid (block_kept hg B8.out rfl)
          clear hg RM W8 A8 B8
          have hq1 : same2E A C A C = true := same2E_self _ _
          obtain ⟨c0_, c1_⟩ := cells2' A9.out
          obtain ⟨d0_, d1_⟩ := cells2' B9.out
          have hl1 := block_lt' A9.out; have hl2 := block_lt' B9.out
          clear A9 B9
          go_wp2_with fail
          (with_reducible refine (awake32_any _).mono ?_)
          rintro e w10 ⟨rfl, hg⟩
          have HGE := Lib.hid (gb_trans (gb_trans GW.out W9.out) hg)
          clear hg
          go_wp2_with fail
          go_ret
          exact ⟨rfl, gb_end HGE.out⟩
end Go.Proofs.Ytoconichgdlmcaa
