/- Laws30p -/
import Derived.Test.YtiebljanpnadjaaGreatPaAsZ
import Derived.Test.YtiebljanpnadjaaGreatPaAsY
import Derived.Test.YtiebljanpnadjaaGreatPaAsH
namespace Go.Proofs.YtiebljanpnadjaaGreat
set_option linter.all false
open Go.RowKit Rg
set_option maxRecDepth 100000 in
set_option maxHeartbeats 20000000 in
theorem associateParts_walk (w : World) (v : Value) (xs : List Int) (hs0 : Sl w v xs) (_hx : ∀ x ∈ xs, -9223372036854775808 ≤ x ∧ x ≤ 9223372036854775807) :
    Calls Tryz.prog 7 #[v] w fun e w' => e = .returned (.bool true) ∧ Below w.heap.size w w' := by
  go_enter Tryz.func7, Tryz.ntmps7
  go_wp2_with fail
  (with_reducible refine (new_any w v xs hs0).mono ?_)
  rintro e w2 ⟨rfl, hS, hg⟩
  have S2 := Lib.hid hS; have G2 := Lib.hid hg
  clear hS hg hs0
  generalize hqw : w.heap.size = q at S2 ⊢
  have hq : w.heap.size ≤ q := by omega
  go_wp2_with fail
  (with_reducible refine (association_any q w2 q 4 S2.out (by omega) (by omega)).mono ?_)
  rintro e w3 ⟨A, la, lc, ha, hc, rfl, hgd, hin, hfr, hS, hg⟩
  have hq2 := S2.out.lt.2
  have S3 := Lib.hid hS; have G3 := Lib.hid (gb_new G2.out hg (fun k hk => by simp at hk; omega))
  have HGD := Lib.hid hgd; have HIN := Lib.hid hin; have HFR := Lib.hid hfr
  clear hS hg S2 G2 hgd hin hfr
  obtain ⟨x0, y0, z0, x1, y1, z1, st, ls, hs, cap, tol, span, lim, least⟩ := A
  simp only [Asc.val] at HIN ⊢
  have Z0 := Lib.hid (heap_alloc_new w3 (.cells #[.int .i64 0, .int .i64 0, .int .i64 0, .int .i64 0, .int .i64 0, .int .i64 0, .int .i64 0, .slice none 0 0, .slice none 0 0, .int .i64 0, .int .i64 0, .int .i64 0, .int .i64 0, .int .i64 0] 30))
  have B4 := Lib.hid (setRow_at (cs := #[.int .i64 x0, .int .i64 y0, .int .i64 z0, .int .i64 x1, .int .i64 y1, .int .i64 z1, .int .i64 st, .slice la ls.length lc, .slice ha hs.length hc, .int .i64 cap, .int .i64 tol, .int .i64 span, .int .i64 lim, .int .i64 least]) Z0.out)
  have hg4 := gb_setRow (cs := #[.int .i64 x0, .int .i64 y0, .int .i64 z0, .int .i64 x1, .int .i64 y1, .int .i64 z1, .int .i64 st, .slice la ls.length lc, .slice ha hs.length hc, .int .i64 cap, .int .i64 tol, .int .i64 span, .int .i64 lim, .int .i64 least]) (g := w3.heap.size) (gb_alloc (gb_refl w3 none) (.cells #[.int .i64 0, .int .i64 0, .int .i64 0, .int .i64 0, .int .i64 0, .int .i64 0, .int .i64 0, .slice none 0 0, .slice none 0 0, .int .i64 0, .int .i64 0, .int .i64 0, .int .i64 0, .int .i64 0] 30)) (.inl (Nat.le_refl _))
  have HG4 := Lib.hid hg4
  clear hg4
  go_wp2_with (first | (with_reducible refine wpList_store_row rfl _ _ _ rfl w3.heap.size #[.int .i64 x0, .int .i64 y0, .int .i64 z0, .int .i64 x1, .int .i64 y1, .int .i64 z1, .int .i64 st, .slice la ls.length lc, .slice ha hs.length hc, .int .i64 cap, .int .i64 tol, .int .i64 span, .int .i64 lim, .int .i64 least] rfl rfl _ _ Z0.out (by kernel_rfl) rfl (by simp [Value.oneCell']) ?_) | (with_reducible refine wpList_load14 rfl _ rfl w3.heap.size rfl _ _ B4.out rfl ?_))
  generalize (w3.alloc (.cells #[.int .i64 0, .int .i64 0, .int .i64 0, .int .i64 0, .int .i64 0, .int .i64 0, .int .i64 0, .slice none 0 0, .slice none 0 0, .int .i64 0, .int .i64 0, .int .i64 0, .int .i64 0, .int .i64 0] 30)).setRow w3.heap.size #[.int .i64 x0, .int .i64 y0, .int .i64 z0, .int .i64 x1, .int .i64 y1, .int .i64 z1, .int .i64 st, .slice la ls.length lc, .slice ha hs.length hc, .int .i64 cap, .int .i64 tol, .int .i64 span, .int .i64 lim, .int .i64 least] = w4 at *
  have S4 := Lib.hid (S3.out.later HG4.out (by simp)); have G4 := Lib.hid (gb_trans G3.out HG4.out); have HIN4 := Lib.hid (HIN.out.after HG4.out)
  have PHS := Lib.hid (phases_any ⟨x0, y0, z0, x1, y1, z1, st, ls, hs, cap, tol, span, lim, least⟩ q w4 q 4 12 la ha lc hc S4.out HIN4.out HGD.out (by omega) (by omega) (by omega) (fun b off e => by have := HFR.out b off (.inl e); omega))
  simp only [Asc.val] at PHS
  (with_reducible refine PHS.out.mono ?_)
  rintro e w5 ⟨l, va, vc, rfl, hln, hph, hsl, -, hS, hg⟩
  have hq4 := S4.out.lt.2
  have G5 := Lib.hid (gb_new G4.out hg (fun k hk => by simp at hk; omega))
  have HIN5 : Hid (AscIn ⟨x0, y0, z0, x1, y1, z1, st, ls, hs, cap, tol, span, lim, least⟩ (.slice la ls.length lc) (.slice ha hs.length hc) w5) := Lib.hid ⟨HIN4.out.l.later hg (fun b off len cap e _ => by simp only [Value.slice.injEq] at e; have := HFR.out b off (.inl e.1); simp; omega), HIN4.out.h.later hg (fun b off len cap e _ => by simp only [Value.slice.injEq] at e; have := HFR.out b off (.inr e.1); simp; omega)⟩
  have B5 := Lib.hid (block_keptp hg B4.out (by have := S3.out.lt.2; omega)); have HSL := Lib.hid hsl; have HPH := Lib.hid (fun a ha => (hph a ha).1)
  have hl12 : l.length ≤ 12 := by omega
  clear hS hg PHS S3 S4 G3 G4 HIN HIN4 B4 HG4 Z0 hsl hph hq4 hln
  obtain ⟨va', vc', e'⟩ : ∃ a c, Value.slice va l.length vc = .slice a l.length c := ⟨va, vc, rfl⟩
  clear e' va' vc'
  have hav := HGD.out.avE (by omega) HPH.out (by omega)
  have h0 : (assocR ⟨x0, y0, z0, x1, y1, z1, st, ls, hs, cap, tol, span, lim, least⟩ l).1 = 0 := by rw [assocR_ok hav]; exact rnd_zero HGD.out (by omega) HPH.out _ _ _ _ (fun i hi => List.mem_range.1 hi)
  have hpm := assoc_perm hav HGD.out.least.1 h0
  have hex : ∀ g ∈ (assocR ⟨x0, y0, z0, x1, y1, z1, st, ls, hs, cap, tol, span, lim, least⟩ l).2.1, explB ⟨x0, y0, z0, x1, y1, z1, st, ls, hs, cap, tol, span, lim, least⟩ l g.ms g.x g.y g.z g.t = true := fun g hg => by
    rw [assocR_ok hav] at hg
    rcases rnd_good ⟨x0, y0, z0, x1, y1, z1, st, ls, hs, cap, tol, span, lim, least⟩ l _ _ [] [] List.nodup_range (fun i hi => List.mem_range.1 hi) g hg with h | h
    · simp at h
    · exact good_expl hav h
  have ASO := Lib.hid (associate_any ⟨x0, y0, z0, x1, y1, z1, st, ls, hs, cap, tol, span, lim, least⟩ l (.slice la ls.length lc) (.slice ha hs.length hc) (.slice va l.length vc) w5 HIN5.out HSL.out (by omega))
  unfold AsRes at ASO
  obtain ⟨RE, GS, LF, hR⟩ : ∃ E G F, assocR ⟨x0, y0, z0, x1, y1, z1, st, ls, hs, cap, tol, span, lim, least⟩ l = (E, G, F) := ⟨_, _, _, rfl⟩
  rw [hR] at ASO h0 hpm hex
  dsimp only at h0 hpm hex ASO
  subst h0
  have HPM := Lib.hid hpm; have HEX := Lib.hid hex
  clear hav hpm hex hR
  simp only [Asc.val] at ASO
  generalize hzz : w3.heap.size = z at *
  have HZ := Lib.hid hzz
  clear hzz
  go_wp2_with (with_reducible refine wpList_load14 rfl _ rfl z rfl _ _ B5.out rfl ?_)
  (with_reducible refine ASO.out.mono ?_)
  rintro e w6 ⟨L, gv, lv, rfl, hgr, hLg, hlv, hg⟩
  obtain ⟨ga, gc, rfl⟩ := hgr.1.slice
  obtain ⟨fa, fc, rfl⟩ := hlv.shape
  have G6 := Lib.hid (gb_trans G5.out hg); have B6 := Lib.hid (block_kept hg B5.out rfl); have HGR := Lib.hid hgr; have HLG := Lib.hid hLg; have HLV := Lib.hid hlv
  have HIN6 := Lib.hid (HIN5.out.after hg); have HSL6 := Lib.hid (HSL.out.after hg)
  clear hgr hLg hlv hg ASO G5 B5 HIN5 HSL
  obtain ⟨n, hn⟩ : ∃ n, l.length = n := ⟨_, rfl⟩
  have HNL := Lib.hid hn
  rw [hn] at HPM hl12
  rw [hn]
  obtain ⟨i0, hi0, hz0, hz1, hz2⟩ := info_parts info_intS
  have IB : Hid (i0.bytes * n ≤ 281474976710656 ∧ n ≤ maxLen) := Lib.hid ⟨by rw [hz2]; omega, by unfold maxLen; omega⟩
  generalize hCC : w6.heap.size = C at *
  have HC := Lib.hid hCC
  clear hn hCC
  go_wp2_with (with_reducible refine wpList_make_full _ rfl _ _ 26 rfl C 3 i0 (.int .i64 0) 1 Tryz.underlying26 hi0 hz0 hz1 .i64 .i64 (n : Int) (n : Int) n rfl rfl rfl rfl IB.out.1 IB.out.2 (by have := HC.out; omega) ?_; refine Hid.out ?_)
  refine Lib.hid ?_
  intro w7 ho hg
  rw [toList_madeCells_one, ← cntL_nil] at ho
  rw [HC.out] at ho ⊢
  have W6 := Lib.hid (gb_refl w6 none)
  have O7 := Lib.hid ho; have W7 := Lib.hid hg
  clear ho hg hi0 hz0 hz1 hz2 IB i0
  obtain ⟨NL, hNL⟩ : ∃ m, L.length = m := ⟨_, rfl⟩
  have HNLL := Lib.hid hNL
  rw [hNL]
  have HB6 : Hid (∀ u : World, w6.grownBy u none → u.heap[z]? = some (.cells #[.int .i64 x0, .int .i64 y0, .int .i64 z0, .int .i64 x1, .int .i64 y1, .int .i64 z1, .int .i64 st, .slice la ls.length lc, .slice ha hs.length hc, .int .i64 cap, .int .i64 tol, .int .i64 span, .int .i64 lim, .int .i64 least] 30 (0, 0))) := Lib.hid (fun u hu => block_kept hu B6.out rfl)
  have HALL : Hid ((dnG L L.length ++ LF).Perm ((List.range n).map (fun (i : Nat) => (i : Int)))) := Lib.hid (by
    have h := HPM.out
    unfold allM at h
    rw [dnG_all, HLG.out]; exact h)
  clear hNL
  have CV : Hid (w6.grownBy w7 none) := Lib.hid W7.out
  go_wp2_with fail
  go_loopw [41] (fun iv wr => ∃ k : Nat, k ≤ NL ∧ iv = .int .i64 k ∧ wr.ownsRow C 3 1 (.slice (some ⟨C, 0, none⟩) n n) n (cntL n (dnG L k)) ∧ w6.grownBy wr none) (fun iv _ => NL - (intOf iv).toNat)
  case atStart => exact ⟨0, by omega, rfl, by simpa [dnG] using O7.out, W7.out⟩
  case round =>
    obtain ⟨k, hk, rfl, hown, hgr⟩ := hrel
    have OW := Lib.hid hown; have GW := Lib.hid hgr
    clear hown hgr
    by_cases hlt : k < NL
    · have hkd : decide ((k : Int) < (NL : Int)) = true := decide_eq_true (by omega)
      have hk1 : k < L.length := by have := HNLL.out; omega
      obtain ⟨b1, o1, d1, m1, f1, e1, hb1, emv, hs1, x0_, x1_, x2_, x3_, x4_⟩ := (HGR.out.after GW.out).at hk1
      have hcap := (HGR.out.after GW.out).1.block (by omega)
      obtain ⟨b1', o1', d1', e1', -, hle1, hcap1, -⟩ := hcap
      have HKB : Hid (k < 9223372036854775807) := Lib.hid (by omega)
      rw [HNLL.out] at e1 e1'
      simp only [Value.slice.injEq] at e1 e1'
      obtain ⟨rfl, -, rfl⟩ := e1; obtain ⟨e2, -, rfl⟩ := e1'
      have HS6 : Hid (Sl w6 (.slice m1 L[k].g.ms.length f1) L[k].g.ms) := Lib.hid (emv ▸ HGR.out.2 L[k] (List.getElem_mem hk1))
      have hexp := HEX.out L[k].g (HLG.out ▸ List.mem_map_of_mem (List.getElem_mem hk1))
      have HDN : Hid (dnG L (k + 1) = dnG L k ++ L[k].g.ms) := Lib.hid (dnG_succ hk1)
      have HPRE : Hid ((dnG L (k + 1)).Sublist (dnG L L.length ++ LF)) := Lib.hid ((dnG_pre (by omega)).trans (List.sublist_append_left _ _))
      have HLT := Lib.hid hlt
      generalize L[k].g = g at *
      obtain ⟨ms, px, py, pz, pt⟩ := g
      simp only [] at hs1 x0_ x1_ x2_ x3_ x4_ hexp HS6 HDN
      have HXP := Lib.hid hexp
      generalize hml : ms.length = ml at *
      have HML := Lib.hid hml
      clear hs1 hml emv hexp e2
      have GB0 := Lib.hid (heap_alloc_new wr (.cells #[.slice m1 ml f1, .int .i64 px, .int .i64 py, .int .i64 pz, .int .i64 pt] 53))
      have GBG := Lib.hid (gb_alloc (gb_refl wr none) (.cells #[.slice m1 ml f1, .int .i64 px, .int .i64 py, .int .i64 pz, .int .i64 pt] 53))
      have HXA := Lib.hid (fun (u : World) (hu : w6.grownBy u none) => explains_any ⟨x0, y0, z0, x1, y1, z1, st, ls, hs, cap, tol, span, lim, least⟩ l ms px py pz pt (.slice la ls.length lc) (.slice ha hs.length hc) (.slice va l.length vc) (.slice m1 ml f1) u (HIN6.out.after hu) (HSL6.out.after hu) (by rw [← HML.out]; rw [HML.out]; exact HS6.out.after hu) (by have := HNL.out; omega))
      simp only [Asc.val] at HXA
      rw [HXP.out, HNL.out] at HXA
      have B8 := Lib.hid (HB6.out _ (gb_trans GW.out GBG.out)); have W8 := Lib.hid (gb_trans GW.out GBG.out)
      have O8 := Lib.hid (owns_keep OW.out GBG.out)
      go_upto_region 13 with fail
      generalize wr.alloc (.cells #[.slice m1 ml f1, .int .i64 px, .int .i64 py, .int .i64 pz, .int .i64 pt] 53) = w8 at *
      generalize wr.heap.size = gb at *
      clear x0_ x1_ x2_ x3_ x4_ hb1 hlt hk1 OW GW GBG
      have hgb := block_lt' GB0.out
      have hgb0 := cell_of GB0.out 0 _ rfl; have hgb1 := cell_of GB0.out 1 _ rfl; have hgb2 := cell_of GB0.out 2 _ rfl; have hgb3 := cell_of GB0.out 3 _ rfl; have hgb4 := cell_of GB0.out 4 _ rfl
      go_wp2_with (with_reducible refine wpList_load14 rfl _ rfl z rfl _ _ B8.out rfl ?_)
      (with_reducible refine (HXA.out w8 W8.out).mono ?_)
      rintro e w9 ⟨rfl, hg⟩
      have O9 := Lib.hid (owns_keep O8.out hg); have W9 := Lib.hid (gb_trans W8.out hg)
      have GB9 := block_kept hg GB0.out rfl
      have hgc := cell_of GB9 0 _ rfl; have hgl := block_lt' GB9
      clear hg O8 W8 B8 GB0 HXA hgb hgb0 hgb1 hgb2 hgb3 hgb4 HXP
      rw [HDN.out] at HPRE
      go_wp2_with fail
      clear hgc hgl GB9
      go_loopw [53] (fun iv wr => ∃ j : Nat, j ≤ ml ∧ iv = .int .i64 j ∧ wr.ownsRow C 3 1 (.slice (some ⟨C, 0, none⟩) n n) n (cntL n (dnG L k ++ ms.take j)) ∧ w6.grownBy wr none) (fun iv _ => ml - (intOf iv).toNat)
      case atStart => exact ⟨0, by omega, rfl, by simpa using O9.out, W9.out⟩
      case round =>
        obtain ⟨j, hj, rfl, hown, hgr⟩ := hrel
        have OJ := Lib.hid hown; have WJ := Lib.hid hgr
        clear hown hgr
        by_cases hltj : j < ml
        · have hjd : decide ((j : Int) < (ml : Int)) = true := decide_eq_true (by omega)
          obtain ⟨p1, q1, r1, e1, hp1, hle, hcap, hc1⟩ := (HS6.out.after WJ.out).block (by rw [HML.out]; omega)
          simp only [Value.slice.injEq] at e1
          obtain ⟨rfl, -, rfl⟩ := e1
          have z1_ := hc1 j (by rw [HML.out]; exact hltj)
          have hmlb : j < 9223372036854775807 := by have := HML.out; omega
          have hjm : j < ms.length := by rw [HML.out]; exact hltj
          have hat : at0 ms j = ms[j] := by simp [at0, hjm]
          have HTK : dnG L k ++ ms.take (j + 1) = (dnG L k ++ ms.take j) ++ [ms[j]] := by rw [List.take_succ_eq_append_getElem hjm, List.append_assoc]
          obtain ⟨x, hxe, hxn⟩ := mem_lt HALL.out (HPRE.out.subset (List.mem_append_right _ (List.getElem_mem hjm)))
          have hcl := cnt_le HALL.out ((List.Sublist.append_left (List.take_sublist j ms) (dnG L k)).trans HPRE.out) (x : Int)
          rw [hat, hxe] at z1_
          rw [hxe] at HTK
          have qc_ := OJ.out.cellAt x (by omega)
          rw [cntL_at hxn] at qc_
          have fc_ := OJ.out.frozenAt x
          have hCl := (OJ.out.lt C rfl).2
          obtain ⟨o1, o2⟩ := OJ.out.stored x (.int .i64 ((((dnG L k ++ ms.take j).count (x : Int) : Nat) : Int) + 1))
          rw [cntL_setL hxn, ← HTK] at o1
          have O2 := Lib.hid o1; have W2 := Lib.hid (gb_new WJ.out o2 (fun q hq => by simp at hq; have := HC.out; omega))
          generalize (dnG L k ++ ms.take j).count (x : Int) = cc at *
          have hx0 : decide ((x : Int) < 0) = false := decide_eq_false (by omega)
          have hx1 : decide ((n : Int) ≤ (x : Int)) = false := decide_eq_false (by omega)
          have hwr : IntKind.i64.wrap ((cc : Int) + 1) = (cc : Int) + 1 := by rw [IntKind.wrap_i64]; omega
          clear hc1 hle hcap o1 o2 hat hxe HTK OJ WJ hjm hcl
          go_wp2_with fail
          go_roundw
          case rel => exact ⟨j + 1, by omega, by go_num, O2.out, W2.out⟩
          case measure => simp [intOf]; omega
        · have hjd : decide ((j : Int) < (ml : Int)) = false := decide_eq_false (by omega)
          have hje : j = ml := by omega
          have OE : Hid (wr.ownsRow C 3 1 (.slice (some ⟨C, 0, none⟩) n n) n (cntL n (dnG L (k + 1)))) := Lib.hid (by
            have h := OJ.out
            rw [hje, ← HML.out, List.take_length, ← HDN.out] at h
            exact h)
          clear hje
          have hkb := HKB.out
          go_wp2_with fail
          go_roundw
          case rel => exact ⟨k + 1, by have := HLT.out; omega, by go_num, OE.out, WJ.out⟩
          case measure => have := HLT.out; simp [intOf]; omega
    · have hkd : decide ((k : Int) < (NL : Int)) = false := decide_eq_false (by omega)
      have hke : k = NL := by omega
      have OE : Hid (wr.ownsRow C 3 1 (.slice (some ⟨C, 0, none⟩) n n) n (cntL n (dnG L NL))) := Lib.hid (hke ▸ OW.out)
      have HPRE : Hid ((dnG L NL ++ LF).Sublist (dnG L L.length ++ LF)) := Lib.hid (by rw [HNLL.out]; exact List.Sublist.refl _)
      obtain ⟨nl, hnl⟩ : ∃ m, LF.length = m := ⟨_, rfl⟩
      have HNF := Lib.hid hnl
      clear hke OW
      go_wp2_with fail
      rw [hnl] at HLV ⊢
      clear hnl
      go_loopw [75] (fun iv wr => ∃ j : Nat, j ≤ nl ∧ iv = .int .i64 j ∧ wr.ownsRow C 3 1 (.slice (some ⟨C, 0, none⟩) n n) n (cntL n (dnG L NL ++ LF.take j)) ∧ w6.grownBy wr none) (fun iv _ => nl - (intOf iv).toNat)
      case atStart => exact ⟨0, by omega, rfl, by simpa using OE.out, GW.out⟩
      case round =>
        obtain ⟨j, hj, rfl, hown, hgr⟩ := hrel
        have OJ := Lib.hid hown; have WJ := Lib.hid hgr
        clear hown hgr
        by_cases hltj : j < nl
        · have hjd : decide ((j : Int) < (nl : Int)) = true := decide_eq_true (by omega)
          obtain ⟨p1, q1, r1, e1, hp1, hle, hcap, hc1⟩ := (HLV.out.after WJ.out).block (by rw [HNF.out]; omega)
          simp only [Value.slice.injEq] at e1
          obtain ⟨rfl, -, rfl⟩ := e1
          have z1_ := hc1 j (by rw [HNF.out]; exact hltj)
          have hmlb : j < 9223372036854775807 := by have := HNF.out; omega
          have hjm : j < LF.length := by rw [HNF.out]; exact hltj
          have hat : at0 LF j = LF[j] := by simp [at0, hjm]
          have HTK : dnG L NL ++ LF.take (j + 1) = (dnG L NL ++ LF.take j) ++ [LF[j]] := by rw [List.take_succ_eq_append_getElem hjm, List.append_assoc]
          obtain ⟨x, hxe, hxn⟩ := mem_lt HALL.out (HPRE.out.subset (List.mem_append_right _ (List.getElem_mem hjm)))
          have hcl := cnt_le HALL.out ((List.Sublist.append_left (List.take_sublist j LF) (dnG L NL)).trans HPRE.out) (x : Int)
          rw [hat, hxe] at z1_
          rw [hxe] at HTK
          have qc_ := OJ.out.cellAt x (by omega)
          rw [cntL_at hxn] at qc_
          have fc_ := OJ.out.frozenAt x
          have hCl := (OJ.out.lt C rfl).2
          obtain ⟨o1, o2⟩ := OJ.out.stored x (.int .i64 ((((dnG L NL ++ LF.take j).count (x : Int) : Nat) : Int) + 1))
          rw [cntL_setL hxn, ← HTK] at o1
          have O2 := Lib.hid o1; have W2 := Lib.hid (gb_new WJ.out o2 (fun q hq => by simp at hq; have := HC.out; omega))
          generalize (dnG L NL ++ LF.take j).count (x : Int) = cc at *
          have hx0 : decide ((x : Int) < 0) = false := decide_eq_false (by omega)
          have hx1 : decide ((n : Int) ≤ (x : Int)) = false := decide_eq_false (by omega)
          have hwr : IntKind.i64.wrap ((cc : Int) + 1) = (cc : Int) + 1 := by rw [IntKind.wrap_i64]; omega
          clear hc1 hle hcap o1 o2 hat hxe HTK OJ WJ hjm hcl
          go_wp2_with fail
          go_roundw
          case rel => exact ⟨j + 1, by omega, by go_num, O2.out, W2.out⟩
          case measure => simp [intOf]; omega
        · have hjd : decide ((j : Int) < (nl : Int)) = false := decide_eq_false (by omega)
          have hje : j = nl := by omega
          have OE : Hid (wr.ownsRow C 3 1 (.slice (some ⟨C, 0, none⟩) n n) n (cntL n (dnG L L.length ++ LF))) := Lib.hid (by
            have h := OJ.out
            rw [hje, ← HNF.out, List.take_length, ← HNLL.out] at h
            exact h)
          clear hje OJ
          go_wp2_with fail
          go_loopw [96] (fun iv w' => ∃ j : Nat, j ≤ n ∧ iv = .int .i64 j ∧ wr.grownBy w' none) (fun iv _ => n - (intOf iv).toNat)
          case atStart => exact ⟨0, by omega, rfl, gb_refl _ _⟩
          case round =>
            obtain ⟨j, hj, rfl, hgr⟩ := hrel
            have GJ := Lib.hid hgr
            clear hgr
            by_cases hltj : j < n
            · have hjd : decide ((j : Int) < (n : Int)) = true := decide_eq_true (by omega)
              have OJ := owns_keep OE.out GJ.out
              have qc_ := OJ.cellAt j (by omega)
              rw [cntL_one HALL.out hltj] at qc_
              have hCl := (OJ.lt C rfl).2
              clear OJ
              go_wp2_with fail
              go_roundw
              case rel => exact ⟨j + 1, by omega, by go_num, GJ.out⟩
              case measure => simp [intOf]; omega
            · have hjd : decide ((j : Int) < (n : Int)) = false := decide_eq_false (by omega)
              go_wp2_with fail
              (with_reducible refine (awake30_any _).mono ?_)
              rintro e w9 ⟨rfl, hg⟩
              have GE := Lib.hid (gb_end (gb_trans (gb_trans (gb_trans G6.out WJ.out) GJ.out) hg))
              go_wp2_with fail
              go_ret
              exact ⟨rfl, GE.out⟩
end Go.Proofs.YtiebljanpnadjaaGreat
