/- Laws30o -/
import Derived.BigRegion
import Derived.Test.YtiebljanpnadjaaGreatPcAsD
import Derived.Test.YtiebljanpnadjaaGreatPcAsX
import Derived.Test.YtiebljanpnadjaaGreatPcAsT
namespace Go.Proofs.YtiebljanpnadjaaGreat
set_option linter.all false
open Go.RowKit Rg
attribute [local go_sem high] run_eqlPh
set_option maxRecDepth 100000 in
set_option maxHeartbeats 20000000 in
theorem associateOrder_walk (w : World) (v : Value) (xs : List Int) (hs0 : Sl w v xs) (_hx : ∀ x ∈ xs, -9223372036854775808 ≤ x ∧ x ≤ 9223372036854775807) (v1 : Value) (l1 : List Int) (hs1 : Sl w v1 l1) (hx1 : ∀ x ∈ l1, -9223372036854775808 ≤ x ∧ x ≤ 9223372036854775807) :
    Calls Tryz.prog 5 #[v, v1] w fun e w' => e = .returned (.bool true) ∧ Below w.heap.size w w' := by
  have HL1 := Lib.hid hs1; have HX1 := Lib.hid hx1
  obtain ⟨sa, sc, rfl⟩ := hs1.shape
  have hl1 : l1.length ≤ 9223372036854775807 := by
    by_cases h0 : 0 < l1.length
    · obtain ⟨_, _, _, _, _, h1, h2, _⟩ := hs1.block h0; omega
    · omega
  clear hs1 hx1
  go_enter Tryz.func5, Tryz.ntmps5
  go_wp2_with fail
  (with_reducible refine (new_any w v xs hs0).mono ?_)
  rintro e w2 ⟨rfl, hS, hg⟩
  have S2 := Lib.hid hS; have G2 := Lib.hid hg
  clear hS hg hs0
  generalize hqw : w.heap.size = q at S2 ⊢
  have hq : w.heap.size ≤ q := by omega
  go_wp2_with fail
  (with_reducible refine (association_any q w2 q 3 S2.out (by omega) (by omega)).mono ?_)
  rintro e w3 ⟨A, la, lc, ha, hc, rfl, hgd, hin, hfr, hS, hg⟩
  have hq2 := S2.out.lt.2
  have S3 := Lib.hid hS; have G3 := Lib.hid (gb_new G2.out hg (fun k hk => by simp at hk; omega))
  have HGD := Lib.hid hgd; have HIN := Lib.hid hin; have HFR := Lib.hid hfr
  clear hS hg S2 G2 hgd hin hfr
  obtain ⟨x0, y0, z0, x1, y1, z1, st, ls, hs, cap, tol, span, lim, least⟩ := A
  simp only [Asc.val] at HIN ⊢
  have Z0 := Lib.hid (heap_alloc_new w3 (.cells #[.int .i64 0, .int .i64 0, .int .i64 0, .int .i64 0, .int .i64 0, .int .i64 0, .int .i64 0, .slice none 0 0, .slice none 0 0, .int .i64 0, .int .i64 0, .int .i64 0, .int .i64 0, .int .i64 0] 30))
  have B4 := Lib.hid (setRow_at (cs := #[.int .i64 x0, .int .i64 y0, .int .i64 z0, .int .i64 x1, .int .i64 y1, .int .i64 z1, .int .i64 st, .slice la ls.length lc, .slice ha hs.length hc, .int .i64 cap, .int .i64 tol, .int .i64 span, .int .i64 lim, .int .i64 least]) Z0.out)
  have hg4 := gb_setRow (cs := #[.int .i64 x0, .int .i64 y0, .int .i64 z0, .int .i64 x1, .int .i64 y1, .int .i64 z1, .int .i64 st, .slice la ls.length lc, .slice ha hs.length hc, .int .i64 cap, .int .i64 tol, .int .i64 span, .int .i64 lim, .int .i64 least]) (g := w3.heap.size) (gb_alloc (gb_refl w3 none) (.cells #[.int .i64 0, .int .i64 0, .int .i64 0, .int .i64 0, .int .i64 0, .int .i64 0, .int .i64 0, .slice none 0 0, .slice none 0 0, .int .i64 0, .int .i64 0, .int .i64 0, .int .i64 0, .int .i64 0] 30)) (.inl (Nat.le_refl _))
  have HG4 := Lib.hid hg4
  clear hg4
  go_wp2_with (first | (with_reducible refine wpList_store_row rfl _ _ _ rfl w3.heap.size #[.int .i64 x0, .int .i64 y0, .int .i64 z0, .int .i64 x1, .int .i64 y1, .int .i64 z1, .int .i64 st, .slice la ls.length lc, .slice ha hs.length hc, .int .i64 cap, .int .i64 tol, .int .i64 span, .int .i64 lim, .int .i64 least] rfl rfl _ _ Z0.out (by kernel_rfl) rfl (by simp [Value.oneCell']) ?_) | (with_reducible refine wpList_load14 rfl _ rfl w3.heap.size rfl _ _ B4.out rfl ?_))
  generalize (w3.alloc (.cells #[.int .i64 0, .int .i64 0, .int .i64 0, .int .i64 0, .int .i64 0, .int .i64 0, .int .i64 0, .slice none 0 0, .slice none 0 0, .int .i64 0, .int .i64 0, .int .i64 0, .int .i64 0, .int .i64 0] 30)).setRow w3.heap.size #[.int .i64 x0, .int .i64 y0, .int .i64 z0, .int .i64 x1, .int .i64 y1, .int .i64 z1, .int .i64 st, .slice la ls.length lc, .slice ha hs.length hc, .int .i64 cap, .int .i64 tol, .int .i64 span, .int .i64 lim, .int .i64 least] = w4 at *
  have S4 := Lib.hid (S3.out.later HG4.out (by simp)); have G4 := Lib.hid (gb_trans G3.out HG4.out); have HIN4 := Lib.hid (HIN.out.after HG4.out)
  have PHS := Lib.hid (phases_any ⟨x0, y0, z0, x1, y1, z1, st, ls, hs, cap, tol, span, lim, least⟩ q w4 q 3 7 la ha lc hc S4.out HIN4.out HGD.out (by omega) (by omega) (by omega) (fun b off e => by have := HFR.out b off (.inl e); omega))
  simp only [Asc.val] at PHS
  (with_reducible refine PHS.out.mono ?_)
  rintro e w5 ⟨P, a1, c1, rfl, hP7, hPs, hPo, -, hS, hg⟩
  have hq3 := S3.out.lt.2
  have hz4 := block_lt' B4.out
  have HINP : Hid (∀ u, w4.grownBy u (some q) → AscIn ⟨x0, y0, z0, x1, y1, z1, st, ls, hs, cap, tol, span, lim, least⟩ (.slice la ls.length lc) (.slice ha hs.length hc) u) := Lib.hid (fun u hg => ⟨HIN4.out.l.later hg (fun b off len cap e _ => by simp only [Value.slice.injEq] at e; have := HFR.out b off (.inl e.1); simp; omega), HIN4.out.h.later hg (fun b off len cap e _ => by simp only [Value.slice.injEq] at e; have := HFR.out b off (.inr e.1); simp; omega)⟩)
  have HG45 := Lib.hid hg
  generalize hzz : w3.heap.size = z at *
  have HZ := Lib.hid hzz
  have G5 := Lib.hid (gb_new G4.out hg (fun k hk => by simp at hk; omega)); have B5 := Lib.hid (block_keptp hg B4.out (by omega))
  have HPS := Lib.hid hPs; have HPO := Lib.hid hPo
  obtain ⟨n, hn⟩ : ∃ n, P.length = n := ⟨_, rfl⟩
  rw [hn] at HPO hP7
  rw [hn]
  have HN := Lib.hid hn
  have hsz5 := hg.size
  have HWB : Hid (z < w4.heap.size ∧ w4.heap.size ≤ w5.heap.size ∧ q < z) := Lib.hid ⟨hz4, hsz5, by omega⟩
  generalize hn0 : w4.heap.size = N0 at *
  have HN0 := Lib.hid hn0
  clear hS hg PHS S3 S4 G3 G4 HIN HIN4 B4 HG4 Z0 hPs hPo hn hsz5 hz4 hq3 hzz hn0 HFR
  go_wp2_with fail
  go_loopw [33] (fun iv wr => ∃ k : Nat, k ≤ n ∧ iv = .int .i64 k ∧ wr.ownsRow N0 51 6 (.slice a1 n c1) n (flatP (wtd k P)) ∧ w5.grownBy wr (Value.slice a1 n c1).ownBlock) (fun iv _ => n - (intOf iv).toNat)
  case atStart => exact ⟨0, by omega, rfl, by rw [wtd_zero]; exact HPO.out, gb_refl _ _⟩
  case round =>
    obtain ⟨k, hk, rfl, hown, hgr⟩ := hrel
    by_cases hlt : k < n
    · have hkd : decide ((k : Int) < (n : Int)) = true := decide_eq_true (by omega)
      have hkP : k < P.length := by have := HN.out; omega
      have hkS : k < (wtd k P).length := by rw [wtd_length]; exact hkP
      obtain ⟨g, gc, hv, hgB, hgl⟩ := hown.form (by omega)
      simp only [Value.slice.injEq, true_and] at hv
      obtain ⟨rfl, rfl⟩ := hv
      have hat : (wtd k P)[k] = P[k] := wtd_at hkP
      have c5_ := hown.cellAt (k * 6 + 5) (by omega)
      rw [flatP_at _ k hkS 5 (by omega), hat] at c5_
      simp only [Ph.cells, List.getElem?_cons_succ, List.getElem?_cons_zero] at c5_
      have f5_ := hown.frozenAt (k * 6 + 5)
      obtain ⟨o1, g1⟩ := hown.stored (k * 6 + 5) (.int .i64 (1 + (k : Int)))
      have hset : (flatP (wtd k P)).set (k * 6 + 5) (.int .i64 (1 + (k : Int))) = flatP (wtd (k + 1) P) := by
        rw [flatP_put _ 5 (by omega) (wtd k P) k hkS (P[k].wt (1 + (k : Int))) (by rw [hat]; rfl), wtd_step hkP]
      rw [hset] at o1
      have O2 := Lib.hid o1; have W2 := Lib.hid (gb_trans hgr g1)
      have hwk : IntKind.i64.wrap (1 + (k : Int)) = 1 + (k : Int) := by rw [IntKind.wrap_i64]; omega
      generalize P[k].n = pn at *
      clear hown hgr o1 g1 hset hat hkS hkP
      go_wp2_with fail
      go_roundw
      case rel => exact ⟨k + 1, by omega, by go_num, O2.out, W2.out⟩
      case measure => simp [intOf]; omega
    · have hkd : decide ((k : Int) < (n : Int)) = false := decide_eq_false (by omega)
      have hke : k = n := by omega
      have hrow : ∀ p, (Value.slice a1 n c1).ownBlock = some p → N0 ≤ p := fun p hp => (HPO.out.lt p hp).1
      have HPF : Hid (wr.ownsRow N0 51 6 (.slice a1 n c1) n (flatP (wtd P.length P))) := Lib.hid (by have h := hown; rw [hke] at h; rw [HN.out]; exact h)
      have HG4R := gb_newp HG45.out hgr (fun p hp => by have := hrow p hp; have := HN0.out; omega)
      have GR := Lib.hid (gb_new G5.out hgr (fun p hp => by have := hrow p hp; have := HWB.out; omega)); have BR := Lib.hid ((hgr.block z (block_lt' B5.out) (fun e => by have := hrow z e.symm; have := HWB.out; omega)).trans B5.out); have HINR := Lib.hid (HINP.out wr HG4R)
      clear hkd hke hrow hown hgr HG4R HPO HG45 HINP G5 B5
      have HWG := Lib.hid (wtd_good (fun a ha => (HPS.out a ha).1) (by rw [HN.out]; omega))
      have HWK := Lib.hid (wtd_keys P)
      have hRL : (wtd P.length P).length = n := by rw [wtd_length]; exact HN.out
      have HRL := Lib.hid hRL
      generalize wtd P.length P = R at *
      generalize wr = wA at *
      clear hRL HPS
      have HPR := Lib.hid (SlC.of_owns HPF.out)
      have hE := gb_alloc (gb_refl wA none) (.cells #[] 51)
      have HE := Lib.hid hE
      have HPE := Lib.hid (HPR.out.after hE)
      go_wp2_with (at_builtin; (refine wpList_copyP rfl _ _ 31 rfl Tryz.underlying31 wA.heap.size n c1 wA.heap.size a1 R rfl (heap_alloc_new _ _) (Nat.le_refl _) rfl HPE.out (by omega) ?_); refine Hid.out ?_)
      refine Lib.hid ?_
      intro g gc w9 hq9 hg9
      have G9 := Lib.hid (gb_trans HE.out hg9)
      have HQ9 := Lib.hid hq9
      have hgA := (hq9.lt g rfl).1
      have HGA : Hid (wA.heap.size ≤ g ∧ w.heap.size ≤ wA.heap.size) := Lib.hid ⟨hgA, GR.out.size⟩
      have HPM0 : Hid (R.Perm R) := Lib.hid (List.Perm.refl _)
      clear hE HE HPE hq9 hg9 hgA HPR
      go_wp2_with fail
      go_loopw [48] (fun iv wr => ∃ (k : Nat) (l : List Ph), k ≤ n ∧ iv = .int .i64 k ∧ l.Perm R ∧ wr.ownsRow wA.heap.size 51 6 (.slice (some ⟨g, 0, none⟩) n gc) n (flatP l) ∧ w9.grownBy wr (some g)) (fun iv _ => n - (intOf iv).toNat)
      case atStart => exact ⟨0, R, by omega, rfl, HPM0.out, HQ9.out, gb_refl _ _⟩
      case round =>
        obtain ⟨k, l, hk, rfl, hpl, hown, hgr⟩ := hrel
        have PM := Lib.hid hpl; have OW := Lib.hid hown; have GW := Lib.hid hgr
        have hll : l.length = n := by rw [hpl.length_eq]; exact HRL.out
        clear hpl hown hgr HPM0 HQ9
        generalize wr = wB at *
        have GAB := Lib.hid (gb_new G9.out GW.out (fun q e => by simp at e; have := HGA.out; omega))
        by_cases hlt : k < n
        · have hkd : decide ((k : Int) < (n : Int)) = true := decide_eq_true (by omega)
          by_cases hkl : k < l1.length
          rotate_left
          · have hkd2 : decide ((k : Int) < (l1.length : Int)) = false := decide_eq_false (by omega)
            go_wp2_with fail
            go_roundw
            case rel => exact ⟨k + 1, l, by omega, by go_num, PM.out, OW.out, GW.out⟩
            case measure => simp [intOf]; omega
          have hkd2 : decide ((k : Int) < (l1.length : Int)) = true := decide_eq_true (by omega)
          have hkx := HX1.out l1[k] (List.getElem_mem hkl)
          obtain ⟨ob, ooff, ocap, hov, hob, ho1, ho2, ho3⟩ := (HL1.out.later (row := none) (gb_trans GR.out GAB.out) (by simp)).block (by omega)
          simp only [Value.slice.injEq, true_and] at hov
          obtain ⟨rfl, rfl⟩ := hov
          have c0_ := ho3 k hkl
          rw [show at0 l1 k = l1[k] by simp [at0, hkl]] at c0_
          generalize l1[k] = ok at *
          have MOD := Lib.hid (fun u => mod_any ok n u (by omega) (by omega))
          obtain ⟨m, hm, hmp⟩ : ∃ m : Nat, ok % (n : Int) = m ∧ m < n := ⟨(ok % (n : Int)).toNat, by have := Int.emod_nonneg ok (show (n : Int) ≠ 0 by omega); omega, by have := Int.emod_nonneg ok (show (n : Int) ≠ 0 by omega); have := Int.emod_lt_of_pos ok (show (0 : Int) < n by omega); omega⟩
          rw [hm] at MOD
          clear ho3 hm
          go_wp2_with fail
          (with_reducible refine (MOD.out wB).mono ?_)
          rintro e wM ⟨rfl, hwM⟩
          subst hwM
          clear c0_ MOD hkx hob ho1 ho2
          obtain ⟨OS, hgs⟩ := owns_swap (by rw [hll]; exact OW.out) k m (by omega) (by omega)
          rw [swapPh_length, hll] at OS
          have dd := gb_drew (gb_refl ((wB.setCells g (k * 6) (phAt l m).cells).setCells g (m * 6) (phAt l k).cells) none)
          have O11 := Lib.hid (owns_keep OS dd); have G11 := Lib.hid (gb_trans (gb_trans GW.out hgs) (gb_none dd))
          have PM2 := Lib.hid ((swapPh_perm l (i := k) (k := m) (by omega) (by omega)).trans PM.out)
          obtain ⟨i0_, i1_, i2_, i3_, i4_, i5_⟩ := owns_phA OW.out k (by omega)
          obtain ⟨k0_, k1_, k2_, k3_, k4_, k5_⟩ := owns_phA OW.out m (by omega)
          have hf := fun j => OW.out.frozenAt j
          have hgl := (OW.out.lt g rfl).2
          have hmd : decide ((m : Int) < (n : Int)) = true := decide_eq_true (by omega)
          clear OS hgs dd
          by_cases hkm : k = m
          · subst hkm
            clear k0_ k1_ k2_ k3_ k4_ k5_
            go_wp2_with fail
            go_region
            clear hf i0_ i1_ i2_ i3_ i4_ i5_
            go_wp2_with fail
            go_roundw
            case rel => exact ⟨k + 1, swapPh l k k, by omega, by go_num, PM2.out, O11.out, G11.out⟩
            case measure => simp [intOf]; omega
          · obtain ⟨n0_, n1_, n2_, n3_, n4_, n5_, n6_, n7_, n8_, n9_, n10_, n11_, n12_, n13_, n14_, n15_, n16_, n17_, n18_, n19_, n20_, n21_, n22_, n23_, n24_, n25_, n26_, n27_, n28_, n29_, n30_, n31_, n32_, n33_, n34_, n35_, n36_, n37_, n38_, n39_, n40_, n41_, n42_, n43_, n44_, n45_, n46_, n47_, n48_, n49_, n50_, n51_, n52_, n53_, n54_, n55_, n56_, n57_, n58_, n59_, n60_, n61_, n62_, n63_, n64_, n65_, n66_, n67_, n68_, n69_, n70_, n71_⟩ := apart72 hkm
            go_wp2_with fail
            go_region
            clear hf i0_ i1_ i2_ i3_ i4_ i5_ k0_ k1_ k2_ k3_ k4_ k5_ n0_ n1_ n2_ n3_ n4_ n5_ n6_ n7_ n8_ n9_ n10_ n11_ n12_ n13_ n14_ n15_ n16_ n17_ n18_ n19_ n20_ n21_ n22_ n23_ n24_ n25_ n26_ n27_ n28_ n29_ n30_ n31_ n32_ n33_ n34_ n35_ n36_ n37_ n38_ n39_ n40_ n41_ n42_ n43_ n44_ n45_ n46_ n47_ n48_ n49_ n50_ n51_ n52_ n53_ n54_ n55_ n56_ n57_ n58_ n59_ n60_ n61_ n62_ n63_ n64_ n65_ n66_ n67_ n68_ n69_ n70_ n71_
            go_wp2_with fail
            go_roundw
            case rel => exact ⟨k + 1, swapPh l k m, by omega, by go_num, PM2.out, O11.out, G11.out⟩
            case measure => simp [intOf]; omega
        · have hkd : decide ((k : Int) < (n : Int)) = false := decide_eq_false (by omega)
          have hPL := PM.out
          have hWQ : ∀ a ∈ l, placeIn 60 a.x a.y a.z ∧ phP a.x a.y a.z a.e a.l a.n = true := fun a ha => HWG.out a (hPL.subset ha)
          have hle := HGD.out.least
          simp only [] at hle
          have hvP := HGD.out.avW (by omega) HWG.out (by rw [HRL.out]; omega)
          have hvQ := HGD.out.avW (by omega) hWQ (by rw [hll]; omega)
          obtain ⟨hE, hG, hL, hS⟩ := order_plain30 (A := ⟨x0, y0, z0, x1, y1, z1, st, ls, hs, cap, tol, span, lim, least⟩) hPL HWK.out hle.1 hvP hvQ
          have HPF2 : Hid (wB.ownsRow N0 51 6 (.slice a1 n c1) n (flatP R)) := Lib.hid ((owns_keep HPF.out G9.out).kept GW.out (by
            cases hb : (Value.slice a1 n c1).ownBlock with
            | none => exact .inl rfl
            | some p => exact .inr (fun e => by simp at e; have := (HPF.out.lt p hb).2; have := HGA.out; omega)))
          have AS1 := Lib.hid (fun (u : World) (hu : wB.grownBy u none) => associate_any ⟨x0, y0, z0, x1, y1, z1, st, ls, hs, cap, tol, span, lim, least⟩ R (.slice la ls.length lc) (.slice ha hs.length hc) (.slice a1 n c1) u (HINR.out.after (gb_trans GAB.out hu)) (by rw [HRL.out]; exact (SlC.of_owns HPF2.out).after hu) (by rw [HRL.out]; omega))
          have AS2 := Lib.hid (fun (u : World) (hu : wB.grownBy u none) => associate_any ⟨x0, y0, z0, x1, y1, z1, st, ls, hs, cap, tol, span, lim, least⟩ l (.slice la ls.length lc) (.slice ha hs.length hc) (.slice (some ⟨g, 0, none⟩) n gc) u (HINR.out.after (gb_trans GAB.out hu)) (by rw [hll]; exact (SlC.of_owns OW.out).after hu) (by rw [hll]; omega))
          obtain ⟨E1, G1, L1', hR1⟩ : ∃ E G F, assocR ⟨x0, y0, z0, x1, y1, z1, st, ls, hs, cap, tol, span, lim, least⟩ R = (E, G, F) := ⟨_, _, _, rfl⟩
          obtain ⟨E2, G2', L2', hR2⟩ : ∃ E G F, assocR ⟨x0, y0, z0, x1, y1, z1, st, ls, hs, cap, tol, span, lim, least⟩ l = (E, G, F) := ⟨_, _, _, rfl⟩
          unfold AsRes at AS1 AS2
          rw [hR1] at hE hG hL hS AS1
          rw [hR2] at hE hG hL hS AS2
          dsimp only at hE hG hL hS
          subst hE
          simp only [Asc.val] at AS1 AS2
          have HSM := Lib.hid hS; have HGL := Lib.hid hG; have HLLN := Lib.hid hL
          have BB := Lib.hid (block_kept GAB.out BR.out rfl)
          have WB0 := Lib.hid (gb_trans GR.out GAB.out)
          have HLQ := Lib.hid hll
          have OWB := Lib.hid OW.out
          clear hPL hWQ hle hvP hvQ hG hL hS hR1 hR2 hll PM OW GW GAB G9 HPF HL1 HX1 GR BR HWG HWK
          go_wp2_with (with_reducible refine wpList_load14 rfl _ rfl z rfl _ _ BB.out rfl ?_)
          (with_reducible refine (AS1.out wB (gb_refl _ _)).mono ?_)
          rintro e w10 ⟨M1, gv, lv, rfl, hG1, hM1, hL1, hg⟩
          obtain ⟨ga, gc1, rfl⟩ := hG1.1.slice
          obtain ⟨fa, fc, rfl⟩ := hL1.shape
          have W10 := Lib.hid hg; have HG1 := Lib.hid hG1; have HM1 := Lib.hid hM1; have B10 := Lib.hid (block_kept hg BB.out rfl)
          clear hg hG1 hM1 hL1 AS1
          go_wp2_with (with_reducible refine wpList_load14 rfl _ rfl z rfl _ _ B10.out rfl ?_)
          (with_reducible refine (AS2.out w10 W10.out).mono ?_)
          rintro e w11 ⟨M2, hv, nv, rfl, hG2, hM2, hN2, hg⟩
          obtain ⟨ka, kc, rfl⟩ := hG2.1.slice
          obtain ⟨na, nc, rfl⟩ := hN2.shape
          have W11 := Lib.hid (gb_trans W10.out hg); have HG1 := Lib.hid (HG1.out.after hg); have HG2 := Lib.hid hG2; have HM2 := Lib.hid hM2
          have hlM : M2.length = M1.length := by have h1 := congrArg List.length HM1.out; have h2 := congrArg List.length hM2; have h3 := HGL.out; simp only [List.length_map] at h1 h2; omega
          rw [hlM, HLLN.out]
          rw [hlM] at HG2
          generalize hng : M1.length = ng at *
          have HNG := Lib.hid hng; have HNG2 := Lib.hid hlM
          have HPW := Lib.hid (owns_keep HPF2.out W11.out); have HQW := Lib.hid (owns_keep OWB.out W11.out)
          have WE := Lib.hid (gb_trans WB0.out W11.out)
          generalize L1'.length = ln at *
          clear hg hG2 hM2 hN2 AS2 W10 B10 BB hlM hng HPF2 OWB W11 WB0
          have hnE : (E2 != E2) = false := by simp
          have hnN : ((ng : Int) != (ng : Int)) = false := by simp
          have hnL : ((ln : Int) != (ln : Int)) = false := by simp
          go_wp2_with fail
          clear hnE hnN hnL
          go_loopw [110] (fun iv u => ∃ k : Nat, k ≤ ng ∧ iv = .int .i64 k ∧ w11.grownBy u none) (fun iv _ => ng - (intOf iv).toNat)
          case atStart => exact ⟨0, by omega, rfl, gb_refl _ _⟩
          case round =>
            obtain ⟨k, hk, rfl, hgr⟩ := hrel
            have KR := Lib.hid hgr
            clear hgr
            generalize wr = wC at *
            by_cases hlt : k < ng
            · have hkd : decide ((k : Int) < (ng : Int)) = true := decide_eq_true (by omega)
              have hk1 : k < M1.length := by have := HNG.out; omega
              have hk2 : k < M2.length := by have := HNG2.out; omega
              have hsm := HSM.out k M1[k].g M2[k].g (by rw [← HM1.out]; simp [hk1]) (by rw [← HM2.out]; simp [hk2])
              obtain ⟨b1, o1, d1, m1, f1, e1, hb1, -, hs1, x0_, x1_, x2_, x3_, x4_⟩ := (HG1.out.after KR.out).at hk1
              obtain ⟨b2, o2, d2, m2, f2, e2, hb2, -, hs2, y0_, y1_, y2_, y3_, y4_⟩ := (HG2.out.after KR.out).at hk2
              have hcap := (HG1.out.after KR.out).1.block (by omega)
              obtain ⟨b1', o1', d1', e1', -, hle1, hcap1, -⟩ := hcap
              have HKB : Hid (k < 9223372036854775807) := Lib.hid (by omega)
              rw [HNG.out] at e1; rw [HNG2.out] at e2
              simp only [Value.slice.injEq, true_and] at e1 e2
              obtain ⟨rfl, rfl⟩ := e1; obtain ⟨rfl, rfl⟩ := e2
              generalize M1[k].g = g1 at *; generalize M2[k].g = g2 at *
              obtain ⟨ms, px, py, pz, pt⟩ := g1
              obtain ⟨ns, qx, qy, qz, qt⟩ := g2
              obtain ⟨⟨e3, e4, e5, e6⟩, e7, hmem, hrng⟩ := hsm
              simp only [] at e3 e4 e5 e6 e7 hmem hrng hs1 hs2 x0_ x1_ x2_ x3_ x4_ y0_ y1_ y2_ y3_ y4_
              subst e3; subst e4; subst e5; subst e6
              have HS1 := Lib.hid hs1; have HS2 := Lib.hid hs2; have HMEM := Lib.hid hmem; have HRNG := Lib.hid hrng
              rw [← e7] at y0_
              generalize hml : ms.length = ml at *
              have HML := Lib.hid hml; have HNL := Lib.hid e7.symm
              clear hs1 hs2 hmem hrng hml e7 e1' hle1 hcap1 hk1 hk2
              have u1 := fun (x : Up wC) (c : Nat) => ever_cell x (b := b1) (o := c) hb1
              have u2 := fun (x : Up wC) (c : Nat) => ever_cell x (b := b2) (o := c) hb2
              have hnM : ((ml : Int) != (ml : Int)) = false := by simp
              have hnT : (pt != pt) = false := by simp
              go_wp2_with fail
              (refine wp_region_grown (by kernel_rfl) (by kernel_rfl) ?_; (repeat (go_big_quiet_step (fail))); refine wpQuiet_nil ?_; intro wq hq)
              have HGQ := Lib.hid hq
              have X0 := Lib.hid ((gb_cell HGQ.out hb1 (by simp)).trans x0_); have Y0 := Lib.hid ((gb_cell HGQ.out hb2 (by simp)).trans y0_)
              have HB1 := Lib.hid (Nat.lt_of_lt_of_le hb1 HGQ.out.size); have HB2 := Lib.hid (Nat.lt_of_lt_of_le hb2 HGQ.out.size)
              have T1 := Lib.hid (HS1.out.after HGQ.out); have T2 := Lib.hid (HS2.out.after HGQ.out)
              have KQ := Lib.hid (gb_trans KR.out HGQ.out)
              clear hq u1 u2 x0_ x1_ x2_ x3_ x4_ y0_ y1_ y2_ y3_ y4_ hb1 hb2 HS1 HS2 HGQ hnM hnT KR
              have x0_ := X0.out; have hb1 := HB1.out
              go_wp2_with fail
              clear x0_ hb1
              go_loopw [158] (fun iv u => ∃ j : Nat, j ≤ ml ∧ iv = .int .i64 j ∧ wq.grownBy u none) (fun iv _ => ml - (intOf iv).toNat)
              case atStart => exact ⟨0, by omega, rfl, gb_refl _ _⟩
              case round =>
                obtain ⟨j, hj, rfl, hgr⟩ := hrel
                have JR := Lib.hid hgr
                clear hgr
                generalize wr = wJ at *
                by_cases hltj : j < ml
                · have hjd : decide ((j : Int) < (ml : Int)) = true := decide_eq_true (by omega)
                  obtain ⟨p1, q1, r1, e1, hp1, hle, hcap, hc1⟩ := (T1.out.after JR.out).block (by rw [HML.out]; omega)
                  simp only [Value.slice.injEq] at e1
                  obtain ⟨rfl, -, rfl⟩ := e1
                  have z1_ := hc1 j (by rw [HML.out]; exact hltj)
                  have HJB : Hid (j < 9223372036854775807) := Lib.hid (by have := HML.out; omega)
                  have hjm : j < ms.length := by rw [HML.out]; exact hltj
                  have hat : at0 ms j = ms[j] := by simp [at0, hjm]
                  obtain ⟨a, b, hja, haP, hbm, hbQ, hab⟩ := HMEM.out ms[j] (List.getElem_mem hjm)
                  rw [hat, hja] at z1_
                  obtain ⟨c0, hc0, hcb⟩ := List.getElem_of_mem hbm
                  rw [HRL.out] at haP; rw [HLQ.out] at hbQ
                  have hc0m : c0 < ml := by have := HNL.out; omega
                  have HAB := Lib.hid hab; have HCB := Lib.hid hcb; have HC0 := Lib.hid hc0m
                  have y0_ := (gb_cell JR.out HB2.out (by simp)).trans Y0.out
                  have hb2 := Nat.lt_of_lt_of_le HB2.out JR.out.size
                  clear hc1 hle hcap hat hja hbm hab hcb hjm
                  go_wp2_with fail
                  clear y0_ hb2 z1_ hp1
                  go_loopw [21, 168] (fun fv iv u => ∃ (c : Nat) (fb : Bool), c ≤ ml ∧ iv = .int .i64 c ∧ fv = .bool fb ∧ (c0 < c → fb = true) ∧ wJ.grownBy u none) (fun _ iv _ => ml - (intOf iv).toNat)
                  case atStart => exact ⟨0, false, by omega, rfl, rfl, by omega, gb_refl _ _⟩
                  case round =>
                    obtain ⟨c, fb, hc, rfl, rfl, hfb, hgr⟩ := hrel
                    have CR := Lib.hid hgr; have HFB := Lib.hid hfb
                    clear hgr hfb
                    by_cases hltc : c < ml
                    · have hcd : decide ((c : Int) < (ml : Int)) = true := decide_eq_true (by omega)
                      obtain ⟨p2, q2, r2, e2, hp2, hle, hcap, hc2⟩ := (T2.out.after (gb_trans JR.out CR.out)).block (by rw [HNL.out]; omega)
                      simp only [Value.slice.injEq] at e2
                      obtain ⟨rfl, -, rfl⟩ := e2
                      have z2_ := hc2 c (by rw [HNL.out]; exact hltc)
                      have HCC : Hid (c < 9223372036854775807) := Lib.hid (by have := HNL.out; omega)
                      have hcm : c < ns.length := by rw [HNL.out]; exact hltc
                      have hat : at0 ns c = ns[c] := by simp [at0, hcm]
                      obtain ⟨d, hd, hdQ⟩ := HRNG.out ns[c] (List.getElem_mem hcm)
                      rw [HLQ.out] at hdQ
                      rw [hat, hd] at z2_
                      have HKEY : Hid (c = c0 → phAt R a = phAt l d) := Lib.hid (fun e => by
                        subst e
                        have e1 : (d : Int) = (b : Int) := by rw [← hd]; exact HCB.out
                        have e2 : d = b := by omega
                        rw [e2, ← phA_At l (by rw [HLQ.out]; exact hbQ), ← phA_At R (by rw [HRL.out]; exact haP)]
                        exact HAB.out)
                      have hW := gb_trans (gb_trans KQ.out JR.out) CR.out
                      have hPW := owns_keep HPW.out hW; have hQW := owns_keep HQW.out hW
                      obtain ⟨gp, gpc, hv, -, hgpl⟩ := hPW.form (by omega)
                      simp only [Value.slice.injEq, true_and] at hv
                      obtain ⟨rfl, rfl⟩ := hv
                      obtain ⟨i0_, i1_, i2_, i3_, i4_, i5_⟩ := owns_phA hPW a (by rw [HRL.out]; exact haP)
                      obtain ⟨k0_, k1_, k2_, k3_, k4_, k5_⟩ := owns_phA hQW d (by rw [HLQ.out]; exact hdQ)
                      have hgql := (hQW.lt g rfl).2
                      generalize phAt R a = pa at *
                      generalize phAt l d = qd at *
                      obtain ⟨pa0, pa1, pa2, pa3, pa4, pa5⟩ := pa
                      obtain ⟨qd0, qd1, qd2, qd3, qd4, qd5⟩ := qd
                      simp only [] at i0_ i1_ i2_ i3_ i4_ i5_ k0_ k1_ k2_ k3_ k4_ k5_
                      have d1_ : decide ((0 : Int) ≤ (a : Int)) = true := decide_eq_true (by omega)
                      have d2_ : decide ((a : Int) < (n : Int)) = true := decide_eq_true (by omega)
                      have d3_ : decide ((0 : Int) ≤ (d : Int)) = true := decide_eq_true (by omega)
                      have d4_ : decide ((d : Int) < (n : Int)) = true := decide_eq_true (by omega)
                      clear hc2 hle hcap hat hd hcm hW hPW hQW
                      go_upto_region 33 with fail
                      clear z2_ hp2
                      have u3 := fun (x : Up wr) (c : Nat) => ever_cell x (b := gp) (o := c) hgpl
                      have u4 := fun (x : Up wr) (c : Nat) => ever_cell x (b := g) (o := c) hgql
                      cases fb with
                      | true =>
                        (refine wp_region_grown (by kernel_rfl) (by kernel_rfl) ?_; (repeat (go_big_quiet_step (fail))); refine wpQuiet_nil ?_; intro wq hq)
                        have CN := Lib.hid (gb_trans CR.out hq)
                        clear hq u3 u4 i0_ i1_ i2_ i3_ i4_ i5_ k0_ k1_ k2_ k3_ k4_ k5_
                        have hcc := HCC.out
                        go_wp2_with fail
                        go_roundw
                        case rel => exact ⟨c + 1, true, by omega, by go_num, rfl, fun _ => rfl, CN.out⟩
                        case measure => simp [intOf]; omega
                      | false =>
                        (refine wp_region_grown (by kernel_rfl) (by kernel_rfl) ?_; (repeat (go_big_quiet_step (fail))); refine wpQuiet_nil ?_; intro wq hq)
                        have CN := Lib.hid (gb_trans CR.out hq)
                        clear hq u3 u4 i0_ i1_ i2_ i3_ i4_ i5_ k0_ k1_ k2_ k3_ k4_ k5_
                        have hcc := HCC.out
                        go_wp2_with fail
                        go_roundw
                        case rel => exact ⟨c + 1, eqPh ⟨pa0, pa1, pa2, pa3, pa4, pa5⟩ ⟨qd0, qd1, qd2, qd3, qd4, qd5⟩, by omega, by go_num, rfl, fun h => by
                          rcases Nat.lt_or_ge c0 c with h1 | h1
                          · have := HFB.out h1; cases this
                          · rw [HKEY.out (by omega)]; exact eqPh_self _, CN.out⟩
                        case measure => simp [intOf]; omega
                    · have hcd : decide ((c : Int) < (ml : Int)) = false := decide_eq_false (by omega)
                      have hft := HFB.out (by have := HC0.out; omega)
                      subst hft
                      have JN := Lib.hid (gb_trans JR.out CR.out)
                      have hjb := HJB.out
                      go_wp2_with fail
                      go_roundw
                      case rel => exact ⟨j + 1, by omega, by go_num, JN.out⟩
                      case measure => simp [intOf]; omega
                · have hjd : decide ((j : Int) < (ml : Int)) = false := decide_eq_false (by omega)
                  have KN := Lib.hid (gb_trans KQ.out JR.out)
                  have hkb := HKB.out
                  go_wp2_with fail
                  go_roundw
                  case rel => exact ⟨k + 1, by omega, by go_num, KN.out⟩
                  case measure => simp [intOf]; omega
            · have hkd : decide ((k : Int) < (ng : Int)) = false := decide_eq_false (by omega)
              go_wp2_with fail
              (with_reducible refine (awake30_any _).mono ?_)
              rintro e w22 ⟨rfl, hg⟩
              have GE := Lib.hid (gb_end (gb_trans (gb_trans WE.out KR.out) hg))
              clear hg
              go_wp2_with fail
              go_ret
              exact ⟨rfl, GE.out⟩
end Go.Proofs.YtiebljanpnadjaaGreat
