/- Laws30a -/
import Derived.Test.YtiebljanpnadjaaGreatPbAsU
import Derived.Test.YtiebljanpnadjaaGreatPbAsX
import Derived.Test.YtiebljanpnadjaaGreatPbAsJ
import Derived.Test.YtiebljanpnadjaaGreatPbAsZ
namespace Go.Proofs.YtiebljanpnadjaaGreat
set_option linter.all false
open Go.RowKit Rg
set_option maxRecDepth 100000 in
set_option maxHeartbeats 20000000 in
theorem associateApart_walk (w : World) (v : Value) (xs : List Int) (hs0 : Sl w v xs) (_hx : ∀ x ∈ xs, -9223372036854775808 ≤ x ∧ x ≤ 9223372036854775807) :
    Calls Tryz.prog 4 #[v] w fun e w' => e = .returned (.bool true) ∧ Below w.heap.size w w' := by
  go_enter Tryz.func4, Tryz.ntmps4
  go_wp2_with fail
  (with_reducible refine (new_any w v xs hs0).mono ?_)
  rintro e w2 ⟨rfl, hS, hg⟩
  have S2 := Lib.hid hS; have G2 := Lib.hid hg
  clear hS hg hs0
  generalize hqw : w.heap.size = q at S2 ⊢
  have hq : w.heap.size ≤ q := by omega
  go_wp2_with fail
  (with_reducible refine (association_any q w2 q 3 S2.out (by omega) (by omega)).mono ?_)
  rintro e w3 ⟨A, la, lc, ha, hc, rfl, hgd, hin, hfr, hS, hg⟩
  have hq2 := S2.out.lt.2
  have S3 := Lib.hid hS; have G3 := Lib.hid (gb_new G2.out hg (fun k hk => by simp at hk; omega))
  have HGD := Lib.hid hgd; have HIN := Lib.hid hin; have HFR := Lib.hid hfr
  clear hS hg S2 G2 hgd hin hfr
  obtain ⟨x0, y0, z0, x1, y1, z1, st, ls, hs, cap, tol, span, lim, least⟩ := A
  simp only [Asc.val] at HIN ⊢
  have Z0 := Lib.hid (heap_alloc_new w3 (.cells #[.int .i64 0, .int .i64 0, .int .i64 0, .int .i64 0, .int .i64 0, .int .i64 0, .int .i64 0, .slice none 0 0, .slice none 0 0, .int .i64 0, .int .i64 0, .int .i64 0, .int .i64 0, .int .i64 0] 30))
  have B4 := Lib.hid (setRow_at (cs := #[.int .i64 x0, .int .i64 y0, .int .i64 z0, .int .i64 x1, .int .i64 y1, .int .i64 z1, .int .i64 st, .slice la ls.length lc, .slice ha hs.length hc, .int .i64 cap, .int .i64 tol, .int .i64 span, .int .i64 lim, .int .i64 least]) Z0.out)
  have hg4 := gb_setRow (cs := #[.int .i64 x0, .int .i64 y0, .int .i64 z0, .int .i64 x1, .int .i64 y1, .int .i64 z1, .int .i64 st, .slice la ls.length lc, .slice ha hs.length hc, .int .i64 cap, .int .i64 tol, .int .i64 span, .int .i64 lim, .int .i64 least]) (g := w3.heap.size) (gb_alloc (gb_refl w3 none) (.cells #[.int .i64 0, .int .i64 0, .int .i64 0, .int .i64 0, .int .i64 0, .int .i64 0, .int .i64 0, .slice none 0 0, .slice none 0 0, .int .i64 0, .int .i64 0, .int .i64 0, .int .i64 0, .int .i64 0] 30)) (.inl (Nat.le_refl _))
  have HG4 := Lib.hid hg4
  clear hg4
  go_wp2_with (with_reducible refine wpList_store_row rfl _ _ _ rfl w3.heap.size #[.int .i64 x0, .int .i64 y0, .int .i64 z0, .int .i64 x1, .int .i64 y1, .int .i64 z1, .int .i64 st, .slice la ls.length lc, .slice ha hs.length hc, .int .i64 cap, .int .i64 tol, .int .i64 span, .int .i64 lim, .int .i64 least] rfl rfl _ _ Z0.out (by kernel_rfl) rfl (by simp [Value.oneCell']) ?_)
  generalize (w3.alloc (.cells #[.int .i64 0, .int .i64 0, .int .i64 0, .int .i64 0, .int .i64 0, .int .i64 0, .int .i64 0, .slice none 0 0, .slice none 0 0, .int .i64 0, .int .i64 0, .int .i64 0, .int .i64 0, .int .i64 0] 30)).setRow w3.heap.size #[.int .i64 x0, .int .i64 y0, .int .i64 z0, .int .i64 x1, .int .i64 y1, .int .i64 z1, .int .i64 st, .slice la ls.length lc, .slice ha hs.length hc, .int .i64 cap, .int .i64 tol, .int .i64 span, .int .i64 lim, .int .i64 least] = w4 at *
  have S4 := Lib.hid (S3.out.later HG4.out (by simp)); have G4 := Lib.hid (gb_trans G3.out HG4.out); have HIN4 := Lib.hid (HIN.out.after HG4.out)
  have HINP : Hid (∀ u, w4.grownBy u (some q) → AscIn ⟨x0, y0, z0, x1, y1, z1, st, ls, hs, cap, tol, span, lim, least⟩ (.slice la ls.length lc) (.slice ha hs.length hc) u) := Lib.hid (fun u hg => ⟨HIN4.out.l.later hg (fun b off len cap e _ => by simp only [Value.slice.injEq] at e; have := HFR.out b off (.inl e.1); simp; omega), HIN4.out.h.later hg (fun b off len cap e _ => by simp only [Value.slice.injEq] at e; have := HFR.out b off (.inr e.1); simp; omega)⟩)
  have PHS := Lib.hid (fun (u : World) (hu : Pulled w4 q q u) => phases_any ⟨x0, y0, z0, x1, y1, z1, st, ls, hs, cap, tol, span, lim, least⟩ q u q 3 6 la ha lc hc hu.2 (HINP.out u hu.1) HGD.out (by omega) (by omega) (by omega) (fun b off e => by have := HFR.out b off (.inl e); omega))
  simp only [Asc.val] at PHS
  have hq3 := S3.out.lt.2
  have hz4 := block_lt' B4.out
  have hq4 : q < w4.heap.size := by omega
  have hzq : w3.heap.size ≠ q := by omega
  clear S3 G3 HIN Z0 HG4
  simp only [Act.put]
  generalize hzz : w3.heap.size = z at *
  have HZ := Lib.hid hzz
  clear hzz
  refine Rg.region (Pulled w4 q q) (Pull q) (fun k_ => if k_ = 1 then some (isV (.agg #[.int .i64 x0, .int .i64 y0, .int .i64 z0, .int .i64 x1, .int .i64 y1, .int .i64 z1, .int .i64 st, .slice la ls.length lc, .slice ha hs.length hc, .int .i64 cap, .int .i64 tol, .int .i64 span, .int .i64 lim, .int .i64 least])) else if k_ = 2 then some (fun _ v u => PhV w4.heap.size 6 v u) else if k_ = 4 then some (isV (.agg #[.int .i64 x0, .int .i64 y0, .int .i64 z0, .int .i64 x1, .int .i64 y1, .int .i64 z1, .int .i64 st, .slice la ls.length lc, .slice ha hs.length hc, .int .i64 cap, .int .i64 tol, .int .i64 span, .int .i64 lim, .int .i64 least])) else if k_ = 5 then some (fun _ v u => PhV w4.heap.size 6 v u) else none) (fun k_ => k_ == 2 || k_ == 5) w4.heap.size 8 (by kernel_rfl) (by kernel_rfl) (by kernel_rfl) (by kernel_rfl) (by kernel_rfl) (by kernel_rfl) (by kernel_rfl) Pull.size (Pulled.start S4.out) (fun hne => ?_)
  (repeat (refine rLexL_quiet (by rfl) (by rfl) (by rfl) (by rfl) ?_; go_big_quiet_step (fail); refine wpQuiet_nil ?_))
  refine rg_load14P _ z #[.int .i64 x0, .int .i64 y0, .int .i64 z0, .int .i64 x1, .int .i64 y1, .int .i64 z1, .int .i64 st, .slice la ls.length lc, .slice ha hs.length hc, .int .i64 cap, .int .i64 tol, .int .i64 span, .int .i64 lim, .int .i64 least] 30 B4.out hzq rfl rfl (by rfl) rfl rfl (by rfl) ?_
  simp only [Act.put, List.setIfInBounds_toArray, List.set_cons_zero, List.set_cons_succ]
  refine rg_drawPh 6 13 #[.pointer (some ⟨q, 0, none⟩), .agg #[.int .i64 x0, .int .i64 y0, .int .i64 z0, .int .i64 x1, .int .i64 y1, .int .i64 z1, .int .i64 st, .slice la ls.length lc, .slice ha hs.length hc, .int .i64 cap, .int .i64 tol, .int .i64 span, .int .i64 lim, .int .i64 least], .int .i64 6] hq4 rfl rfl (fun _ => by go_simp) PHS.out (fun v1 u1 h1 => ?_)
  simp only [Act.put, List.setIfInBounds_toArray, List.set_cons_zero, List.set_cons_succ]
  (repeat (refine rLexL_quiet (by rfl) (by rfl) (by rfl) (by rfl) ?_; go_big_quiet_step (fail); refine wpQuiet_nil ?_))
  refine rg_load14P _ z #[.int .i64 x0, .int .i64 y0, .int .i64 z0, .int .i64 x1, .int .i64 y1, .int .i64 z1, .int .i64 st, .slice la ls.length lc, .slice ha hs.length hc, .int .i64 cap, .int .i64 tol, .int .i64 span, .int .i64 lim, .int .i64 least] 30 B4.out hzq rfl rfl (by rfl) rfl rfl (by rfl) ?_
  simp only [Act.put, List.setIfInBounds_toArray, List.set_cons_zero, List.set_cons_succ]
  refine rg_drawPh 6 13 #[.pointer (some ⟨q, 0, none⟩), .agg #[.int .i64 x0, .int .i64 y0, .int .i64 z0, .int .i64 x1, .int .i64 y1, .int .i64 z1, .int .i64 st, .slice la ls.length lc, .slice ha hs.length hc, .int .i64 cap, .int .i64 tol, .int .i64 span, .int .i64 lim, .int .i64 least], .int .i64 6] hq4 rfl rfl (fun _ => by go_simp) PHS.out (fun v2 u2 h2 => ?_)
  simp only [Act.put, List.setIfInBounds_toArray, List.set_cons_zero, List.set_cons_succ]
  (repeat (refine rLexL_quiet (by rfl) (by rfl) (by rfl) (by rfl) ?_; go_big_quiet_step (fail); refine wpQuiet_nil ?_))
  rintro w5 ⟨hg5, hS5⟩ hf hD
  obtain ⟨P, a1, c1, rfl, hP6, hPs, hPo⟩ := hf 2
  obtain ⟨Q, a2, c2, rfl, hQ6, hQs, hQo⟩ := hf 5
  clear h1 h2
  have hsz5 := hg5.size
  have hap : ∀ g, (Value.slice a1 P.length c1).ownBlock = some g → (Value.slice a2 Q.length c2).ownBlock ≠ some g := by
    intro g e1 e2
    have hlo := (hPo.lt g e1).1
    cases a1 with
    | none => cases e1
    | some d1 =>
      cases a2 with
      | none => cases e2
      | some d2 =>
        exact (hD 2 _ _ rfl (by kernel_rfl) rfl rfl g e1 hlo).2 5 _ _ rfl (by decide) (by kernel_rfl) rfl rfl g e2 hlo rfl
  have G5 := Lib.hid (gb_new G4.out hg5 (fun p hp => by simp at hp; omega)); have B5 := Lib.hid (block_keptp hg5 B4.out (by omega)); have HIN5 := Lib.hid (HINP.out w5 hg5)
  have HPS := Lib.hid hPs; have HQS := Lib.hid hQs; have HPO := Lib.hid hPo; have HQO := Lib.hid hQo; have HAP := Lib.hid hap
  have HG45 := Lib.hid hg5
  clear hf hD hne hap hPs hQs hPo hQo hg5 hS5 PHS HIN4 S4 B4 HFR G4
  obtain ⟨n1, hn1⟩ : ∃ n, P.length = n := ⟨_, rfl⟩
  obtain ⟨n2, hn2⟩ : ∃ n, Q.length = n := ⟨_, rfl⟩
  rw [hn1] at HPO HAP hP6; rw [hn2] at HQO HAP hQ6
  rw [hn1, hn2]
  have HN1 := Lib.hid hn1; have HN2 := Lib.hid hn2
  have HWB : Hid (z < w4.heap.size ∧ w4.heap.size ≤ w5.heap.size ∧ q < z) := Lib.hid (by
    have := block_lt' B5.out
    exact ⟨hz4, hsz5, by omega⟩)
  clear hsz5 hn1 hn2 hz4 hq4 hzq hq3
  generalize hn0 : w4.heap.size = N0 at *
  have HN0 := Lib.hid hn0
  clear hn0
  refine wpList_nil ?_
  go_wp2_with fail
  go_loopw [36] (fun iv wr => ∃ k : Nat, k ≤ n2 ∧ iv = .int .i64 k ∧ wr.ownsRow N0 51 6 (.slice a2 n2 c2) n2 (flatP (shlP k Q)) ∧ w5.grownBy wr (Value.slice a2 n2 c2).ownBlock) (fun iv _ => n2 - (intOf iv).toNat)
  case atStart => exact ⟨0, by omega, rfl, by rw [shlP_zero]; exact HQO.out, gb_refl _ _⟩
  case round =>
    obtain ⟨k, hk, rfl, hown, hgr⟩ := hrel
    by_cases hlt : k < n2
    · have hkd : decide ((k : Int) < (n2 : Int)) = true := decide_eq_true (by omega)
      have hkQ : k < Q.length := by have := HN2.out; omega
      have hkS : k < (shlP k Q).length := by rw [shlP_length]; exact hkQ
      obtain ⟨g, gc, hv, hgB, hgl⟩ := hown.form (by omega)
      simp only [Value.slice.injEq, true_and] at hv
      obtain ⟨rfl, rfl⟩ := hv
      have hat : (shlP k Q)[k] = Q[k] := shlP_at hkQ
      have c3_ := hown.cellAt (k * 6 + 3) (by omega)
      have c4_ := hown.cellAt (k * 6 + 4) (by omega)
      rw [flatP_at _ k hkS 3 (by omega), hat] at c3_
      rw [flatP_at _ k hkS 4 (by omega), hat] at c4_
      have f3_ := hown.frozenAt (k * 6 + 3)
      have f4_ := hown.frozenAt (k * 6 + 4)
      have hgood := HQS.out _ (List.getElem_mem hkQ)
      obtain ⟨o1, g1⟩ := hown.stored (k * 6 + 3) (.int .i64 (Q[k].e + 100000))
      obtain ⟨o2, g2⟩ := o1.stored (k * 6 + 4) (.int .i64 (Q[k].l + 100000))
      have hset : ((flatP (shlP k Q)).set (k * 6 + 3) (.int .i64 (Q[k].e + 100000))).set (k * 6 + 4) (.int .i64 (Q[k].l + 100000)) = flatP (shlP (k + 1) Q) := by
        rw [flatP_put _ 3 (by omega) (shlP k Q) k hkS ⟨Q[k].x, Q[k].y, Q[k].z, Q[k].e + 100000, Q[k].l, Q[k].n⟩ (by rw [hat]; rfl), flatP_put _ 4 (by omega) _ k (by rw [List.length_set]; exact hkS) Q[k].late (by rw [List.getElem_set_self]; rfl), List.set_set, shlP_step hkQ]
      rw [hset] at o2
      have dd := gb_drew (gb_refl ((wr.setCell ⟨g, k * 6 + 3, none⟩ (.int .i64 (Q[k].e + 100000))).setCell ⟨g, k * 6 + 4, none⟩ (.int .i64 (Q[k].l + 100000))) none)
      have O2 := Lib.hid (owns_keep o2 dd); have W2 := Lib.hid (gb_trans (gb_trans (gb_trans hgr g1) g2) (gb_none dd))
      obtain ⟨e, he, he0, he1⟩ : ∃ e, Q[k].e = e ∧ 0 ≤ e ∧ e ≤ 40000 := ⟨_, rfl, hgood.1.2.1, hgood.2.1⟩
      obtain ⟨l, hl, hl0, hl1⟩ : ∃ l, Q[k].l = l ∧ 0 ≤ l ∧ l ≤ 50000 := ⟨_, rfl, by have := hgood.1.2.1; have := hgood.1.2.2.1; omega, hgood.2.2⟩
      simp only [Ph.cells, List.getElem?_cons_succ, List.getElem?_cons_zero, he, hl] at c3_ c4_
      rw [he, hl] at O2 W2
      have we : IntKind.i64.wrap (e + 100000) = e + 100000 := by rw [IntKind.wrap_i64]; omega
      have wl : IntKind.i64.wrap (l + 100000) = l + 100000 := by rw [IntKind.wrap_i64]; omega
      have hn34 : ¬ (k * 6 + 3 = k * 6 + 4) := by omega
      have hn43 : ¬ (k * 6 + 4 = k * 6 + 3) := by omega
      clear dd hown hgr o1 g1 o2 g2 hset hat hgood hkS he hl hkQ
      have hgl0 := hgl
      go_upto_region 7 with fail
      go_region
      go_wp2_with fail
      go_roundw
      case rel => exact ⟨k + 1, by omega, by go_num, O2.out, W2.out⟩
      case measure => simp [intOf]; omega
    · have hkd : decide ((k : Int) < (n2 : Int)) = false := decide_eq_false (by omega)
      have hke : k = n2 := by omega
      have hrow : ∀ p, (Value.slice a2 n2 c2).ownBlock = some p → N0 ≤ p := fun p hp => (HQO.out.lt p hp).1
      have HQF : Hid (wr.ownsRow N0 51 6 (.slice a2 n2 c2) n2 (flatP (Q.map Ph.late))) := Lib.hid (by have h := hown; rw [hke] at h; rw [← shlP_all, HN2.out]; exact h)
      have HPF : Hid (wr.ownsRow N0 51 6 (.slice a1 n1 c1) n1 (flatP P)) := Lib.hid (HPO.out.kept hgr (by
        cases hb : (Value.slice a1 n1 c1).ownBlock with
        | none => exact .inl rfl
        | some g => exact .inr (fun e => HAP.out g hb e.symm)))
      have HG4R := gb_newp HG45.out hgr (fun p hp => by have := hrow p hp; have := HN0.out; omega)
      have GR := Lib.hid (gb_new G5.out hgr (fun p hp => by have := hrow p hp; have := HWB.out; omega)); have BR := Lib.hid ((hgr.block z (block_lt' B5.out) (fun e => by have := hrow z e.symm; have := HWB.out; omega)).trans B5.out); have HINR := Lib.hid (HINP.out wr HG4R)
      clear hkd hke hrow hown hgr HG4R HQO HG45 HINP G5 B5 HIN5
      have hQL : (Q.map Ph.late).length = n2 := by rw [List.length_map, HN2.out]
      have hQG : ∀ a ∈ Q.map Ph.late, goodPh a ∧ 100000 ≤ a.e := fun a ha => by
        obtain ⟨b, hb, rfl⟩ := List.mem_map.1 ha
        obtain ⟨⟨h1, h2, h3, h4, h5⟩, h6, h7⟩ := HQS.out b hb
        exact ⟨⟨h1, by show 0 ≤ b.e + 100000; omega, by show b.e + 100000 ≤ b.l + 100000; omega, by show b.l + 100000 ≤ _; omega, h5⟩, by show 100000 ≤ b.e + 100000; omega⟩
      generalize Q.map Ph.late = R at *
      generalize wr = wA at *
      have hPG : ∀ a ∈ P, goodPh a := fun a ha => (HPS.out a ha).1
      have hle := HGD.out.least; have hsp := HGD.out.span
      simp only [] at hle hsp
      have hvP := HGD.out.avE (by omega) hPG (by rw [HN1.out]; omega)
      have hvR := HGD.out.avE (by omega) (fun a ha => (hQG a ha).1) (by rw [hQL]; omega)
      have hvB := HGD.out.avE (P := P ++ R) (by omega) (fun a ha => by
        rcases List.mem_append.1 ha with h | h
        · exact hPG a h
        · exact (hQG a h).1) (by rw [List.length_append, HN1.out, hQL]; omega)
      have eP : (assocR ⟨x0, y0, z0, x1, y1, z1, st, ls, hs, cap, tol, span, lim, least⟩ P).1 = 0 := by rw [assocR_ok hvP]; exact rnd_zero HGD.out (by omega) hPG _ _ _ _ (fun i hi => List.mem_range.1 hi)
      have eR : (assocR ⟨x0, y0, z0, x1, y1, z1, st, ls, hs, cap, tol, span, lim, least⟩ R).1 = 0 := by rw [assocR_ok hvR]; exact rnd_zero HGD.out (by omega) (fun a ha => (hQG a ha).1) _ _ _ _ (fun i hi => List.mem_range.1 hi)
      have hAB := apart_plain (A := ⟨x0, y0, z0, x1, y1, z1, st, ls, hs, cap, tol, span, lim, least⟩) hle.1 (by show 0 ≤ span; omega) hvP hvR hvB (fun a ha b hb => by
        have h1 := (HPS.out a ha).2.1
        have h2 := (hQG b hb).2
        show a.e + span < b.e
        omega) eP eR
      have hpmR := assoc_perm hvR hle.1 eR
      have hgcP := grp_count hvP hle.1 eP
      have hgcR := grp_count hvR hle.1 eR
      have hlcP := left_count hvP hle.1 eP
      have hlcR := left_count hvR hle.1 eR
      rw [HN1.out] at hAB
      obtain ⟨E1, GP, LP, hRP⟩ : ∃ E G F, assocR ⟨x0, y0, z0, x1, y1, z1, st, ls, hs, cap, tol, span, lim, least⟩ P = (E, G, F) := ⟨_, _, _, rfl⟩
      obtain ⟨E2, GR', LR, hRR⟩ : ∃ E G F, assocR ⟨x0, y0, z0, x1, y1, z1, st, ls, hs, cap, tol, span, lim, least⟩ R = (E, G, F) := ⟨_, _, _, rfl⟩
      rw [hRP] at eP hAB; rw [hRR] at eR hAB
      dsimp only at eP eR hAB
      subst eP; subst eR
      rw [hRR, hQL] at hpmR
      rw [hRP] at hgcP hlcP; rw [hRR] at hgcR hlcR
      have HGC : Hid (GP.length ≤ 6 ∧ GR'.length ≤ 6 ∧ LP.length ≤ 6 ∧ LR.length ≤ 6) := Lib.hid (by have := HN1.out; dsimp only at hgcP hgcR hlcP hlcR; omega)
      have HMR : Hid (∀ g ∈ GR', ∀ x ∈ g.ms, 0 ≤ x ∧ x < n2) := Lib.hid (fun g hg x hx => by
        obtain ⟨i, rfl, hi⟩ := mem_lt hpmR (x := x) (List.mem_append_left _ (List.mem_flatMap.2 ⟨g, hg, hx⟩))
        omega)
      have HMLL : Hid (∀ g ∈ GR', g.ms.length ≤ n2) := Lib.hid (fun g hg => by
        have h1 := ((ms_sub hg).trans (List.sublist_append_left _ LR)).length_le
        have h2 := hpmR.length_eq
        unfold allM at h2
        simp only [List.length_map, List.length_range] at h2
        omega)
      have HLR : Hid (∀ x ∈ LR, 0 ≤ x ∧ x < n2) := Lib.hid (fun x hx => by
        obtain ⟨i, rfl, hi⟩ := mem_lt hpmR (x := x) (List.mem_append_right _ hx)
        omega)
      have AS1 := Lib.hid (fun (u : World) (hu : wA.grownBy u none) => associate_own ⟨x0, y0, z0, x1, y1, z1, st, ls, hs, cap, tol, span, lim, least⟩ P (.slice la ls.length lc) (.slice ha hs.length hc) (.slice a1 n1 c1) u (HINR.out.after hu) (by rw [HN1.out]; exact (SlC.of_owns HPF.out).after hu) (by rw [HN1.out]; omega))
      have AS2 := Lib.hid (fun (u : World) (hu : wA.grownBy u none) => associate_own ⟨x0, y0, z0, x1, y1, z1, st, ls, hs, cap, tol, span, lim, least⟩ R (.slice la ls.length lc) (.slice ha hs.length hc) (.slice a2 n2 c2) u (HINR.out.after hu) (by rw [hQL]; exact (SlC.of_owns HQF.out).after hu) (by rw [hQL]; omega))
      unfold AsResO at AS1 AS2
      rw [hRP] at AS1; rw [hRR] at AS2
      simp only [Asc.val] at AS1 AS2
      have HAB := Lib.hid hAB; have HQL := Lib.hid hQL
      clear hpmR hgcP hgcR hlcP hlcR hvP hvR hvB hle hsp hPG hQG hAB hRP hRR hQL
      go_wp2_with (with_reducible refine wpList_load14 rfl _ rfl z rfl _ _ BR.out rfl ?_)
      (with_reducible refine (AS1.out wA (gb_refl _ _)).mono ?_)
      rintro e w6 ⟨L1, gv, lv, rfl, hO1, hL1, hg⟩
      obtain ⟨ga, gc, rfl⟩ := owns_slice hO1.gr
      obtain ⟨fa, fc, rfl⟩ := owns_slice hO1.lr
      have W6 := Lib.hid hg; have O6 := Lib.hid hO1; have HL1 := Lib.hid hL1; have B6 := Lib.hid (block_kept hg BR.out rfl)
      clear hg hO1 hL1 AS1
      go_wp2_with (with_reducible refine wpList_load14 rfl _ rfl z rfl _ _ B6.out rfl ?_)
      (with_reducible refine (AS2.out w6 W6.out).mono ?_)
      rintro e w7 ⟨L2, hv, nv, rfl, hO2, hL2, hg⟩
      obtain ⟨ka, kc, rfl⟩ := owns_slice hO2.gr
      obtain ⟨na, nc, rfl⟩ := owns_slice hO2.lr
      have W7 := Lib.hid (gb_trans W6.out hg); have O7 := Lib.hid (O6.out.later hg); have O27 := Lib.hid hO2; have HL2 := Lib.hid hL2; have B7 := Lib.hid (block_kept hg B6.out rfl)
      have HS6 := Lib.hid hg.size
      have HR0 := Lib.hid (fun q e => (O6.out.gr.lt q e).2); have HRF0 := Lib.hid (fun q e => (O6.out.lr.lt q e).2); have HR1 := Lib.hid (fun q e => (O6.out.gr.lt q e).1); have HR2 := Lib.hid (fun q e => (O6.out.lr.lt q e).1)
      clear hg hO2 hL2 AS2 B6
      go_wp2_with fail
      obtain ⟨NB, hNB⟩ : ∃ m, GP.length + GR'.length = m := ⟨_, rfl⟩
      obtain ⟨GB, hGB⟩ : ∃ G, GP ++ GR'.map (Grp.add n1) = G := ⟨_, rfl⟩
      obtain ⟨LB, hLB⟩ : ∃ G, LP ++ LR.map (· + (n1 : Int)) = G := ⟨_, rfl⟩
      rw [hGB, hLB] at HAB
      have HGB := Lib.hid hGB; have HLB := Lib.hid hLB
      obtain ⟨gn, hgn⟩ : ∃ m, GB.length = m := ⟨_, rfl⟩
      obtain ⟨ln, hln⟩ : ∃ m, LB.length = m := ⟨_, rfl⟩
      have HP7 := Lib.hid ((SlC.of_owns HPF.out).after W7.out); have HR7 := Lib.hid ((SlC.of_owns HQF.out).after W7.out); have HIN7 := Lib.hid (HINR.out.after W7.out)
      have HN12 : Hid (n1 + n2 < 20) := Lib.hid (by omega)
      have HPN : Hid (SlC 6 w7 (.slice a1 n1 n1) n1 (flatP P)) := Lib.hid HP7.out.full
      have hc1 : n1 ≤ c1 := by
        rcases HPO.out.2 with ⟨e, -⟩ | ⟨g, cap_, cur, e, -, -, h1, -⟩
        · simp only [Value.slice.injEq] at e; omega
        · simp only [Value.slice.injEq] at e; omega
      have HQF := HR7
      have HGN : Hid (gn ≤ 12 ∧ ln ≤ 12) := Lib.hid (by have := HGC.out; rw [← hgn, ← hln, ← hGB, ← hLB]; simp; omega)
      clear hNB hGB hLB HPF HINR BR
      refine Rg.region (Made w7) Makes (fun k_ => if k_ = 0 then some (isV (.agg #[.int .i64 x0, .int .i64 y0, .int .i64 z0, .int .i64 x1, .int .i64 y1, .int .i64 z1, .int .i64 st, .slice la ls.length lc, .slice ha hs.length hc, .int .i64 cap, .int .i64 tol, .int .i64 span, .int .i64 lim, .int .i64 least])) else if k_ = 8 then some (isF (JnP P R n1 n2)) else if k_ = 9 then some (isF (AsFO w7.heap.size 0 GB LB gn ln)) else none) (fun _ => false) 0 17 (by kernel_rfl) (by kernel_rfl) (by kernel_rfl) (by kernel_rfl) (by kernel_rfl) (by kernel_rfl) (by kernel_rfl) Makes.size (Made.start w7) (fun hne => ?_)
      refine rg_load14 (fun u => gb_refl u none) _ z #[.int .i64 x0, .int .i64 y0, .int .i64 z0, .int .i64 x1, .int .i64 y1, .int .i64 z1, .int .i64 st, .slice la ls.length lc, .slice ha hs.length hc, .int .i64 cap, .int .i64 tol, .int .i64 span, .int .i64 lim, .int .i64 least] 30 B7.out rfl rfl (by rfl) rfl rfl (by rfl) ?_
      simp only [Act.put, List.setIfInBounds_toArray, List.set_cons_zero, List.set_cons_succ]
      (repeat (refine rLexL_quiet (by rfl) (by rfl) (by rfl) (by rfl) ?_; go_big_quiet_step (fail); refine wpQuiet_nil ?_))
      refine rLexL_val (.int .i64 n1) (by rfl) (by rfl) (by rfl) (by rfl) (fun _ => by go_simp) ?_
      simp only [Act.put, List.setIfInBounds_toArray, List.set_cons_zero, List.set_cons_succ]
      (repeat (refine rLexL_quiet (by rfl) (by rfl) (by rfl) (by rfl) ?_; go_big_quiet_step (fail); refine wpQuiet_nil ?_))
      refine rLexL_val (.int .i64 n1) (by rfl) (by rfl) (by rfl) (by rfl) (fun _ => by go_simp) ?_
      simp only [Act.put, List.setIfInBounds_toArray, List.set_cons_zero, List.set_cons_succ]
      refine rLexL_val (.slice a1 n1 n1) (by rfl) (by rfl) (by rfl) (by rfl) (fun _ => by go_simp) ?_
      simp only [Act.put, List.setIfInBounds_toArray, List.set_cons_zero, List.set_cons_succ]
      (repeat (refine rLexL_quiet (by rfl) (by rfl) (by rfl) (by rfl) ?_; go_big_quiet_step (fail); refine wpQuiet_nil ?_))
      refine rg_joinP _ _ 31 Tryz.underlying31 P R n1 n2 c2 a1 a2 HN1.out HQL.out HPN.out HQF.out (by omega) rfl (by rfl) rfl rfl (by rfl) (by rfl) (fun jv ju hjv => ?_)
      simp only [Act.put, List.setIfInBounds_toArray, List.set_cons_zero, List.set_cons_succ]
      obtain ⟨ja, jc, rfl, -⟩ := hjv
      refine rg_fixFD (AsFO w7.heap.size 0 GB LB gn ln) 15 #[.agg #[.int .i64 x0, .int .i64 y0, .int .i64 z0, .int .i64 x1, .int .i64 y1, .int .i64 z1, .int .i64 st, .slice la ls.length lc, .slice ha hs.length hc, .int .i64 cap, .int .i64 tol, .int .i64 span, .int .i64 lim, .int .i64 least], .slice ja (n1 + n2) jc] rfl (by rfl) rfl AsFO.after (fun _ => by go_simp) (fun u hu hd => ?_) (fun av au hav => ?_)
      · obtain ⟨va_, vc_, e_, h_⟩ := hd ⟨8, .data⟩ (by simp) rfl
        simp only [Value.slice.injEq, true_and] at e_
        exact asFO_of HAB.out _ gn ln hgn hln (.slice la ls.length lc) (.slice ha hs.length hc) _ _ u hu.size (HIN7.out.after hu) h_ (by rw [List.length_append, HN1.out, HQL.out]; exact HN12.out)
      obtain ⟨g3, c3, f3, d3, -, rfl, -⟩ := hav
      simp only [Act.put, List.setIfInBounds_toArray, List.set_cons_zero, List.set_cons_succ]
      (repeat (refine rLexL_quiet (by rfl) (by rfl) (by rfl) (by rfl) ?_; go_big_quiet_step (fail); refine wpQuiet_nil ?_))
      rintro w8 hg8 hf -
      refine wpList_nil ?_
      obtain ⟨LBg, hOB, hLBg, hlB⟩ := AsFO.parts (hf 9)
      generalize hnl1 : L1.length = nl1 at *
      generalize hnh : L2.length = nh at *
      have GA8 : Hid (GrowAt w8 wA.heap.size (.slice ga nl1 gc) L1 LP (.slice ga nl1 gc) (.slice fa LP.length fc) (.slice ga nl1 gc) w8) := Lib.hid ⟨O7.out.later hg8, gb_refl _ _, Cur.refl _ _⟩
      have OB := Lib.hid hOB; have HLBG := Lib.hid hLBg; have O28 := Lib.hid (O27.out.later hg8)
      have W8 := Lib.hid (gb_trans GR.out (gb_trans W7.out hg8))
      have HROW : Hid (∀ q, (Value.slice ga nl1 gc).ownBlock = some q → q < w6.heap.size) := Lib.hid HR0.out
      have HROWF : Hid (∀ q, (Value.slice fa LP.length fc).ownBlock = some q → q < w6.heap.size) := Lib.hid HRF0.out
      have HRL : Hid (∀ q, (Value.slice ga nl1 gc).ownBlock = some q → wA.heap.size ≤ q) := Lib.hid HR1.out
      have HRFL : Hid (∀ q, (Value.slice fa LP.length fc).ownBlock = some q → wA.heap.size ≤ q) := Lib.hid HR2.out
      have HS67 : Hid (w6.heap.size ≤ w7.heap.size ∧ w7.heap.size ≤ w8.heap.size ∧ w.heap.size ≤ wA.heap.size ∧ wA.heap.size ≤ w6.heap.size) := Lib.hid ⟨HS6.out, hg8.size, GR.out.size, W6.out.size⟩
      have HNL1 := Lib.hid hnl1; have HNH := Lib.hid hnh
      have HLEN := Lib.hid hlB
      generalize hlp : LP.length = lp at *
      generalize hlr : LR.length = lr at *
      have HLP := Lib.hid hlp; have HLRL := Lib.hid hlr
      clear hOB hLBg hlB hf hne hg8 O7 O27 HR0 HRF0 HR1 HR2 HS6 HP7 HR7 HQF HPN HIN7 B7 W7 W6 GR hnl1 hnh hlp hlr
      go_wp2_with fail
      go_loopw [8, 113] (fun gvv iv u => ∃ (k : Nat) (Lk : List Grv), k ≤ nh ∧ iv = .int .i64 k ∧ Lk.length = nl1 + k ∧ Lk.map Grv.g = GP ++ (GR'.take k).map (Grp.add n1) ∧ GrowAt w8 wA.heap.size (.slice ga nl1 gc) Lk LP gvv (.slice fa lp fc) gvv u) (fun _ iv _ => nh - (intOf iv).toNat)
      case atStart => exact ⟨0, L1, by omega, rfl, by have := HNL1.out; omega, by rw [HL1.out]; simp, GA8.out⟩
      case round =>
        obtain ⟨k, Lk, hk, rfl, hlk, hmk, hGA⟩ := hrel
        have GA := Lib.hid hGA; have HMK := Lib.hid hmk
        obtain ⟨gka, gkc, rfl⟩ := owns_slice hGA.own.gr
        rw [hlk] at GA ⊢
        have HLK := Lib.hid hlk
        clear hGA hmk GA8 hlk
        generalize wr = wB at *
        by_cases hlt : k < nh
        · have hkd : decide ((k : Int) < (nh : Int)) = true := decide_eq_true (by omega)
          have hk2 : k < L2.length := by have := HNH.out; omega
          have hOu := O28.out.far GA.out.fr (fun q e => by have := HROW.out q e; omega)
          rw [← HNH.out] at hOu
          obtain ⟨b1, o1, d1, m1, f1, e1, hb1, emv, hs1, x0_, x1_, x2_, x3_, x4_⟩ := hOu.gin.at hk2
          rw [HNH.out] at e1
          simp only [Value.slice.injEq, true_and] at e1
          obtain ⟨rfl, rfl⟩ := e1
          have hkR : k < GR'.length := by have := congrArg List.length HL2.out; simp at this; omega
          have hgk : GR'[k] = L2[k].g := by
            have h := congrArg (fun l => l[k]?) HL2.out
            simpa [hkR, hk2] using h.symm
          have HTK : Hid (GR'.take (k + 1) = GR'.take k ++ [L2[k].g]) := Lib.hid (by rw [List.take_succ_eq_append_getElem hkR, hgk])
          have HSB : Hid (wA.heap.size ≤ wB.heap.size) := Lib.hid (by have := GA.out.fr.size; have := HS67.out; omega)
          have HMS : Hid (∀ x ∈ L2[k].g.ms, 0 ≤ x ∧ x < n2) := Lib.hid (HMR.out _ (hgk ▸ List.getElem_mem hkR))
          have hml2 : L2[k].g.ms.length ≤ n2 := HMLL.out _ (hgk ▸ List.getElem_mem hkR)
          generalize L2[k].g = g at *
          obtain ⟨ms, px, py, pz, pt⟩ := g
          simp only [] at hs1 x0_ x1_ x2_ x3_ x4_ HTK HMS hml2
          have HS1 := Lib.hid hs1
          generalize hml : ms.length = ml at *
          have HML := Lib.hid hml
          clear hs1 hml emv hOu hgk hkR
          have XB := Lib.hid (heap_alloc_new wB (.cells #[.slice m1 ml f1, .int .i64 px, .int .i64 py, .int .i64 pz, .int .i64 pt] 53))
          have XG := Lib.hid (gb_alloc (gb_refl wB none) (.cells #[.slice m1 ml f1, .int .i64 px, .int .i64 py, .int .i64 pz, .int .i64 pt] 53))
          go_upto_region 17 with fail
          generalize wB.alloc (.cells #[.slice m1 ml f1, .int .i64 px, .int .i64 py, .int .i64 pz, .int .i64 pt] 53) = wC at *
          generalize hxb : wB.heap.size = xb at *
          have HXB := Lib.hid hxb
          clear hxb x0_ x1_ x2_ x3_ x4_ hb1
          have q0_ := cell_of XB.out 0 _ rfl; have q1_ := cell_of XB.out 1 _ rfl; have q2_ := cell_of XB.out 2 _ rfl; have q3_ := cell_of XB.out 3 _ rfl; have q4_ := cell_of XB.out 4 _ rfl
          have hxl := block_lt' XB.out
          have YB := Lib.hid (heap_alloc_new wC (.cells #[.slice none 0 0, .int .i64 px, .int .i64 py, .int .i64 pz, .int .i64 pt] 53))
          have YG := Lib.hid (gb_alloc (gb_refl wC none) (.cells #[.slice none 0 0, .int .i64 px, .int .i64 py, .int .i64 pz, .int .i64 pt] 53))
          go_upto_region 18 with fail
          generalize wC.alloc (.cells #[.slice none 0 0, .int .i64 px, .int .i64 py, .int .i64 pz, .int .i64 pt] 53) = wD at *
          generalize hyb : wC.heap.size = yb at *
          have HYB : Hid (xb < yb) := Lib.hid hxl
          clear q0_ q1_ q2_ q3_ q4_ hxl hyb
          have XD := block_kept YG.out XB.out rfl
          have q0_ := cell_of XD 0 _ rfl
          have hxl := block_lt' XD
          have GBD := Lib.hid (gb_trans XG.out YG.out)
          clear XD XB XG YG
          go_wp2_with fail
          clear q0_ hxl
          go_loopw [125] (fun jv u => ∃ (j : Nat) (va : Option Addr) (vc : Nat), j ≤ ml ∧ jv = .int .i64 j ∧ u.heap[yb]? = some (.cells #[.slice va j vc, .int .i64 px, .int .i64 py, .int .i64 pz, .int .i64 pt] 53 (0, 0)) ∧ u.ownsRow (yb + 1) 3 1 (.slice va j vc) j ((ms.take j).map (fun x => Value.int .i64 (x + n1))) ∧ wB.grownBy u none) (fun jv _ => ml - (intOf jv).toNat)
          case atStart => exact ⟨0, none, 0, by omega, rfl, YB.out, by simpa using World.ownsRow_nil _ _ _ _, GBD.out⟩
          case round =>
            obtain ⟨j, va, vc, hj, rfl, hy, ho, hgr⟩ := hrel
            have HY := Lib.hid hy; have HO := Lib.hid ho; have HGR := Lib.hid hgr
            clear hy ho hgr YB GBD
            by_cases hltj : j < ml
            · have hjd : decide ((j : Int) < (ml : Int)) = true := decide_eq_true (by omega)
              obtain ⟨p1, q1, r1, e1, hp1, hle, hcap, hc1⟩ := (HS1.out.after HGR.out).block (by rw [HML.out]; omega)
              simp only [Value.slice.injEq] at e1
              obtain ⟨rfl, -, rfl⟩ := e1
              have z1_ := hc1 j (by rw [HML.out]; exact hltj)
              have hmlb : j < 9223372036854775807 := by have := HML.out; omega
              have hjm : j < ms.length := by rw [HML.out]; exact hltj
              have hat : at0 ms j = ms[j] := by simp [at0, hjm]
              have hmem := HMS.out _ (List.getElem_mem hjm)
              have HTJ : Hid ((ms.take (j + 1)).map (fun x => Value.int .i64 (x + n1)) = (ms.take j).map (fun x => Value.int .i64 (x + n1)) ++ [.int .i64 (ms[j] + n1)]) := Lib.hid (by rw [List.take_succ_eq_append_getElem hjm, List.map_append]; rfl)
              have hlenj : ((ms.take j).map (fun x => Value.int .i64 (x + (n1 : Int)))).length = j := by simp; omega
              rw [hat] at z1_
              generalize ms[j] = x at *
              have hwx : IntKind.i64.wrap (x + (n1 : Int)) = x + (n1 : Int) := by rw [IntKind.wrap_i64]; omega
              have y0_ := cell_of HY.out 0 _ rfl
              have hyl := block_lt' HY.out
              clear hc1 hle hcap hat hjm
              generalize (ms.take j).map (fun x => Value.int .i64 (x + (n1 : Int))) = rw_ at *
              go_wp2_with (at_builtin; (refine wpList_push rfl _ _ 26 rfl (yb + 1) 3 (.int .i64 0) 1 8 Tryz.underlying26 info_intS rfl (by decide) (by decide) (.slice va j vc) j rw_ rfl (HO.out.alloc _) wr.heap.size 1 [.int .i64 (x + (n1 : Int))] 3 rfl (heap_alloc_new _ _) rfl (by simp [Value.oneCell']) (by omega) (by simp; omega) ?_); refine Hid.out ?_)
              refine Lib.hid ?_
              intro v9 w9 hown9 hg9
              have hga := gb_alloc (gb_refl wr none) (.cells #[.int .i64 (x + (n1 : Int))] 3)
              have hy9 := (hg9.block yb (Nat.lt_of_lt_of_le hyl hga.size) (fun e => by have := (HO.out.lt yb e.symm).1; omega)).trans (block_kept hga HY.out rfl)
              have HG9 := Lib.hid (gb_new (gb_trans HGR.out hga) hg9 (fun q e => by have := (HO.out.lt q e).1; have := HYB.out; have := HXB.out; omega))
              obtain ⟨na, nc, rfl⟩ := owns_slice hown9
              have x9_ := cell_of hy9 0 _ rfl
              have xf_ := frzA hy9 0
              have hgs := gb_setCell (gb_refl w9 (some yb)) (a := ⟨yb, 0, none⟩) (.inr rfl) (.slice na (j + 1) nc)
              have Y9 := Lib.hid (set_block hy9 0 (.slice na (j + 1) nc)); have O9 := Lib.hid (owns_keepp hown9 hgs (by omega)); have G9 := Lib.hid (gb_new HG9.out hgs (fun q e => by simp at e; have := HYB.out; have := HXB.out; omega))
              clear hga hy9 hown9 hg9 hgs y0_ hyl z1_ hp1
              go_wp2_with fail
              go_roundw
              case rel => exact ⟨j + 1, na, nc, by omega, by go_num, Y9.out, by rw [HTJ.out]; exact O9.out, G9.out⟩
              case measure => simp [intOf]; omega
            · have hjd : decide ((j : Int) < (ml : Int)) = false := decide_eq_false (by omega)
              have hmtk : ms.take j = ms := List.take_of_length_le (by rw [HML.out]; omega)
              have HGE := Lib.hid (GA.out.later HGR.out)
              have HSE : Hid (Sl wr (.slice va j vc) (ms.map (· + (n1 : Int)))) := Lib.hid (by
                have h := HO.out
                rw [hmtk] at h
                have e : ms.map (fun x => Value.int .i64 (x + (n1 : Int))) = (ms.map (· + (n1 : Int))).map (Value.int .i64) := by rw [List.map_map]; rfl
                rw [e] at h
                exact Sl_of_owns h (by rw [List.length_map, HML.out]; omega))
              have HBE : Hid (∀ b off len cap, Value.slice va j vc = .slice (some ⟨b, off, none⟩) len cap → yb + 1 ≤ b ∧ b < wr.heap.size) := Lib.hid (fun b off len cap e => by
                simp only [Value.slice.injEq] at e
                obtain ⟨rfl, -, -⟩ := e
                exact HO.out.lt b rfl)
              have y0_ := cell_of HY.out 0 _ rfl; have y1_ := cell_of HY.out 1 _ rfl; have y2_ := cell_of HY.out 2 _ rfl; have y3_ := cell_of HY.out 3 _ rfl; have y4_ := cell_of HY.out 4 _ rfl
              have hyl := block_lt' HY.out
              have hgl : nl1 + k < 100 := by
                have h1 := HGC.out; have h2 := congrArg List.length HL1.out; have h3 := congrArg List.length HL2.out; have h4 := HNL1.out; have h5 := HNH.out
                simp only [List.length_map] at h2 h3; omega
              have hflG : (flatG Lk).length = (nl1 + k) * 5 := by rw [flatG_length, HLK.out]
              generalize hGF : flatG Lk = fG at *
              have HGF := Lib.hid hGF
              have hgr11 := HGE.out.own.gr
              rw [hGF, HLK.out] at hgr11
              have HGR11 := Lib.hid hgr11
              have hszA : wA.heap.size ≤ wr.heap.size := by have := HGR.out.size; have := GA.out.fr.size; have := HS67.out; omega
              have HWA : Hid (∀ b, (Value.slice gka (nl1 + k) gkc).ownBlock = some b → b < wB.heap.size) := Lib.hid (fun b e => (GA.out.own.gr.lt b e).2)
              have HWF : Hid (∀ b, (Value.slice fa lp fc).ownBlock = some b → b < wB.heap.size) := Lib.hid (fun b e => (GA.out.own.lr.lt b e).2)
              clear hGF hgr11 HO HY hmtk HMS GA
              go_wp2_with (at_builtin; (refine wpList_pushAt rfl _ _ 41 rfl wA.heap.size 53 (.agg #[.slice none 0 0, .int .i64 0, .int .i64 0, .int .i64 0, .int .i64 0]) 5 56 Tryz.underlying41 info_grp rfl (by decide) (by decide) (.slice gka (nl1 + k) gkc) (nl1 + k) fG rfl (HGR11.out.alloc _) wr.heap.size 1 [.slice va j vc, .int .i64 px, .int .i64 py, .int .i64 pz, .int .i64 pt] 53 rfl (heap_alloc_new _ _) rfl (by simp [Value.oneCell']) (by omega) (by simp; omega) ?_); refine Hid.out ?_)
              refine Lib.hid ?_
              intro v12 w12 hown12 hg12 hv12
              have HGA := gb_alloc (gb_refl wr none) (.cells #[.slice va j vc, .int .i64 px, .int .i64 py, .int .i64 pz, .int .i64 pt] 53)
              have HA12 := Lib.hid ((HGE.out.later HGA).group (x := ⟨⟨ms.map (· + (n1 : Int)), px, py, pz, pt⟩, .slice va j vc⟩) (by rw [HGF.out, HLK.out]; exact hown12) hg12 (by simpa using hv12) (HSE.out.after HGA) (fun b off len cap e => by
                have h := HBE.out b off len cap e
                have h1 := HYB.out; have h2 := HXB.out; have h3 := HSB.out
                refine ⟨by omega, Nat.lt_of_lt_of_le h.2 HGA.size, fun e2 => ?_, fun e2 => ?_⟩
                · have := HWA.out b e2; omega
                · have := HWF.out b e2; omega))
              obtain ⟨g12a, g12c, rfl⟩ := owns_slice hown12
              have HMK2 : Hid ((Lk ++ [(⟨⟨ms.map (· + (n1 : Int)), px, py, pz, pt⟩, .slice va j vc⟩ : Grv)]).map Grv.g = GP ++ (GR'.take (k + 1)).map (Grp.add n1)) := Lib.hid (by
                rw [List.map_append, HMK.out, HTK.out, List.map_append, List.append_assoc]; rfl)
              clear hown12 hg12 hv12 HGA
              go_wp2_with fail
              go_roundw
              case rel => exact ⟨k + 1, _, by omega, by go_num, by rw [List.length_append, List.length_singleton, HLK.out]; omega, HMK2.out, HA12.out⟩
              case measure => simp [intOf]; omega
        · have hkd : decide ((k : Int) < (nh : Int)) = false := decide_eq_false (by omega)
          have hke : k = nh := by omega
          have HMF : Hid (Lk.map Grv.g = GP ++ GR'.map (Grp.add n1)) := Lib.hid (by
            have h := HMK.out
            rw [hke, List.take_of_length_le (by have := congrArg List.length HL2.out; simp at this; have := HNH.out; omega)] at h
            exact h)
          have GF : Hid (GrowAt wB wA.heap.size (.slice fa lp fc) Lk LP (.slice gka (nl1 + k) gkc) (.slice fa lp fc) (.slice fa lp fc) wB) := Lib.hid ⟨GA.out.own, gb_refl _ _, Cur.refl _ _⟩
          have W9 := Lib.hid GA.out.fr
          clear hke HMK
          go_wp2_with fail
          go_loopw [9, 146] (fun mv iv u => ∃ (k3 : Nat) (LFk : List Int), k3 ≤ lr ∧ iv = .int .i64 k3 ∧ LFk.length = lp + k3 ∧ LFk = LP ++ (LR.take k3).map (· + (n1 : Int)) ∧ GrowAt wB wA.heap.size (.slice fa lp fc) Lk LFk (.slice gka (nl1 + k) gkc) mv mv u) (fun _ iv _ => lr - (intOf iv).toNat)
          case atStart => exact ⟨0, LP, by omega, rfl, by have := HLP.out; omega, by simp, GF.out⟩
          case round =>
            obtain ⟨k3, LFk, hk3, rfl, hlk3, hlf3, hGA3⟩ := hrel
            have GA3 := Lib.hid hGA3; have HLF3 := Lib.hid hlf3
            obtain ⟨fka, fkc, rfl⟩ := owns_slice hGA3.own.lr
            rw [hlk3] at GA3 ⊢
            have HLK3 := Lib.hid hlk3
            clear hGA3 hlf3 hlk3 GF
            generalize wr = wC at *
            by_cases hlt3 : k3 < lr
            · have hkd3 : decide ((k3 : Int) < (lr : Int)) = true := decide_eq_true (by omega)
              have hOu := (O28.out.far W9.out (fun q e => HROW.out q e)).far GA3.out.fr (fun q e => HROWF.out q e)
              have hsl := Sl_of_owns hOu.lr rfl
              obtain ⟨p1, q1, r1, e1, hp1, hle, hcap, hc1⟩ := hsl.block (by rw [HLRL.out]; omega)
              rw [HLRL.out] at e1
              simp only [Value.slice.injEq, true_and] at e1
              obtain ⟨rfl, rfl⟩ := e1
              have z1_ := hc1 k3 (by rw [HLRL.out]; exact hlt3)
              have hjm : k3 < LR.length := by rw [HLRL.out]; exact hlt3
              have hat : at0 LR k3 = LR[k3] := by simp [at0, hjm]
              have hmem := HLR.out _ (List.getElem_mem hjm)
              have HTJ : Hid (LP ++ (LR.take (k3 + 1)).map (· + (n1 : Int)) = LFk ++ [LR[k3] + (n1 : Int)]) := Lib.hid (by rw [List.take_succ_eq_append_getElem hjm, List.map_append, HLF3.out, List.append_assoc]; rfl)
              rw [hat] at z1_
              generalize LR[k3] = x at *
              have hwx : IntKind.i64.wrap (x + (n1 : Int)) = x + (n1 : Int) := by rw [IntKind.wrap_i64]; omega
              have hlb : lp + k3 < 100 := by have := HGC.out; have := HLP.out; have := HLRL.out; omega
              have hlen3 : (LFk.map (Value.int .i64)).length = lp + k3 := by rw [List.length_map, HLK3.out]
              have hszA : wA.heap.size ≤ wC.heap.size := by have := GA3.out.fr.size; have := W9.out.size; have := HS67.out; omega
              have hgr3 := GA3.out.own.lr
              rw [HLK3.out] at hgr3
              have HGR3 := Lib.hid hgr3
              generalize hrw : LFk.map (Value.int .i64) = rw_ at *
              have HRW := Lib.hid hrw
              clear hc1 hle hcap hat hjm hsl hOu hgr3 hrw
              go_wp2_with (at_builtin; (refine wpList_pushAt rfl _ _ 26 rfl wA.heap.size 3 (.int .i64 0) 1 8 Tryz.underlying26 info_intS rfl (by decide) (by decide) (.slice fka (lp + k3) fkc) (lp + k3) rw_ rfl (HGR3.out.alloc _) wC.heap.size 1 [.int .i64 (x + (n1 : Int))] 3 rfl (heap_alloc_new _ _) rfl (by simp [Value.oneCell']) (by omega) (by simp; omega) ?_); refine Hid.out ?_)
              refine Lib.hid ?_
              intro v9 w9 hown9 hg9 hv9
              have HGA := gb_alloc (gb_refl wC none) (.cells #[.int .i64 (x + (n1 : Int))] 3)
              have HA9 := Lib.hid ((GA3.out.later HGA).left (by rw [HRW.out, HLK3.out]; exact hown9) hg9 (by simpa using hv9))
              obtain ⟨na9, nc9, rfl⟩ := owns_slice hown9
              clear hown9 hg9 hv9 HGA z1_ hp1
              go_wp2_with fail
              go_roundw
              case rel => exact ⟨k3 + 1, _, by omega, by go_num, by rw [List.length_append, List.length_singleton, HLK3.out]; omega, HTJ.out.symm, HA9.out⟩
              case measure => simp [intOf]; omega
            · have hkd3 : decide ((k3 : Int) < (lr : Int)) = false := decide_eq_false (by omega)
              have HLF : Hid (LFk = LB) := Lib.hid (by
                have h := HLF3.out
                rw [List.take_of_length_le (by rw [HLRL.out]; omega), HLB.out] at h
                exact h)
              have hOB := (OB.out.far W9.out (fun q e => by have := HROW.out q e; have := HS67.out; omega)).far GA3.out.fr (fun q e => by have := HROWF.out q e; have := HS67.out; omega)
              have GS := Lib.hid (groups_same (.slice g3 gn c3) (.slice gka (nl1 + k) gkc) LBg Lk wC hOB.gin GA3.out.own.gin (by rw [HLBG.out, HMF.out, HGB.out]) (by have := HLEN.out; have := HGN.out; omega))
              have S1 := Lib.hid (Sl_of_owns hOB.lr rfl); have S2 := Lib.hid (Sl_of_owns GA3.out.own.lr rfl)
              have WE := Lib.hid (gb_new (gb_new W8.out W9.out (fun q e => by have := HRL.out q e; have := HS67.out; omega)) GA3.out.fr (fun q e => by have := HRFL.out q e; have := HS67.out; omega))
              have IS := Lib.hid (fun (u : World) (hu : wC.grownBy u none) => ints_same (.slice f3 ln d3) (.slice fka (lp + k3) fkc) LB u (S1.out.after hu) (HLF.out ▸ S2.out.after hu) (by rw [hln]; have := HGN.out; omega))
              clear hOB S1 S2
              go_wp2_with fail
              (with_reducible refine GS.out.mono ?_)
              rintro e w20 ⟨rfl, hg⟩
              have G20 := Lib.hid hg
              clear hg GS
              go_wp2_with fail
              (with_reducible refine (IS.out w20 G20.out).mono ?_)
              rintro e w21 ⟨rfl, hg⟩
              have G21 := Lib.hid (gb_trans G20.out hg)
              clear hg IS G20
              go_wp2_with fail
              (with_reducible refine (awake30_any _).mono ?_)
              rintro e w22 ⟨rfl, hg⟩
              have GE := Lib.hid (gb_end (gb_trans (gb_trans WE.out G21.out) hg))
              clear hg
              go_wp2_with fail
              go_ret
              exact ⟨rfl, GE.out⟩
end Go.Proofs.YtiebljanpnadjaaGreat
