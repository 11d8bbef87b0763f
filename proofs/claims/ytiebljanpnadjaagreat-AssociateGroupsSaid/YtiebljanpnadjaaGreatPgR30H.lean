import Derived.Test.YtiebljanpnadjaaGreatPgR30F
namespace Go.Proofs.YtiebljanpnadjaaGreat
set_option linter.all false
open Go.RowKit Rg
theorem tail30 {w : World} {b off cap : Nat} {c : Int} {l : List Int} (h : Sl w (.slice (some ⟨b, off, none⟩) (l.length + 1) cap) (c :: l)) : ∃ o2 : Nat, (if cap = 1 then some (⟨b, off, none⟩ : Addr) else some ⟨b, off + 1, none⟩) = some ⟨b, o2, none⟩ ∧ Sl w (.slice (some ⟨b, o2, none⟩) l.length (cap - 1)) l := by
 rcases h with ⟨h, -⟩ | ⟨b', off', cap', e, hb, h1, h2, h3⟩
 ·cases h
 simp only [Value.slice.injEq, Option.some.injEq, Addr.mk.injEq, and_true, List.length_cons, true_and] at e
 obtain ⟨⟨rfl, rfl⟩, rfl⟩ := e
 simp only [List.length_cons] at h1 h3
 by_cases hc : cap = 1
 ·refine ⟨_, if_pos hc, ?_⟩
  have : l = [] := List.length_eq_zero_iff.1 (by omega)
  subst this
  exact .inl ⟨rfl, _, _, rfl⟩
 ·refine ⟨_, if_neg hc, .inr ⟨b, off + 1, cap - 1, rfl, hb, by omega, by omega, fun k hk => ?_⟩⟩
  have := h3 (k + 1) (by omega)
  rw [show off + 1 + k = off + (k + 1) by omega, this]
  simp [at0]
theorem ixs_without {P : List Ph} {pl M : List Nat} (hpl : ∀ i ∈ pl, i < P.length) (hM : ∀ i ∈ M, i < P.length) : (ixs P pl).filter (fun x => decide (x ∉ srt (ixs P M))) = ixs P (pl.filter (fun i => decide (i ∉ M))) := by
 unfold ixs
 rw [List.filter_map]
 congr 1
 refine List.filter_congr fun i hi => ?_
 simp only [Function.comp]
 refine decide_eq_decide.2 (not_congr ⟨fun h => ?_, fun h => ?_⟩)
 ·obtain ⟨k, hk, e⟩ := List.mem_map.1 ((srt_perm _).mem_iff.1 h)
  rw [← oA_inj (hM k hk) (hpl i hi) (Int.ofNat.inj e)]; exact hk
 ·exact (srt_perm _).mem_iff.2 (List.mem_map.2 ⟨i, h, rfl⟩)
structure As30 (P : List Ph) (w1 : World) (b0 : Nat) (pl : List Nat) (gs : List Grv) (lf : List Nat) (gv lv ov : Value) (u : World) : Prop where
 own : GsOwn b0 u gs gv lv (lf.map (fun (i : Nat) => (i : Int)))
 gr : w1.grownBy u none
 rest : Sl u ov (ixs P pl)
 ap : ∀ b off len cap, ov = .slice (some ⟨b, off, none⟩) len cap → b < u.heap.size ∧ gv.ownBlock ≠ some b ∧ lv.ownBlock ≠ some b
 so : pl.Pairwise (· < ·)
 lt : ∀ i ∈ pl, i < P.length
 sz : gs.length + lf.length + pl.length ≤ P.length
 b1 : w1.heap.size ≤ b0
section
variable {P : List Ph} {w1 u u' : World} {b0 : Nat} {pl : List Nat} {gs : List Grv} {lf : List Nat} {gv lv ov : Value}
theorem As30.later (h : As30 P w1 b0 pl gs lf gv lv ov u) (hg : u.grownBy u' none) : As30 P w1 b0 pl gs lf gv lv ov u' :=
 ⟨h.own.later hg, gb_trans h.gr hg, h.rest.after hg, fun b off len cap e => by obtain ⟨a1, a2⟩ := h.ap b off len cap e; exact ⟨Nat.lt_of_lt_of_le a1 hg.size, a2⟩, h.so, h.lt, h.sz, h.b1⟩
theorem As30.group {x : Grv} {gv' : Value} (h : As30 P w1 b0 pl gs lf gv lv ov u) (hown : u'.ownsRow b0 53 5 gv' (gs.length + 1) (flatG gs ++ x.cells)) (hg : u.grownBy u' gv.ownBlock) (hv : gv'.ownBlock = gv.ownBlock ∨ gv'.ownBlock = some u.heap.size)
  (hm : Sl u x.mv x.g.ms) (hmb : ∀ b off len cap, x.mv = .slice (some ⟨b, off, none⟩) len cap → b0 ≤ b ∧ b < u.heap.size ∧ gv.ownBlock ≠ some b ∧ lv.ownBlock ≠ some b) :
  GsOwn b0 u' (gs ++ [x]) gv' lv (lf.map (fun (i : Nat) => (i : Int))) ∧ w1.grownBy u' none ∧ Sl u' ov (ixs P pl) ∧ (∀ b off len cap, ov = .slice (some ⟨b, off, none⟩) len cap → b < u'.heap.size ∧ gv'.ownBlock ≠ some b ∧ lv.ownBlock ≠ some b) := by
 refine ⟨h.own.push hown hg hv hm hmb, gb_new h.gr hg (fun q e => by have := (h.own.gr.lt q e).1; have := h.b1; omega), h.rest.later hg (fun b off len cap e _ e2 => (h.ap b off len cap e).2.1 e2.symm), fun b off len cap e => ?_⟩
 obtain ⟨a1, a2, a3⟩ := h.ap b off len cap e
 refine ⟨Nat.lt_of_lt_of_le a1 hg.size, fun e2 => ?_, a3⟩
 rcases hv with hv | hv
 ·rw [hv] at e2; exact a2 e2
 ·rw [hv] at e2; simp at e2; omega
theorem As30.left {i : Nat} {lv' : Value} (h : As30 P w1 b0 pl gs lf gv lv ov u) (hown : u'.ownsRow b0 3 1 lv' (lf.length + 1) ((lf.map (fun (i : Nat) => (i : Int))).map (Value.int .i64) ++ [.int .i64 (i : Int)])) (hg : u.grownBy u' lv.ownBlock) (hv : lv'.ownBlock = lv.ownBlock ∨ lv'.ownBlock = some u.heap.size) :
  GsOwn b0 u' gs gv lv' ((lf ++ [i]).map (fun (i : Nat) => (i : Int))) ∧ w1.grownBy u' none ∧ Sl u' ov (ixs P pl) ∧ (∀ b off len cap, ov = .slice (some ⟨b, off, none⟩) len cap → b < u'.heap.size ∧ gv.ownBlock ≠ some b ∧ lv'.ownBlock ≠ some b) := by
 refine ⟨by rw [List.map_append]; exact h.own.left (by simpa using hown) hg hv, gb_new h.gr hg (fun q e => by have := (h.own.lr.lt q e).1; have := h.b1; omega), h.rest.later hg (fun b off len cap e _ e2 => (h.ap b off len cap e).2.2 e2.symm), fun b off len cap e => ?_⟩
 obtain ⟨a1, a2, a3⟩ := h.ap b off len cap e
 refine ⟨Nat.lt_of_lt_of_le a1 hg.size, a2, fun e2 => ?_⟩
 rcases hv with hv | hv
 ·rw [hv] at e2; exact a3 e2
 ·rw [hv] at e2; simp at e2; omega
theorem As30.done {LF : List Int} {v : Value} {b2 : Nat} (h : As30 P w1 b0 pl gs lf gv lv ov u) (hg : u.grownBy u' none) (ho : u'.ownsRow u.heap.size 3 1 v LF.length (LF.map (Value.int .i64))) (hb : b2 ≤ b0) (hb2 : b0 ≤ u.heap.size) : GsOwn b2 u' gs gv v LF :=
 ⟨owns_mono (owns_keep h.own.gr hg) hb, owns_mono ho (by omega), fun x hx => by
  obtain ⟨t1, t2⟩ := h.own.ms x hx
  refine ⟨t1.after hg, fun b off len cap e => ?_⟩
  obtain ⟨a1, a2, a3, a4⟩ := t2 b off len cap e
  exact ⟨by omega, Nat.lt_of_lt_of_le a2 hg.size, a3, fun e2 => by have := (ho.lt b e2).1; omega⟩, fun g e e2 => by have := (ho.lt g e2).1; have := (h.own.gr.lt g e).2; omega⟩
end
set_option maxRecDepth 100000 in
set_option maxHeartbeats 20000000 in
theorem rassoc_own (A : Asc) (P : List Ph) (vl vh pv : Value) (w : World) (hA : AscIn A vl vh w) (hp : SlC 6 w pv P.length (flatP P)) (h1000 : P.length ≤ 1000)
  (hrz : ∀ W X, (∀ i ∈ W, i < P.length) → 0 < W.length → W.length ≤ 16 → locA A P W = (X, 0) → resEr (A.prob (W.map (phO P))) X = 0) :
  Calls Tryz.prog 16 #[.agg (A.val vl vh), pv] w (AsResO A P w) := by
 have h1 := hA.l; have h2 := hA.h
 obtain ⟨la, ln, lc, rfl⟩ := sl_slice h1; obtain ⟨ha, hm, hc, rfl⟩ := sl_slice h2
 obtain ⟨pa, pc, rfl⟩ := hp.slice
 have HAW := zH hA; have HP := zH hp
 have RES := zH (fun (e : Ending) (w' : World) (h : AsResO A P w e w') => h)
 have VA := zH (fun (u : World) (hu : w.grownBy u none) => rvalid30_any A _ _ _ P u (HAW.out.after hu) (HP.out.after hu))
 have OR := zH (fun (u : World) (hu : w.grownBy u none) => rorder30_any P _ u (HP.out.after hu) (by omega))
 have RD := zH (fun (hv : avE A P = 0) (r : Nat) (rs : List Nat) (ov : Value) (u : World) (hu : w.grownBy u none) (hs : (r :: rs).Pairwise (· < ·)) (hlt : ∀ i ∈ r :: rs, i < P.length) (ho : Sl u ov (ixs P (r :: rs))) (hl : 0 < (winOf A.span P (r :: rs)).length) => rround_any A P r rs _ _ _ ov u (HAW.out.after hu) (HP.out.after hu) hv h1000 hs hlt ho (fun X hX => hrz _ X (fun i hi => hlt i (winOf_sub.subset hi)) hl winOf_len hX))
 have HRZ := zH hrz
 have HE0 := zH (fun (h : avE A P ≠ 0) => (by unfold assocR; rw [if_pos h] : assocR A P = (avE A P, [], [])))
 have HE1 := zH (fun (h : avE A P = 0) => assocR_ok h); have HE2 := zH (fun (h : avE A P = 0) (c : Int) => assocR_rerr (c := c) h)
 have hspan : A.ok = true → 0 ≤ A.span ∧ 2 ≤ A.least ∧ A.least ≤ 16 := fun h => by
  unfold Asc.ok at h
  simp only [Bool.and_eq_true, inI_iff] at h
  omega
 have HSP := zH (fun (h : avE A P = 0) => hspan (avE_ok h).1)
 clear h1 h2 hA hp hrz hspan
 obtain ⟨x0, y0, z0, x1, y1, z1, st, ls, hs, cap, tol, span, lim, least⟩ := A
 simp only [Asc.val] at *
 obtain ⟨n, hn⟩ : ∃ n, P.length = n := ⟨_, rfl⟩
 have HN := zH hn
 clear hn
 have G1 := zH (gb_alloc (gb_refl w none) (.cells #[x0, y0, z0, x1, y1, z1, st, .slice la ln lc, .slice ha hm hc, cap, tol, span, lim, least] 30))
 have B1 := zH (heap_alloc_new w (.cells #[x0, y0, z0, x1, y1, z1, st, .slice la ln lc, .slice ha hm hc, cap, tol, span, lim, least] 30))
 go_enter Tryz.func16, Tryz.ntmps16
 go_wp2_with fail
 go_wp2_with (with_reducible refine wpList_load14 rfl _ rfl w.heap.size rfl _ _ B1.out rfl ?_)
 generalize w.alloc (.cells #[x0, y0, z0, x1, y1, z1, st, .slice la ln lc, .slice ha hm hc, cap, tol, span, lim, least] 30) = w1 at *
 generalize hzw : w.heap.size = z at *
 have HZW := zH hzw
 clear hzw
 (with_reducible refine (VA.out w1 G1.out).mono ?_)
 rintro e w2 ⟨rfl, hg⟩
 have G2 := zH (gb_trans G1.out hg); have B2 := zH (block_kept hg B1.out rfl)
 clear hg G1 B1 VA
 by_cases hv : avE ⟨x0, y0, z0, x1, y1, z1, st, ls, hs, cap, tol, span, lim, least⟩ P = 0
 rotate_left
 ·have hv' : (avE ⟨x0, y0, z0, x1, y1, z1, st, ls, hs, cap, tol, span, lim, least⟩ P != 0) = true := by simpa using hv
  have HR := zH (HE0.out hv)
  generalize avE ⟨x0, y0, z0, x1, y1, z1, st, ls, hs, cap, tol, span, lim, least⟩ P = ve at *
  clear hv
  go_wp2_with fail
  exact bodyPost_ret (v := .tuple #[.slice none 0 0, .slice none 0 0, ve]) (by simp [results, Tryz.results16, go_sem]) rfl (AsResO.err HR.out G2.out)
 have HR1 := zH (HE1.out hv); have HR2 := zH (HE2.out hv); have HRD := zH (RD.out hv); have HLS := zH (HSP.out hv)
 have hv' : (avE ⟨x0, y0, z0, x1, y1, z1, st, ls, hs, cap, tol, span, lim, least⟩ P != 0) = false := by rw [hv]; rfl
 clear hv HE0 HE1 HE2 RD HSP
 go_wp2_with fail
 clear hv'
 (with_reducible refine (OR.out w2 G2.out).mono ?_)
 rintro e w3 ⟨ov, rfl, ho, hg⟩
 have HO3 := zH (Sl_of_owns ho (by rw [List.length_map, ordA_length]))
 have HOB : Hid (∀ b off len cap, ov = .slice (some ⟨b, off, none⟩) len cap → b < w3.heap.size) := zH (fun b off len cap e => by subst e; exact (ho.lt b rfl).2)
 obtain ⟨oa, oc, rfl⟩ := owns_slice ho
 have G3 := zH (gb_trans G2.out hg); have B3 := zH (block_kept hg B2.out rfl)
 have HZ3 : Hid (z < w3.heap.size) := zH (block_lt' B3.out)
 have HIX : Hid ((ordA P).map (fun (i : Nat) => (i : Int)) = ixs P (List.range P.length)) := zH (by
  unfold ixs oA
  refine List.ext_getElem (by simp [ordA_length]) fun i h1 h2 => ?_
  simp at h1 h2
  simp [h1])
 have HST : Hid (As30 P w3 w3.heap.size (List.range P.length) [] [] (.slice none 0 0) (.slice none 0 0) (.slice oa P.length oc) w3) := Lib.hid
  ⟨⟨World.ownsRow_nil _ _ _ _, World.ownsRow_nil _ _ _ _, by simp, by simp [Value.ownBlock]⟩, gb_refl _ _, by rw [← HIX.out]; exact HO3.out, fun b off len cap e => ⟨HOB.out b off len cap e, by simp [Value.ownBlock], by simp [Value.ownBlock]⟩, List.pairwise_lt_range, fun i hi => List.mem_range.1 hi, by simp, Nat.le_refl _⟩
 clear hg G2 B2 OR ho HO3 HOB HIX
 go_wp2_with fail
 obtain ⟨R0, hR0⟩ : ∃ R0, rnd ⟨x0, y0, z0, x1, y1, z1, st, ls, hs, cap, tol, span, lim, least⟩ P (P.length + 1) (List.range P.length) [] [] = R0 := ⟨_, rfl⟩
 rw [hR0] at HR1 HR2
 have HR0 := zH hR0
 clear hR0
 go_loopw [8, 9, 10] (fun gv lv rv wr => ∃ (pl : List Nat) (gs : List Grv) (lf : List Nat) (f : Nat), As30 P w3 w3.heap.size pl gs lf gv lv rv wr ∧ slLen rv = pl.length ∧ rnd ⟨x0, y0, z0, x1, y1, z1, st, ls, hs, cap, tol, span, lim, least⟩ P f pl (gs.map Grv.g) lf = R0 ∧ pl.length < f) (fun _ _ rv _ => slLen rv)
 case atStart => exact ⟨List.range P.length, [], [], P.length + 1, HST.out, by simp [slLen], HR0.out, by simp⟩
 case round =>
  obtain ⟨pl, gs, lf, f, hA, hsl, hrn, hlf⟩ := hrel
  have HA := zH hA; have HRN := zH hrn
  obtain ⟨gva, gvc, rfl⟩ := owns_slice hA.own.gr
  obtain ⟨lva, lvc, rfl⟩ := owns_slice hA.own.lr
  obtain ⟨ra, rc, rfl⟩ := hA.rest.shape
  rw [ixs_length] at HA ⊢
  rw [List.length_map] at HA ⊢
  obtain ⟨m, hml⟩ : ∃ m, pl.length = m := ⟨_, rfl⟩
  rw [hml] at HA hlf ⊢
  have HML := zH hml
  clear hA hrn hsl hml
  by_cases hm0 : 0 < m
  rotate_left
  ·have hd : decide ((m : Int) > 0) = false := decide_eq_false (by omega)
   obtain rfl : pl = [] := List.length_eq_zero_iff.1 (by have := HML.out; omega)
   obtain ⟨f, rfl⟩ : ∃ f', f = f' + 1 := ⟨f - 1, by omega⟩
   have HRN2 : Hid (rnd ⟨x0, y0, z0, x1, y1, z1, st, ls, hs, cap, tol, span, lim, least⟩ P (f + 1) [] (gs.map Grv.g) lf = R0) := HRN
   rw [rnd] at HRN2
   have SO := zH (rsorted30_any (lf.map (fun (i : Nat) => (i : Int))) (.slice lva lf.length lvc) wr (Sl_of_owns (by have := HA.out.own.lr; rw [List.length_map] at this; exact this) (by simp)) (by have := HA.out.sz; simp; omega))
   clear HRN
   go_wp2_with fail
   (with_reducible refine SO.out.mono ?_)
   rintro e w6 ⟨v, rfl, ho, hg⟩
   rw [List.length_map] at ho
   obtain ⟨sa, sc, rfl⟩ := owns_slice ho
   have DN := zH (HA.out.done (LF := srt (lf.map (fun (i : Nat) => (i : Int)))) (b2 := z) hg (by rw [srt_len, List.length_map]; exact ho) (Nat.le_of_lt HZ3.out) HA.out.gr.size)
   have GE := zH (gb_trans G3.out (gb_trans HA.out.gr hg))
   clear ho hg SO
   go_wp2_with fail
   refine bodyPost_ret (v := .tuple #[.slice gva gs.length gvc, .slice sa lf.length sc, (0:Int)]) (by simp [results, Tryz.results16, go_sem]) rfl ?_
   have e1 := HR1.out
   rw [← HRN2.out] at e1
   exact ⟨gs, _, _, by rw [e1], by rw [e1, HZW.out]; exact DN.out, by rw [e1], GE.out⟩
  ·have hd : decide ((m : Int) > 0) = true := decide_eq_true (by omega)
   obtain ⟨r, rs, rfl⟩ : ∃ r rs, pl = r :: rs := by
    cases pl with
    | nil => have h := HML.out; simp at h; omega
    | cons r rs => exact ⟨r, rs, rfl⟩
   obtain ⟨f, rfl⟩ : ∃ f', f = f' + 1 := ⟨f - 1, by omega⟩
   have HRN2 : Hid (rnd ⟨x0, y0, z0, x1, y1, z1, st, ls, hs, cap, tol, span, lim, least⟩ P (f + 1) (r :: rs) (gs.map Grv.g) lf = R0) := HRN
   rw [rnd] at HRN2
   have GW := zH (gb_trans G3.out HA.out.gr)
   have BR := zH (block_kept HA.out.gr B3.out rfl)
   have RQ := zH (HRD.out r rs (.slice ra m rc) wr GW.out HA.out.so HA.out.lt HA.out.rest (by obtain ⟨t, ht⟩ := winOf_head (P := P) (r := r) (rs := rs) HLS.out.1; rw [ht]; simp))
   clear HRN HRD
   go_wp2_with (with_reducible refine wpList_load14 rfl _ rfl z rfl _ _ BR.out rfl ?_)
   (with_reducible refine RQ.out.mono ?_)
   rintro e w5 ⟨hg, hcase⟩
   have HA5 := zH (HA.out.later hg); have GW5 := zH (gb_trans GW.out hg)
   clear hg RQ BR
   rcases hcase with ⟨hl, rfl⟩ | ⟨hl, hE, rfl⟩ | ⟨hl, hE, mv, ho, rfl⟩
   ·rw [if_pos hl] at HRN2
    have HL := zH hl
    clear hl
    have R6 := heap_alloc_new w5 (.cells #[.slice none 0 0, (0:Int), (0:Int), (0:Int), (0:Int)] 53)
    have ga := gb_alloc (gb_refl w5 none) (.cells #[.slice none 0 0, (0:Int), (0:Int), (0:Int), (0:Int)] 53)
    have R7 := zH (setRow_at (cs := #[.slice none 0 0, (0:Int), (0:Int), (0:Int), (0:Int)]) R6)
    have g7 := gb_setRow (g := w5.heap.size) (cs := #[.slice none 0 0, (0:Int), (0:Int), (0:Int), (0:Int)]) ga (.inl (Nat.le_refl _))
    have HA7 := zH (HA5.out.later g7); have GW7 := zH (gb_trans GW5.out g7)
    have R6H := zH R6
    have HG57 := zH g7
    clear ga g7 R6
    obtain ⟨w7, hw7⟩ : ∃ w7, (w5.alloc (.cells #[.slice none 0 0, (0:Int), (0:Int), (0:Int), (0:Int)] 53)).setRow w5.heap.size #[.slice none 0 0, (0:Int), (0:Int), (0:Int), (0:Int)] = w7 := ⟨_, rfl⟩
    rw [hw7] at R7 HA7 GW7 HG57
    have HW7 := zH hw7
    clear hw7
    obtain ⟨rb, ro, rcap, re, hrb, -, -, hrc⟩ := HA7.out.rest.block (by rw [ixs_length]; simp)
    simp only [Value.slice.injEq] at re
    obtain ⟨rfl, hrm, rfl⟩ := re
    have r0_ : w7.cell? ⟨rb, ro, none⟩ = some (.int .i64 (oA P r : Int)) := by
     have := hrc 0 (by rw [ixs_length]; simp)
     rw [Nat.add_zero] at this
     rw [this]
     simp [at0, ixs]
    have HLR := zH HA7.out.own.lr
    rw [List.length_map] at HLR
    have hszB := HA7.out.sz
    have HLT : Hid (lf.length < 2000) := zH (by omega)
    have HS7 : Hid (w3.heap.size ≤ w7.heap.size) := zH HA7.out.gr.size
    clear hrc hrm
    generalize hor : oA P r = kr at *
    have HOR := zH hor
    clear hor
    go_wp2_with (first | (with_reducible refine wpList_store_row rfl _ _ _ rfl w5.heap.size #[.slice none 0 0, (0:Int), (0:Int), (0:Int), (0:Int)] rfl rfl _ _ R6H.out (by kernel_rfl) rfl (by simp [Value.oneCell']) ?_; rw [HW7.out]) | (at_builtin; (refine wpList_pushAt rfl _ _ 26 rfl w3.heap.size 3 (.int .i64 0) 1 8 Tryz.underlying26 info_intS rfl (by decide) (by decide) (.slice lva lf.length lvc) lf.length ((lf.map (fun (i : Nat) => (i : Int))).map (Value.int .i64)) rfl (HLR.out.alloc _) w7.heap.size 1 [.int .i64 (kr : Int)] 3 rfl (heap_alloc_new _ _) rfl (by simp [Value.oneCell']) (by have := HS7.out; have := HLT.out; simp; omega) (by have := HLT.out; have := HS7.out; simp; omega) ?_); refine Hid.out ?_))
    clear R6H
    refine zH ?_
    intro v8 w8 hown8 hg8 hv8
    have hga8 := gb_alloc (gb_refl w7 none) (.cells #[(kr : Int)] 3)
    have HA8 := zH ((HA7.out.later hga8).left (by rw [List.map_map]; exact hown8) hg8 (by simpa using hv8))
    obtain ⟨v8a, v8c, rfl⟩ := owns_slice hown8
    clear hown8 hg8 hv8 hga8 r0_ hrb HLR
    have hm1 : m = rs.length + 1 := by have h := HML.out; simp at h; exact h.symm
    have hsl : Sl w8 (.slice (some ⟨rb, ro, none⟩) ((ixs P rs).length + 1) rc) ((oA P r : Int) :: ixs P rs) := by rw [ixs_length, ← hm1]; exact HA8.out.2.2.1
    obtain ⟨o2, had, htl⟩ := tail30 hsl
    rw [ixs_length] at htl
    have HTL := zH htl; have HM1 := zH hm1
    clear hsl htl hm1
    go_wp2_with fail
    go_roundw
    case rel =>
     have hmr : m - 1 = rs.length := by have := HM1.out; omega
     refine ⟨rs, gs, lf ++ [kr], f, ⟨HA8.out.1, HA8.out.2.1, by rw [hmr]; exact HTL.out, fun b off len cap e => ?_, (List.pairwise_cons.1 HA7.out.so).2, fun i hi => HA7.out.lt i (List.mem_cons_of_mem _ hi), by have := HA7.out.sz; simp at this ⊢; omega, Nat.le_refl _⟩, hmr, HRN2.out, by have := HM1.out; omega⟩
     simp only [Value.slice.injEq, Option.some.injEq, Addr.mk.injEq, and_true] at e
     obtain ⟨⟨rfl, -⟩, -⟩ := e
     exact HA8.out.2.2.2 _ _ _ _ rfl
    case measure => simp [slLen]; omega
   ·rw [if_neg (show ¬ (((winOf (⟨x0, y0, z0, x1, y1, z1, st, ls, hs, cap, tol, span, lim, least⟩ : Asc).span P (r :: rs)).length : Int) < (⟨x0, y0, z0, x1, y1, z1, st, ls, hs, cap, tol, span, lim, least⟩ : Asc).least) by omega), if_pos hE] at HRN2
    generalize (locA ⟨x0, y0, z0, x1, y1, z1, st, ls, hs, cap, tol, span, lim, least⟩ P (winOf (⟨x0, y0, z0, x1, y1, z1, st, ls, hs, cap, tol, span, lim, least⟩ : Asc).span P (r :: rs))).2 = E at *
    have hEb : (E != 0) = true := by simpa using hE
    have HR := zH (HR2.out E HRN2.out.symm)
    clear hE hl HRN2
    have R6 := heap_alloc_new w5 (.cells #[.slice none 0 0, (0:Int), (0:Int), (0:Int), (0:Int)] 53)
    have ga := gb_alloc (gb_refl w5 none) (.cells #[.slice none 0 0, (0:Int), (0:Int), (0:Int), (0:Int)] 53)
    have R7 := zH (setRow_at (cs := #[.slice none 0 0, (0:Int), (0:Int), (0:Int), (0:Int)]) R6)
    have g7 := gb_setRow (g := w5.heap.size) (cs := #[.slice none 0 0, (0:Int), (0:Int), (0:Int), (0:Int)]) ga (.inl (Nat.le_refl _))
    have HA7 := zH (HA5.out.later g7); have GW7 := zH (gb_trans GW5.out g7)
    have R6H := zH R6
    have HG57 := zH g7
    clear ga g7 R6
    obtain ⟨w7, hw7⟩ : ∃ w7, (w5.alloc (.cells #[.slice none 0 0, (0:Int), (0:Int), (0:Int), (0:Int)] 53)).setRow w5.heap.size #[.slice none 0 0, (0:Int), (0:Int), (0:Int), (0:Int)] = w7 := ⟨_, rfl⟩
    rw [hw7] at R7 HA7 GW7 HG57
    have HW7 := zH hw7
    clear hw7
    go_wp2_with (first | (with_reducible refine wpList_store_row rfl _ _ _ rfl w5.heap.size #[.slice none 0 0, (0:Int), (0:Int), (0:Int), (0:Int)] rfl rfl _ _ R6H.out (by kernel_rfl) rfl (by simp [Value.oneCell']) ?_; rw [HW7.out]))
    clear R6H
    exact bodyPost_ret (v := .tuple #[.slice none 0 0, .slice none 0 0, E]) (by simp [results, Tryz.results16, go_sem]) rfl (AsResO.err HR.out GW7.out)
   ·obtain ⟨W, hW⟩ : ∃ W, winOf (⟨x0, y0, z0, x1, y1, z1, st, ls, hs, cap, tol, span, lim, least⟩ : Asc).span P (r :: rs) = W := ⟨_, rfl⟩
    have hWs : W.Sublist (r :: rs) := hW ▸ winOf_sub
    have hW16 : W.length ≤ 16 := hW ▸ winOf_len
    rw [hW] at hl hE ho HRN2 ⊢
    obtain ⟨X, E, hX⟩ : ∃ X E, locA ⟨x0, y0, z0, x1, y1, z1, st, ls, hs, cap, tol, span, lim, least⟩ P W = (X, E) := ⟨_, _, rfl⟩
    rw [hX] at hE ho HRN2 ⊢
    replace hE : E = 0 := hE
    subst hE
    have hl' : least ≤ (W.length : Int) := hl
    have hz := HRZ.out W X (fun i hi => HA.out.lt i (hWs.subset hi)) (by have := HLS.out; omega) hW16 hX
    rw [if_neg (show ¬ ((W.length : Int) < (⟨x0, y0, z0, x1, y1, z1, st, ls, hs, cap, tol, span, lim, least⟩ : Asc).least) by show ¬ ((W.length : Int) < least); omega), if_neg (by simp), if_neg (by rw [hz]; simp)] at HRN2
    obtain ⟨M, hM⟩ : ∃ M, memOf ⟨x0, y0, z0, x1, y1, z1, st, ls, hs, cap, tol, span, lim, least⟩ P W X = M := ⟨_, rfl⟩
    have hMs : ∀ i ∈ M, i ∈ r :: rs := by rw [← hM]; intro i hi; exact hWs.subset (List.mem_filter.1 hi).1
    have hX1 : memOf ⟨x0, y0, z0, x1, y1, z1, st, ls, hs, cap, tol, span, lim, least⟩ P W (X, (0 : Int)).1 = M := hM
    rw [hX1] at ho HRN2 ⊢
    have HMS := zH hMs; have HO5 := zH ho
    obtain ⟨ma, mc, rfl⟩ := owns_slice ho
    obtain ⟨px, py, pz, pt, pm, pl_, q0, q1, q2, q3, q4, q5⟩ := X
    clear hW hWs hW16 hl hl' hX hz hM hX1 hMs ho
    by_cases hMl : (M.length : Int) < least
    ·have hod : decide ((⟨x0, y0, z0, x1, y1, z1, st, ls, hs, cap, tol, span, lim, least⟩ : Asc).least ≤ (M.length : Int)) = false := decide_eq_false (by show ¬ (least ≤ (M.length : Int)); omega)
     rw [if_pos (show (M.length : Int) < (⟨x0, y0, z0, x1, y1, z1, st, ls, hs, cap, tol, span, lim, least⟩ : Asc).least from hMl)] at HRN2
     rw [hod]
     clear hod hMl
     have R6 := heap_alloc_new w5 (.cells #[.slice none 0 0, (0:Int), (0:Int), (0:Int), (0:Int)] 53)
     have ga := gb_alloc (gb_refl w5 none) (.cells #[.slice none 0 0, (0:Int), (0:Int), (0:Int), (0:Int)] 53)
     have R7 := zH (setRow_at (cs := #[.slice ma M.length mc, px, py, pz, pt]) R6)
     have g7 := gb_setRow (g := w5.heap.size) (cs := #[.slice ma M.length mc, px, py, pz, pt]) ga (.inl (Nat.le_refl _))
     have HA7 := zH (HA5.out.later g7); have GW7 := zH (gb_trans GW5.out g7)
     have R6H := zH R6
     have HG57 := zH g7
     clear ga g7 R6
     obtain ⟨w7, hw7⟩ : ∃ w7, (w5.alloc (.cells #[.slice none 0 0, (0:Int), (0:Int), (0:Int), (0:Int)] 53)).setRow w5.heap.size #[.slice ma M.length mc, px, py, pz, pt] = w7 := ⟨_, rfl⟩
     rw [hw7] at R7 HA7 GW7 HG57
     have HW7 := zH hw7
     clear hw7
     obtain ⟨rb, ro, rcap, re, hrb, -, -, hrc⟩ := HA7.out.rest.block (by rw [ixs_length]; simp)
     simp only [Value.slice.injEq] at re
     obtain ⟨rfl, hrm, rfl⟩ := re
     have r0_ : w7.cell? ⟨rb, ro, none⟩ = some (.int .i64 (oA P r : Int)) := by
      have := hrc 0 (by rw [ixs_length]; simp)
      rw [Nat.add_zero] at this
      rw [this]
      simp [at0, ixs]
     have HLR := zH HA7.out.own.lr
     rw [List.length_map] at HLR
     have hszB := HA7.out.sz
     have HLT : Hid (lf.length < 2000) := zH (by omega)
     have HS7 : Hid (w3.heap.size ≤ w7.heap.size) := zH HA7.out.gr.size
     clear hrc hrm
     generalize hor : oA P r = kr at *
     have HOR := zH hor
     clear hor
     go_wp2_with (first | (with_reducible refine wpList_store_row rfl _ _ _ rfl w5.heap.size #[.slice ma M.length mc, px, py, pz, pt] rfl rfl _ _ R6H.out (by kernel_rfl) rfl (by simp [Value.oneCell']) ?_; rw [HW7.out]) | (at_builtin; (refine wpList_pushAt rfl _ _ 26 rfl w3.heap.size 3 (.int .i64 0) 1 8 Tryz.underlying26 info_intS rfl (by decide) (by decide) (.slice lva lf.length lvc) lf.length ((lf.map (fun (i : Nat) => (i : Int))).map (Value.int .i64)) rfl (HLR.out.alloc _) w7.heap.size 1 [.int .i64 (kr : Int)] 3 rfl (heap_alloc_new _ _) rfl (by simp [Value.oneCell']) (by have := HS7.out; have := HLT.out; simp; omega) (by have := HLT.out; have := HS7.out; simp; omega) ?_); refine Hid.out ?_))
     clear R6H
     refine zH ?_
     intro v8 w8 hown8 hg8 hv8
     have hga8 := gb_alloc (gb_refl w7 none) (.cells #[(kr : Int)] 3)
     have HA8 := zH ((HA7.out.later hga8).left (by rw [List.map_map]; exact hown8) hg8 (by simpa using hv8))
     obtain ⟨v8a, v8c, rfl⟩ := owns_slice hown8
     clear hown8 hg8 hv8 hga8 r0_ hrb HLR
     have hm1 : m = rs.length + 1 := by have h := HML.out; simp at h; exact h.symm
     have hsl : Sl w8 (.slice (some ⟨rb, ro, none⟩) ((ixs P rs).length + 1) rc) ((oA P r : Int) :: ixs P rs) := by rw [ixs_length, ← hm1]; exact HA8.out.2.2.1
     obtain ⟨o2, had, htl⟩ := tail30 hsl
     rw [ixs_length] at htl
     have HTL := zH htl; have HM1 := zH hm1
     clear hsl htl hm1
     go_wp2_with fail
     go_roundw
     case rel =>
      have hmr : m - 1 = rs.length := by have := HM1.out; omega
      refine ⟨rs, gs, lf ++ [kr], f, ⟨HA8.out.1, HA8.out.2.1, by rw [hmr]; exact HTL.out, fun b off len cap e => ?_, (List.pairwise_cons.1 HA7.out.so).2, fun i hi => HA7.out.lt i (List.mem_cons_of_mem _ hi), by have := HA7.out.sz; simp at this ⊢; omega, Nat.le_refl _⟩, hmr, HRN2.out, by have := HM1.out; omega⟩
      simp only [Value.slice.injEq, Option.some.injEq, Addr.mk.injEq, and_true] at e
      obtain ⟨⟨rfl, -⟩, -⟩ := e
      exact HA8.out.2.2.2 _ _ _ _ rfl
     case measure => simp [slLen]; omega
    ·have hod : decide ((⟨x0, y0, z0, x1, y1, z1, st, ls, hs, cap, tol, span, lim, least⟩ : Asc).least ≤ (M.length : Int)) = true := decide_eq_true (by show least ≤ (M.length : Int); omega)
     rw [if_neg (show ¬ ((M.length : Int) < (⟨x0, y0, z0, x1, y1, z1, st, ls, hs, cap, tol, span, lim, least⟩ : Asc).least) from hMl)] at HRN2
     have HM1 : Hid (0 < M.length) := zH (by have := HLS.out; omega)
     rw [hod]
     clear hod hMl
     have R6 := heap_alloc_new w5 (.cells #[.slice none 0 0, (0:Int), (0:Int), (0:Int), (0:Int)] 53)
     have ga := gb_alloc (gb_refl w5 none) (.cells #[.slice none 0 0, (0:Int), (0:Int), (0:Int), (0:Int)] 53)
     have R7 := zH (setRow_at (cs := #[.slice ma M.length mc, px, py, pz, pt]) R6)
     have g7 := gb_setRow (g := w5.heap.size) (cs := #[.slice ma M.length mc, px, py, pz, pt]) ga (.inl (Nat.le_refl _))
     have HA7 := zH (HA5.out.later g7); have GW7 := zH (gb_trans GW5.out g7)
     have R6H := zH R6
     have HG57 := zH g7
     clear ga g7 R6
     obtain ⟨w7, hw7⟩ : ∃ w7, (w5.alloc (.cells #[.slice none 0 0, (0:Int), (0:Int), (0:Int), (0:Int)] 53)).setRow w5.heap.size #[.slice ma M.length mc, px, py, pz, pt] = w7 := ⟨_, rfl⟩
     rw [hw7] at R7 HA7 GW7 HG57
     have HW7 := zH hw7
     clear hw7
     have hflG : (flatG gs).length = gs.length * 5 := flatG_length gs
     have HGR := zH HA7.out.own.gr
     have HLT : Hid (gs.length < 2000) := zH (by have := HA7.out.sz; omega)
     have HS7 : Hid (w3.heap.size ≤ w7.heap.size) := zH HA7.out.gr.size
     have HO7 := zH (owns_keep HO5.out HG57.out)
     obtain ⟨g0_, g1_, g2_, g3_, g4_⟩ := cells5 R7.out
     have hgl := block_lt' R7.out
     generalize hGF : flatG gs = fG at *
     have HGF := zH hGF
     clear hGF
     go_wp2_with (first | (with_reducible refine wpList_store_row rfl _ _ _ rfl w5.heap.size #[.slice ma M.length mc, px, py, pz, pt] rfl rfl _ _ R6H.out (by kernel_rfl) rfl (by simp [Value.oneCell']) ?_; rw [HW7.out]) | (at_builtin; (refine wpList_pushAt rfl _ _ 41 rfl w3.heap.size 53 (.agg #[.slice none 0 0, (0:Int), (0:Int), (0:Int), (0:Int)]) 5 56 Tryz.underlying41 info_grp rfl (by decide) (by decide) (.slice gva gs.length gvc) gs.length fG rfl (HGR.out.alloc _) w7.heap.size 1 [.slice ma M.length mc, .int .i64 px, .int .i64 py, .int .i64 pz, .int .i64 pt] 53 rfl (heap_alloc_new _ _) rfl (by simp [Value.oneCell']) (by have := HS7.out; have := HLT.out; simp; omega) (by have := HLT.out; have := HS7.out; simp; omega) ?_); refine Hid.out ?_))
     clear R6H
     refine zH ?_
     intro v8 w8 hown8 hg8 hv8
     have hga8 := gb_alloc (gb_refl w7 none) (.cells #[.slice ma M.length mc, px, py, pz, pt] 53)
     have hml : (srt (ixs P M)).length = M.length := by rw [srt_len, ixs_length]
     have hmsl : Sl w7 (.slice ma M.length mc) (srt (ixs P M)) := Sl_of_owns HO7.out hml.symm
     have hnb : ∀ b off len cap, Value.slice ma M.length mc = .slice (some ⟨b, off, none⟩) len cap → w3.heap.size ≤ b ∧ b < w7.heap.size ∧ (Value.slice gva gs.length gvc).ownBlock ≠ some b ∧ (Value.slice lva lf.length lvc).ownBlock ≠ some b := fun b off len cap e => by
      simp only [Value.slice.injEq] at e
      obtain ⟨rfl, -, -⟩ := e
      have h := HO7.out.lt b rfl
      have h1 := HA.out.gr.size
      refine ⟨by omega, h.2, fun e2 => ?_, fun e2 => ?_⟩
      ·have := (HA.out.own.gr.lt b e2).2; omega
      ·have := (HA.out.own.lr.lt b e2).2; omega
     have hm7 := hmsl.after hga8
     have HA8 := zH ((HA7.out.later hga8).group (x := ⟨grpOf P M ⟨px, py, pz, pt, pm, pl_, q0, q1, q2, q3, q4, q5⟩, .slice ma M.length mc⟩) (by rw [HGF.out]; exact hown8) hg8 (by simpa using hv8) hm7 (fun b off len cap e => by
      have h := hnb b off len cap e
      exact ⟨h.1, Nat.lt_of_lt_of_le h.2.1 hga8.size, h.2.2⟩))
     have HM8 := zH (hm7.later hg8 (fun b off len cap e _ e2 => (hnb b off len cap e).2.2.1 e2.symm))
     have p0_ := (gb_cell hg8 (Nat.lt_of_lt_of_le hgl hga8.size) (fun e => by have := (HA5.out.own.gr.lt w5.heap.size e.symm).2; omega)).trans ((gb_cell hga8 hgl (by simp)).trans g0_)
     have hgl8 := Nat.lt_of_lt_of_le (Nat.lt_of_lt_of_le hgl hga8.size) hg8.size
     have WO := zH (r30without_any (ixs P (r :: rs)) (srt (ixs P M)) (.slice ra m rc) (.slice ma M.length mc) w8 HA8.out.2.2.1 HM8.out (by rw [ixs_length]; have := HA.out.sz; simp at this ⊢; omega))
     obtain ⟨v8a, v8c, rfl⟩ := owns_slice hown8
     clear hown8 hg8 hv8 hga8 g0_ g1_ g2_ g3_ g4_ hgl hnb hm7 hmsl hml HGR hflG
     go_wp2_with fail
     (with_reducible refine WO.out.mono ?_)
     rintro e w9 ⟨rv, rfl, ho, hg⟩
     have hwo := ixs_without (P := P) (pl := r :: rs) (M := M) HA.out.lt (fun i hi => HA.out.lt i (HMS.out i hi))
     rw [hwo, ixs_length] at ho
     obtain ⟨na, nc, rfl⟩ := owns_slice ho
     have hlen : ((r :: rs).filter (fun i => decide (i ∉ M))).length < (r :: rs).length :=
      List.length_filter_lt_length_iff_exists.2 ⟨M[0]'HM1.out, HMS.out _ (List.getElem_mem _), by simp⟩
     have HLEN := zH hlen; have HO9 := zH ho; have HG9 := zH hg
     have HSO := zH (HA.out.so.filter (fun i => decide (i ∉ M)))
     have HLF : Hid (∀ i ∈ (r :: rs).filter (fun i => decide (i ∉ M)), i < P.length) := zH (fun i hi => HA.out.lt i (List.mem_filter.1 hi).1)
     clear hwo hlen ho hg WO p0_ hgl8
     generalize (r :: rs).filter (fun i => decide (i ∉ M)) = fl at *
     go_wp2_with fail
     go_roundw
     case rel =>
      refine ⟨fl, gs ++ [⟨grpOf P M ⟨px, py, pz, pt, pm, pl_, q0, q1, q2, q3, q4, q5⟩, .slice ma M.length mc⟩], lf, f, ⟨HA8.out.1.later HG9.out, gb_trans HA8.out.2.1 HG9.out, Sl_of_owns HO9.out (ixs_length ..).symm, fun b off len cap e => ?_, HSO.out, HLF.out, by have := HA.out.sz; have := HLEN.out; simp only [List.length_append, List.length_singleton]; omega, Nat.le_refl _⟩, rfl, by rw [List.map_append]; exact HRN2.out, by have := HLEN.out; have := HML.out; omega⟩
      have h := HO9.out.lt b (by rw [e]; rfl)
      refine ⟨h.2, fun e2 => ?_, fun e2 => ?_⟩
      ·have := (HA8.out.1.gr.lt b e2).2; omega
      ·have := (HA8.out.1.lr.lt b e2).2; omega
     case measure => have := HLEN.out; have := HML.out; simp only [slLen]; omega
end Go.Proofs.YtiebljanpnadjaaGreat
