import Derived.Test.YtiebljanpnadjaaGreatPeR30H
namespace Go.Proofs.YtiebljanpnadjaaGreat
set_option linter.all false
open Go.RowKit Rg
theorem Sound.time {P : Prob} (h : Sound P) (x y z : Int) : -18014398509481984 ≤ (best P.cap P.phs (zonesL P x y z x y z)).1 ∧ (best P.cap P.phs (zonesL P x y z x y z)).1 ≤ 18014398509481984 := by
 obtain ⟨-, hm, -⟩ := best_spec (cap := P.cap) (phs := P.phs) (zs := zonesL P x y z x y z) (by rw [zonesL_length]; exact h.some.1)
 obtain ⟨q, hq, e⟩ := mem_timesOf.1 hm
 unfold zonesL at hq
 obtain ⟨a, ha, rfl⟩ := List.mem_map.1 hq
 have hp := phP_iff.1 (h.phase ha)
 have bb := bnd_bounds P.step P.ls P.hs x y z x y z a.x a.y a.z
 unfold zoneOf znF znT at e
 simp only [] at e
 rcases e with e | e <;> rw [e] <;> split <;> omega
theorem loc_res {Q : Prob} {tol : Int} {X : Loc} (h : locP Q tol = (X, 0)) : resEr Q X = 0 := by
 unfold locP at h
 by_cases hv : valE Q = 0
 rotate_left
 ·rw [if_pos hv] at h
  exact absurd (Prod.mk.inj h).2 hv
 rw [if_neg (by rw [hv]; simp)] at h
 by_cases ht : tol < 0
 ·rw [if_pos ht] at h
  exact absurd (Prod.mk.inj h).2 (by decide)
 rw [if_neg ht] at h
 have hS := sound_iff.1 hv
 rcases Same.run hS tol 3000 _ _ (Same.start Q) (Fine.start hS) with ⟨hrun, -⟩ | ⟨s, -, hrun, -, -, hF, hE⟩
 ·rw [hrun] at h
  exact absurd (Prod.mk.inj h).2 (by decide)
 rw [hrun] at h
 have hfd := hF.fd_end hE
 obtain ⟨p, -⟩ := hF.fin hS hfd s.h.length (Nat.le_refl _)
 obtain ⟨hb, -, hbt⟩ := hF.best hfd
 obtain rfl : s.fin s.h.length = X := (Prod.mk.inj h).1
 obtain ⟨p0, p1, p2, p3, -⟩ := p
 have hw := wiP_point hS.vb ⟨hb.1, hb.2.1⟩ ⟨hb.2.2.1, hb.2.2.2.1⟩ ⟨hb.2.2.2.2.1, hb.2.2.2.2.2⟩
 have hz : zonesE Q s.x.px s.x.py s.x.pz s.x.px s.x.py s.x.pz = 0 := by
  unfold zonesE
  rw [if_pos hv]
  exact (if_pos hw).trans (errOf_zero.2 fun a ha => hS.zone0 hw ha)
 have hm := hS.time s.x.px s.x.py s.x.pz
 unfold atT at hbt
 rw [if_pos hz] at hbt
 unfold resEr
 rw [p0, p1, p2, p3, if_neg (by rw [hz]; simp), if_neg (by rw [hbt]; omega)]
theorem wiP_pt {x0 y0 z0 x1 y1 z1 px py pz : Int} : wiP px py pz px py pz x0 y0 z0 x1 y1 z1 = conP x0 y0 z0 x1 y1 z1 px py pz := by
 cases h : conP x0 y0 z0 x1 y1 z1 px py pz
 ·unfold wiP; rw [h]; simp
 ·obtain ⟨h0, -, h1, h2, h3, h4, h5, h6⟩ := conP_iff.1 h
  exact wiP_point h0 ⟨h1, h2⟩ ⟨h3, h4⟩ ⟨h5, h6⟩
theorem avE_sound {A : Asc} {P : List Ph} (hv : avE A P = 0) {a : Ph} (ha : a ∈ P) : Sound (A.prob [a]) := by
 have hok := (avE_ok hv).1
 unfold avE at hv
 rw [if_neg (by rw [hok]; decide)] at hv
 split at hv
 ·cases hv
 have hz := errOf_zero.1 hv a ha
 unfold Asc.ok at hok
 simp only [Bool.and_eq_true, inI_iff, beq_iff_eq] at hok
 refine ⟨hok.1.1.1.1.1.1, ?_, by simp [Asc.prob], by show 1 ≤ A.cap ∧ A.cap ≤ 1099511627776; omega, ?_⟩
 ·have h2 := hok.1.1.1.1.1.2
  unfold tE at h2
  split at h2
  ·assumption
  ·cases h2
 ·intro b hb
  obtain rfl : b = a := by simpa [Asc.prob] using hb
  exact hz
theorem one_zonesE {A : Asc} {P : List Ph} (hv : avE A P = 0) {a : Ph} (ha : a ∈ P) (px py pz : Int) : zonesE (A.prob [a]) px py pz px py pz = if conP A.x0 A.y0 A.z0 A.x1 A.y1 A.z1 px py pz = true then 0 else 20 := by
 have hS := avE_sound hv ha
 unfold zonesE
 rw [if_pos (sound_iff.2 hS)]
 show (if wiP px py pz px py pz A.x0 A.y0 A.z0 A.x1 A.y1 A.z1 = true then errOf _ [a] else 20) = _
 rw [wiP_pt]
 by_cases h : conP A.x0 A.y0 A.z0 A.x1 A.y1 A.z1 px py pz = true
 ·rw [if_pos h, if_pos h]
  exact errOf_zero.2 fun b hb => hS.zone0 (by show wiP px py pz px py pz A.x0 A.y0 A.z0 A.x1 A.y1 A.z1 = true; rw [wiP_pt]; exact h) hb
 ·rw [if_neg h, if_neg h]
theorem one_zone0 {A : Asc} {P : List Ph} (hv : avE A P = 0) {a : Ph} (ha : a ∈ P) {px py pz : Int} (hc : conP A.x0 A.y0 A.z0 A.x1 A.y1 A.z1 px py pz = true) : zoneE A.st A.ls A.hs px py pz px py pz a = 0 :=
 (avE_sound hv ha).zone0 (by show wiP px py pz px py pz A.x0 A.y0 A.z0 A.x1 A.y1 A.z1 = true; rw [wiP_pt]; exact hc) (List.mem_singleton.2 rfl)
def pB (n : Nat) (ms : List Int) (k : Nat) : Bool := inI (at0 ms k) 0 ((n : Int) - 1) && !(decide (0 < k) && decide (at0 ms k ≤ at0 ms (k - 1)))
def rB (A : Asc) (P : List Ph) (ms : List Int) (px py pz pt : Int) (k : Nat) : Bool := !decide (A.lim < resid (zoneOf A.st A.ls A.hs px py pz px py pz (phA P (at0 ms k).toNat)) pt)
theorem explB_split {A : Asc} {P : List Ph} {ms : List Int} {px py pz pt : Int} (hv : avE A P = 0) (hl : ¬ (ms.length : Int) < A.least) :
  explB A P ms px py pz pt = (conP A.x0 A.y0 A.z0 A.x1 A.y1 A.z1 px py pz && inI pt (-18014398509481984) 18014398509481984 && (List.range ms.length).all (pB P.length ms) && (List.range ms.length).all (rB A P ms px py pz pt)) := by
 unfold explB
 rw [show (avE A P == 0) = true by simp [hv], show decide ((ms.length : Int) < A.least) = false from decide_eq_false hl]
 cases hc : conP A.x0 A.y0 A.z0 A.x1 A.y1 A.z1 px py pz
 ·rfl
 have hk : ∀ k, exK A P ms px py pz pt k = (pB P.length ms k && rB A P ms px py pz pt k) := fun k => by
  have he : exK A P ms px py pz pt k = (pB P.length ms k && (zoneE A.st A.ls A.hs px py pz px py pz (phA P (at0 ms k).toNat) == 0) && rB A P ms px py pz pt k) := rfl
  rw [he]
  cases hp : pB P.length ms k
  ·rfl
  unfold pB at hp
  simp only [Bool.and_eq_true, inI_iff] at hp
  have hj : (at0 ms k).toNat < P.length := by omega
  have hm : phA P (at0 ms k).toNat ∈ P := by unfold phA; rw [List.getElem?_eq_getElem hj]; exact List.getElem_mem hj
  rw [one_zone0 hv hm hc]; rfl
 have e : (List.range ms.length).all (exK A P ms px py pz pt) = ((List.range ms.length).all (pB P.length ms) && (List.range ms.length).all (rB A P ms px py pz pt)) := by
  rw [show exK A P ms px py pz pt = fun k => (pB P.length ms k && rB A P ms px py pz pt k) from funext hk]
  rw [Bool.eq_iff_iff]
  simp only [Bool.and_eq_true, List.all_eq_true]
  exact ⟨fun h => ⟨fun k hk => (h k hk).1, fun k hk => (h k hk).2⟩, fun h k hk => ⟨h.1 k hk, h.2 k hk⟩⟩
 rw [e]
 simp [Bool.and_assoc]
theorem rnd_lenA {A : Asc} {P : List Ph} : ∀ (f : Nat) (rest : List Nat) (gs : List Grp) (lf : List Nat), (rnd A P f rest gs lf).2.1.length ≤ gs.length + f
 | 0, _, _, _ => by simp [rnd]
 | f + 1, [], gs, lf => by simp [rnd]
 | f + 1, r :: rs, gs, lf => by
  rw [rnd]
  split
  ·have := rnd_lenA (A := A) (P := P) f rs gs (lf ++ [oA P r]); omega
  ·split
   ·simp
   ·split
    ·simp
    ·split
     ·have := rnd_lenA (A := A) (P := P) f rs gs (lf ++ [oA P r]); omega
     ·refine Nat.le_trans (rnd_lenA f _ _ _) ?_
      simp; omega
theorem rnd_len {A : Asc} {P : List Ph} {L : List Grv} (h : L.map Grv.g = (assocR A P).2.1) : L.length ≤ P.length + 1 := by
 have e : L.length = (assocR A P).2.1.length := by rw [← h, List.length_map]
 rw [e]
 unfold assocR
 split
 ·simp
 ·have := rnd_lenA (A := A) (P := P) (P.length + 1) (List.range P.length) [] []
  simpa using this
def OnePr (A : Asc) (a : Ph) (vl vh : Value) (v : Value) (u : World) : Prop := ∃ va vc, v = .agg ((A.prob [a]).val vl vh (.slice va 1 vc)) ∧ SlC 6 u (.slice va 1 vc) 1 (flatP [a])
theorem OnePr.after {A : Asc} {a : Ph} {vl vh : Value} (v : Value) (u u' : World) (h : OnePr A a vl vh v u) (hg : u.grownBy u' none) : OnePr A a vl vh v u' := by
 obtain ⟨va, vc, rfl, h1⟩ := h
 exact ⟨va, vc, rfl, h1.after hg⟩
def OneRs (E : Int) (rz pt : Int) (v : Value) (u : World) : Prop := ∃ sa sl sc e, v = .tuple #[.slice sa sl sc, .int .i64 e] ∧ (e = 0 ↔ (E = 0 ∧ -18014398509481984 ≤ pt ∧ pt ≤ 18014398509481984)) ∧ (e = 0 → Sl u (.slice sa sl sc) [rz])
theorem OneRs.after {E rz pt : Int} (v : Value) (u u' : World) (h : OneRs E rz pt v u) (hg : u.grownBy u' none) : OneRs E rz pt v u' := by
 obtain ⟨sa, sl, sc, e, rfl, h1, h2⟩ := h
 exact ⟨sa, sl, sc, e, rfl, h1, fun h => (h2 h).after hg⟩
theorem oneRs_of {w w' : World} {E rz pt : Int} {zs : List Zn} {e : Ending} (hz : zs.length = 1 → resL zs pt = [rz]) (hl : zs.length = 1) (h : Residd w E zs pt e w') : ∃ v, e = .returned v ∧ OneRs E rz pt v w' ∧ w.grownBy w' none := by
 obtain ⟨hg, ⟨h0, rfl⟩ | ⟨h0, ht, rfl⟩ | ⟨h0, ht, v, rfl, hs⟩⟩ := h
 ·exact ⟨_, rfl, ⟨none, 0, 0, E, rfl, ⟨fun h => absurd h h0, fun h => h.1⟩, fun h => absurd h h0⟩, hg⟩
 ·exact ⟨_, rfl, ⟨none, 0, 0, 2, rfl, ⟨fun h => absurd h (by decide), fun h => by omega⟩, fun h => absurd h (by decide)⟩, hg⟩
 ·obtain ⟨sa, sl, sc, rfl⟩ := sl_slice hs
  exact ⟨_, rfl, ⟨sa, sl, sc, 0, rfl, ⟨fun _ => ⟨h0, ht⟩, fun _ => rfl⟩, fun _ => by rw [← hz hl]; exact hs⟩, hg⟩
set_option maxRecDepth 100000 in
set_option maxHeartbeats 20000000 in
theorem rexplains_any (A : Asc) (P : List Ph) (ms : List Int) (px py pz pt : Int) (vl vh pv mv : Value) (w : World) (hA : AscIn A vl vh w) (hp : SlC 6 w pv P.length (flatP P)) (hms : Sl w mv ms) (hP : P.length ≤ 1000000) :
  Calls Tryz.prog 28 #[.agg (A.val vl vh), pv, .agg #[mv, px, py, pz, pt]] w fun e w' => e = .returned (.bool (explB A P ms px py pz pt)) ∧ w.grownBy w' none := by
 have h1 := hA.l; have h2 := hA.h
 obtain ⟨la, ln, lc, rfl⟩ := sl_slice h1; obtain ⟨ha, hm, hc, rfl⟩ := sl_slice h2
 obtain ⟨pa, pc, rfl⟩ := hp.slice
 obtain ⟨ma, mc, rfl⟩ := hms.shape
 have HAW := zH hA; have HP := zH hp; have HM := zH hms
 clear h1 h2 hA hp hms
 have VA := zH (fun (u : World) (hu : w.grownBy u none) => rvalid30_any A _ _ _ P u (HAW.out.after hu) (HP.out.after hu))
 have PRB := zH (fun (j : Nat) (hj : j < P.length) (wv : Value) (u : World) (hu : w.grownBy u none) (hw : Sl u wv [(j : Int)]) => rproblem30_any A P [j] _ _ _ wv u (HAW.out.after hu) (HP.out.after hu) hw (by simpa using hj) (by simp))
 have RSA := zH (fun (hv : avE A P = 0) (a : Ph) (ha : a ∈ P) (qv : Value) (u : World) (hu : w.grownBy u none) (hq : SlC 6 u qv 1 (flatP [a])) => (rresiduals_all (A.prob [a]) _ _ qv px py pz pt u ⟨(HAW.out.after hu).l, (HAW.out.after hu).h, hq⟩ (by simp [Asc.prob])).mono fun e w' h => oneRs_of (rz := resid (zoneOf A.st A.ls A.hs px py pz px py pz a) pt) (fun _ => rfl) (by rw [zonesL_length]; rfl) (one_zonesE hv ha px py pz ▸ h))
 obtain ⟨E, hE⟩ : ∃ E, explB A P ms px py pz pt = E := ⟨_, rfl⟩
 have HX0 : Hid (avE A P ≠ 0 ∨ (ms.length : Int) < A.least → E = false) := zH (fun h => by
  rw [← hE]; unfold explB
  rcases h with h | h
  ·rw [show (avE A P == 0) = false by simpa using h]; rfl
  ·rw [decide_eq_true h]; simp)
 have HX1 : Hid (avE A P = 0 → ¬ (ms.length : Int) < A.least → E = _) := zH (fun h h' => hE.symm.trans (explB_split h h'))
 rw [hE]
 clear hE
 obtain ⟨n, hn⟩ : ∃ n, P.length = n := ⟨_, rfl⟩
 have PBF : Hid (∀ k, k < ms.length → pB P.length ms k = false → (List.range ms.length).all (pB P.length ms) = false) := zH (fun k hk h => by
  rw [List.all_eq_false]; exact ⟨k, List.mem_range.2 hk, by rw [h]; simp⟩)
 have PBT : Hid ((∀ k, k < ms.length → pB P.length ms k = true) → (List.range ms.length).all (pB P.length ms) = true) := zH (fun h => by
  rw [List.all_eq_true]; exact fun k hk => h k (List.mem_range.1 hk))
 have RBF : Hid (∀ k, k < ms.length → rB A P ms px py pz pt k = false → (List.range ms.length).all (rB A P ms px py pz pt) = false) := zH (fun k hk h => by
  rw [List.all_eq_false]; exact ⟨k, List.mem_range.2 hk, by rw [h]; simp⟩)
 have RBT : Hid ((∀ k, k < ms.length → rB A P ms px py pz pt k = true) → (List.range ms.length).all (rB A P ms px py pz pt) = true) := zH (fun h => by
  rw [List.all_eq_true]; exact fun k hk => h k (List.mem_range.1 hk))
 have PBK : Hid (∀ k, pB P.length ms k = (inI (at0 ms k) 0 ((P.length : Int) - 1) && !(decide (0 < k) && decide (at0 ms k ≤ at0 ms (k - 1))))) := zH (fun k => rfl)
 have RBK : Hid (∀ k, rB A P ms px py pz pt k = !decide (A.lim < resid (zoneOf A.st A.ls A.hs px py pz px py pz (phA P (at0 ms k).toNat)) pt)) := zH (fun k => rfl)
 have HLE : Hid (avE A P = 0 → 2 ≤ A.least) := zH (fun h => by
  have h := (avE_ok h).1
  unfold Asc.ok at h
  simp only [Bool.and_eq_true, inI_iff] at h
  omega)
 rw [hn] at PBF PBT PBK HX1 VA hP HP PRB
 rw [hn]
 have HN := zH hn
 clear hn
 generalize pB n ms = pb at *
 generalize rB A P ms px py pz pt = rb at *
 obtain ⟨x0, y0, z0, x1, y1, z1, st, ls, hs, cap, tol, span, lim, least⟩ := A
 simp only [Asc.val] at *
 obtain ⟨ve, hve⟩ : ∃ ve, avE ⟨x0, y0, z0, x1, y1, z1, st, ls, hs, cap, tol, span, lim, least⟩ P = ve := ⟨_, rfl⟩
 rw [hve] at VA HX0 HX1 RSA HLE
 clear hve
 obtain ⟨cb, hcb⟩ : ∃ cb, conP x0 y0 z0 x1 y1 z1 px py pz = cb := ⟨_, rfl⟩
 rw [hcb] at HX1 RSA
 clear hcb
 generalize hml : ms.length = ml at *
 have HML := zH hml
 clear hml
 have g1 := gb_alloc (gb_alloc (gb_refl w none) (.cells #[x0, y0, z0, x1, y1, z1, st, .slice la ln lc, .slice ha hm hc, cap, tol, span, lim, least] 30)) (.cells #[.slice ma ml mc, px, py, pz, pt] 53)
 have b1 : ((w.alloc (.cells #[x0, y0, z0, x1, y1, z1, st, .slice la ln lc, .slice ha hm hc, cap, tol, span, lim, least] 30)).alloc (.cells #[.slice ma ml mc, px, py, pz, pt] 53)).heap[w.heap.size]? = some (.cells #[x0, y0, z0, x1, y1, z1, st, .slice la ln lc, .slice ha hm hc, cap, tol, span, lim, least] 30 (0, 0)) := by rw [heap_alloc_old _ _ (by simp), heap_alloc_new]
 have b2 : ((w.alloc (.cells #[x0, y0, z0, x1, y1, z1, st, .slice la ln lc, .slice ha hm hc, cap, tol, span, lim, least] 30)).alloc (.cells #[.slice ma ml mc, px, py, pz, pt] 53)).heap[w.heap.size + 1]? = some (.cells #[.slice ma ml mc, px, py, pz, pt] 53 (0, 0)) := by simpa using heap_alloc_new (w.alloc _) _
 have G1 := zH g1; have A1 := zH b1; have B1 := zH b2
 clear g1 b1 b2
 go_enter Tryz.func28, Tryz.ntmps28
 go_wp2_with (with_reducible refine wpList_load14 rfl _ rfl w.heap.size rfl _ _ A1.out rfl ?_)
 generalize (w.alloc (.cells #[x0, y0, z0, x1, y1, z1, st, .slice la ln lc, .slice ha hm hc, cap, tol, span, lim, least] 30)).alloc (.cells #[.slice ma ml mc, px, py, pz, pt] 53) = w1 at *
 generalize hzw : w.heap.size = z at *
 clear hzw
 (with_reducible refine (VA.out w1 G1.out).mono ?_)
 rintro e w2 ⟨rfl, hg⟩
 have G2 := zH (gb_trans G1.out hg); have A2 := zH (block_kept hg A1.out rfl); have B2 := zH (block_kept hg B1.out rfl)
 clear hg G1 A1 B1 VA
 by_cases hv : ve = 0
 rotate_left
 ·have hv' : (ve != 0) = true := by simpa using hv
  have HE : Hid (E = false) := zH (HX0.out (.inl hv))
  clear hv
  go_wp2_with fail
  exact bodyPost_ret (v := .bool false) (by simp [results, Tryz.results28, go_sem]) rfl ⟨by rw [HE.out], G2.out⟩
 have hv' : (ve != 0) = false := by rw [hv]; rfl
 have HLS := zH (HLE.out hv); have RS := zH (RSA.out hv); have HX2 := zH (HX1.out hv)
 clear hv HX1 RSA HLE
 obtain ⟨c0_, c1_, c2_, c3_, c4_, c5_, c6_, c7_, c8_, c9_, c10_, c11_, c12_, c13_⟩ := cells14 A2.out
 obtain ⟨g0_, g1_, g2_, g3_, g4_⟩ := cells5 B2.out
 have hz_ := block_lt' A2.out
 have hz2_ := block_lt' B2.out
 by_cases hl : (ml : Int) < least
 ·have hl' : decide ((ml : Int) < least) = true := decide_eq_true hl
  have HE : Hid (E = false) := zH (HX0.out (.inr hl))
  clear hl
  go_wp2_with fail
  exact bodyPost_ret (v := .bool false) (by simp [results, Tryz.results28, go_sem]) rfl ⟨by rw [HE.out], G2.out⟩
 have hl' : decide ((ml : Int) < least) = false := decide_eq_false hl
 have HX := zH (HX2.out (by omega))
 have HML2 : Hid (2 ≤ ml) := zH (by have := HLS.out; omega)
 clear hl HX0 HX2 HLS
 go_wp2_with fail
 clear c0_ c1_ c2_ c3_ c4_ c5_ c6_ c7_ c8_ c9_ c10_ c11_ c12_ c13_
 clear g0_ g1_ g2_ g3_ g4_
 clear hv' hl' hz_ hz2_
 go_loopw [7] (fun kv wr => ∃ k : Nat, k ≤ ml ∧ kv = .int .i64 (k : Int) ∧ (∀ j, j < k → pb j = true) ∧ w2.grownBy wr none) (fun kv _ => ml - (intOf kv).toNat)
 case atStart => exact ⟨0, by omega, rfl, fun j hj => by omega, gb_refl _ _⟩
 case round =>
  obtain ⟨k, hkm, rfl, hek, hgr⟩ := hrel
  have HEK := zH hek; have GR := zH (gb_trans G2.out hgr); have BR := zH (block_kept hgr B2.out rfl)
  have HGR := zH hgr
  clear hek hgr
  obtain ⟨g0_, g1_, g2_, g3_, g4_⟩ := cells5 BR.out
  have hz2_ := block_lt' BR.out
  by_cases hlt : k < ml
  ·have hkd : decide ((k : Int) < (ml : Int)) = true := decide_eq_true (by omega)
   obtain ⟨mb, mo, mc', me, hmb, hmle, hmcap, hmc⟩ := HM.out.block (by rw [HML.out]; omega)
   have hmlb : ml ≤ 9223372036854775807 := by have := HML.out; omega
   clear hmle hmcap
   simp only [Value.slice.injEq] at me
   obtain ⟨rfl, -, rfl⟩ := me
   have PK := zH (PBK.out k)
   have PKF := zH (PBF.out k hlt)
   have m0_ : wr.cell? ⟨mb, mo + k, none⟩ = some (.int .i64 (at0 ms k)) := (gb_cell GR.out hmb (by simp)).trans (hmc k (by rw [HML.out]; exact hlt))
   have hmbl := Nat.lt_of_lt_of_le hmb GR.out.size
   have PREV : Hid (∀ k1, k = k1 + 1 → wr.cell? ⟨mb, mo + k1, none⟩ = some (.int .i64 (at0 ms (k - 1)))) := zH (fun k1 h => by
    subst h
    exact (gb_cell GR.out hmb (by simp)).trans (hmc k1 (by rw [HML.out]; omega)))
   clear hmb hmc
   obtain ⟨vk, hvk⟩ : ∃ v, at0 ms k = v := ⟨_, rfl⟩
   obtain ⟨vp, hvp⟩ : ∃ v, at0 ms (k - 1) = v := ⟨_, rfl⟩
   rw [hvk] at m0_ PK
   rw [hvp] at PREV PK
   clear hvk hvp
   by_cases hv0 : vk < 0
   ·have d0_ : decide (vk < 0) = true := decide_eq_true hv0
    have HE : Hid (E = false) := zH (by
     rw [HX.out, PKF.out (by rw [PK.out, show inI vk 0 ((n : Int) - 1) = false by unfold inI; simp; omega]; rfl)]; simp)
    clear hv0
    go_wp2_with fail
    (refine wp_region_grown (by kernel_rfl) (by kernel_rfl) ?_; (repeat (go_big_quiet_step (fail))); refine wpQuiet_nil ?_; intro wq hq)
    have GQ := zH (gb_trans GR.out hq); have HGQ := zH (gb_trans HGR.out hq)
    clear hq
    go_wp2_with fail
    exact bodyPost_ret (v := .bool false) (by simp [results, Tryz.results28, go_sem]) rfl ⟨by rw [HE.out], GQ.out⟩
   have d0_ : decide (vk < 0) = false := decide_eq_false hv0
   by_cases hvn : (n : Int) ≤ vk
   ·have d1_ : decide ((n : Int) ≤ vk) = true := decide_eq_true hvn
    have HE : Hid (E = false) := zH (by
     rw [HX.out, PKF.out (by rw [PK.out, show inI vk 0 ((n : Int) - 1) = false by unfold inI; simp; omega]; rfl)]; simp)
    clear hv0 hvn
    go_wp2_with fail
    (refine wp_region_grown (by kernel_rfl) (by kernel_rfl) ?_; (repeat (go_big_quiet_step (fail))); refine wpQuiet_nil ?_; intro wq hq)
    have GQ := zH (gb_trans GR.out hq); have HGQ := zH (gb_trans HGR.out hq)
    clear hq
    go_wp2_with fail
    exact bodyPost_ret (v := .bool false) (by simp [results, Tryz.results28, go_sem]) rfl ⟨by rw [HE.out], GQ.out⟩
   have d1_ : decide ((n : Int) ≤ vk) = false := decide_eq_false hvn
   have PK2 : Hid (pb k = !(decide (0 < k) && decide (vk ≤ vp))) := zH (by rw [PK.out, show inI vk 0 ((n : Int) - 1) = true by unfold inI; simp; omega]; rfl)
   clear hv0 hvn PK
   by_cases hk0 : k = 0
   ·have hk0' : decide ((k : Int) > 0) = false := decide_eq_false (by omega)
    have hk0n : ¬ 0 < k := by omega
    have PK3 : Hid (pb k = true) := zH (by rw [PK2.out]; simp [hk0n])
    clear hk0
    go_wp2_with fail
    (refine wp_region_grown (by kernel_rfl) (by kernel_rfl) ?_; (repeat (go_big_quiet_step (fail))); refine wpQuiet_nil ?_; intro wq hq)
    have GQ := zH (gb_trans GR.out hq); have HGQ := zH (gb_trans HGR.out hq)
    clear hq
    go_wp2_with fail
    go_roundw
    case rel => exact ⟨k + 1, by omega, by go_num, fun j hj => by
     by_cases e : j = k
     ·rw [e]; exact PK3.out
     ·exact HEK.out j (by omega), HGQ.out⟩
    case measure => simp [intOf]; omega
   have hk0' : decide ((k : Int) > 0) = true := decide_eq_true (by omega)
   have hk0n : 0 < k := by omega
   obtain ⟨k1, hk1⟩ : ∃ k1, k = k1 + 1 := ⟨k - 1, by omega⟩
   have m1_ := PREV.out k1 hk1
   have hkw : (k : Int) - 1 = (k1 : Int) := by omega
   have hk1m : k1 < ml := by omega
   by_cases hvv : vk ≤ vp
   ·have hvv' : decide (vk ≤ vp) = true := decide_eq_true hvv
    have HE : Hid (E = false) := zH (by
     rw [HX.out, PKF.out (by rw [PK2.out]; simp [hk0n, hvv])]; simp)
    clear hvv hk0 hk1
    go_wp2_with fail
    (refine wp_region_grown (by kernel_rfl) (by kernel_rfl) ?_; (repeat (go_big_quiet_step (fail))); refine wpQuiet_nil ?_; intro wq hq)
    have GQ := zH (gb_trans GR.out hq); have HGQ := zH (gb_trans HGR.out hq)
    clear hq
    go_wp2_with fail
    exact bodyPost_ret (v := .bool false) (by simp [results, Tryz.results28, go_sem]) rfl ⟨by rw [HE.out], GQ.out⟩
   have hvv' : decide (vk ≤ vp) = false := decide_eq_false hvv
   have PK3 : Hid (pb k = true) := zH (by rw [PK2.out]; simp [hvv])
   clear hvv hk0 hk1
   go_wp2_with fail
   (refine wp_region_grown (by kernel_rfl) (by kernel_rfl) ?_; (repeat (go_big_quiet_step (fail))); refine wpQuiet_nil ?_; intro wq hq)
   have GQ := zH (gb_trans GR.out hq); have HGQ := zH (gb_trans HGR.out hq)
   clear hq
   go_wp2_with fail
   go_roundw
   case rel => exact ⟨k + 1, by omega, by go_num, fun j hj => by
    by_cases e : j = k
    ·rw [e]; exact PK3.out
    ·exact HEK.out j (by omega), HGQ.out⟩
   case measure => simp [intOf]; omega
  have hkd : decide ((k : Int) < (ml : Int)) = false := decide_eq_false (by omega)
  have HPA : Hid (∀ j, j < ml → pb j = true) := zH (fun j hj => HEK.out j (by omega))
  have HX3 := zH (HX.out)
  rw [PBT.out HPA.out] at HX3
  have AR := zH (block_kept HGR.out A2.out rfl)
  clear HX PBT PBF HEK HGR A2 B2 G2
  generalize wr = w5 at *
  go_wp2_with fail
  clear hkd hlt hkm
  clear g0_ g1_ g2_ g3_ g4_
  clear hz2_
  go_loopw [8] (fun kv wr => ∃ k : Nat, k ≤ ml ∧ kv = .int .i64 (k : Int) ∧ (0 < k → cb = true ∧ inI pt (-18014398509481984) 18014398509481984 = true) ∧ (∀ j, j < k → rb j = true) ∧ w5.grownBy wr none) (fun kv _ => ml - (intOf kv).toNat)
  case atStart => exact ⟨0, by omega, rfl, fun h => by omega, fun j hj => by omega, gb_refl _ _⟩
  case round =>
   obtain ⟨k, hkm, rfl, hcb, hek, hgr⟩ := hrel
   have HCB := zH hcb
   have HEK := zH hek; have GK := zH (gb_trans GR.out hgr); have AK := zH (block_kept hgr AR.out rfl); have BK := zH (block_kept hgr BR.out rfl)
   have HGK := zH hgr
   clear hek hgr hcb
   obtain ⟨g0_, g1_, g2_, g3_, g4_⟩ := cells5 BK.out
   have hz2_ := block_lt' BK.out
   by_cases hlt : k < ml
   ·have hkd : decide ((k : Int) < (ml : Int)) = true := decide_eq_true (by omega)
    obtain ⟨mb, mo, mc', me, hmb, hmle, hmcap, hmc⟩ := HM.out.block (by rw [HML.out]; omega)
    have hmlb : ml ≤ 9223372036854775807 := by have := HML.out; omega
    have hmlc : ml ≤ mc' := by have := HML.out; omega
    clear hmle hmcap
    simp only [Value.slice.injEq] at me
    obtain ⟨rfl, -, rfl⟩ := me
    have RK := zH (RBK.out k)
    have RKF := zH (RBF.out k hlt)
    have PK := zH ((PBK.out k).symm.trans (HPA.out k hlt))
    have m0_ : wr.cell? ⟨mb, mo + k, none⟩ = some (.int .i64 (at0 ms k)) := (gb_cell GK.out hmb (by simp)).trans (hmc k (by rw [HML.out]; exact hlt))
    have hmbl := Nat.lt_of_lt_of_le hmb GK.out.size
    clear hmb hmc
    obtain ⟨vk, hvk⟩ : ∃ v, at0 ms k = v := ⟨_, rfl⟩
    rw [hvk] at m0_ RK PK
    clear hvk
    obtain ⟨j, rfl, hjn⟩ : ∃ j : Nat, vk = (j : Int) ∧ j < n := by
     have h := PK.out
     simp only [Bool.and_eq_true, inI_iff] at h
     exact ⟨vk.toNat, by omega, by omega⟩
    have hjP : j < P.length := by have := HN.out; omega
    have hpa : phA P (j : Int).toNat = P[j] := by unfold phA; simp [hjP]
    rw [hpa] at RK
    have hpm : [j].map (phA P) = [P[j]] := by simp [phA_eq hjP]
    have HS1 : Hid (∀ u, wr.grownBy u none → Sl u (.slice (some ⟨mb, mo + k, none⟩) 1 (mc - k)) [(j : Int)]) := zH (fun u hu => .inr ⟨mb, mo + k, mc - k, rfl, Nat.lt_of_lt_of_le hmbl hu.size, by simp; omega, by have := HM.out; rcases this with ⟨h, -⟩ | ⟨_, _, _, e, _, _, h, _⟩; (have := HML.out; rw [h] at this; simp at this; omega); (simp only [Value.slice.injEq] at e; omega), fun i hi => by
     obtain rfl : i = 0 := by simpa using hi
     rw [Nat.add_zero, gb_cell hu hmbl (by simp)]; exact m0_⟩)
    have PR := zH (fun (u : World) (hu : wr.grownBy u none) => (PRB.out j hjn (.slice (some ⟨mb, mo + k, none⟩) 1 (mc - k)) u (gb_trans GK.out hu) (HS1.out u hu)).mono fun e w' h => (by
     obtain ⟨va, vc, rfl, h1, h2⟩ := h
     rw [hpm] at h1 ⊢
     exact ⟨_, rfl, ⟨va, vc, rfl, h1⟩, h2⟩ : ∃ v, e = .returned v ∧ OnePr ⟨x0, y0, z0, x1, y1, z1, st, ls, hs, cap, tol, span, lim, least⟩ P[j] (.slice la ln lc) (.slice ha hm hc) v w' ∧ u.grownBy w' none))
    have RS1 := zH (fun (qv : Value) (u : World) (hu : wr.grownBy u none) (hq : SlC 6 u qv 1 (flatP [P[j]])) => RS.out P[j] (List.getElem_mem hjP) qv u (gb_trans GK.out hu) hq)
    clear hpa hpm PK
    generalize P[j] = a at *
    obtain ⟨rz, hrz⟩ : ∃ v, resid (zoneOf st ls hs px py pz px py pz a) pt = v := ⟨_, rfl⟩
    have hrz1 : resid (zoneOf (⟨x0, y0, z0, x1, y1, z1, st, ls, hs, cap, tol, span, lim, least⟩ : Asc).st (⟨x0, y0, z0, x1, y1, z1, st, ls, hs, cap, tol, span, lim, least⟩ : Asc).ls (⟨x0, y0, z0, x1, y1, z1, st, ls, hs, cap, tol, span, lim, least⟩ : Asc).hs px py pz px py pz a) pt = rz := hrz
    rw [hrz1] at RK RS1
    clear hrz hrz1
    have hm1 : ¬ (mc = k) := by omega
    obtain ⟨c0_, c1_, c2_, c3_, c4_, c5_, c6_, c7_, c8_, c9_, c10_, c11_, c12_, c13_⟩ := cells14 AK.out
    have hz_ := block_lt' AK.out
    have u0_ := Made.cells hz_; have u1_ := Made.cells hz2_
    go_wp2_with fail
    refine Rg.rR (Made wr) Makes (fun k_ => if k_ = 0 then some (isV (.agg #[x0, y0, z0, x1, y1, z1, st, .slice la ln lc, .slice ha hm hc, cap, tol, span, lim, least])) else if k_ = 8 then some (isF (OnePr ⟨x0, y0, z0, x1, y1, z1, st, ls, hs, cap, tol, span, lim, least⟩ a (.slice la ln lc) (.slice ha hm hc))) else if k_ = 13 then some (isF (OneRs (if cb = true then 0 else 20) rz pt)) else none) (fun _ => false) 0 19 Makes.size (Made.start wr) (fun hne => ?_)
    refine rg_load14 (fun _ => gb_refl _ _) _ z #[x0, y0, z0, x1, y1, z1, st, .slice la ln lc, .slice ha hm hc, cap, tol, span, lim, least] 30 AK.out rfl rfl rfl rfl rfl rfl ?_
    simp only [zA, zB, zC, zD, zX]
    (repeat (refine rQ ?_; go_big_quiet_step (fail); refine wpQuiet_nil ?_))
    refine rg_fixFD (OnePr ⟨x0, y0, z0, x1, y1, z1, st, ls, hs, cap, tol, span, lim, least⟩ a (.slice la ln lc) (.slice ha hm hc)) 68 #[.agg #[x0, y0, z0, x1, y1, z1, st, .slice la ln lc, .slice ha hm hc, cap, tol, span, lim, least], .slice pa n pc, .slice (some ⟨mb, mo + k, none⟩) 1 (mc - k)] rfl rfl rfl OnePr.after (fun _ => by go_simp) (fun u hu _ => PR.out u hu) (fun qv qu hqv => ?_)
    obtain ⟨qa, qc, rfl, -⟩ := hqv
    simp only [Asc.prob, Prob.val]
    simp only [zA, zB, zC, zD, zX]
    (repeat (refine rQ ?_; go_big_quiet_step (fail); refine wpQuiet_nil ?_))
    refine rg_fixFD (OneRs (if cb = true then 0 else 20) rz pt) 67 #[.agg #[x0, y0, z0, x1, y1, z1, st, .slice la ln lc, .slice ha hm hc, .slice qa 1 qc, cap], .agg #[px, py, pz], pt] rfl rfl rfl OneRs.after (fun _ => by go_simp) (fun u hu hd => ?_) (fun rv ru hrv => ?_)
    ·have d8 := hd ⟨8, .data⟩ (by simp) rfl
     obtain ⟨qa', qc', e, hq⟩ := d8
     simp only [Asc.prob, Prob.val, Value.agg.injEq, Array.mk.injEq, List.cons.injEq, Value.slice.injEq, true_and, and_true] at e
     obtain ⟨rfl, rfl⟩ := e
     exact RS1.out _ u hu hq
    obtain ⟨sa, sl, sc, ee, rfl, -, -⟩ := hrv
    simp only [zA, zB, zC, zD, zX]
    (repeat (refine rQ ?_; go_big_quiet_step (fail); refine wpQuiet_nil ?_))
    rintro wz hqz hf -
    refine wpList_nil ?_
    obtain ⟨sa', sl', sc', e', heq, hiff, hrs⟩ := hf 13
    simp only [Value.tuple.injEq, Array.mk.injEq, List.cons.injEq, Value.slice.injEq, Value.int.injEq, true_and, and_true] at heq
    obtain ⟨⟨rfl, rfl, rfl⟩, rfl⟩ := heq
    have HIFF := zH hiff; have HRS := zH hrs
    have GZ := zH (gb_trans GK.out hqz); have HGZ := zH (gb_trans HGK.out hqz); have AZ := zH (block_kept hqz AK.out rfl)
    clear hf hqz hne u0_ u1_ hiff hrs c0_ c1_ c2_ c3_ c4_ c5_ c6_ c7_ c8_ c9_ c10_ c11_ c12_ c13_ g0_ g1_ g2_ g3_ g4_ hz_ hz2_ m0_ hmbl hm1 hjP hmlc PR RS1 HS1 AK BK GK
    go_wp2_with fail
    by_cases hee : ee = 0
    rotate_left
    ·have hee' : (ee != 0) = true := by simpa using hee
     have HE : Hid (E = false) := zH (by
      rw [HX3.out]
      have h := HIFF.out
      cases cb
      ·rfl
      ·have h2 : inI pt (-18014398509481984) 18014398509481984 = false := by
        cases h3 : inI pt (-18014398509481984) 18014398509481984
        ·rfl
        ·exact absurd (h.2 ⟨rfl, (inI_iff.1 h3).1, (inI_iff.1 h3).2⟩) hee
       rw [h2]; rfl)
     clear hee
     go_wp2_with fail
     (refine wp_region_grown (by kernel_rfl) (by kernel_rfl) ?_; (repeat (go_big_quiet_step (fail))); refine wpQuiet_nil ?_; intro wq hq)
     have GE := zH (gb_trans GZ.out hq)
     clear hq
     go_wp2_with fail
     exact bodyPost_ret (v := .bool false) (by simp [results, Tryz.results28, go_sem]) rfl ⟨by rw [HE.out], GE.out⟩
    have hee' : (ee != 0) = false := by rw [hee]; rfl
    have HOK : Hid (cb = true ∧ inI pt (-18014398509481984) 18014398509481984 = true) := zH (by
     have h := HIFF.out.1 hee
     refine ⟨?_, inI_iff.2 h.2⟩
     cases cb
     ·exact absurd h.1 (by decide)
     ·rfl)
    have hr := HRS.out hee
    obtain ⟨rb_, ro, rc, re, hrb, -, -, hrc⟩ := hr.block (by simp)
    simp only [Value.slice.injEq] at re
    obtain ⟨rfl, hsl1, rfl⟩ := re
    have r0_ := hrc 0 (by simp)
    simp only [Nat.add_zero, at0, List.getElem?_cons_zero, Option.getD_some] at r0_
    obtain rfl : sl = 1 := by simpa using hsl1
    clear hsl1
    have s12_ : wz.cell? ⟨z, 12, none⟩ = some (.int .i64 lim) := cell_of AZ.out 12 _ rfl
    have hzl := block_lt' AZ.out
    clear hee hr hrc
    by_cases hrl : lim < rz
    ·have hrl' : decide (rz > lim) = true := decide_eq_true hrl
     have HE : Hid (E = false) := zH (by rw [HX3.out, RKF.out (by rw [RK.out, decide_eq_true hrl]; rfl)]; simp)
     clear hrl
     go_wp2_with fail
     (refine wp_region_grown (by kernel_rfl) (by kernel_rfl) ?_; (repeat (go_big_quiet_step (fail))); refine wpQuiet_nil ?_; intro wq hq)
     have GE := zH (gb_trans GZ.out hq)
     clear hq
     go_wp2_with fail
     exact bodyPost_ret (v := .bool false) (by simp [results, Tryz.results28, go_sem]) rfl ⟨by rw [HE.out], GE.out⟩
    have hrl' : decide (rz > lim) = false := decide_eq_false (by omega)
    have RK2 : Hid (rb k = true) := zH (by rw [RK.out, decide_eq_false hrl]; rfl)
    clear hrl
    go_wp2_with fail
    (refine wp_region_grown (by kernel_rfl) (by kernel_rfl) ?_; (repeat (go_big_quiet_step (fail))); refine wpQuiet_nil ?_; intro wq hq)
    have HGE := zH (gb_trans HGZ.out hq)
    clear hq
    go_wp2_with fail
    go_roundw
    case rel => exact ⟨k + 1, by omega, by go_num, fun _ => HOK.out, fun j hj => by
     by_cases e : j = k
     ·rw [e]; exact RK2.out
     ·exact HEK.out j (by omega), HGE.out⟩
    case measure => simp [intOf]; omega
   ·have hkd : decide ((k : Int) < (ml : Int)) = false := decide_eq_false (by omega)
    have HE : Hid (E = true) := zH (by
     have h := HCB.out (by have := HML2.out; omega)
     rw [HX3.out, h.1, h.2, RBT.out (fun j hj => HEK.out j (by omega))]; rfl)
    go_wp2_with fail
    exact bodyPost_ret (v := .bool true) (by simp [results, Tryz.results28, go_sem]) rfl ⟨by rw [HE.out], GK.out⟩
end Go.Proofs.YtiebljanpnadjaaGreat
