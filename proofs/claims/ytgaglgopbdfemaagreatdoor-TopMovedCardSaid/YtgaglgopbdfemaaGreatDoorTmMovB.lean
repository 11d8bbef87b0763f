/- MovB Zer MovG -/
import Derived.Test.YtgaglgopbdfemaaGreatDoorTmProb
import Derived.Test.YtgaglgopbdfemaaGreatDoorTmMisP
import Derived.Test.YtgaglgopbdfemaaGreatDoorTmMov
import Derived.Test.YtgaglgopbdfemaaGreatDoorTmLeastA
namespace Go.Proofs.YtgaglgopbdfemaaGreatDoor
set_option linter.all false
open Go.RowKit Rg
section
variable {d : Way}
theorem hiAt_mv {l : List Hi} {i : Nat} (h : i < l.length) : hiAt (l.map (Hi.mv d)) i = (hiAt l i).mv d := by
  unfold hiAt; rw [List.getElem?_map, List.getElem?_eq_getElem h]; rfl
theorem hlt_mv (a b : Hi) : hlt (a.mv d) (b.mv d) = hlt a b := rfl
theorem swapL_mv {l : List Hi} {i k : Nat} (hi : i < l.length) (hk : k < l.length) : swapL (l.map (Hi.mv d)) i k = (swapL l i k).map (Hi.mv d) := by
  unfold swapL
  rw [hiAt_mv hi, hiAt_mv hk, List.map_set, List.map_set]
theorem upF_mv : ∀ (f : Nat) (l : List Hi) (j : Nat), j < l.length → upF f (l.map (Hi.mv d)) j = (upF f l j).map (Hi.mv d)
  | 0, _, _, _ => rfl
  | f + 1, l, j, hj => by
    have hp : (j - 1) / 2 < l.length := by omega
    unfold upF
    rw [hiAt_mv hj, hiAt_mv hp, hlt_mv]
    split
    · rfl
    · split
      · rw [swapL_mv hp hj]
        exact upF_mv f _ _ (by rw [swapL_length]; exact hp)
      · rfl
theorem pushH_mv (l : List Hi) (x : Hi) : pushH (l.map (Hi.mv d)) (x.mv d) = (pushH l x).map (Hi.mv d) := by
  unfold pushH
  rw [List.length_map, show l.map (Hi.mv d) ++ [x.mv d] = (l ++ [x]).map (Hi.mv d) by simp]
  exact upF_mv _ _ _ (by simp)
theorem kid_in {l : List Hi} {i n : Nat} (h : ¬ n ≤ 2 * i + 1) : kid l i n < n := by
  unfold kid; split
  · next h2 => simp at h2; omega
  · omega
theorem kid_mv {l : List Hi} {i n : Nat} (hn : n ≤ l.length) (h : ¬ n ≤ 2 * i + 1) : kid (l.map (Hi.mv d)) i n = kid l i n := by
  unfold kid
  by_cases h2 : 2 * i + 1 + 1 < n
  · rw [hiAt_mv (by omega), hiAt_mv (by omega), hlt_mv]
  · rw [show decide (2 * i + 1 + 1 < n) = false from decide_eq_false h2]; rfl
theorem downF_mv : ∀ (f : Nat) (l : List Hi) (i n : Nat), n ≤ l.length → downF f (l.map (Hi.mv d)) i n = (downF f l i n).map (Hi.mv d)
  | 0, _, _, _, _ => rfl
  | f + 1, l, i, n, hn => by
    unfold downF
    by_cases h : n ≤ 2 * i + 1
    · rw [if_pos h, if_pos h]
    · have hk := kid_in (l := l) h
      rw [if_neg h, if_neg h, kid_mv hn h, hiAt_mv (by omega), hiAt_mv (by omega), hlt_mv]
      split
      · rw [swapL_mv (by omega) (by omega)]
        exact downF_mv f _ _ _ (by rw [swapL_length]; exact hn)
      · rfl
theorem popL_mv {l : List Hi} {n : Nat} (hn : n < l.length) : popL (l.map (Hi.mv d)) n = (popL l n).map (Hi.mv d) := by
  unfold popL
  rw [swapL_mv (by omega) hn]
  exact downF_mv _ _ _ _ (by rw [swapL_length]; omega)
/-- The point and the time move. -/
def Loc.mvp (d : Way) (x : Loc) : Loc := ⟨x.px + d.x, x.py + d.y, x.pz + d.z, x.t + d.t, x.m, x.l, x.a0, x.a1, x.a2, x.a3, x.a4, x.a5⟩
/-- Two searches, one moved. -/
structure Mvd (d : Way) (s s' : Ps) : Prop where
  h : s'.h = s.h.map (Hi.mv d)
  num : s'.num = s.num
  tk : s'.tk = s.tk
  fd : s'.fd = s.fd
  x : s.fd = true → s'.x = s.x.mvp d
theorem Mvd.rest {s s' : Ps} (r : Mvd d s s') (h0 : 0 < s.h.length) : s'.rest = s.rest.map (Hi.mv d) := by
  unfold Ps.rest
  rw [r.h, List.length_map, popL_mv (by omega), List.map_take]
theorem cmpP_mv (a b c e f g x y z : Int) : cmpP (a + x) (b + y) (c + z) (e + x) (f + y) (g + z) = cmpP a b c e f g := by
  have h : ∀ a e x : Int, sgn (a + x) (e + x) = sgn a e := fun a e x => by
    unfold sgn
    by_cases h1 : a < e
    · rw [if_pos h1, if_pos (by omega)]
    · rw [if_neg h1, if_neg (by omega)]
      by_cases h2 : e < a
      · rw [if_pos h2, if_pos (by omega)]
      · rw [if_neg h2, if_neg (by omega)]
  unfold cmpP; rw [h, h, h]
theorem looksP_mv {P : Prob} (hP : Sound P) (hP' : Sound (P.mv d)) {b : Bx} (hv : b.v = true) (hw : b.wi P.reg) {fd : Bool} {x x' : Loc} (hx : fd = true → x' = x.mvp d) : looksP (P.mv d) fd x' (b.mv d) = (looksP P fd x b).mvp d := by
  obtain ⟨c0, c1, c2⟩ := Bx.mv_c (d := d) hv (Bx.mv_v hP' hv hw)
  obtain ⟨m1, m2⟩ := at_mv (d := d) hP hP' (Bx.has_wi (Bx.center_in hv).1 hw)
  have hc : lookC (P.mv d) (!fd) x' (b.mv d) = lookC P (!fd) x b := by
    cases fd
    · rfl
    · have e := hx rfl
      subst e
      unfold lookC
      rw [c0, c1, c2, m1]
      show (!true || decide (_ < x.m) || (decide (_ = x.m) && decide (cmpP (b.c0 + d.x) (b.c1 + d.y) (b.c2 + d.z) (x.px + d.x) (x.py + d.y) (x.pz + d.z) < 0))) = _
      rw [cmpP_mv]
  unfold looksP
  rw [hc, c0, c1, c2, m1, m2]
  cases h : lookC P (!fd) x b
  · cases fd
    · unfold lookC at h; simp at h
    · exact hx rfl
  · rfl
theorem Mvd.start {P : Prob} (hP : Sound P) (hP' : Sound (P.mv d)) : Mvd d (Ps.start P) (Ps.start (P.mv d)) := by
  have hb := bxC_mv (b := P.reg) hP hP' hP.vb (Bx.wi_refl _)
  refine Mvd.mk ?_ ?_ ?_ ?_ ?_
  · unfold Ps.start
    simp only []
    rw [show (P.mv d).reg = P.reg.mv d from rfl, hb, ← pushH_mv]
    rfl
  all_goals simp [Ps.start]
theorem Mvd.ended {s s' : Ps} (r : Mvd d s s') (tol : Int) : s'.ended tol = s.ended tol := by
  unfold Ps.ended
  rw [r.h, r.fd, List.length_map]
  by_cases h0 : s.h.length = 0
  · rw [show decide (s.h.length = 0) = true from decide_eq_true h0]; rfl
  · cases hf : s.fd
    · rfl
    · rw [r.x hf, hiAt_mv (by omega)]; rfl
theorem Mvd.step {P : Prob} (hP : Sound P) (hP' : Sound (P.mv d)) {s s' : Ps} (r : Mvd d s s') (hF : Fine P s) (h0 : 0 < s.h.length) : Mvd d (s.step P) (s'.step (P.mv d)) := by
  obtain ⟨hv, hw⟩ := hF.all (hiAt s.h 0) (by rw [hiAt_eq h0]; exact List.getElem_mem h0)
  have hv' := Bx.mv_v hP' hv hw
  have hb : (hiAt s'.h 0).b = (hiAt s.h 0).b.mv d := by rw [r.h, hiAt_mv h0]; rfl
  have hok := Bx.mv_ok (d := d) hv hv'
  have hl := looksP_mv hP hP' hv hw (fd := s.fd) (x := s.x) (x' := s'.x) r.x
  unfold Ps.step
  rw [hb, hok, r.rest h0, r.num, r.tk, r.fd, hl]
  cases ho : (hiAt s.h 0).b.ok
  · exact ⟨rfl, rfl, rfl, rfl, fun _ => rfl⟩
  · rw [ho] at hok
    obtain ⟨p1, p3, p2, p4, -, -⟩ := Bx.parts hv ho
    refine ⟨?_, rfl, rfl, rfl, fun _ => rfl⟩
    simp only [if_true]
    rw [Bx.mv_fst ho hok, Bx.mv_snd ho hok, bxC_mv hP hP' p1 (Bx.wi_trans p2 hw), bxC_mv hP hP' p3 (Bx.wi_trans p4 hw), ← pushH_mv, ← pushH_mv]
    rfl
theorem Mvd.run {P : Prob} (hP : Sound P) (hP' : Sound (P.mv d)) (tol : Int) : ∀ (f : Nat) (s s' : Ps), Mvd d s s' → Fine P s → (Ps.run P tol f s = none ∧ Ps.run (P.mv d) tol f s' = none) ∨ ∃ e e', Ps.run P tol f s = some e ∧ Ps.run (P.mv d) tol f s' = some e' ∧ Mvd d e e'
  | 0, s, s', r, _ => by
    unfold Ps.run
    rw [r.ended]
    cases s.ended tol
    · exact .inl ⟨rfl, rfl⟩
    · exact .inr ⟨s, s', rfl, rfl, r⟩
  | f + 1, s, s', r, hF => by
    unfold Ps.run
    rw [r.ended]
    cases he : s.ended tol
    · have h0 : 0 < s.h.length := by
        unfold Ps.ended at he
        simp only [Bool.or_eq_false_iff, decide_eq_false_iff_not] at he
        omega
      exact Mvd.run hP hP' tol f _ _ (r.step hP hP' hF h0) (hF.step hP h0)
    · exact .inr ⟨s, s', rfl, rfl, r⟩
theorem moreU_mv (y : Loc) (i : Hi) : (y.mv d).moreU (i.mv d) = (y.moreU i).mv d := by
  unfold Loc.moreU Loc.mv Hi.mv Bx.mv
  dsimp only
  by_cases h : i.c < y.m
  · simp only [if_pos h]
    congr 1 <;> omega
  · simp only [if_neg h]
theorem foldU_mv : ∀ (l : List Hi) (y : Loc), (l.map (Hi.mv d)).foldl Loc.moreU (y.mv d) = (l.foldl Loc.moreU y).mv d
  | [], _ => rfl
  | i :: l, y => by rw [List.map_cons, List.foldl_cons, List.foldl_cons, moreU_mv, foldU_mv l]
/-- What Locate answers moves by the same way and time. -/
theorem locP_mv {P : Prob} (hP : Sound P) (hP' : Sound (P.mv d)) {tol : Int} (h0 : 0 ≤ tol) {X : Loc} (h : locP P tol = (X, 0)) : locP (P.mv d) tol = (X.mv d, 0) := by
  unfold locP at h ⊢
  rw [if_neg (by rw [sound_iff.2 hP]; simp), if_neg (by omega)] at h
  rw [if_neg (by rw [sound_iff.2 hP']; simp), if_neg (by omega)]
  rcases Same.run hP tol 3000 _ _ (Same.start P) (Fine.start hP) with ⟨hr, -⟩ | ⟨s, -, hr, -, -, hF, hE⟩
  · rw [hr] at h; exact absurd (Prod.mk.inj h).2 (by decide)
  rcases Same.run hP' tol 3000 _ _ (Same.start (P.mv d)) (Fine.start hP') with ⟨hr', -⟩ | ⟨s', -, hr', -, -, hF', hE'⟩
  · rcases Mvd.run hP hP' tol 3000 _ _ (Mvd.start hP hP') (Fine.start hP) with ⟨e1, -⟩ | ⟨_, _, -, e2, -⟩
    · rw [hr] at e1; cases e1
    · rw [hr'] at e2; cases e2
  rcases Mvd.run hP hP' tol 3000 _ _ (Mvd.start hP hP') (Fine.start hP) with ⟨e1, -⟩ | ⟨e, e', e1, e2, r⟩
  · rw [hr] at e1; cases e1
  rw [hr] at e1 h
  rw [hr'] at e2 ⊢
  obtain rfl : s = e := Option.some.inj e1
  obtain rfl : s' = e' := Option.some.inj e2
  obtain rfl : s.fin s.h.length = X := (Prod.mk.inj h).1
  have hfd := hF.fd_end hE; have hfd' := hF'.fd_end hE'
  show (s'.fin s'.h.length, (0 : Int)) = _
  rw [Ps.fin_fold (hF.one_ok hP hfd) (fun i hi => (hF.all i hi).1) _ (Nat.le_refl _), Ps.fin_fold (hF'.one_ok hP' hfd') (fun i hi => (hF'.all i hi).1) _ (Nat.le_refl _), List.take_length, List.take_length, r.h, r.x hfd]
  exact congrArg (·, (0 : Int)) (foldU_mv s.h s.x.one)
end
end Go.Proofs.YtgaglgopbdfemaaGreatDoor
namespace Go.Proofs.YtgaglgopbdfemaaGreatDoor
set_option linter.all false
open Go.RowKit Rg
theorem Good.time {P : Prob} (h : Good P) {x y z : Int} (hw : wiP x y z x y z P.x0 P.y0 P.z0 P.x1 P.y1 P.z1 = true) : -4000000000000 ≤ tt P x y z ∧ tt P x y z ≤ 4000000000000 := by
  obtain ⟨-, hm, -⟩ := best_spec (cap := P.cap) (phs := P.phs) (zs := zonesL P x y z x y z) (by rw [zonesL_length]; exact h.sound.some.1)
  obtain ⟨q, hq, e⟩ := mem_timesOf.1 hm
  unfold zonesL at hq
  obtain ⟨a, ha, rfl⟩ := List.mem_map.1 hq
  have hN := ((h.near a ha).within hw).1
  obtain ⟨-, e1, e2⟩ := hN.zE (h.ph a ha).ok
  obtain ⟨n0, n1, n2⟩ := far_small hN.vb hN.vp
  have tb := time_bounds hN.ok n0 (by omega) (Int.le_trans (ceilI_mono n0 n1) hN.reach)
  have tb2 := time_bounds hN.ok (by omega : 0 ≤ farD x y z x y z a.x a.y a.z) (by omega) hN.reach
  have hg := h.ph a ha
  have hg1 := hg.2.1; have hg2 := hg.2.2.1; have hg3 := hg.2.2.2.1
  unfold tt
  rcases e with e | e
  · rw [e]; show _ ≤ znF _ _ _ _ _ _ _ _ _ _ _ _ _ _ _ ∧ znF _ _ _ _ _ _ _ _ _ _ _ _ _ _ _ ≤ _; rw [e1]; omega
  · rw [e]; show _ ≤ znT _ _ _ _ _ _ _ _ _ _ _ _ _ _ _ ∧ znT _ _ _ _ _ _ _ _ _ _ _ _ _ _ _ ≤ _; rw [e2]; omega
end Go.Proofs.YtgaglgopbdfemaaGreatDoor
set_option linter.all false
namespace Go.Proofs.YtgaglgopbdfemaaGreatDoor
open Go.RowKit Rg
/-- A drawn problem, moved, is sound. -/
theorem Good.soundMv {P : Prob} (h : Good P) {side : Int} (hB : boxIn 20 side P.x0 P.y0 P.z0 P.x1 P.y1 P.z1) (hs : side ≤ 40) {d : Way} (hd : placeIn 500 d.x d.y d.z) (ht : 0 ≤ d.t ∧ d.t ≤ 1099511627776) : Sound (P.mv d) := by
  have hB' := hB
  unfold boxIn placeIn at hB'
  have hd' := hd
  unfold placeIn at hd'
  have v0 : vP (P.x0 + d.x) (P.y0 + d.y) (P.z0 + d.z) = true := vP_mk (by omega)
  have v1 : vP (P.x1 + d.x) (P.y1 + d.y) (P.z1 + d.z) = true := vP_mk (by omega)
  have vb : bP (P.x0 + d.x) (P.y0 + d.y) (P.z0 + d.z) (P.x1 + d.x) (P.y1 + d.y) (P.z1 + d.z) = true := by
    simp only [bP, v0, v1, Bool.true_and, Bool.and_eq_true, decide_eq_true_eq]; omega
  refine ⟨vb, h.sound.ok, by simpa [Prob.mv] using h.sound.some, h.sound.cap, ?_⟩
  intro a ha
  obtain ⟨b, hb, rfl⟩ := List.mem_map.1 (show a ∈ P.phs.map (Ph.mv d) from ha)
  have n := h.near b hb
  obtain ⟨g0, g1, g2, g3, g4, g5⟩ := h.ph b hb
  unfold placeIn at g0
  have hv : vP (b.x + d.x) (b.y + d.y) (b.z + d.z) = true := vP_mk (by omega)
  have n' : Near P.step P.ls P.hs (P.x0 + d.x) (P.y0 + d.y) (P.z0 + d.z) (P.x1 + d.x) (P.y1 + d.y) (P.z1 + d.z) (b.x + d.x) (b.y + d.y) (b.z + d.z) := ⟨h.sound.ok, vb, hv, by rw [farD_mv]; exact n.reach⟩
  exact (n'.zE (e := b.e + d.t) (l := b.l + d.t) (n := b.n) (phP_iff.2 ⟨hv, by omega, by omega, by omega, by omega, by omega⟩)).1
theorem moved_plain {P : Prob} (h : Good P) {side : Int} (hB : boxIn 20 side P.x0 P.y0 P.z0 P.x1 P.y1 P.z1) (hs : side ≤ 40) (hp : P.reg.pts ≤ 1500) {d : Way} (hd : placeIn 500 d.x d.y d.z) (ht : 0 ≤ d.t ∧ d.t ≤ 1099511627776) {tol : Int} (h0 : 0 ≤ tol) (h1 : tol ≤ 1000000) :
    ∃ y : Loc, locP P tol = (y, 0) ∧ locP (P.mv d) tol = (y.mv d, 0) ∧ ((-1000 ≤ y.px ∧ y.px ≤ 1000) ∧ (-1000 ≤ y.py ∧ y.py ≤ 1000) ∧ (-1000 ≤ y.pz ∧ y.pz ≤ 1000)) ∧ (-4000000000000 ≤ y.t ∧ y.t ≤ 4000000000000) ∧
      ((-1000 ≤ y.a0 ∧ y.a0 ≤ 1000) ∧ (-1000 ≤ y.a1 ∧ y.a1 ≤ 1000) ∧ (-1000 ≤ y.a2 ∧ y.a2 ≤ 1000) ∧ (-1000 ≤ y.a3 ∧ y.a3 ≤ 1000) ∧ (-1000 ≤ y.a4 ∧ y.a4 ≤ 1000) ∧ (-1000 ≤ y.a5 ∧ y.a5 ≤ 1000)) := by
  obtain ⟨y, hy, hin, hv, hw, -, -, -, -, -, ht', -, -⟩ := least_plain h h0 h1 hp
  have hB' := hB
  unfold boxIn placeIn at hB'
  have hin' := hin
  unfold Bx.has Prob.reg at hin'
  dsimp only at hin'
  unfold Bx.wi Prob.reg at hw
  dsimp only at hw
  have hv' := bP_iff (show bP y.a0 y.a1 y.a2 y.a3 y.a4 y.a5 = true from hv)
  have hT := h.time (x := y.px) (y := y.py) (z := y.pz) (wiP_point h.sound.vb (by omega) (by omega) (by omega))
  rw [← ht'] at hT
  obtain ⟨v0, v1, o0, o1, o2⟩ := hv'
  exact ⟨y, hy, locP_mv h.sound (h.soundMv hB hs hd ht) h0 hy, by omega, hT, by omega⟩
end Go.Proofs.YtgaglgopbdfemaaGreatDoor
