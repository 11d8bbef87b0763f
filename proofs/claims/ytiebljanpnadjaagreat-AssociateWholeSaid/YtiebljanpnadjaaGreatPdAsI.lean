/- Fnd AsI -/
import Derived.Test.YtiebljanpnadjaaGreatPdLeastA
import Derived.Test.YtiebljanpnadjaaGreatPdAsM
namespace Go.Proofs.YtiebljanpnadjaaGreat
set_option linter.all false
open Go.RowKit
/-- A phase whose arrival begins at the least travel time from an origin. -/
def Fits (step : Int) (ls : List Int) (px py pz t : Int) (a : Ph) : Prop := a.e = t + at0 ls (loI step (floorI (sqD a.x a.y a.z px py pz))) ∧ a.e ≤ a.l
theorem Good.fits {P : Prob} (h : Good P) {px py pz t : Int} (hw : wiP px py pz px py pz P.x0 P.y0 P.z0 P.x1 P.y1 P.z1 = true) {a : Ph} (ha : a ∈ P.phs) (hf : Fits P.step P.ls px py pz t a) : resid (zoneOf P.step P.ls P.hs px py pz px py pz a) t = 0 := by
  have hN := ((h.near a ha).within hw).1
  obtain ⟨-, e1, e2⟩ := hN.zE (h.ph a ha).ok
  obtain ⟨o1, o2⟩ := one_near px py pz a.x a.y a.z
  obtain ⟨n0, n1, n2⟩ := far_small hN.vb hN.vp
  have hlh := low_high hN.ok n0 n1 (by omega) hN.reach
  rw [o1, o2] at hlh
  rw [o2] at e1
  rw [o1] at e2
  obtain ⟨f1, f2⟩ := hf
  rw [sqD_comm] at f1
  unfold resid zoneOf
  dsimp only
  rw [e1, e2]
  unfold loA at hlh ⊢
  omega
theorem finds_plain {P : Prob} (h : Good P) {px py pz t : Int} (hx : P.reg.has px py pz) (hf : ∀ a ∈ P.phs, Fits P.step P.ls px py pz t a) (hp : P.reg.pts ≤ 1500) :
    ∃ y : Loc, locP P 0 = (y, 0) ∧ y.m = 0 ∧ wiP y.px y.py y.pz y.px y.py y.pz P.x0 P.y0 P.z0 P.x1 P.y1 P.z1 = true ∧ y.t = tt P y.px y.py y.pz ∧ ∀ r ∈ resL (zonesL P y.px y.py y.pz y.px y.py y.pz) (tt P y.px y.py y.pz), r = 0 := by
  obtain ⟨y, e, hin, -, -, -, -, -, -, -, ht, hm, hall⟩ := least_plain h (tol := 0) (Int.le_refl _) (by omega) hp
  have hrv : P.reg.v = true := h.sound.vb
  have hpt : ∀ {q r t : Int}, P.reg.has q r t → wiP q r t q r t P.x0 P.y0 P.z0 P.x1 P.y1 P.z1 = true := fun {q r t} hq => wiP_point hrv ⟨hq.1, hq.2.1⟩ ⟨hq.2.2.1, hq.2.2.2.1⟩ ⟨hq.2.2.2.2.1, hq.2.2.2.2.2⟩
  have hlen : ∀ a b c, (zonesL P a b c a b c).length = P.phs.length := fun a b c => zonesL_length P a b c a b c
  have h0 := h.sound.some.1
  have hmx : mm P px py pz px py pz ≤ 0 := by
    have hb := best_all (cap := P.cap) (phs := P.phs) (zs := zonesL P px py pz px py pz) (by rw [hlen]; exact h0) (h.even (hpt hx)) t
    have hc : cost P.cap P.phs (zonesL P px py pz px py pz) t = 0 := costN_all _ (fun i hi => by
      unfold term
      rw [if_pos (by rw [hlen]; exact hi), zonesL_at _ _ _ _ _ _ _ _ hi, h.fits (hpt hx) (List.getElem_mem hi) (hf _ (List.getElem_mem hi))]
      have := h.sound.cap.1
      rw [show min P.cap 0 = 0 by omega, Int.mul_zero])
    unfold mm; omega
  have hy0 := h.mm_in (hpt hin)
  have hy1 := (hall _ _ _ hx).2.1
  have hym : y.m = 0 := by omega
  refine ⟨y, e, hym, hpt hin, ht, fun r hr => ?_⟩
  have hbs := (best_spec (cap := P.cap) (phs := P.phs) (zs := zonesL P y.px y.py y.pz y.px y.py y.pz) (by rw [hlen]; exact h0)).1
  have hz : costN P.cap P.phs (zonesL P y.px y.py y.pz y.px y.py y.pz) (tt P y.px y.py y.pz) P.phs.length = 0 := by
    have : mm P y.px y.py y.pz y.px y.py y.pz = 0 := by omega
    unfold mm at this
    rw [hbs] at this
    exact this
  have hterm := costN_zero (fun i hi => ((h.sound.fair y.px y.py y.pz y.px y.py y.pz).term_in (tt P y.px y.py y.pz) hi).1) _ (Nat.le_refl _) hz
  unfold resL at hr
  obtain ⟨z, hzm, rfl⟩ := List.mem_map.1 hr
  obtain ⟨i, hi, rfl⟩ := List.mem_iff_getElem.1 hzm
  rw [hlen] at hi
  have ht := hterm i hi
  unfold term at ht
  rw [if_pos (by rw [hlen]; exact hi)] at ht
  have hn := (h.ph _ (List.getElem_mem hi)).2.2.2.2.1
  rw [show P.phs[i]?.getD default = P.phs[i] by simp [hi]] at ht
  have e2 : (zonesL P y.px y.py y.pz y.px y.py y.pz)[i]?.getD default = (zonesL P y.px y.py y.pz y.px y.py y.pz)[i]'(by rw [hlen]; exact hi) := by simp [hlen, hi]
  rw [e2] at ht
  have hc := h.sound.cap.1
  have hr0 := resid_nn ((zonesL P y.px y.py y.pz y.px y.py y.pz)[i]'(by rw [hlen]; exact hi)) (tt P y.px y.py y.pz)
  generalize resid ((zonesL P y.px y.py y.pz y.px y.py y.pz)[i]'(by rw [hlen]; exact hi)) (tt P y.px y.py y.pz) = rr at *
  rcases Int.mul_eq_zero.1 ht with h1 | h1
  · omega
  · omega
end Go.Proofs.YtiebljanpnadjaaGreat
namespace Go.Proofs.YtiebljanpnadjaaGreat
set_option linter.all false
open Go.RowKit Rg
/-- The same settings with the tolerance 0, the span 2000 and the least number 2. -/
def Asc.wh (A : Asc) : Asc := ⟨A.x0, A.y0, A.z0, A.x1, A.y1, A.z1, A.st, A.ls, A.hs, A.cap, 0, 2000, A.lim, 2⟩
def Asc.t0 (A : Asc) : Asc := ⟨A.x0, A.y0, A.z0, A.x1, A.y1, A.z1, A.st, A.ls, A.hs, A.cap, 0, A.span, A.lim, A.least⟩
theorem AscGood.tol0 {side : Int} {A : Asc} (h : AscGood side A) : AscGood side A.t0 := ⟨h.box, h.tab, h.st, h.rea, h.len, h.low, h.cap, .inl rfl, h.span, h.lim, h.least⟩
theorem AscGood.avH {side : Int} {A : Asc} {P : List Ph} (h : AscGood side A) (hs : side ≤ 8) (hp : ∀ a ∈ P, goodPh a) (hl : P.length ≤ 30) : Go.Proofs.YtiebljanpnadjaaGreat.avE A.wh P = 0 := by
  have h1 := h.avE hs hp hl
  have hok := (avE_ok h1).1
  have hok2 : A.wh.ok = true := by
    unfold Asc.ok at hok ⊢
    simp only [Bool.and_eq_true] at hok ⊢
    obtain ⟨⟨⟨⟨⟨⟨a1, a2⟩, a3⟩, a4⟩, a5⟩, a6⟩, a7⟩ := hok
    exact ⟨⟨⟨⟨⟨⟨a1, a2⟩, a3⟩, inI_iff.2 (by decide : (0 : Int) ≤ 0 ∧ (0 : Int) ≤ 1099511627776)⟩, a5⟩, inI_iff.2 (by decide : (0 : Int) ≤ 2000 ∧ (2000 : Int) ≤ 1099511627776)⟩, inI_iff.2 (by decide : (2 : Int) ≤ 2 ∧ (2 : Int) ≤ 16)⟩
  unfold Go.Proofs.YtiebljanpnadjaaGreat.avE at h1 ⊢
  rw [if_neg (by rw [hok]; decide), if_neg (by omega)] at h1
  rw [if_neg (by rw [hok2]; decide), if_neg (by omega)]
  exact h1
theorem takeWhile_all {α : Type} {p : α → Bool} {l : List α} (h : ∀ x ∈ l, p x = true) : l.takeWhile p = l := by
  induction l with
  | nil => rfl
  | cons a l ih => rw [List.takeWhile_cons, h a (List.mem_cons_self ..), ih (fun x hx => h x (List.mem_cons_of_mem _ hx))]; rfl
theorem trc_nil (A : Asc) (P : List Ph) (f : Nat) : trc A P f [] = (0, [], []) := by cases f <;> rfl
theorem tOk_nn {st : Int} {ls hs : List Int} (h : tOk st ls hs) (i : Nat) : 0 ≤ at0 ls i := by
  by_cases hi : i < ls.length
  · exact (tOk_at h hi).1
  · unfold at0
    rw [List.getElem?_eq_none (by omega)]
    exact Int.le_refl _
theorem whole_plain {side : Int} {A : Asc} {P : List Ph} (h : AscGood side A) (hs : side ≤ 8) (hp : ∀ a ∈ P, goodPh a) (hn : 2 ≤ P.length ∧ P.length ≤ 16) {px py pz t : Int} (hx : A.x0 ≤ px ∧ px ≤ A.x1 ∧ A.y0 ≤ py ∧ py ≤ A.y1 ∧ A.z0 ≤ pz ∧ pz ≤ A.z1) (hf : ∀ a ∈ P, Fits A.st A.ls px py pz t a) :
    ∃ y : Loc, assocR A.wh P = (0, [grpOf P (List.range P.length) y], []) := by
  have hlt : ∀ i ∈ List.range P.length, i < P.length := fun i hi => List.mem_range.1 hi
  have hG := h.good (by omega) hp (W := List.range P.length) (by simp; omega) (by simp; omega) hlt
  have hb := h.box
  unfold boxIn placeIn at hb
  have hpts : (A.prob ((List.range P.length).map (phO P))).reg.pts ≤ 1500 := pts_side (by show A.x1 - A.x0 ≤ 8; omega) (by show A.y1 - A.y0 ≤ 8; omega) (by show A.z1 - A.z0 ≤ 8; omega) hG.sound.vb
  obtain ⟨y, hy, -, -, hyt, hyr⟩ := finds_plain hG (px := px) (py := py) (pz := pz) (t := t) hx (fun a ha => by
    obtain ⟨i, hi, rfl⟩ := List.mem_map.1 ha
    exact hf _ (phO_mem (hlt i hi))) hpts
  have hloc : locA A.wh P (List.range P.length) = (y, 0) := hy
  have hres : resEr (A.wh.prob ((List.range P.length).map (phO P))) y = 0 := by
    have h2 := (h.tol0.loc hs hp (W := List.range P.length) (by simp; omega) (by simp; omega) hlt).2
    have h3 : locA A.t0 P (List.range P.length) = (y, 0) := hy
    rw [h3] at h2
    exact h2
  have hwin : winOf A.wh.span P (List.range P.length) = List.range P.length := by
    obtain ⟨m, hm⟩ : ∃ m, P.length = m + 1 := ⟨P.length - 1, by omega⟩
    have hr : List.range P.length = 0 :: (List.range m).map Nat.succ := by rw [hm, List.range_succ_eq_map]
    rw [hr]
    show ((0 :: (List.range m).map Nat.succ).takeWhile (winC 2000 P 0)).take 16 = _
    rw [← hr, takeWhile_all (fun i hi => ?_), List.take_of_length_le (by simp; omega)]
    unfold winC
    rw [elA_phO, elA_phO]
    have f1 := (hf _ (phO_mem (hlt i hi))).1
    have f2 := (hf _ (phO_mem (P := P) (i := 0) (by omega))).1
    have n2 := tOk_nn h.tab (loI A.st (floorI (sqD (phO P 0).x (phO P 0).y (phO P 0).z px py pz)))
    have l1 := h.low (loI A.st (floorI (sqD (phO P i).x (phO P i).y (phO P i).z px py pz)))
    exact decide_eq_true (by omega)
  have hmem : memOf A.wh P (List.range P.length) y = List.range P.length := by
    unfold memOf
    refine List.filter_eq_self.2 fun i hi => ?_
    have hi' := hlt i hi
    have hg := resL_get (A := A) (P := P) (W := List.range P.length) (X := y) (k := i) (i := i) (by simp [hi'])
    have hl : i < (resL (zonesL (A.prob ((List.range P.length).map (phO P))) y.px y.py y.pz y.px y.py y.pz) y.t).length := by
      unfold resL
      rw [List.length_map, zonesL_length]
      show i < ((List.range P.length).map (phO P)).length
      simpa using hi'
    have h0 : at0 (resL (zonesL (A.prob ((List.range P.length).map (phO P))) y.px y.py y.pz y.px y.py y.pz) y.t) i = 0 := by
      unfold at0
      rw [List.getElem?_eq_getElem hl]
      refine hyr _ ?_
      rw [← hyt]
      exact List.getElem_mem hl
    have e : resOf A.wh y (phO P i) = resOf A y (phO P i) := rfl
    rw [e, ← hg, h0]
    refine decide_eq_true ?_
    show 0 ≤ A.lim
    have := h.lim; omega
  refine ⟨y, ?_⟩
  rw [assoc_trc (h.avH hs hp (by omega))]
  have ht : trc A.wh P (P.length + 1) (List.range P.length) = (0, [(List.range P.length, y)], []) := by
    obtain ⟨m, hm⟩ : ∃ m, P.length = m + 1 := ⟨P.length - 1, by omega⟩
    have hr : List.range P.length = 0 :: (List.range m).map Nat.succ := by rw [hm, List.range_succ_eq_map]
    rw [hr, trc, ← hr, hwin, hloc, hmem]
    have h2 : A.wh.least = 2 := rfl
    rw [if_neg (by rw [h2, List.length_range]; omega), if_neg (by simp), if_neg (by simpa using hres), if_neg (by rw [h2, List.length_range]; omega)]
    have hfl : (List.range P.length).filter (fun i => decide (i ∉ List.range P.length)) = [] := List.filter_eq_nil_iff.2 fun i hi => by simp [hlt i hi]
    rw [hfl, trc_nil]
    rfl
  rw [ht, trR_zero rfl]
  dsimp only
  have e : srt ((([] : List Nat) ++ ([] : List Nat).map (oA P)).map (fun (i : Nat) => (i : Int))) = [] := srt_of (by simp) (by simp)
  rw [e]
  simp
/-- .. and the group explains them. -/
theorem whole_expl {side : Int} {A : Asc} {P : List Ph} {g : Grp} (h : AscGood side A) (hs : side ≤ 8) (hp : ∀ a ∈ P, goodPh a) (hl : P.length ≤ 30) (hg : g ∈ (assocR A.wh P).2.1) : explB A.wh P g.ms g.x g.y g.z g.t = true := by
  have hv := h.avH hs hp hl
  rw [assocR_ok hv] at hg
  rcases rnd_good A.wh P _ _ [] [] List.nodup_range (fun i hi => List.mem_range.1 hi) g hg with h | h
  · simp at h
  · exact good_expl hv h
theorem grpOf_len (P : List Ph) (M : List Nat) (y : Loc) : (grpOf P M y).ms.length = M.length := by
  show (srt _).length = _
  rw [srt_len, List.length_map]
end Go.Proofs.YtiebljanpnadjaaGreat
