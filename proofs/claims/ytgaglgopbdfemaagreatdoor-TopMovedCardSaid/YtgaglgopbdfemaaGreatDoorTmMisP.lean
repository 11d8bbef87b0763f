/- MisP -/
import Derived.Test.YtgaglgopbdfemaaGreatDoorTmRgMade
import Derived.Test.YtgaglgopbdfemaaGreatDoorTmMis
import Derived.Test.YtgaglgopbdfemaaGreatDoorTmBndP
import Derived.Test.YtgaglgopbdfemaaGreatDoorTmProb
namespace Go.Proofs.YtgaglgopbdfemaaGreatDoor
set_option linter.all false
section LMisP
section LMisP
open Go.RowKit
theorem costN_mono {cap : Int} {phs : List Ph} {zs zs' : List Zn} {t t' : Int} : ∀ k, (∀ i, i < k → term cap phs zs t i ≤ term cap phs zs' t' i) → costN cap phs zs t k ≤ costN cap phs zs' t' k
  | 0, _ => by simp [costN]
  | k + 1, h => by
    have a := costN_mono k (fun i hi => h i (by omega)); have b := h k (by omega)
    simp only [costN]; omega
theorem costN_mix {cap : Int} {phs : List Ph} {zs : List Zn} {a b t X Y : Int} : ∀ k, (∀ i, i < k → X * term cap phs zs a i + Y * term cap phs zs b i ≤ (X + Y) * term cap phs zs t i) →
    X * costN cap phs zs a k + Y * costN cap phs zs b k ≤ (X + Y) * costN cap phs zs t k
  | 0, _ => by simp [costN]
  | k + 1, h => by
    have p := costN_mix k (fun i hi => h i (by omega)); have q := h k (by omega)
    simp only [costN, Int.mul_add]; omega
/-- A capped distance mixes from above. -/
theorem cap_mix {X Y r s u cap : Int} (hX : 0 ≤ X) (hY : 0 ≤ Y) (h : (X + Y) * u = X * r + Y * s) : X * min cap r + Y * min cap s ≤ (X + Y) * min cap u := by
  have h1 : X * min cap r ≤ X * r := Int.mul_le_mul_of_nonneg_left (by omega) hX
  have h2 : Y * min cap s ≤ Y * s := Int.mul_le_mul_of_nonneg_left (by omega) hY
  have h3 : X * min cap r ≤ X * cap := Int.mul_le_mul_of_nonneg_left (by omega) hX
  have h4 : Y * min cap s ≤ Y * cap := Int.mul_le_mul_of_nonneg_left (by omega) hY
  rcases Int.le_total cap u with hc | hc
  · rw [Int.min_eq_left hc, Int.add_mul]; omega
  · rw [Int.min_eq_right hc, h]; omega
theorem term_mix {cap : Int} {phs : List Ph} {zs : List Zn} {a b t X Y : Int} {i : Nat} (hn : 0 ≤ (phs[i]?.getD default).n) (hX : 0 ≤ X) (hY : 0 ≤ Y)
    (h : i < zs.length → (X + Y) * resid (zs[i]?.getD default) t = X * resid (zs[i]?.getD default) a + Y * resid (zs[i]?.getD default) b) : X * term cap phs zs a i + Y * term cap phs zs b i ≤ (X + Y) * term cap phs zs t i := by
  unfold term
  split
  · rename_i hi
    have hm := cap_mix (cap := cap) hX hY (h hi)
    generalize (phs[i]?.getD default).n = n at *
    generalize min cap (resid (zs[i]?.getD default) t) = p at *
    generalize min cap (resid (zs[i]?.getD default) a) = q at *
    generalize min cap (resid (zs[i]?.getD default) b) = r at *
    have := Int.mul_le_mul_of_nonneg_left hm hn
    have e1 : n * (X * q + Y * r) = X * (n * q) + Y * (n * r) := by grind
    have e2 : n * ((X + Y) * p) = (X + Y) * (n * p) := by grind
    omega
  · simp
theorem term_le {cap : Int} {phs : List Ph} {zs zs' : List Zn} {t t' : Int} {i : Nat} (hn : 0 ≤ (phs[i]?.getD default).n) (hl : i < zs.length ↔ i < zs'.length) (h : i < zs.length → resid (zs[i]?.getD default) t ≤ resid (zs'[i]?.getD default) t') : term cap phs zs t i ≤ term cap phs zs' t' i := by
  unfold term
  by_cases hi : i < zs.length
  · rw [if_pos hi, if_pos (hl.1 hi)]
    have := h hi
    exact Int.mul_le_mul_of_nonneg_left (by omega) hn
  · rw [if_neg hi, if_neg (fun k => hi (hl.2 k))]; omega
/-- What the fold finds. -/
theorem fold_better {cap : Int} {phs : List Ph} {zs : List Zn} : ∀ (ts : List Int) (b : Int × Int), b.2 = cost cap phs zs b.1 →
    (ts.foldl (better cap phs zs) b).2 = cost cap phs zs (ts.foldl (better cap phs zs) b).1 ∧ ((ts.foldl (better cap phs zs) b).1 = b.1 ∨ (ts.foldl (better cap phs zs) b).1 ∈ ts) ∧
    ((ts.foldl (better cap phs zs) b).2 ≤ b.2 ∧ (b.2 = (ts.foldl (better cap phs zs) b).2 → (ts.foldl (better cap phs zs) b).1 ≤ b.1)) ∧
    ∀ t ∈ ts, (ts.foldl (better cap phs zs) b).2 ≤ cost cap phs zs t ∧ (cost cap phs zs t = (ts.foldl (better cap phs zs) b).2 → (ts.foldl (better cap phs zs) b).1 ≤ t)
  | [], b, hb => ⟨hb, .inl rfl, ⟨Int.le_refl _, fun _ => Int.le_refl _⟩, by simp⟩
  | t :: ts, b, hb => by
    have hbt : (better cap phs zs b t).2 = cost cap phs zs (better cap phs zs b t).1 ∧ ((better cap phs zs b t).1 = b.1 ∨ (better cap phs zs b t).1 = t) ∧ ((better cap phs zs b t).2 ≤ b.2 ∧ (b.2 = (better cap phs zs b t).2 → (better cap phs zs b t).1 ≤ b.1)) ∧
        ((better cap phs zs b t).2 ≤ cost cap phs zs t ∧ (cost cap phs zs t = (better cap phs zs b t).2 → (better cap phs zs b t).1 ≤ t)) := by
      unfold better
      split
      · exact ⟨rfl, .inr rfl, ⟨by simp only []; omega, by simp only []; omega⟩, Int.le_refl _, fun _ => Int.le_refl _⟩
      · exact ⟨hb, .inl rfl, ⟨Int.le_refl _, fun _ => Int.le_refl _⟩, by omega, by omega⟩
    obtain ⟨h1, h2, ⟨h3, h3'⟩, h4, h4'⟩ := hbt
    rw [List.foldl_cons]
    generalize better cap phs zs b t = c at *
    obtain ⟨k1, k2, ⟨k3, k3'⟩, k4⟩ := fold_better ts c h1
    generalize ts.foldl (better cap phs zs) c = r at *
    refine ⟨k1, ?_, ⟨by omega, by omega⟩, ?_⟩
    · rcases k2 with k2 | k2
      · rcases h2 with h2 | h2
        · exact .inl (k2.trans h2)
        · exact .inr (by rw [k2, h2]; exact List.mem_cons_self)
      · exact .inr (List.mem_cons_of_mem _ k2)
    · intro u hu
      rcases List.mem_cons.1 hu with rfl | hu
      · exact ⟨by omega, by omega⟩
      · exact k4 u hu
theorem best_spec {cap : Int} {phs : List Ph} {zs : List Zn} (h : 0 < zs.length) : (best cap phs zs).2 = cost cap phs zs (best cap phs zs).1 ∧ (best cap phs zs).1 ∈ timesOf zs ∧
    ∀ t ∈ timesOf zs, (best cap phs zs).2 ≤ cost cap phs zs t ∧ (cost cap phs zs t = (best cap phs zs).2 → (best cap phs zs).1 ≤ t) := by
  unfold best
  have hl := timesOf_length zs
  cases hT : timesOf zs with
  | nil => rw [hT] at hl; simp at hl; omega
  | cons t ts =>
    obtain ⟨k1, k2, ⟨k3, k3'⟩, k4⟩ := fold_better (cap := cap) (phs := phs) (zs := zs) ts (t, cost cap phs zs t) rfl
    unfold bestOf
    refine ⟨k1, ?_, fun u hu => ?_⟩
    · rcases k2 with k2 | k2
      · rw [k2]; exact List.mem_cons_self
      · exact List.mem_cons_of_mem _ k2
    · rcases List.mem_cons.1 hu with rfl | hu
      · exact ⟨k3, fun e => k3' e⟩
      · exact k4 u hu
/-- The greatest of a list's numbers up to t, the least from t on. -/
theorem list_below : ∀ (l : List Int) (t : Int), (∀ x ∈ l, t < x) ∨ ∃ a ∈ l, a ≤ t ∧ ∀ x ∈ l, x ≤ t → x ≤ a
  | [], t => .inl (by simp)
  | x :: l, t => by
    rcases list_below l t with h | ⟨a, ha, h1, h2⟩
    · rcases Int.lt_or_le t x with hx | hx
      · exact .inl (by intro y hy; rcases List.mem_cons.1 hy with rfl | hy; exact hx; exact h y hy)
      · refine .inr ⟨x, List.mem_cons_self, hx, fun y hy hyt => ?_⟩
        rcases List.mem_cons.1 hy with rfl | hy
        · omega
        · have := h y hy; omega
    · by_cases hx : x ≤ t ∧ a < x
      · refine .inr ⟨x, List.mem_cons_self, hx.1, fun y hy hyt => ?_⟩
        rcases List.mem_cons.1 hy with rfl | hy
        · omega
        · have := h2 y hy hyt; omega
      · refine .inr ⟨a, List.mem_cons_of_mem _ ha, h1, fun y hy hyt => ?_⟩
        rcases List.mem_cons.1 hy with rfl | hy
        · omega
        · exact h2 y hy hyt
theorem list_above (l : List Int) (t : Int) : (∀ x ∈ l, x < t) ∨ ∃ b ∈ l, t ≤ b ∧ ∀ x ∈ l, t ≤ x → b ≤ x := by
  rcases list_below (l.map fun x => -x) (-t) with h | ⟨a, ha, h1, h2⟩
  · exact .inl fun x hx => by have := h (-x) (List.mem_map.2 ⟨x, hx, rfl⟩); omega
  · obtain ⟨b, hb, rfl⟩ := List.mem_map.1 ha
    exact .inr ⟨b, hb, by omega, fun x hx hxt => by have := h2 (-x) (List.mem_map.2 ⟨x, hx, rfl⟩) (by omega); omega⟩
/-- Weights are not negative; zones are intervals. -/
structure Even (phs : List Ph) (zs : List Zn) : Prop where
  wt : ∀ i : Nat, 0 ≤ (phs[i]?.getD default).n
  iv : ∀ i : Nat, i < zs.length → (zs[i]?.getD default).f ≤ (zs[i]?.getD default).t
/-- P27.2: no time is better than the best one. -/
theorem best_all {cap : Int} {phs : List Ph} {zs : List Zn} (h : 0 < zs.length) (he : Even phs zs) (t : Int) : (best cap phs zs).2 ≤ cost cap phs zs t := by
  obtain ⟨-, -, hall⟩ := best_spec (cap := cap) (phs := phs) h
  have hmem : ∀ i, i < zs.length → (zs[i]?.getD default).f ∈ timesOf zs ∧ (zs[i]?.getD default).t ∈ timesOf zs := fun i hi => by
    rw [show zs[i]?.getD default = zs[i] by simp [hi]]
    exact ⟨mem_timesOf.2 ⟨_, List.getElem_mem hi, .inl rfl⟩, mem_timesOf.2 ⟨_, List.getElem_mem hi, .inr rfl⟩⟩
  have up : ∀ a ∈ timesOf zs, (∀ i, i < phs.length → term cap phs zs a i ≤ term cap phs zs t i) → (best cap phs zs).2 ≤ cost cap phs zs t := fun a ha hm => by
    have h1 := (hall a ha).1
    have h2 := costN_mono (cap := cap) (phs := phs) (zs := zs) (zs' := zs) (t := a) (t' := t) phs.length hm
    unfold cost at *; omega
  rcases list_below (timesOf zs) t with hb | ⟨a, ha, ha1, ha2⟩
  · -- all are behind t
    rcases list_above (timesOf zs) t with hc | ⟨b, hbm, hb1, hb2⟩
    · have := (hmem 0 h).1; have := hb _ this; have := hc _ (hmem 0 h).1; omega
    · refine up b hbm fun i hi => term_le (he.wt i) Iff.rfl fun hz => ?_
      obtain ⟨m1, m2⟩ := hmem i hz
      have := he.iv i hz; have := hb2 _ m1 (by have := hb _ m1; omega); have := hb _ m1
      unfold resid; omega
  · rcases list_above (timesOf zs) t with hc | ⟨b, hbm, hb1, hb2⟩
    · refine up a ha fun i hi => term_le (he.wt i) Iff.rfl fun hz => ?_
      obtain ⟨m1, m2⟩ := hmem i hz
      have := he.iv i hz; have := ha2 _ m2 (by have := hc _ m2; omega); have := hc _ m2
      unfold resid; omega
    · by_cases hta : t = a
      · subst hta; exact (hall _ ha).1
      by_cases htb : t = b
      · subst htb; exact (hall _ hbm).1
      have mix := costN_mix (cap := cap) (phs := phs) (zs := zs) (a := a) (b := b) (t := t) (X := b - t) (Y := t - a) phs.length (fun i hi => term_mix (he.wt i) (by omega) (by omega) (fun hz => by
        obtain ⟨m1, m2⟩ := hmem i hz
        have hiv := he.iv i hz
        have c1 : (zs[i]?.getD default).f ≤ a ∨ b ≤ (zs[i]?.getD default).f := by
          rcases Int.le_total (zs[i]?.getD default).f t with q | q
          · exact .inl (ha2 _ m1 q)
          · exact .inr (hb2 _ m1 q)
        have c2 : (zs[i]?.getD default).t ≤ a ∨ b ≤ (zs[i]?.getD default).t := by
          rcases Int.le_total (zs[i]?.getD default).t t with q | q
          · exact .inl (ha2 _ m2 q)
          · exact .inr (hb2 _ m2 q)
        generalize zs[i]?.getD default = z at *
        obtain ⟨f, g⟩ := z
        simp only [] at hiv c1 c2
        rcases c1 with c1 | c1
        · rcases c2 with c2 | c2
          · rw [show resid ⟨f, g⟩ t = t - g by unfold resid; simp only []; omega, show resid ⟨f, g⟩ a = a - g by unfold resid; simp only []; omega, show resid ⟨f, g⟩ b = b - g by unfold resid; simp only []; omega]; grind
          · rw [show resid ⟨f, g⟩ t = 0 by unfold resid; simp only []; omega, show resid ⟨f, g⟩ a = 0 by unfold resid; simp only []; omega, show resid ⟨f, g⟩ b = 0 by unfold resid; simp only []; omega]; simp
        · rw [show resid ⟨f, g⟩ t = f - t by unfold resid; simp only []; omega, show resid ⟨f, g⟩ a = f - a by unfold resid; simp only []; omega, show resid ⟨f, g⟩ b = f - b by unfold resid; simp only []; omega]; grind))
      have h1 := (hall a ha).1; have h2 := (hall b hbm).1
      unfold cost at h1 h2 ⊢
      generalize (best cap phs zs).2 = m at *
      generalize costN cap phs zs a phs.length = fa at *
      generalize costN cap phs zs b phs.length = fb at *
      generalize costN cap phs zs t phs.length = ft at *
      have k1 := Int.mul_le_mul_of_nonneg_left h1 (show 0 ≤ b - t by omega)
      have k2 := Int.mul_le_mul_of_nonneg_left h2 (show 0 ≤ t - a by omega)
      have k3 : (b - t + (t - a)) * m ≤ (b - t + (t - a)) * ft := by rw [Int.add_mul (b - t) (t - a) m]; omega
      exact Int.le_of_mul_le_mul_left k3 (by omega)
/-- Wider zones, a lesser misfit. -/
theorem best_wider {cap : Int} {phs : List Ph} {zs zs' : List Zn} (h : 0 < zs.length) (hl : zs.length = zs'.length) (he : Even phs zs) (hw : ∀ i, i < zs.length → (zs[i]?.getD default).f ≤ (zs'[i]?.getD default).f ∧ (zs'[i]?.getD default).t ≤ (zs[i]?.getD default).t) :
    (best cap phs zs).2 ≤ (best cap phs zs').2 := by
  rw [(best_spec (cap := cap) (phs := phs) (zs := zs') (by omega)).1]
  refine Int.le_trans (best_all h he (best cap phs zs').1) ?_
  unfold cost
  refine costN_mono _ fun i hi => term_le (he.wt i) (by rw [hl]) fun hz => ?_
  have := hw i hz
  unfold resid; omega
end LMisP
section LMisQ
open Go.RowKit Rg
theorem goodPh.ok {a : Ph} (h : goodPh a) : phP a.x a.y a.z a.e a.l a.n = true :=
  phP_iff.2 ⟨place_ok h.1 (by omega), h.2.1, h.2.2.1, by have := h.2.2.2.1; omega, h.2.2.2.2.1, by have := h.2.2.2.2.2; omega⟩
theorem Near.zE {step : Int} {ls hs : List Int} {x0 y0 z0 x1 y1 z1 px py pz e l n : Int} (h : Near step ls hs x0 y0 z0 x1 y1 z1 px py pz) (hp : phP px py pz e l n = true) :
    znE step ls hs x0 y0 z0 x1 y1 z1 px py pz e l n = 0 ∧ znF step ls hs x0 y0 z0 x1 y1 z1 px py pz e l n = e - hiA step hs (ceilI (farD x0 y0 z0 x1 y1 z1 px py pz)) ∧ znT step ls hs x0 y0 z0 x1 y1 z1 px py pz e l n = l - loA step ls (floorI (nearD x0 y0 z0 x1 y1 z1 px py pz)) := by
  obtain ⟨a, b, c⟩ := h.bnd
  have he : znE step ls hs x0 y0 z0 x1 y1 z1 px py pz e l n = 0 := by unfold znE; rw [if_pos h.ok, if_pos h.vb, if_pos hp]; exact c
  unfold znF znT; rw [if_pos he, if_pos he, a, b]; exact ⟨he, rfl, rfl⟩
/-- What a drawn problem is. -/
structure Good (P : Prob) : Prop where
  sound : Sound P
  near : ∀ a ∈ P.phs, Near P.step P.ls P.hs P.x0 P.y0 P.z0 P.x1 P.y1 P.z1 a.x a.y a.z
  ph : ∀ a ∈ P.phs, goodPh a
theorem good_mk {P : Prob} {side : Int} (hb : boxIn 20 side P.x0 P.y0 P.z0 P.x1 P.y1 P.z1) (hs : side ≤ 40) (hT : tOk P.step P.ls P.hs) (hr : 400 ≤ reachS P.step P.ls) (hc : P.cap ∈ ([10, 50, 200, 1000] : List Int)) (h0 : 0 < P.phs.length) (h1 : (P.phs.length : Int) ≤ 30) (hp : ∀ a ∈ P.phs, goodPh a) : Good P := by
  have nr : ∀ a ∈ P.phs, Near P.step P.ls P.hs P.x0 P.y0 P.z0 P.x1 P.y1 P.z1 a.x a.y a.z := fun a ha => near_mk hT hr hb (hp a ha).1 (by omega) hs (by omega)
  refine ⟨⟨boxIn_ok hb (by omega) (by omega), hT, ⟨h0, by omega⟩, ?_, fun a ha => ((nr a ha).zE (hp a ha).ok).1⟩, nr, hp⟩
  simp only [List.mem_cons, List.not_mem_nil, or_false] at hc
  omega
/-- Zones of a box within the region. -/
theorem Good.zones {P : Prob} (h : Good P) {b0 b1 b2 b3 b4 b5 : Int} (hw : wiP b0 b1 b2 b3 b4 b5 P.x0 P.y0 P.z0 P.x1 P.y1 P.z1 = true) : zonesE P b0 b1 b2 b3 b4 b5 = 0 := by
  unfold zonesE
  rw [if_pos (sound_iff.2 h.sound), if_pos hw]
  exact errOf_zero.2 fun a ha => (((h.near a ha).within hw).1.zE (h.ph a ha).ok).1
theorem zonesL_length (P : Prob) (b0 b1 b2 b3 b4 b5 : Int) : (zonesL P b0 b1 b2 b3 b4 b5).length = P.phs.length := by simp [zonesL]
theorem zonesL_at (P : Prob) (b0 b1 b2 b3 b4 b5 : Int) (i : Nat) (hi : i < P.phs.length) : (zonesL P b0 b1 b2 b3 b4 b5)[i]?.getD default = zoneOf P.step P.ls P.hs b0 b1 b2 b3 b4 b5 P.phs[i] := by simp [zonesL, hi]
theorem Good.even {P : Prob} (h : Good P) {b0 b1 b2 b3 b4 b5 : Int} (hw : wiP b0 b1 b2 b3 b4 b5 P.x0 P.y0 P.z0 P.x1 P.y1 P.z1 = true) : Even P.phs (zonesL P b0 b1 b2 b3 b4 b5) := by
  refine ⟨fun i => ?_, fun i hi => ?_⟩
  · by_cases hi : i < P.phs.length
    · rw [show P.phs[i]?.getD default = P.phs[i] by simp [hi]]
      have := (h.ph _ (List.getElem_mem hi)).2.2.2.2.1; omega
    · rw [show P.phs[i]?.getD default = default by simp [hi]]; decide
  · rw [zonesL_length] at hi
    rw [zonesL_at _ _ _ _ _ _ _ _ hi]
    have hm := List.getElem_mem hi
    have hN := ((h.near _ hm).within hw).1
    obtain ⟨-, e1, e2⟩ := hN.zE (h.ph _ hm).ok
    show znF _ _ _ _ _ _ _ _ _ _ _ _ _ _ _ ≤ znT _ _ _ _ _ _ _ _ _ _ _ _ _ _ _
    rw [e1, e2]
    have hg := h.ph _ hm
    obtain ⟨n0, n1, n2⟩ := far_small hN.vb hN.vp
    have := low_high hN.ok n0 n1 (by omega) hN.reach
    have := hg.2.2.1
    omega
/-- A box's misfit bounds what lies in it. -/
theorem Good.wider {P : Prob} (h : Good P) {b0 b1 b2 b3 b4 b5 c0 c1 c2 c3 c4 c5 : Int} (hw : wiP b0 b1 b2 b3 b4 b5 P.x0 P.y0 P.z0 P.x1 P.y1 P.z1 = true) (hc : wiP c0 c1 c2 c3 c4 c5 b0 b1 b2 b3 b4 b5 = true) :
    (best P.cap P.phs (zonesL P b0 b1 b2 b3 b4 b5)).2 ≤ (best P.cap P.phs (zonesL P c0 c1 c2 c3 c4 c5)).2 := by
  refine best_wider (by rw [zonesL_length]; exact h.sound.some.1) (by rw [zonesL_length, zonesL_length]) (h.even hw) fun i hi => ?_
  rw [zonesL_length] at hi
  rw [zonesL_at _ _ _ _ _ _ _ _ hi, zonesL_at _ _ _ _ _ _ _ _ hi]
  have hm := List.getElem_mem hi
  have hN := ((h.near _ hm).within hw).1
  obtain ⟨hN', k1, k2⟩ := hN.within hc
  obtain ⟨-, e1, e2⟩ := hN.zE (h.ph _ hm).ok
  obtain ⟨-, e3, e4⟩ := hN'.zE (h.ph _ hm).ok
  show znF _ _ _ _ _ _ _ _ _ _ _ _ _ _ _ ≤ znF _ _ _ _ _ _ _ _ _ _ _ _ _ _ _ ∧ znT _ _ _ _ _ _ _ _ _ _ _ _ _ _ _ ≤ znT _ _ _ _ _ _ _ _ _ _ _ _ _ _ _
  rw [e1, e2, e3, e4]
  omega
theorem wiP_point {x0 y0 z0 x1 y1 z1 q r s : Int} (h : bP x0 y0 z0 x1 y1 z1 = true) (h0 : x0 ≤ q ∧ q ≤ x1) (h1 : y0 ≤ r ∧ r ≤ y1) (h2 : z0 ≤ s ∧ s ≤ z1) : wiP q r s q r s x0 y0 z0 x1 y1 z1 = true := by
  obtain ⟨v0, v1, o0, o1, o2⟩ := bP_iff h
  have i0 := vP_iff v0; have i1 := vP_iff v1
  have hv : vP q r s = true := vP_mk (by omega)
  exact wiP_iff.2 ⟨bP_mk hv hv (by omega) (by omega) (by omega), h, by omega, by omega, by omega, by omega, by omega, by omega⟩
end LMisQ
section LMisR
open Go.RowKit Rg
/-- At's time, and the misfit of a box. -/
def mm (P : Prob) (b0 b1 b2 b3 b4 b5 : Int) : Int := (best P.cap P.phs (zonesL P b0 b1 b2 b3 b4 b5)).2
def tt (P : Prob) (x y z : Int) : Int := (best P.cap P.phs (zonesL P x y z x y z)).1
theorem Good.at {P : Prob} (h : Good P) {vl vh vp : Value} {cs : Array Value} (hcs : cs = P.val vl vh vp) (x y z : Int) (u : World) (hw : wiP x y z x y z P.x0 P.y0 P.z0 P.x1 P.y1 P.z1 = true) (hi : ProbIn P vl vh vp u) :
    Calls Tryz.prog 110 #[.agg cs, .agg #[.int .i64 x, .int .i64 y, .int .i64 z]] u fun e w' => e = .returned (.tuple #[.int .i64 (tt P x y z), .int .i64 (mm P x y z x y z), .int .i64 0]) ∧ u.grownBy w' none := by
  have hb := at_any P vl vh vp x y z u hi (by have := h.sound.some; omega)
  unfold atV at hb
  rw [if_pos (h.zones hw)] at hb
  rw [hcs]; exact hb
end LMisR
end LMisP
section LMisZ
section LMisZ
open Go.RowKit Rg
end LMisZ
end LMisZ
end Go.Proofs.YtgaglgopbdfemaaGreatDoor
