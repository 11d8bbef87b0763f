/- An origin that explains all phases is found: plain. -/
import Derived.Test.YtcealhikmbchoaaLeastA
namespace Go.Proofs.Ytcealhikmbchoaa
set_option linter.all false
open Go.RowKit

/-- A phase whose arrival begins at the least travel time from an origin. -/
def Fits (step : Int) (ls : List Int) (px py pz t : Int) (a : Ph) : Prop := a.e = t + at0 ls (loI step (floorI (sqD a.x a.y a.z px py pz))) ∧ a.e ≤ a.l
theorem Good.fits {P : Prob} (h : Good P) {px py pz t : Int} (hw : wiP px py pz px py pz P.x0 P.y0 P.z0 P.x1 P.y1 P.z1 = true) {a : Ph} (ha : a ∈ P.phs) (hf : Fits P.step P.ls px py pz t a) : resid (zoneOf P.step P.ls P.hs px py pz px py pz a) t = 0 := by
  have hN := ((h.near a ha).within hw).1
  obtain ⟨-, e1, e2⟩ := hN.zE (h.ph a ha).ok
  obtain ⟨o1, o2⟩ := one_near px py pz a.x a.y a.z
  obtain ⟨n0, n1, n2⟩ := far_small hN.vb hN.vp
  have hlh := low_high hN.ok n0 n1 (by omega) hN.reach
  rw [o1, o2] at hlh
  rw [o2] at e1
  rw [o1] at e2
  obtain ⟨f1, f2⟩ := hf
  rw [sqD_comm] at f1
  unfold resid zoneOf
  dsimp only
  rw [e1, e2]
  unfold loA at hlh ⊢
  omega
theorem finds_plain {P : Prob} (h : Good P) {px py pz t : Int} (hx : P.reg.has px py pz) (hf : ∀ a ∈ P.phs, Fits P.step P.ls px py pz t a) (hp : P.reg.pts ≤ 1500) :
    ∃ y : Loc, locP P 0 = (y, 0) ∧ y.m = 0 ∧ wiP y.px y.py y.pz y.px y.py y.pz P.x0 P.y0 P.z0 P.x1 P.y1 P.z1 = true ∧ y.t = tt P y.px y.py y.pz ∧ ∀ r ∈ resL (zonesL P y.px y.py y.pz y.px y.py y.pz) (tt P y.px y.py y.pz), r = 0 := by
  obtain ⟨y, e, hin, -, -, -, -, -, -, -, ht, hm, hall⟩ := least_plain h (tol := 0) (Int.le_refl _) (by omega) hp
  have hrv : P.reg.v = true := h.sound.vb
  have hpt : ∀ {q r t : Int}, P.reg.has q r t → wiP q r t q r t P.x0 P.y0 P.z0 P.x1 P.y1 P.z1 = true := fun {q r t} hq => wiP_point hrv ⟨hq.1, hq.2.1⟩ ⟨hq.2.2.1, hq.2.2.2.1⟩ ⟨hq.2.2.2.2.1, hq.2.2.2.2.2⟩
  have hlen : ∀ a b c, (zonesL P a b c a b c).length = P.phs.length := fun a b c => zonesL_length P a b c a b c
  have h0 := h.sound.some.1
  have hmx : mm P px py pz px py pz ≤ 0 := by
    have hb := best_all (cap := P.cap) (phs := P.phs) (zs := zonesL P px py pz px py pz) (by rw [hlen]; exact h0) (h.even (hpt hx)) t
    have hc : cost P.cap P.phs (zonesL P px py pz px py pz) t = 0 := costN_all _ (fun i hi => by
      unfold term
      rw [if_pos (by rw [hlen]; exact hi), zonesL_at _ _ _ _ _ _ _ _ hi, h.fits (hpt hx) (List.getElem_mem hi) (hf _ (List.getElem_mem hi))]
      have := h.sound.cap.1
      rw [show min P.cap 0 = 0 by omega, Int.mul_zero])
    unfold mm; omega
  have hy0 := h.mm_in (hpt hin)
  have hy1 := (hall _ _ _ hx).2.1
  have hym : y.m = 0 := by omega
  refine ⟨y, e, hym, hpt hin, ht, fun r hr => ?_⟩
  have hbs := (best_spec (cap := P.cap) (phs := P.phs) (zs := zonesL P y.px y.py y.pz y.px y.py y.pz) (by rw [hlen]; exact h0)).1
  have hz : costN P.cap P.phs (zonesL P y.px y.py y.pz y.px y.py y.pz) (tt P y.px y.py y.pz) P.phs.length = 0 := by
    have : mm P y.px y.py y.pz y.px y.py y.pz = 0 := by omega
    unfold mm at this
    rw [hbs] at this
    exact this
  have hterm := costN_zero (fun i hi => ((h.sound.fair y.px y.py y.pz y.px y.py y.pz).term_in (tt P y.px y.py y.pz) hi).1) _ (Nat.le_refl _) hz
  unfold resL at hr
  obtain ⟨z, hzm, rfl⟩ := List.mem_map.1 hr
  obtain ⟨i, hi, rfl⟩ := List.mem_iff_getElem.1 hzm
  rw [hlen] at hi
  have ht := hterm i hi
  unfold term at ht
  rw [if_pos (by rw [hlen]; exact hi)] at ht
  have hn := (h.ph _ (List.getElem_mem hi)).2.2.2.2.1
  rw [show P.phs[i]?.getD default = P.phs[i] by simp [hi]] at ht
  have e2 : (zonesL P y.px y.py y.pz y.px y.py y.pz)[i]?.getD default = (zonesL P y.px y.py y.pz y.px y.py y.pz)[i]'(by rw [hlen]; exact hi) := by simp [hlen, hi]
  rw [e2] at ht
  have hc := h.sound.cap.1
  have hr0 := resid_nn ((zonesL P y.px y.py y.pz y.px y.py y.pz)[i]'(by rw [hlen]; exact hi)) (tt P y.px y.py y.pz)
  generalize resid ((zonesL P y.px y.py y.pz y.px y.py y.pz)[i]'(by rw [hlen]; exact hi)) (tt P y.px y.py y.pz) = rr at *
  rcases Int.mul_eq_zero.1 ht with h1 | h1
  · omega
  · omega
end Go.Proofs.Ytcealhikmbchoaa
