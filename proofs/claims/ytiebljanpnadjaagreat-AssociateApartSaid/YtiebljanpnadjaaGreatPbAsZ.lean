/- QrA Zer AsZ AsK -/
import Derived.Test.YtiebljanpnadjaaGreatPbProb
import Derived.Test.YtiebljanpnadjaaGreatPbMisP
import Derived.Test.YtiebljanpnadjaaGreatPbAsQ
import Derived.Test.YtiebljanpnadjaaGreatPbLeastA
import Derived.Test.YtiebljanpnadjaaGreatPbAsD
namespace Go.Proofs.YtiebljanpnadjaaGreat
set_option linter.all false
section LOrder
open Go.RowKit
end LOrder
section LQr
open Go.RowKit Rg
theorem pts_side {x0 y0 z0 x1 y1 z1 : Int} (h0 : x1 - x0 ≤ 8) (h1 : y1 - y0 ≤ 8) (h2 : z1 - z0 ≤ 8) (hv : bP x0 y0 z0 x1 y1 z1 = true) : ptsP x0 y0 z0 x1 y1 z1 ≤ 1500 := by
  obtain ⟨v0, v1, o0, o1, o2⟩ := bP_iff hv
  unfold ptsP ptsD
  rw [hv]
  simp only [if_true]
  have m1 : (x1 - x0 + 1) * (y1 - y0 + 1) ≤ 9 * 9 := Int.mul_le_mul (by omega) (by omega) (by omega) (by omega)
  have p1 : 0 ≤ (x1 - x0 + 1) * (y1 - y0 + 1) := Int.mul_nonneg (by omega) (by omega)
  have m2 : (x1 - x0 + 1) * (y1 - y0 + 1) * (z1 - z0 + 1) ≤ (9 * 9) * 9 := Int.mul_le_mul m1 (by omega) (by omega) (by omega)
  omega
section
end
end LQr
end Go.Proofs.YtiebljanpnadjaaGreat
namespace Go.Proofs.YtiebljanpnadjaaGreat
set_option linter.all false
open Go.RowKit Rg
theorem Good.time {P : Prob} (h : Good P) {x y z : Int} (hw : wiP x y z x y z P.x0 P.y0 P.z0 P.x1 P.y1 P.z1 = true) : -4000000000000 ≤ tt P x y z ∧ tt P x y z ≤ 4000000000000 := by
  obtain ⟨-, hm, -⟩ := best_spec (cap := P.cap) (phs := P.phs) (zs := zonesL P x y z x y z) (by rw [zonesL_length]; exact h.sound.some.1)
  obtain ⟨q, hq, e⟩ := mem_timesOf.1 hm
  unfold zonesL at hq
  obtain ⟨a, ha, rfl⟩ := List.mem_map.1 hq
  have hN := ((h.near a ha).within hw).1
  obtain ⟨-, e1, e2⟩ := hN.zE (h.ph a ha).ok
  obtain ⟨n0, n1, n2⟩ := far_small hN.vb hN.vp
  have tb := time_bounds hN.ok n0 (by omega) (Int.le_trans (ceilI_mono n0 n1) hN.reach)
  have tb2 := time_bounds hN.ok (by omega : 0 ≤ farD x y z x y z a.x a.y a.z) (by omega) hN.reach
  have hg := h.ph a ha
  have hg1 := hg.2.1; have hg2 := hg.2.2.1; have hg3 := hg.2.2.2.1
  unfold tt
  rcases e with e | e
  · rw [e]; show _ ≤ znF _ _ _ _ _ _ _ _ _ _ _ _ _ _ _ ∧ znF _ _ _ _ _ _ _ _ _ _ _ _ _ _ _ ≤ _; rw [e1]; omega
  · rw [e]; show _ ≤ znT _ _ _ _ _ _ _ _ _ _ _ _ _ _ _ ∧ znT _ _ _ _ _ _ _ _ _ _ _ _ _ _ _ ≤ _; rw [e2]; omega
end Go.Proofs.YtiebljanpnadjaaGreat
namespace Go.Proofs.YtiebljanpnadjaaGreat
set_option linter.all false
open Go.RowKit Rg
theorem phO_mem {P : List Ph} {i : Nat} (h : i < P.length) : phO P i ∈ P := by
  have h2 := oA_lt h
  have e : phO P i = P[oA P i] := by show phA P (oA P i) = _; unfold phA; rw [List.getElem?_eq_getElem h2]; rfl
  rw [e]; exact List.getElem_mem h2
theorem AscGood.good {side : Int} {A : Asc} {P : List Ph} (h : AscGood side A) (hs : side ≤ 40) (hp : ∀ a ∈ P, goodPh a) {W : List Nat} (h0 : 0 < W.length) (h1 : W.length ≤ 16) (hW : ∀ i ∈ W, i < P.length) : Good (A.prob (W.map (phO P))) := by
  refine good_mk (P := A.prob (W.map (phO P))) h.box hs h.tab (reach_small h.tab.1 h.st h.rea h.len).1 ?_ ?_ ?_ ?_
  · show A.cap ∈ _
    rcases h.cap with e | e | e <;> rw [e] <;> simp
  · show 0 < (W.map (phO P)).length
    simpa using h0
  · show ((W.map (phO P)).length : Int) ≤ 30
    rw [List.length_map]; omega
  · intro a ha
    obtain ⟨i, hi, rfl⟩ := List.mem_map.1 ha
    exact hp _ (phO_mem (hW i hi))
theorem AscGood.tolb {side : Int} {A : Asc} (h : AscGood side A) : 0 ≤ A.tol ∧ A.tol ≤ 1000000 := by
  rcases h.tol with e | e | e | e <;> omega
theorem AscGood.loc {side : Int} {A : Asc} {P : List Ph} (h : AscGood side A) (hs : side ≤ 8) (hp : ∀ a ∈ P, goodPh a) {W : List Nat} (h0 : 0 < W.length) (h1 : W.length ≤ 16) (hW : ∀ i ∈ W, i < P.length) : (locA A P W).2 = 0 ∧ resEr (A.prob (W.map (phO P))) (locA A P W).1 = 0 := by
  have hG := h.good (by omega) hp h0 h1 hW
  have hb := h.box
  unfold boxIn placeIn at hb
  have hpts0 : ptsP A.x0 A.y0 A.z0 A.x1 A.y1 A.z1 ≤ 1500 := pts_side (by omega) (by omega) (by omega) hG.sound.vb
  have hpts : (A.prob (W.map (phO P))).reg.pts ≤ 1500 := hpts0
  obtain ⟨y, e, hin, -, -, -, -, -, -, -, ht, -⟩ := least_plain hG h.tolb.1 h.tolb.2 hpts
  have hw : wiP y.px y.py y.pz y.px y.py y.pz A.x0 A.y0 A.z0 A.x1 A.y1 A.z1 = true := wiP_point hG.sound.vb ⟨hin.1, hin.2.1⟩ ⟨hin.2.2.1, hin.2.2.2.1⟩ ⟨hin.2.2.2.2.1, hin.2.2.2.2.2⟩
  have hz := hG.zones hw
  have htm := hG.time hw
  have e2 : locA A P W = (y, 0) := e
  rw [e2]
  refine ⟨rfl, ?_⟩
  unfold resEr
  dsimp only
  rw [if_neg (by rw [hz]; decide), if_neg (by rw [ht]; omega)]
theorem rnd_zero {side : Int} {A : Asc} {P : List Ph} (h : AscGood side A) (hs : side ≤ 8) (hp : ∀ a ∈ P, goodPh a) : ∀ (f : Nat) (rest : List Nat) (gs : List Grp) (lf : List Nat), (∀ i ∈ rest, i < P.length) → (rnd A P f rest gs lf).1 = 0
  | 0, _, _, _, _ => rfl
  | f + 1, [], gs, lf, _ => rfl
  | f + 1, r :: rs, gs, lf, hlt => by
    have hr3 : ∀ i ∈ rs, i < P.length := fun i hi => hlt i (List.mem_cons_of_mem _ hi)
    have hlm := h.least
    rw [rnd]
    split
    · exact rnd_zero h hs hp f rs gs _ hr3
    · next hc =>
      obtain ⟨e1, e2⟩ := h.loc hs hp (W := winOf A.span P (r :: rs)) (by omega) winOf_len (fun i hi => hlt i (winOf_sub.subset hi))
      rw [if_neg (by rw [e1]; simp), if_neg (by rw [e2]; simp)]
      split
      · exact rnd_zero h hs hp f rs gs _ hr3
      · exact rnd_zero h hs hp f _ _ lf (fun i hi => hlt i (List.mem_filter.1 hi).1)
theorem AscGood.avE {side : Int} {A : Asc} {P : List Ph} (h : AscGood side A) (hs : side ≤ 8) (hp : ∀ a ∈ P, goodPh a) (hl : P.length ≤ 30) : avE A P = 0 := by
  have hb := boxIn_ok h.box (by omega) (by omega)
  have hok : A.ok = true := by
    unfold Asc.ok
    have t := h.tolb; have l := h.least
    have e1 : inI A.cap 1 1099511627776 = true := inI_iff.2 (by have := h.cap; omega)
    have e2 : inI A.tol 0 1099511627776 = true := inI_iff.2 (by omega)
    have e3 : inI A.lim 0 1099511627776 = true := inI_iff.2 (by have := h.lim; omega)
    have e4 : inI A.span 0 1099511627776 = true := inI_iff.2 (by have := h.span; omega)
    have e5 : inI A.least 2 16 = true := inI_iff.2 (by omega)
    have e6 : tE A.st A.ls A.hs = 0 := by unfold tE; simp [h.tab]
    rw [hb, e1, e2, e3, e4, e5, e6]; rfl
  unfold Go.Proofs.YtiebljanpnadjaaGreat.avE
  rw [if_neg (by rw [hok]; decide), if_neg (by omega)]
  refine errOf_zero.2 fun a ha => ?_
  exact ((near_mk h.tab (reach_small h.tab.1 h.st h.rea h.len).1 h.box (hp a ha).1 (by omega) (by omega) (by omega)).zE (hp a ha).ok).1
end Go.Proofs.YtiebljanpnadjaaGreat
namespace Go.Proofs.YtiebljanpnadjaaGreat
set_option linter.all false
open Go.RowKit Rg
theorem mem_lt {n : Nat} {all : List Int} (h : all.Perm ((List.range n).map (fun (i : Nat) => (i : Int)))) {x : Int} (hx : x ∈ all) : ∃ i : Nat, x = (i : Int) ∧ i < n := by
  obtain ⟨i, hi, e⟩ := List.mem_map.1 (h.subset hx)
  exact ⟨i, e.symm, List.mem_range.1 hi⟩
end Go.Proofs.YtiebljanpnadjaaGreat
