/- AsM QrA Zer AsZ AsU AsT -/
import Derived.Test.YtiebljanpnadjaaGreatPdProb
import Derived.Test.YtiebljanpnadjaaGreatPdMisP
import Derived.Test.YtiebljanpnadjaaGreatPdAsQ
import Derived.Test.YtiebljanpnadjaaGreatPdAsD
import Derived.Test.YtiebljanpnadjaaGreatPdLeastA
import Derived.Test.YtiebljanpnadjaaGreatPdAsF
import Derived.Test.YtiebljanpnadjaaGreatPdSwpA
namespace Go.Proofs.YtiebljanpnadjaaGreat
set_option linter.all false
open Go.RowKit Rg
abbrev Trc := Int × List (List Nat × Loc) × List Nat
/-- One more is left out. -/
def Trc.left (r : Nat) (t : Trc) : Trc := if t.1 ≠ 0 then (t.1, [], []) else (0, t.2.1, r :: t.2.2)
/-- One more group. -/
def Trc.more (M : List Nat) (X : Loc) (t : Trc) : Trc := if t.1 ≠ 0 then (t.1, [], []) else (0, (M, X) :: t.2.1, t.2.2)
/-- The rounds, in places of the order. -/
noncomputable def trc (A : Asc) (P : List Ph) : Nat → List Nat → Trc
  | 0, _ => (0, [], [])
  | _ + 1, [] => (0, [], [])
  | f + 1, r :: rs =>
    if ((winOf A.span P (r :: rs)).length : Int) < A.least then Trc.left r (trc A P f rs)
    else if (locA A P (winOf A.span P (r :: rs))).2 ≠ 0 then ((locA A P (winOf A.span P (r :: rs))).2, [], [])
    else if resEr (A.prob ((winOf A.span P (r :: rs)).map (phO P))) (locA A P (winOf A.span P (r :: rs))).1 ≠ 0 then (resEr (A.prob ((winOf A.span P (r :: rs)).map (phO P))) (locA A P (winOf A.span P (r :: rs))).1, [], [])
    else if ((memOf A P (winOf A.span P (r :: rs)) (locA A P (winOf A.span P (r :: rs))).1).length : Int) < A.least then Trc.left r (trc A P f rs)
    else Trc.more (memOf A P (winOf A.span P (r :: rs)) (locA A P (winOf A.span P (r :: rs))).1) (locA A P (winOf A.span P (r :: rs))).1 (trc A P f ((r :: rs).filter (fun i => decide (i ∉ memOf A P (winOf A.span P (r :: rs)) (locA A P (winOf A.span P (r :: rs))).1))))
/-- What the rounds return, read off. -/
noncomputable def trR (P : List Ph) (gs : List Grp) (lf : List Nat) (t : Trc) : Int × List Grp × List Nat :=
  if t.1 ≠ 0 then (t.1, [], []) else (0, gs ++ t.2.1.map (fun x => grpOf P x.1 x.2), lf ++ t.2.2.map (oA P))
theorem trR_left (P : List Ph) (gs : List Grp) (lf : List Nat) (r : Nat) (t : Trc) : trR P gs lf (Trc.left r t) = trR P gs (lf ++ [oA P r]) t := by
  unfold trR Trc.left
  by_cases h : t.1 = 0
  · simp [h]
  · simp [h]
theorem trR_more (P : List Ph) (gs : List Grp) (lf : List Nat) (M : List Nat) (X : Loc) (t : Trc) : trR P gs lf (Trc.more M X t) = trR P (gs ++ [grpOf P M X]) lf t := by
  unfold trR Trc.more
  by_cases h : t.1 = 0
  · simp [h]
  · simp [h]
theorem trR_err (P : List Ph) (gs : List Grp) (lf : List Nat) {c : Int} (h : c ≠ 0) : trR P gs lf (c, [], []) = (c, [], []) := by
  unfold trR
  simp [h]
theorem rnd_trc (A : Asc) (P : List Ph) : ∀ (f : Nat) (rest : List Nat) (gs : List Grp) (lf : List Nat), rnd A P f rest gs lf = trR P gs lf (trc A P f rest)
  | 0, _, gs, lf => by simp [rnd, trc, trR]
  | f + 1, [], gs, lf => by simp [rnd, trc, trR]
  | f + 1, r :: rs, gs, lf => by
    rw [rnd, trc]
    split
    · rw [trR_left]; exact rnd_trc A P f rs gs _
    · split
      · next h => rw [trR_err _ _ _ h]
      · split
        · next h => rw [trR_err _ _ _ h]
        · split
          · rw [trR_left]; exact rnd_trc A P f rs gs _
          · rw [trR_more]; exact rnd_trc A P f _ _ lf
section
variable {A : Asc} {P R : List Ph} {d : Nat} {T : List Nat}
theorem elA_phO (P : List Ph) (i : Nat) : elA P i = (phO P i).e := rfl
/-- The same, elsewhere. -/
def Trc.shift (d : Nat) (t u : Trc) : Trc := if t.1 ≠ 0 then (t.1, [], []) else if u.1 ≠ 0 then (u.1, [], []) else (0, t.2.1.map (fun x => (x.1.map (· + d), x.2)) ++ u.2.1, t.2.2.map (· + d) ++ u.2.2)
end
end Go.Proofs.YtiebljanpnadjaaGreat
namespace Go.Proofs.YtiebljanpnadjaaGreat
set_option linter.all false
section LOrder
open Go.RowKit
end LOrder
section LQr
open Go.RowKit Rg
theorem pts_side {x0 y0 z0 x1 y1 z1 : Int} (h0 : x1 - x0 ≤ 8) (h1 : y1 - y0 ≤ 8) (h2 : z1 - z0 ≤ 8) (hv : bP x0 y0 z0 x1 y1 z1 = true) : ptsP x0 y0 z0 x1 y1 z1 ≤ 1500 := by
  obtain ⟨v0, v1, o0, o1, o2⟩ := bP_iff hv
  unfold ptsP ptsD
  rw [hv]
  simp only [if_true]
  have m1 : (x1 - x0 + 1) * (y1 - y0 + 1) ≤ 9 * 9 := Int.mul_le_mul (by omega) (by omega) (by omega) (by omega)
  have p1 : 0 ≤ (x1 - x0 + 1) * (y1 - y0 + 1) := Int.mul_nonneg (by omega) (by omega)
  have m2 : (x1 - x0 + 1) * (y1 - y0 + 1) * (z1 - z0 + 1) ≤ (9 * 9) * 9 := Int.mul_le_mul m1 (by omega) (by omega) (by omega)
  omega
section
end
end LQr
end Go.Proofs.YtiebljanpnadjaaGreat
namespace Go.Proofs.YtiebljanpnadjaaGreat
set_option linter.all false
open Go.RowKit Rg
theorem Good.time {P : Prob} (h : Good P) {x y z : Int} (hw : wiP x y z x y z P.x0 P.y0 P.z0 P.x1 P.y1 P.z1 = true) : -4000000000000 ≤ tt P x y z ∧ tt P x y z ≤ 4000000000000 := by
  obtain ⟨-, hm, -⟩ := best_spec (cap := P.cap) (phs := P.phs) (zs := zonesL P x y z x y z) (by rw [zonesL_length]; exact h.sound.some.1)
  obtain ⟨q, hq, e⟩ := mem_timesOf.1 hm
  unfold zonesL at hq
  obtain ⟨a, ha, rfl⟩ := List.mem_map.1 hq
  have hN := ((h.near a ha).within hw).1
  obtain ⟨-, e1, e2⟩ := hN.zE (h.ph a ha).ok
  obtain ⟨n0, n1, n2⟩ := far_small hN.vb hN.vp
  have tb := time_bounds hN.ok n0 (by omega) (Int.le_trans (ceilI_mono n0 n1) hN.reach)
  have tb2 := time_bounds hN.ok (by omega : 0 ≤ farD x y z x y z a.x a.y a.z) (by omega) hN.reach
  have hg := h.ph a ha
  have hg1 := hg.2.1; have hg2 := hg.2.2.1; have hg3 := hg.2.2.2.1
  unfold tt
  rcases e with e | e
  · rw [e]; show _ ≤ znF _ _ _ _ _ _ _ _ _ _ _ _ _ _ _ ∧ znF _ _ _ _ _ _ _ _ _ _ _ _ _ _ _ ≤ _; rw [e1]; omega
  · rw [e]; show _ ≤ znT _ _ _ _ _ _ _ _ _ _ _ _ _ _ _ ∧ znT _ _ _ _ _ _ _ _ _ _ _ _ _ _ _ ≤ _; rw [e2]; omega
end Go.Proofs.YtiebljanpnadjaaGreat
namespace Go.Proofs.YtiebljanpnadjaaGreat
set_option linter.all false
open Go.RowKit Rg
theorem phO_mem {P : List Ph} {i : Nat} (h : i < P.length) : phO P i ∈ P := by
  have h2 := oA_lt h
  have e : phO P i = P[oA P i] := by show phA P (oA P i) = _; unfold phA; rw [List.getElem?_eq_getElem h2]; rfl
  rw [e]; exact List.getElem_mem h2
theorem AscGood.good {side : Int} {A : Asc} {P : List Ph} (h : AscGood side A) (hs : side ≤ 40) (hp : ∀ a ∈ P, goodPh a) {W : List Nat} (h0 : 0 < W.length) (h1 : W.length ≤ 16) (hW : ∀ i ∈ W, i < P.length) : Good (A.prob (W.map (phO P))) := by
  refine good_mk (P := A.prob (W.map (phO P))) h.box hs h.tab (reach_small h.tab.1 h.st h.rea h.len).1 ?_ ?_ ?_ ?_
  · show A.cap ∈ _
    rcases h.cap with e | e | e <;> rw [e] <;> simp
  · show 0 < (W.map (phO P)).length
    simpa using h0
  · show ((W.map (phO P)).length : Int) ≤ 30
    rw [List.length_map]; omega
  · intro a ha
    obtain ⟨i, hi, rfl⟩ := List.mem_map.1 ha
    exact hp _ (phO_mem (hW i hi))
theorem AscGood.tolb {side : Int} {A : Asc} (h : AscGood side A) : 0 ≤ A.tol ∧ A.tol ≤ 1000000 := by
  rcases h.tol with e | e | e | e <;> omega
theorem AscGood.loc {side : Int} {A : Asc} {P : List Ph} (h : AscGood side A) (hs : side ≤ 8) (hp : ∀ a ∈ P, goodPh a) {W : List Nat} (h0 : 0 < W.length) (h1 : W.length ≤ 16) (hW : ∀ i ∈ W, i < P.length) : (locA A P W).2 = 0 ∧ resEr (A.prob (W.map (phO P))) (locA A P W).1 = 0 := by
  have hG := h.good (by omega) hp h0 h1 hW
  have hb := h.box
  unfold boxIn placeIn at hb
  have hpts0 : ptsP A.x0 A.y0 A.z0 A.x1 A.y1 A.z1 ≤ 1500 := pts_side (by omega) (by omega) (by omega) hG.sound.vb
  have hpts : (A.prob (W.map (phO P))).reg.pts ≤ 1500 := hpts0
  obtain ⟨y, e, hin, -, -, -, -, -, -, -, ht, -⟩ := least_plain hG h.tolb.1 h.tolb.2 hpts
  have hw : wiP y.px y.py y.pz y.px y.py y.pz A.x0 A.y0 A.z0 A.x1 A.y1 A.z1 = true := wiP_point hG.sound.vb ⟨hin.1, hin.2.1⟩ ⟨hin.2.2.1, hin.2.2.2.1⟩ ⟨hin.2.2.2.2.1, hin.2.2.2.2.2⟩
  have hz := hG.zones hw
  have htm := hG.time hw
  have e2 : locA A P W = (y, 0) := e
  rw [e2]
  refine ⟨rfl, ?_⟩
  unfold resEr
  dsimp only
  rw [if_neg (by rw [hz]; decide), if_neg (by rw [ht]; omega)]
theorem AscGood.avE {side : Int} {A : Asc} {P : List Ph} (h : AscGood side A) (hs : side ≤ 8) (hp : ∀ a ∈ P, goodPh a) (hl : P.length ≤ 30) : avE A P = 0 := by
  have hb := boxIn_ok h.box (by omega) (by omega)
  have hok : A.ok = true := by
    unfold Asc.ok
    have t := h.tolb; have l := h.least
    have e1 : inI A.cap 1 1099511627776 = true := inI_iff.2 (by have := h.cap; omega)
    have e2 : inI A.tol 0 1099511627776 = true := inI_iff.2 (by omega)
    have e3 : inI A.lim 0 1099511627776 = true := inI_iff.2 (by have := h.lim; omega)
    have e4 : inI A.span 0 1099511627776 = true := inI_iff.2 (by have := h.span; omega)
    have e5 : inI A.least 2 16 = true := inI_iff.2 (by omega)
    have e6 : tE A.st A.ls A.hs = 0 := by unfold tE; simp [h.tab]
    rw [hb, e1, e2, e3, e4, e5, e6]; rfl
  unfold Go.Proofs.YtiebljanpnadjaaGreat.avE
  rw [if_neg (by rw [hok]; decide), if_neg (by omega)]
  refine errOf_zero.2 fun a ha => ?_
  exact ((near_mk h.tab (reach_small h.tab.1 h.st h.rea h.len).1 h.box (hp a ha).1 (by omega) (by omega) (by omega)).zE (hp a ha).ok).1
end Go.Proofs.YtiebljanpnadjaaGreat
namespace Go.Proofs.YtiebljanpnadjaaGreat
set_option linter.all false
open Go.RowKit Rg
section
end
/-- A group of places that are d farther. -/
def Grp.add (d : Int) (g : Grp) : Grp := ⟨g.ms.map (· + d), g.x, g.y, g.z, g.t⟩
theorem assoc_trc {A : Asc} {P : List Ph} (hv : avE A P = 0) : assocR A P = ((trR P [] [] (trc A P (P.length + 1) (List.range P.length))).1, (trR P [] [] (trc A P (P.length + 1) (List.range P.length))).2.1, srt ((trR P [] [] (trc A P (P.length + 1) (List.range P.length))).2.2.map (fun (i : Nat) => (i : Int)))) := by
  rw [assocR_ok hv, rnd_trc]
theorem trR_zero {P : List Ph} {gs : List Grp} {lf : List Nat} {t : Trc} (h : t.1 = 0) : trR P gs lf t = (0, gs ++ t.2.1.map (fun x => grpOf P x.1 x.2), lf ++ t.2.2.map (oA P)) := by
  unfold trR; rw [if_neg (by simpa using h)]
end Go.Proofs.YtiebljanpnadjaaGreat
namespace Go.Proofs.YtiebljanpnadjaaGreat
set_option linter.all false
open Go.RowKit Rg
/-- The first k phases have weights of their own. -/
def Ph.wt (a : Ph) (n : Int) : Ph := ⟨a.x, a.y, a.z, a.e, a.l, n⟩
/-- The cells of phase i. -/
theorem owns_phA {B : Nat} {u : World} {q n cp : Nat} {l : List Ph} (h : u.ownsRow B 51 6 (.slice (some ⟨q, 0, none⟩) n cp) n (flatP l)) (i : Nat) (hi : i < l.length) :
    u.cell? ⟨q, i * 6, none⟩ = some (.int .i64 (phAt l i).x) ∧ u.cell? ⟨q, i * 6 + 1, none⟩ = some (.int .i64 (phAt l i).y) ∧ u.cell? ⟨q, i * 6 + 2, none⟩ = some (.int .i64 (phAt l i).z) ∧ u.cell? ⟨q, i * 6 + 3, none⟩ = some (.int .i64 (phAt l i).e) ∧ u.cell? ⟨q, i * 6 + 4, none⟩ = some (.int .i64 (phAt l i).l) ∧ u.cell? ⟨q, i * 6 + 5, none⟩ = some (.int .i64 (phAt l i).n) := by
  have hc : ∀ j x, (flatP l)[j]? = some x → u.cell? ⟨q, j, none⟩ = some x := fun j x hj => by
    have := World.ownsRow.cells (g := q) h rfl j x hj
    have hadd : (⟨q, 0, none⟩ : Addr).add j = ⟨q, j, none⟩ := by unfold Addr.add; split <;> simp_all
    rw [hadd] at this; exact this
  rw [phAt_eq hi]
  exact ⟨hc _ _ (flatP_at l i hi 0 (by omega)), hc _ _ (flatP_at l i hi 1 (by omega)), hc _ _ (flatP_at l i hi 2 (by omega)), hc _ _ (flatP_at l i hi 3 (by omega)), hc _ _ (flatP_at l i hi 4 (by omega)), hc _ _ (flatP_at l i hi 5 (by omega))⟩
end Go.Proofs.YtiebljanpnadjaaGreat
