/- SwpA TopA -/
import Derived.ArgAppend
import Derived.Deep.AppendLies
import Derived.Test.YtnmjefgldoaneaaGreatDoorToRgPos
import Derived.Test.YtnmjefgldoaneaaGreatDoorToProb
import Derived.Test.YtnmjefgldoaneaaGreatDoorToMisP
import Derived.Test.YtnmjefgldoaneaaGreatDoorToRefG
import Derived.Test.YtnmjefgldoaneaaGreatDoorToLoc
import Derived.Test.YtnmjefgldoaneaaGreatDoorToLst
import Derived.Test.YtnmjefgldoaneaaGreatDoorToLeastA
namespace Go.Proofs.YtnmjefgldoaneaaGreatDoor
set_option linter.all false
section LMisM
section LMisM
open Go.RowKit Rg
theorem term_app {cap : Int} {phs : List Ph} {zs : List Zn} {a : Ph} {z : Zn} {t : Int} (hl : zs.length = phs.length) {i : Nat} (hi : i < phs.length) : term cap (phs ++ [a]) (zs ++ [z]) t i = term cap phs zs t i := by
  unfold term
  rw [if_pos (by simp; omega), if_pos (by omega), List.getElem?_append_left hi, List.getElem?_append_left (by omega)]
theorem costN_app {cap : Int} {phs : List Ph} {zs : List Zn} {a : Ph} {z : Zn} {t : Int} (hl : zs.length = phs.length) : ∀ k, k ≤ phs.length → costN cap (phs ++ [a]) (zs ++ [z]) t k = costN cap phs zs t k
  | 0, _ => rfl
  | k + 1, hk => by simp only [costN]; rw [costN_app hl k (by omega), term_app hl (by omega)]
theorem cost_app {cap : Int} {phs : List Ph} {zs : List Zn} {a : Ph} {z : Zn} {t : Int} (hl : zs.length = phs.length) : cost cap (phs ++ [a]) (zs ++ [z]) t = cost cap phs zs t + a.n * min cap (resid z t) := by
  unfold cost
  rw [show (phs ++ [a]).length = phs.length + 1 by simp]
  simp only [costN]
  rw [costN_app hl _ (Nat.le_refl _)]
  congr 1
  unfold term
  rw [if_pos (by simp; omega), show (phs ++ [a])[phs.length]? = some a by simp, ← hl, show (zs ++ [z])[zs.length]? = some z by simp]; rfl
/-- A phase more: the misfit grows by at most its weight times the cap. -/
theorem more_plain {cap : Int} {phs : List Ph} {zs : List Zn} {a : Ph} {z : Zn} (h : 0 < zs.length) (hl : zs.length = phs.length) (he : Even phs zs) (hc : 0 ≤ cap) (ha : 0 ≤ a.n) (he' : Even (phs ++ [a]) (zs ++ [z])) :
    (best cap phs zs).2 ≤ (best cap (phs ++ [a]) (zs ++ [z])).2 ∧ (best cap (phs ++ [a]) (zs ++ [z])).2 ≤ (best cap phs zs).2 + a.n * cap := by
  have s1 := (best_spec (cap := cap) (phs := phs) h).1
  have s2 := (best_spec (cap := cap) (phs := phs ++ [a]) (zs := zs ++ [z]) (by simp)).1
  constructor
  · rw [s2, cost_app hl]
    have := best_all (cap := cap) h he (best cap (phs ++ [a]) (zs ++ [z])).1
    have := resid_nn z (best cap (phs ++ [a]) (zs ++ [z])).1
    have := Int.mul_nonneg ha (show 0 ≤ min cap (resid z (best cap (phs ++ [a]) (zs ++ [z])).1) by omega)
    omega
  · have b := best_all (cap := cap) (phs := phs ++ [a]) (zs := zs ++ [z]) (by simp) he' (best cap phs zs).1
    rw [cost_app hl] at b
    have := Int.mul_le_mul_of_nonneg_left (show min cap (resid z (best cap phs zs).1) ≤ cap by omega) ha
    omega
/-- A greater cap, a greater misfit. -/
theorem loose_plain {cap cap' : Int} {phs : List Ph} {zs : List Zn} (h : 0 < zs.length) (he : Even phs zs) (hc : cap ≤ cap') : (best cap phs zs).2 ≤ (best cap' phs zs).2 := by
  rw [(best_spec (cap := cap') (phs := phs) h).1]
  have b := best_all (cap := cap) h he (best cap' phs zs).1
  generalize (best cap' phs zs).1 = t at *
  have key : ∀ k, costN cap phs zs t k ≤ costN cap' phs zs t k := by
    intro k; induction k with
    | zero => exact Int.le_refl _
    | succ k ih =>
      simp only [costN]
      have : term cap phs zs t k ≤ term cap' phs zs t k := by
        unfold term
        split
        · exact Int.mul_le_mul_of_nonneg_left (by omega) (he.wt k)
        · exact Int.le_refl _
      omega
  have := key phs.length
  unfold cost at *; omega
/-- A phase more; another cap. -/
def Prob.more (P : Prob) (a : Ph) : Prob := { P with phs := P.phs ++ [a] }
def Prob.loose (P : Prob) (c : Int) : Prob := { P with cap := c }
theorem Good.more {P : Prob} (h : Good P) {a : Ph} (ha : goodPh a) (hn : Near P.step P.ls P.hs P.x0 P.y0 P.z0 P.x1 P.y1 P.z1 a.x a.y a.z) (hl : P.phs.length ≤ 30) : Good (P.more a) := by
  have hmem : ∀ b ∈ (P.more a).phs, b ∈ P.phs ∨ b = a := fun b hb => by simpa [Prob.more] using hb
  refine ⟨⟨h.sound.vb, h.sound.ok, by simp [Prob.more]; omega, h.sound.cap, fun b hb => ?_⟩, fun b hb => ?_, fun b hb => ?_⟩
  · rcases hmem b hb with hb | rfl
    · exact h.sound.ph b hb
    · exact (hn.zE ha.ok).1
  · rcases hmem b hb with hb | rfl
    · exact h.near b hb
    · exact hn
  · rcases hmem b hb with hb | rfl
    · exact h.ph b hb
    · exact ha
theorem Good.loose {P : Prob} (h : Good P) {c : Int} (h0 : 1 ≤ c) (h1 : c ≤ 1099511627776) : Good (P.loose c) :=
  ⟨⟨h.sound.vb, h.sound.ok, h.sound.some, ⟨h0, h1⟩, h.sound.ph⟩, h.near, h.ph⟩
theorem more_zones (P : Prob) (a : Ph) (b0 b1 b2 b3 b4 b5 : Int) : zonesL (P.more a) b0 b1 b2 b3 b4 b5 = zonesL P b0 b1 b2 b3 b4 b5 ++ [zoneOf P.step P.ls P.hs b0 b1 b2 b3 b4 b5 a] := by
  simp [zonesL, Prob.more]
/-- What MisfitMore asks of its three problems. -/
theorem Good.moreLaw {P : Prob} (h : Good P) {a : Ph} (ha : goodPh a) (hn : Near P.step P.ls P.hs P.x0 P.y0 P.z0 P.x1 P.y1 P.z1 a.x a.y a.z) (hl : P.phs.length ≤ 30) {c : Int} (h0 : P.cap ≤ c) (h1 : c ≤ 1099511627776) {b0 b1 b2 b3 b4 b5 : Int} (hw : wiP b0 b1 b2 b3 b4 b5 P.x0 P.y0 P.z0 P.x1 P.y1 P.z1 = true) :
    mm P b0 b1 b2 b3 b4 b5 ≤ mm (P.more a) b0 b1 b2 b3 b4 b5 ∧ mm (P.more a) b0 b1 b2 b3 b4 b5 ≤ mm P b0 b1 b2 b3 b4 b5 + a.n * P.cap ∧ mm P b0 b1 b2 b3 b4 b5 ≤ mm (P.loose c) b0 b1 b2 b3 b4 b5 := by
  have hz := zonesL_length P b0 b1 b2 b3 b4 b5
  have hp := h.sound.some.1
  have he' := (h.more ha hn hl).even (b0 := b0) (b1 := b1) (b2 := b2) (b3 := b3) (b4 := b4) (b5 := b5) hw
  rw [more_zones] at he'
  have hm := more_plain (cap := P.cap) (a := a) (z := zoneOf P.step P.ls P.hs b0 b1 b2 b3 b4 b5 a) (by rw [hz]; exact hp) hz (h.even hw) (by have := h.sound.cap.1; omega) (by have := ha.2.2.2.2.1; omega) he'
  refine ⟨?_, ?_, loose_plain (by rw [hz]; exact hp) (h.even hw) h0⟩
  · unfold mm; rw [more_zones]; exact hm.1
  · unfold mm; rw [more_zones]; exact hm.2
end LMisM
end LMisM
section LMisS
section LMisS
open Go.RowKit Rg
end LMisS
end LMisS
section LReP
open Go.RowKit Rg
section
end
end LReP
section LSwp
open Go.RowKit
theorem Ph.cells_length (a : Ph) : a.cells.length = 6 := rfl
end LSwp
end Go.Proofs.YtnmjefgldoaneaaGreatDoor
namespace Go.Proofs.YtnmjefgldoaneaaGreatDoor
set_option linter.all false
open Go.RowKit Rg
/-- The reference's least misfit is the misfit of the best point. -/
theorem Good.leastO {P : Prob} (h : Good P) {side : Int} (hB : boxIn 20 side P.x0 P.y0 P.z0 P.x1 P.y1 P.z1) (hs : side ≤ 8) {m a b c : Int} (hin : P.reg.has a b c) (hm : m = mm P a b c a b c) (hall : ∀ q r s, P.reg.has q r s → m ≤ mm P q r s q r s) (vl vh vp : Value) (u : World) (hi : ProbIn P vl vh vp u) :
    Calls Tryz.prog 11 #[.agg (P.val vl vh vp)] u fun e w' => e = .returned (.int .i64 m) ∧ u.grownBy w' none := by
  have hB' := hB
  unfold boxIn placeIn at hB'
  obtain ⟨nx, hnx⟩ : ∃ n : Nat, P.x1 = P.x0 + n - 1 := ⟨(P.x1 - P.x0 + 1).toNat, by omega⟩
  obtain ⟨ny, hny⟩ : ∃ n : Nat, P.y1 = P.y0 + n - 1 := ⟨(P.y1 - P.y0 + 1).toNat, by omega⟩
  obtain ⟨nz, hnz⟩ : ∃ n : Nat, P.z1 = P.z0 + n - 1 := ⟨(P.z1 - P.z0 + 1).toNat, by omega⟩
  have hrv : P.reg.v = true := h.sound.vb
  have hw : ∀ {q r t : Int}, P.reg.has q r t → wiP q r t q r t P.x0 P.y0 P.z0 P.x1 P.y1 P.z1 = true := fun {q r t} hq => wiP_point hrv ⟨hq.1, hq.2.1⟩ ⟨hq.2.2.1, hq.2.2.2.1⟩ ⟨hq.2.2.2.2.1, hq.2.2.2.2.2⟩
  have hpt : ∀ p ∈ preX P.x0 P.y0 P.z0 ny nz nx, P.reg.has p.1 p.2.1 p.2.2 := fun p hp => by
    have := mem_preX.1 hp
    unfold Bx.has Prob.reg; dsimp only; omega
  have hmem : (a, b, c) ∈ preX P.x0 P.y0 P.z0 ny nz nx := mem_preX.2 (by unfold Bx.has Prob.reg at hin; dsimp only at hin ⊢; omega)
  have hlen : (preX P.x0 P.y0 P.z0 ny nz nx).length ≤ 10000 := by
    rw [preX_length]
    have e1 : ny * nz ≤ 9 * 9 := Nat.mul_le_mul (by omega) (by omega)
    have e2 : nx * (ny * nz) ≤ 9 * (9 * 9) := Nat.mul_le_mul (by omega) e1
    omega
  refine (rleast_any P vl vh vp nx ny nz u hi (by have := h.sound.some; omega) hnx hny hnz (by omega) (by omega) (by omega) (by omega) (by omega) (by omega) _ rfl ⟨List.length_pos_of_mem hmem, hlen⟩ (fun p hp => h.zones (hw (hpt p hp))) (fun p hp => by rw [h.bdC_eq (hw (hpt p hp))]; exact (h.mm_in (hw (hpt p hp))).1)).mono ?_
  rintro e w' ⟨r, rfl, hl, hg⟩
  refine ⟨?_, hg⟩
  rcases hl with ⟨h0, -⟩ | ⟨-, ⟨p, hp, hr⟩, hle⟩
  · have := List.length_pos_of_mem hmem; omega
  · rw [List.take_length] at hp hle
    dsimp only at hr
    rw [h.bdC_eq (hw (hpt p hp))] at hr
    have k1 := hall _ _ _ (hpt p hp)
    have k2 := hle _ hmem
    dsimp only at k2
    rw [h.bdC_eq (hw hin)] at k2
    rw [show r = m by omega]
/-- One arrival more: what is found with it is not much worse for the others. -/
theorem outlier_plain {P : Prob} (h : Good P) (hp : P.reg.pts ≤ 1500) : ∃ M a b c : Int, P.reg.has a b c ∧ M = mm P a b c a b c ∧ (0 ≤ M ∧ M ≤ 10000000000000000) ∧ (∀ q r s, P.reg.has q r s → M ≤ mm P q r s q r s) ∧
    ∀ (e : Ph), goodPh e → Near P.step P.ls P.hs P.x0 P.y0 P.z0 P.x1 P.y1 P.z1 e.x e.y e.z → P.phs.length ≤ 30 → ∀ tol : Int, 0 ≤ tol → tol ≤ 1000000 →
      ∃ y : Loc, locP (P.more e) tol = (y, 0) ∧ P.reg.has y.px y.py y.pz ∧ (0 ≤ mm P y.px y.py y.pz y.px y.py y.pz ∧ mm P y.px y.py y.pz y.px y.py y.pz ≤ 10000000000000000) ∧ mm P y.px y.py y.pz y.px y.py y.pz ≤ M + e.n * P.cap + tol := by
  obtain ⟨y0, -, hin0, -, -, -, l0, l1, l2, l3, -, hm0, hall0⟩ := least_plain h (tol := 0) (Int.le_refl _) (by omega) hp
  refine ⟨y0.m, y0.px, y0.py, y0.pz, hin0, hm0, ⟨by omega, l3⟩, fun q r s hq => by have := (hall0 q r s hq).2.1; omega, fun e he hn hl tol h0 h1 => ?_⟩
  have hrv : P.reg.v = true := h.sound.vb
  have hw : ∀ {q r t : Int}, P.reg.has q r t → wiP q r t q r t P.x0 P.y0 P.z0 P.x1 P.y1 P.z1 = true := fun {q r t} hq => wiP_point hrv ⟨hq.1, hq.2.1⟩ ⟨hq.2.2.1, hq.2.2.2.1⟩ ⟨hq.2.2.2.2.1, hq.2.2.2.2.2⟩
  obtain ⟨y, ey, hin, -, -, -, -, -, -, -, -, hm, hall⟩ := least_plain (h.more he hn hl) (tol := tol) h0 h1 hp
  have hin' : P.reg.has y.px y.py y.pz := hin
  have hc : P.cap ≤ 1099511627776 := by have := h.sound.cap; omega
  have k1 := (h.moreLaw he hn hl (Int.le_refl P.cap) hc (hw hin')).1
  have k2 := (h.moreLaw he hn hl (Int.le_refl P.cap) hc (hw hin0)).2.1
  have k3 := (hall _ _ _ hin0).2.1
  have k4 := h.mm_in (hw hin')
  refine ⟨y, ey, hin', ⟨k4.1, by have := k4.2; omega⟩, ?_⟩
  omega
end Go.Proofs.YtnmjefgldoaneaaGreatDoor
