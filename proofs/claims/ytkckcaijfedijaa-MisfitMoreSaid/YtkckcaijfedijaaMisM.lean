/- Plain laws of MisfitMore: a phase more, a greater cap. -/
import Derived.Test.YtkckcaijfedijaaMisZ
namespace Go.Proofs.Ytkckcaijfedijaa
set_option linter.all false
section LMisM
open Go.RowKit Rg

theorem term_app {cap : Int} {phs : List Ph} {zs : List Zn} {a : Ph} {z : Zn} {t : Int} (hl : zs.length = phs.length) {i : Nat} (hi : i < phs.length) : term cap (phs ++ [a]) (zs ++ [z]) t i = term cap phs zs t i := by
  unfold term
  rw [if_pos (by simp; omega), if_pos (by omega), List.getElem?_append_left hi, List.getElem?_append_left (by omega)]
theorem costN_app {cap : Int} {phs : List Ph} {zs : List Zn} {a : Ph} {z : Zn} {t : Int} (hl : zs.length = phs.length) : ∀ k, k ≤ phs.length → costN cap (phs ++ [a]) (zs ++ [z]) t k = costN cap phs zs t k
  | 0, _ => rfl
  | k + 1, hk => by simp only [costN]; rw [costN_app hl k (by omega), term_app hl (by omega)]
theorem cost_app {cap : Int} {phs : List Ph} {zs : List Zn} {a : Ph} {z : Zn} {t : Int} (hl : zs.length = phs.length) : cost cap (phs ++ [a]) (zs ++ [z]) t = cost cap phs zs t + a.n * min cap (resid z t) := by
  unfold cost
  rw [show (phs ++ [a]).length = phs.length + 1 by simp]
  simp only [costN]
  rw [costN_app hl _ (Nat.le_refl _)]
  congr 1
  unfold term
  rw [if_pos (by simp; omega), show (phs ++ [a])[phs.length]? = some a by simp, ← hl, show (zs ++ [z])[zs.length]? = some z by simp]; rfl
/-- A phase more: the misfit grows by at most its weight times the cap. -/
theorem more_plain {cap : Int} {phs : List Ph} {zs : List Zn} {a : Ph} {z : Zn} (h : 0 < zs.length) (hl : zs.length = phs.length) (he : Even phs zs) (hc : 0 ≤ cap) (ha : 0 ≤ a.n) (he' : Even (phs ++ [a]) (zs ++ [z])) :
    (best cap phs zs).2 ≤ (best cap (phs ++ [a]) (zs ++ [z])).2 ∧ (best cap (phs ++ [a]) (zs ++ [z])).2 ≤ (best cap phs zs).2 + a.n * cap := by
  have s1 := (best_spec (cap := cap) (phs := phs) h).1
  have s2 := (best_spec (cap := cap) (phs := phs ++ [a]) (zs := zs ++ [z]) (by simp)).1
  constructor
  · rw [s2, cost_app hl]
    have := best_all (cap := cap) h he (best cap (phs ++ [a]) (zs ++ [z])).1
    have := resid_nn z (best cap (phs ++ [a]) (zs ++ [z])).1
    have := Int.mul_nonneg ha (show 0 ≤ min cap (resid z (best cap (phs ++ [a]) (zs ++ [z])).1) by omega)
    omega
  · have b := best_all (cap := cap) (phs := phs ++ [a]) (zs := zs ++ [z]) (by simp) he' (best cap phs zs).1
    rw [cost_app hl] at b
    have := Int.mul_le_mul_of_nonneg_left (show min cap (resid z (best cap phs zs).1) ≤ cap by omega) ha
    omega
/-- A greater cap, a greater misfit. -/
theorem loose_plain {cap cap' : Int} {phs : List Ph} {zs : List Zn} (h : 0 < zs.length) (he : Even phs zs) (hc : cap ≤ cap') : (best cap phs zs).2 ≤ (best cap' phs zs).2 := by
  rw [(best_spec (cap := cap') (phs := phs) h).1]
  have b := best_all (cap := cap) h he (best cap' phs zs).1
  generalize (best cap' phs zs).1 = t at *
  have key : ∀ k, costN cap phs zs t k ≤ costN cap' phs zs t k := by
    intro k; induction k with
    | zero => exact Int.le_refl _
    | succ k ih =>
      simp only [costN]
      have : term cap phs zs t k ≤ term cap' phs zs t k := by
        unfold term
        split
        · exact Int.mul_le_mul_of_nonneg_left (by omega) (he.wt k)
        · exact Int.le_refl _
      omega
  have := key phs.length
  unfold cost at *; omega
/-- A phase more; another cap. -/
def Prob.more (P : Prob) (a : Ph) : Prob := { P with phs := P.phs ++ [a] }
def Prob.loose (P : Prob) (c : Int) : Prob := { P with cap := c }
theorem Good.more {P : Prob} (h : Good P) {a : Ph} (ha : goodPh a) (hn : Near P.step P.ls P.hs P.x0 P.y0 P.z0 P.x1 P.y1 P.z1 a.x a.y a.z) (hl : P.phs.length ≤ 30) : Good (P.more a) := by
  have hmem : ∀ b ∈ (P.more a).phs, b ∈ P.phs ∨ b = a := fun b hb => by simpa [Prob.more] using hb
  refine ⟨⟨h.sound.vb, h.sound.ok, by simp [Prob.more]; omega, h.sound.cap, fun b hb => ?_⟩, fun b hb => ?_, fun b hb => ?_⟩
  · rcases hmem b hb with hb | rfl
    · exact h.sound.ph b hb
    · exact (hn.zE ha.ok).1
  · rcases hmem b hb with hb | rfl
    · exact h.near b hb
    · exact hn
  · rcases hmem b hb with hb | rfl
    · exact h.ph b hb
    · exact ha
theorem Good.loose {P : Prob} (h : Good P) {c : Int} (h0 : 1 ≤ c) (h1 : c ≤ 1099511627776) : Good (P.loose c) :=
  ⟨⟨h.sound.vb, h.sound.ok, h.sound.some, ⟨h0, h1⟩, h.sound.ph⟩, h.near, h.ph⟩
theorem more_zones (P : Prob) (a : Ph) (b0 b1 b2 b3 b4 b5 : Int) : zonesL (P.more a) b0 b1 b2 b3 b4 b5 = zonesL P b0 b1 b2 b3 b4 b5 ++ [zoneOf P.step P.ls P.hs b0 b1 b2 b3 b4 b5 a] := by
  simp [zonesL, Prob.more]
/-- What MisfitMore asks of its three problems. -/
theorem Good.moreLaw {P : Prob} (h : Good P) {a : Ph} (ha : goodPh a) (hn : Near P.step P.ls P.hs P.x0 P.y0 P.z0 P.x1 P.y1 P.z1 a.x a.y a.z) (hl : P.phs.length ≤ 30) {c : Int} (h0 : P.cap ≤ c) (h1 : c ≤ 1099511627776) {b0 b1 b2 b3 b4 b5 : Int} (hw : wiP b0 b1 b2 b3 b4 b5 P.x0 P.y0 P.z0 P.x1 P.y1 P.z1 = true) :
    mm P b0 b1 b2 b3 b4 b5 ≤ mm (P.more a) b0 b1 b2 b3 b4 b5 ∧ mm (P.more a) b0 b1 b2 b3 b4 b5 ≤ mm P b0 b1 b2 b3 b4 b5 + a.n * P.cap ∧ mm P b0 b1 b2 b3 b4 b5 ≤ mm (P.loose c) b0 b1 b2 b3 b4 b5 := by
  have hz := zonesL_length P b0 b1 b2 b3 b4 b5
  have hp := h.sound.some.1
  have he' := (h.more ha hn hl).even (b0 := b0) (b1 := b1) (b2 := b2) (b3 := b3) (b4 := b4) (b5 := b5) hw
  rw [more_zones] at he'
  have hm := more_plain (cap := P.cap) (a := a) (z := zoneOf P.step P.ls P.hs b0 b1 b2 b3 b4 b5 a) (by rw [hz]; exact hp) hz (h.even hw) (by have := h.sound.cap.1; omega) (by have := ha.2.2.2.2.1; omega) he'
  refine ⟨?_, ?_, loose_plain (by rw [hz]; exact hp) (h.even hw) h0⟩
  · unfold mm; rw [more_zones]; exact hm.1
  · unfold mm; rw [more_zones]; exact hm.2
end LMisM
end Go.Proofs.Ytkckcaijfedijaa
