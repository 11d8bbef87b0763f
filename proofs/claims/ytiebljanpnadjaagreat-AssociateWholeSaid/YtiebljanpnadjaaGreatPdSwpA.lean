/- SwpA -/
import Derived.ArgAppend
import Derived.Deep.AppendLies
import Derived.Test.YtiebljanpnadjaaGreatPdGeoP
import Derived.Test.YtiebljanpnadjaaGreatPdProb
import Derived.Test.YtiebljanpnadjaaGreatPdMisP
import Derived.Test.YtiebljanpnadjaaGreatPdRes
namespace Go.Proofs.YtiebljanpnadjaaGreat
set_option linter.all false
section LMisM
section LMisM
open Go.RowKit Rg
/-- A phase more; another cap. -/
def Prob.more (P : Prob) (a : Ph) : Prob := { P with phs := P.phs ++ [a] }
theorem Good.more {P : Prob} (h : Good P) {a : Ph} (ha : goodPh a) (hn : Near P.step P.ls P.hs P.x0 P.y0 P.z0 P.x1 P.y1 P.z1 a.x a.y a.z) (hl : P.phs.length ≤ 30) : Good (P.more a) := by
  have hmem : ∀ b ∈ (P.more a).phs, b ∈ P.phs ∨ b = a := fun b hb => by simpa [Prob.more] using hb
  refine ⟨⟨h.sound.vb, h.sound.ok, by simp [Prob.more]; omega, h.sound.cap, fun b hb => ?_⟩, fun b hb => ?_, fun b hb => ?_⟩
  · rcases hmem b hb with hb | rfl
    · exact h.sound.ph b hb
    · exact (hn.zE ha.ok).1
  · rcases hmem b hb with hb | rfl
    · exact h.near b hb
    · exact hn
  · rcases hmem b hb with hb | rfl
    · exact h.ph b hb
    · exact ha
end LMisM
end LMisM
section LMisS
section LMisS
open Go.RowKit Rg
end LMisS
end LMisS
section LReP
open Go.RowKit Rg
section
end
end LReP
section LSwp
open Go.RowKit
/-- Phase i of a list. -/
def phAt (l : List Ph) (i : Nat) : Ph := l[i]?.getD default
theorem phAt_eq {l : List Ph} {i : Nat} (h : i < l.length) : phAt l i = l[i] := by simp [phAt, h]
/-- Two phases are exchanged. -/
def swapPh (l : List Ph) (i k : Nat) : List Ph := (l.set i (phAt l k)).set k (phAt l i)
theorem swapPh_length (l : List Ph) (i k : Nat) : (swapPh l i k).length = l.length := by simp [swapPh]
theorem flatP_cons (a : Ph) (l : List Ph) : flatP (a :: l) = a.cells ++ flatP l := by simp [flatP]
theorem Ph.cells_length (a : Ph) : a.cells.length = 6 := rfl
theorem flatP_setLL : ∀ (l : List Ph) (i : Nat) (x : Ph), i < l.length → flatP (l.set i x) = setLL (flatP l) (i * 6) x.cells
  | a :: l, 0, x, _ => by
    rw [List.set_cons_zero, flatP_cons, flatP_cons]
    simp [Ph.cells, setLL]
  | a :: l, i + 1, x, h => by
    rw [List.set_cons_succ, flatP_cons, flatP_cons, flatP_setLL l i x (by simpa using h), show (i + 1) * 6 = a.cells.length + i * 6 by rw [Ph.cells_length]; omega, setLL_append]
theorem swapPh_perm (l : List Ph) {i k : Nat} (hi : i < l.length) (hk : k < l.length) : (swapPh l i k).Perm l := by
  have h := Array.swap_perm (xs := l.toArray) (i := i) (j := k) (by simpa using hi) (by simpa using hk)
  have e : (l.toArray.swap i k (by simpa using hi) (by simpa using hk)).toList = swapPh l i k := by
    unfold swapPh
    rw [phAt_eq hi, phAt_eq hk]
    simp [Array.swap_def]
  have := Array.perm_iff_toList_perm.1 h
  rw [e] at this
  simpa using this
theorem apart72 {i k : Nat} (h : i ≠ k) : ¬ (i * 6 = k * 6) ∧ ¬ (i * 6 = k * 6 + 1) ∧ ¬ (i * 6 = k * 6 + 2) ∧ ¬ (i * 6 = k * 6 + 3) ∧ ¬ (i * 6 = k * 6 + 4) ∧ ¬ (i * 6 = k * 6 + 5) ∧ ¬ (i * 6 + 1 = k * 6) ∧ ¬ (i * 6 + 1 = k * 6 + 1) ∧ ¬ (i * 6 + 1 = k * 6 + 2) ∧ ¬ (i * 6 + 1 = k * 6 + 3) ∧ ¬ (i * 6 + 1 = k * 6 + 4) ∧ ¬ (i * 6 + 1 = k * 6 + 5) ∧ ¬ (i * 6 + 2 = k * 6) ∧ ¬ (i * 6 + 2 = k * 6 + 1) ∧ ¬ (i * 6 + 2 = k * 6 + 2) ∧ ¬ (i * 6 + 2 = k * 6 + 3) ∧ ¬ (i * 6 + 2 = k * 6 + 4) ∧ ¬ (i * 6 + 2 = k * 6 + 5) ∧ ¬ (i * 6 + 3 = k * 6) ∧ ¬ (i * 6 + 3 = k * 6 + 1) ∧ ¬ (i * 6 + 3 = k * 6 + 2) ∧ ¬ (i * 6 + 3 = k * 6 + 3) ∧ ¬ (i * 6 + 3 = k * 6 + 4) ∧ ¬ (i * 6 + 3 = k * 6 + 5) ∧ ¬ (i * 6 + 4 = k * 6) ∧ ¬ (i * 6 + 4 = k * 6 + 1) ∧ ¬ (i * 6 + 4 = k * 6 + 2) ∧ ¬ (i * 6 + 4 = k * 6 + 3) ∧ ¬ (i * 6 + 4 = k * 6 + 4) ∧ ¬ (i * 6 + 4 = k * 6 + 5) ∧ ¬ (i * 6 + 5 = k * 6) ∧ ¬ (i * 6 + 5 = k * 6 + 1) ∧ ¬ (i * 6 + 5 = k * 6 + 2) ∧ ¬ (i * 6 + 5 = k * 6 + 3) ∧ ¬ (i * 6 + 5 = k * 6 + 4) ∧ ¬ (i * 6 + 5 = k * 6 + 5) ∧ ¬ (k * 6 = i * 6) ∧ ¬ (k * 6 + 1 = i * 6) ∧ ¬ (k * 6 + 2 = i * 6) ∧ ¬ (k * 6 + 3 = i * 6) ∧ ¬ (k * 6 + 4 = i * 6) ∧ ¬ (k * 6 + 5 = i * 6) ∧ ¬ (k * 6 = i * 6 + 1) ∧ ¬ (k * 6 + 1 = i * 6 + 1) ∧ ¬ (k * 6 + 2 = i * 6 + 1) ∧ ¬ (k * 6 + 3 = i * 6 + 1) ∧ ¬ (k * 6 + 4 = i * 6 + 1) ∧ ¬ (k * 6 + 5 = i * 6 + 1) ∧ ¬ (k * 6 = i * 6 + 2) ∧ ¬ (k * 6 + 1 = i * 6 + 2) ∧ ¬ (k * 6 + 2 = i * 6 + 2) ∧ ¬ (k * 6 + 3 = i * 6 + 2) ∧ ¬ (k * 6 + 4 = i * 6 + 2) ∧ ¬ (k * 6 + 5 = i * 6 + 2) ∧ ¬ (k * 6 = i * 6 + 3) ∧ ¬ (k * 6 + 1 = i * 6 + 3) ∧ ¬ (k * 6 + 2 = i * 6 + 3) ∧ ¬ (k * 6 + 3 = i * 6 + 3) ∧ ¬ (k * 6 + 4 = i * 6 + 3) ∧ ¬ (k * 6 + 5 = i * 6 + 3) ∧ ¬ (k * 6 = i * 6 + 4) ∧ ¬ (k * 6 + 1 = i * 6 + 4) ∧ ¬ (k * 6 + 2 = i * 6 + 4) ∧ ¬ (k * 6 + 3 = i * 6 + 4) ∧ ¬ (k * 6 + 4 = i * 6 + 4) ∧ ¬ (k * 6 + 5 = i * 6 + 4) ∧ ¬ (k * 6 = i * 6 + 5) ∧ ¬ (k * 6 + 1 = i * 6 + 5) ∧ ¬ (k * 6 + 2 = i * 6 + 5) ∧ ¬ (k * 6 + 3 = i * 6 + 5) ∧ ¬ (k * 6 + 4 = i * 6 + 5) ∧ ¬ (k * 6 + 5 = i * 6 + 5) := ⟨by omega, by omega, by omega, by omega, by omega, by omega, by omega, by omega, by omega, by omega, by omega, by omega, by omega, by omega, by omega, by omega, by omega, by omega, by omega, by omega, by omega, by omega, by omega, by omega, by omega, by omega, by omega, by omega, by omega, by omega, by omega, by omega, by omega, by omega, by omega, by omega, by omega, by omega, by omega, by omega, by omega, by omega, by omega, by omega, by omega, by omega, by omega, by omega, by omega, by omega, by omega, by omega, by omega, by omega, by omega, by omega, by omega, by omega, by omega, by omega, by omega, by omega, by omega, by omega, by omega, by omega, by omega, by omega, by omega, by omega, by omega, by omega⟩
theorem owns_swap {B : Nat} {l : List Ph} {u : World} {q cp : Nat} (h : u.ownsRow B 51 6 (.slice (some ⟨q, 0, none⟩) l.length cp) l.length (flatP l)) (i k : Nat) (hi : i < l.length) (hk : k < l.length) :
    ((u.setCells q (i * 6) (phAt l k).cells).setCells q (k * 6) (phAt l i).cells).ownsRow B 51 6 (.slice (some ⟨q, 0, none⟩) l.length cp) (swapPh l i k).length (flatP (swapPh l i k)) ∧ u.grownBy ((u.setCells q (i * 6) (phAt l k).cells).setCells q (k * 6) (phAt l i).cells) (some q) := by
  refine ⟨?_, setCells_grown _ _ _ (setCells_grown _ _ _ (gb_refl _ _) (.inr rfl)) (.inr rfl)⟩
  unfold swapPh
  rw [List.length_set, List.length_set, flatP_setLL _ _ _ (by simpa using hk), flatP_setLL _ _ _ hi]
  exact owns_setCells _ _ _ _ (owns_setCells _ _ _ _ h)
end LSwp
end Go.Proofs.YtiebljanpnadjaaGreat
