/- InvA -/
import Derived.Test.YtgaglgopbdfemaaGreatDoorTmStepA
import Derived.Test.YtgaglgopbdfemaaGreatDoorTmSnd
namespace Go.Proofs.YtgaglgopbdfemaaGreatDoor
set_option linter.all false
section LInv28
open Go.RowKit
theorem swapL_perm (l : List Hi) {i k : Nat} (hi : i < l.length) (hk : k < l.length) : (swapL l i k).Perm l := by
  have h := Array.swap_perm (xs := l.toArray) (i := i) (j := k) (by simpa using hi) (by simpa using hk)
  have e : (l.toArray.swap i k (by simpa using hi) (by simpa using hk)).toList = swapL l i k := by
    unfold swapL
    rw [hiAt_eq hi, hiAt_eq hk]
    simp [Array.swap_def]
  have := Array.perm_iff_toList_perm.1 h
  rw [e] at this
  simpa using this
theorem upF_perm : ∀ (f : Nat) (l : List Hi) (j : Nat), j < l.length → (upF f l j).Perm l
  | 0, l, _, _ => List.Perm.refl _
  | f + 1, l, j, h => by
    unfold upF; split
    · exact List.Perm.refl _
    · split
      · have hp : (j - 1) / 2 < l.length := by omega
        exact (upF_perm f _ _ (by rw [swapL_length]; exact hp)).trans (swapL_perm l hp h)
      · exact List.Perm.refl _
theorem kid_lt {l : List Hi} {i n : Nat} (h : 2 * i + 1 < n) : kid l i n < n ∧ i < kid l i n := by
  unfold kid; split
  · rename_i h2; simp at h2; omega
  · omega
theorem downF_perm : ∀ (f : Nat) (l : List Hi) (i n : Nat), n ≤ l.length → (downF f l i n).Perm l
  | 0, l, _, _, _ => List.Perm.refl _
  | f + 1, l, i, n, h => by
    unfold downF; split
    · exact List.Perm.refl _
    · rename_i hn
      have hk := kid_lt (l := l) (i := i) (n := n) (by omega)
      split
      · exact (downF_perm f _ _ n (by rw [swapL_length]; exact h)).trans (swapL_perm l (by omega) (by omega))
      · exact List.Perm.refl _
theorem pushH_perm (l : List Hi) (x : Hi) : (pushH l x).Perm (l ++ [x]) := upF_perm _ _ _ (by simp)
theorem popL_perm {l : List Hi} {n : Nat} (h : l.length = n + 1) : (popL l n).Perm l := by
  unfold popL
  exact (downF_perm _ _ _ _ (by rw [swapL_length]; omega)).trans (swapL_perm l (by omega) (by omega))
theorem Sound.zones {P : Prob} (h : Sound P) {b : Bx} (hv : b.v = true) (hw : b.wi P.reg) : bxE P b = 0 := by
  have hw' : wiP b.a b.b b.c b.d b.e b.f P.x0 P.y0 P.z0 P.x1 P.y1 P.z1 = true := by
    have := wiP_of hv (show P.reg.v = true from h.vb) hw
    dsimp only [Prob.reg] at this
    exact this
  show zonesE P b.a b.b b.c b.d b.e b.f = 0
  unfold zonesE
  rw [if_pos (sound_iff.2 h), if_pos hw']
  exact errOf_zero.2 fun a ha => by
    have hN := ((h.near ha).within hw').1
    obtain ⟨-, -, c⟩ := hN.bnd
    have hp := h.phase ha
    show znE _ _ _ _ _ _ _ _ _ _ _ _ _ _ _ = 0
    unfold znE; rw [if_pos hN.ok, if_pos hN.vb, if_pos hp]; exact c
theorem mid_in {a b : Int} (h : a ≤ b) : a ≤ midI a b ∧ midI a b ≤ b := by have := midI_in h; omega
/-- The center of a box, as a box. -/
theorem Bx.center_in {b : Bx} (hv : b.v = true) : b.has b.c0 b.c1 b.c2 ∧ Bx.v ⟨b.c0, b.c1, b.c2, b.c0, b.c1, b.c2⟩ = true ∧ Bx.wi ⟨b.c0, b.c1, b.c2, b.c0, b.c1, b.c2⟩ b := by
  obtain ⟨v0, v1, o0, o1, o2⟩ := bP_iff (show bP b.a b.b b.c b.d b.e b.f = true from hv)
  have i0 := vP_iff v0; have i1 := vP_iff v1
  have e0 : b.c0 = midI b.a b.d := by unfold Bx.c0 cen; rw [hv]; rfl
  have e1 : b.c1 = midI b.b b.e := by unfold Bx.c1 cen; rw [hv]; rfl
  have e2 : b.c2 = midI b.c b.f := by unfold Bx.c2 cen; rw [hv]; rfl
  have m0 := mid_in o0; have m1 := mid_in o1; have m2 := mid_in o2
  have hvp : vP b.c0 b.c1 b.c2 = true := vP_mk (by omega)
  refine ⟨by unfold Bx.has; omega, (show bP b.c0 b.c1 b.c2 b.c0 b.c1 b.c2 = true from bP_mk hvp hvp (Int.le_refl _) (Int.le_refl _) (Int.le_refl _)), by unfold Bx.wi; dsimp only; omega⟩
/-- All boxes of a queue lie in the region. -/
def AllIn (P : Prob) (h : List Hi) : Prop := ∀ i ∈ h, i.b.v = true ∧ i.b.wi P.reg
theorem AllIn.push {P : Prob} {h : List Hi} (a : AllIn P h) {x : Hi} (hv : x.b.v = true) (hw : x.b.wi P.reg) : AllIn P (pushH h x) := fun i hi => by
  have := (pushH_perm h x).mem_iff.1 hi
  simp only [List.mem_append, List.mem_singleton] at this
  rcases this with h1 | rfl
  · exact a i h1
  · exact ⟨hv, hw⟩
theorem AllIn.rest {P : Prob} {s : Ps} (a : AllIn P s.h) (h0 : 0 < s.h.length) : AllIn P s.rest := fun i hi => by
  unfold Ps.rest at hi
  have h1 := List.mem_of_mem_take hi
  exact a i ((popL_perm (n := s.h.length - 1) (by omega)).mem_iff.1 h1)
theorem Ps.step_ok {P : Prob} {s : Ps} (h : (hiAt s.h 0).b.ok = true) : s.step P = ⟨pushH (pushH s.rest ⟨(hiAt s.h 0).b.fst, bxC P (hiAt s.h 0).b.fst, s.num⟩) ⟨(hiAt s.h 0).b.snd, bxC P (hiAt s.h 0).b.snd, (s.num + 1 : Nat)⟩, s.num + 1 + 1, s.tk + 1, true, looksP P s.fd s.x (hiAt s.h 0).b⟩ := if_pos h
theorem Ps.step_no {P : Prob} {s : Ps} (h : ¬ (hiAt s.h 0).b.ok = true) : s.step P = ⟨s.rest, s.num, s.tk + 1, true, looksP P s.fd s.x (hiAt s.h 0).b⟩ := if_neg h
theorem AllIn.step {P : Prob} {s : Ps} (a : AllIn P s.h) (h0 : 0 < s.h.length) : AllIn P (s.step P).h := by
  have hb := a (hiAt s.h 0) (by rw [hiAt_eq h0]; exact List.getElem_mem h0)
  have hr := a.rest h0
  by_cases ho : (hiAt s.h 0).b.ok = true
  · obtain ⟨v1, v2, w1, w2, -⟩ := Bx.parts hb.1 ho
    have w1' := Bx.wi_trans w1 hb.2
    have w2' := Bx.wi_trans w2 hb.2
    rw [Ps.step_ok ho]
    generalize (hiAt s.h 0).b = b at *
    exact (hr.push (x := ⟨b.fst, bxC P b.fst, s.num⟩) v1 w1').push (x := ⟨b.snd, bxC P b.snd, (s.num + 1 : Nat)⟩) v2 w2'
  · rw [Ps.step_no ho]; exact hr
/-- Nothing goes wrong at a step. -/
theorem AllIn.fine {P : Prob} (hP : Sound P) {s : Ps} (a : AllIn P s.h) (h0 : 0 < s.h.length) :
    bdE P (hiAt s.h 0).b.c0 (hiAt s.h 0).b.c1 (hiAt s.h 0).b.c2 (hiAt s.h 0).b.c0 (hiAt s.h 0).b.c1 (hiAt s.h 0).b.c2 = 0 ∧ ((hiAt s.h 0).b.ok = true → bxE P (hiAt s.h 0).b.fst = 0 ∧ bxE P (hiAt s.h 0).b.snd = 0) := by
  have hb := a (hiAt s.h 0) (by rw [hiAt_eq h0]; exact List.getElem_mem h0)
  obtain ⟨-, c2, c3⟩ := Bx.center_in hb.1
  have hc := hP.zones c2 (Bx.wi_trans c3 hb.2)
  generalize (hiAt s.h 0).b = b at *
  unfold bxE at hc
  dsimp only at hc
  refine ⟨hc, fun ho => ?_⟩
  obtain ⟨v1, v2, w1, w2, -⟩ := Bx.parts hb.1 ho
  exact ⟨hP.zones v1 (Bx.wi_trans w1 hb.2), hP.zones v2 (Bx.wi_trans w2 hb.2)⟩
theorem Ps.step_sizes (P : Prob) (s : Ps) (h0 : 0 < s.h.length) : (s.step P).h.length ≤ s.h.length + 1 ∧ (s.step P).num ≤ s.num + 2 ∧ (s.step P).tk = s.tk + 1 ∧ (s.step P).fd = true := by
  have hr := s.rest_length
  by_cases ho : (hiAt s.h 0).b.ok = true
  · rw [Ps.step_ok ho]
    exact ⟨by dsimp only; rw [pushH_length, pushH_length]; omega, by dsimp only; omega, rfl, rfl⟩
  · rw [Ps.step_no ho]
    exact ⟨by dsimp only; omega, by dsimp only; omega, rfl, rfl⟩
/-- The program's search, at most so many steps. -/
def Ps.run (P : Prob) (tol : Int) : Nat → Ps → Option Ps
  | 0, s => if s.ended tol then some s else none
  | f + 1, s => if s.ended tol then some s else Ps.run P tol f (s.step P)
def Ps.start (P : Prob) : Ps := ⟨pushH [] ⟨P.reg, bxC P P.reg, (0 : Nat)⟩, 1, 0, false, loc0⟩
end LInv28
section LHeapOk
open Go.RowKit
/-- a comes no later than b. -/
def hle (a b : Hi) : Prop := hlt b a = false
theorem hle_iff {a b : Hi} : hle a b ↔ a.c < b.c ∨ (a.c = b.c ∧ a.n ≤ b.n) := by
  unfold hle hlt; simp; omega
theorem hle_of_lt {a b : Hi} (h : hlt a b = true) : hle a b := by
  rw [hle_iff]; unfold hlt at h; simp at h; omega
theorem hle_trans {a b c : Hi} (h : hle a b) (k : hle b c) : hle a c := by rw [hle_iff] at *; omega
theorem hle_refl (a : Hi) : hle a a := by rw [hle_iff]; omega
theorem hle_not {a b : Hi} (h : ¬ hlt a b = true) : hle b a := by unfold hle; simpa using h
theorem hiAt_swap {l : List Hi} {i k : Nat} (hi : i < l.length) (hk : k < l.length) (m : Nat) : hiAt (swapL l i k) m = if m = k then hiAt l i else if m = i then hiAt l k else hiAt l m := by
  unfold swapL
  by_cases h1 : m = k
  · subst h1; simp [hiAt, hk]
  · rw [if_neg h1]
    by_cases h2 : m = i
    · subst h2; simp [hiAt, hi, hk, List.getElem?_set, Ne.symm h1]
    · rw [if_neg h2]; simp [hiAt, List.getElem?_set, Ne.symm h1, Ne.symm h2]
/-- The first n are a heap. -/
def IsHeap (l : List Hi) (n : Nat) : Prop := ∀ k, 0 < k → k < n → hle (hiAt l ((k - 1) / 2)) (hiAt l k)
theorem IsHeap.least {l : List Hi} {n : Nat} (h : IsHeap l n) : ∀ k, k < n → hle (hiAt l 0) (hiAt l k) := by
  intro k
  induction k using Nat.strongRecOn with
  | _ k ih =>
    intro hk
    by_cases h0 : k = 0
    · subst h0; exact hle_refl _
    · exact hle_trans (ih ((k - 1) / 2) (by omega) (by omega)) (h k (by omega) hk)
theorem up_heap : ∀ (f : Nat) (l : List Hi) (j N : Nat), j < f → j < N → N ≤ l.length → (∀ k, 0 < k → k < N → k ≠ j → hle (hiAt l ((k - 1) / 2)) (hiAt l k)) →
    (∀ k, 0 < k → k < N → (k - 1) / 2 = j → 0 < j → hle (hiAt l ((j - 1) / 2)) (hiAt l k)) → IsHeap (upF f l j) N
  | 0, _, _, _, h, _, _, _, _ => by omega
  | f + 1, l, j, N, hf, hj, hN, c1, c2 => by
    unfold upF
    by_cases hp : (j - 1) / 2 = j
    · rw [if_pos hp]
      intro k h0 hk
      exact c1 k h0 hk (by omega)
    rw [if_neg hp]
    obtain ⟨p, hpe⟩ : ∃ p, p = (j - 1) / 2 := ⟨_, rfl⟩
    have hpj : p < j := by omega
    rw [← hpe]
    by_cases hl : hlt (hiAt l j) (hiAt l p) = true
    · rw [if_pos hl]
      have hs := fun m => hiAt_swap (l := l) (i := p) (k := j) (by omega) (by omega) m
      refine up_heap f _ p N (by omega) (by omega) (by rw [swapL_length]; exact hN) ?_ ?_
      · intro k h0 hk hkp
        rw [hs, hs]
        by_cases e1 : k = j
        · rw [if_pos e1, e1, ← hpe, if_neg (show ¬ p = j by omega), if_pos rfl]; exact hle_of_lt hl
        · rw [if_neg e1, if_neg hkp]
          by_cases e2 : (k - 1) / 2 = j
          · rw [if_pos e2, hpe]; exact c2 k h0 hk e2 (by omega)
          · rw [if_neg e2]
            by_cases e3 : (k - 1) / 2 = p
            · rw [if_pos e3]
              have := c1 k h0 hk e1
              rw [e3] at this
              exact hle_trans (hle_of_lt hl) this
            · rw [if_neg e3]; exact c1 k h0 hk e1
      · intro k h0 hk hkp hp0
        rw [hs, hs]
        have hpp : hle (hiAt l ((p - 1) / 2)) (hiAt l p) := c1 p hp0 (by omega) (by omega)
        rw [if_neg (show ¬ (p - 1) / 2 = j by omega), if_neg (show ¬ (p - 1) / 2 = p by omega)]
        by_cases e1 : k = j
        · rw [if_pos e1]; exact hpp
        · rw [if_neg e1, if_neg (show ¬ k = p by omega)]
          have := c1 k h0 hk e1
          rw [hkp] at this
          exact hle_trans hpp this
    · rw [if_neg hl]
      intro k h0 hk
      by_cases e1 : k = j
      · subst e1; rw [← hpe]; exact hle_not hl
      · exact c1 k h0 hk e1
theorem kid_least {l : List Hi} {i n : Nat} : ∀ k, 0 < k → k < n → (k - 1) / 2 = i → hle (hiAt l (kid l i n)) (hiAt l k) := by
  intro k h0 hk hp
  have : k = 2 * i + 1 ∨ k = 2 * i + 1 + 1 := by omega
  unfold kid
  by_cases hc : (decide (2 * i + 1 + 1 < n) && hlt (hiAt l (2 * i + 1 + 1)) (hiAt l (2 * i + 1))) = true
  · rw [if_pos hc]
    simp only [Bool.and_eq_true, decide_eq_true_eq] at hc
    rcases this with rfl | rfl
    · exact hle_of_lt hc.2
    · exact hle_refl _
  · rw [if_neg hc]
    rcases this with rfl | rfl
    · exact hle_refl _
    · refine hle_not fun h => hc ?_
      simp only [Bool.and_eq_true, decide_eq_true_eq]
      exact ⟨hk, h⟩
theorem kid_par {l : List Hi} {i n : Nat} : (kid l i n - 1) / 2 = i ∧ 0 < kid l i n := by
  unfold kid; split <;> omega
theorem down_heap : ∀ (f : Nat) (l : List Hi) (i n : Nat), n < i + f + 1 → n ≤ l.length → (∀ k, 0 < k → k < n → (k - 1) / 2 ≠ i → hle (hiAt l ((k - 1) / 2)) (hiAt l k)) →
    (∀ k, 0 < k → k < n → (k - 1) / 2 = i → 0 < i → hle (hiAt l ((i - 1) / 2)) (hiAt l k)) → IsHeap (downF f l i n) n
  | 0, l, i, n, hf, hN, c1, c2 => by
    intro k h0 hk
    exact c1 k h0 hk (by omega)
  | f + 1, l, i, n, hf, hN, c1, c2 => by
    unfold downF
    by_cases hn : n ≤ 2 * i + 1
    · rw [if_pos hn]
      intro k h0 hk
      exact c1 k h0 hk (by omega)
    rw [if_neg hn]
    have hk1 := kid_lt (l := l) (i := i) (n := n) (by omega)
    have hk2 := kid_par (l := l) (i := i) (n := n)
    have hk3 := kid_least (l := l) (i := i) (n := n)
    generalize kid l i n = c at *
    by_cases hl : hlt (hiAt l c) (hiAt l i) = true
    · rw [if_pos hl]
      have hs := fun m => hiAt_swap (l := l) (i := i) (k := c) (by omega) (by omega) m
      refine down_heap f _ c n (by omega) (by rw [swapL_length]; exact hN) ?_ ?_
      · intro k h0 hk hkc
        rw [hs, hs]
        by_cases e1 : k = c
        · rw [if_pos e1, e1, hk2.1, if_neg (show ¬ i = c by omega), if_pos rfl]; exact hle_of_lt hl
        · rw [if_neg e1, if_neg hkc]
          by_cases e2 : (k - 1) / 2 = i
          · rw [if_pos e2, if_neg (show ¬ k = i by omega)]; exact hk3 k h0 hk e2
          · rw [if_neg e2]
            by_cases e3 : k = i
            · rw [if_pos e3, e3]
              exact c2 c hk2.2 hk1.1 hk2.1 (by omega)
            · rw [if_neg e3]; exact c1 k h0 hk e2
      · intro k h0 hk hkc hc0
        rw [hs, hs, hk2.1, if_neg (show ¬ i = c by omega), if_pos rfl, if_neg (show ¬ k = c by omega), if_neg (show ¬ k = i by omega)]
        have := c1 k h0 hk (by omega)
        rw [hkc] at this
        exact this
    · rw [if_neg hl]
      intro k h0 hk
      by_cases e1 : (k - 1) / 2 = i
      · rw [e1]; exact hle_trans (hle_not hl) (hk3 k h0 hk e1)
      · exact c1 k h0 hk e1
/-- What lies behind the first n stays. -/
theorem downF_far : ∀ (f : Nat) (l : List Hi) (i n m : Nat), n ≤ l.length → i < n → n ≤ m → hiAt (downF f l i n) m = hiAt l m
  | 0, _, _, _, _, _, _, _ => rfl
  | f + 1, l, i, n, m, hN, hi, hm => by
    unfold downF; split
    · rfl
    · rename_i hn
      have hk := kid_lt (l := l) (i := i) (n := n) (by omega)
      split
      · rw [downF_far f _ _ n m (by rw [swapL_length]; exact hN) hk.1 hm, hiAt_swap (by omega) (by omega), if_neg (by omega), if_neg (by omega)]
      · rfl
theorem hiAt_append {l m : List Hi} {k : Nat} (h : k < l.length) : hiAt (l ++ m) k = hiAt l k := by unfold hiAt; rw [List.getElem?_append_left h]
theorem hiAt_take {l : List Hi} {n k : Nat} (h : k < n) : hiAt (l.take n) k = hiAt l k := by simp [hiAt, h]
theorem IsHeap.push {l : List Hi} (h : IsHeap l l.length) (x : Hi) : IsHeap (pushH l x) (pushH l x).length := by
  rw [pushH_length]
  refine up_heap _ _ _ _ (by omega) (by omega) (by simp) ?_ ?_
  · intro k h0 hk hne
    rw [hiAt_append (by omega), hiAt_append (by omega)]
    exact h k h0 (by omega)
  · intro k h0 hk hp hl
    omega
theorem IsHeap.pop {l : List Hi} {n : Nat} (h : IsHeap l l.length) (hl : l.length = n + 1) : IsHeap ((popL l n).take n) n ∧ ((popL l n).take n ++ [hiAt l 0]).Perm l := by
  have hs := fun m => hiAt_swap (l := l) (i := 0) (k := n) (by omega) (by omega) m
  constructor
  · intro k h0 hk
    rw [hiAt_take (by omega), hiAt_take hk]
    refine down_heap (n + 1) (swapL l 0 n) 0 n (by omega) (by rw [swapL_length]; omega) ?_ (by omega) k h0 hk
    intro k h0 hk hp
    rw [hs, hs, if_neg (by omega), if_neg (by omega), if_neg (by omega), if_neg (by omega)]
    exact h k h0 (by omega)
  · have hlen : (popL l n).length = n + 1 := by rw [popL_length]; exact hl
    have e : hiAt (popL l n) n = hiAt l 0 := by
      unfold popL
      by_cases h0 : n = 0
      · subst h0; simp [downF, hs]
      · rw [downF_far _ _ _ _ _ (by rw [swapL_length]; omega) (by omega) (Nat.le_refl _), hs, if_pos rfl]
    have e2 : (popL l n).take n ++ [hiAt l 0] = popL l n := by
      rw [← e, hiAt_eq (by omega)]
      have := List.take_succ_eq_append_getElem (l := popL l n) (i := n) (by omega)
      rw [← this, List.take_of_length_le (by omega)]
    rw [e2]
    exact popL_perm hl
end LHeapOk
end Go.Proofs.YtgaglgopbdfemaaGreatDoor
