import Derived.Test.YtiebljanpnadjaaGreatPgStepA
namespace Go.Proofs.YtiebljanpnadjaaGreat
set_option linter.all false
section LInv28
open Go.RowKit
theorem swapL_perm (l : List Hi) {i k : Nat} (hi : i < l.length) (hk : k < l.length) : (swapL l i k).Perm l := by
 have h := Array.swap_perm (xs := l.toArray) (i := i) (j := k) (by simpa using hi) (by simpa using hk)
 have e : (l.toArray.swap i k (by simpa using hi) (by simpa using hk)).toList = swapL l i k := by
  unfold swapL
  rw [hiAt_eq hi, hiAt_eq hk]
  simp [Array.swap_def]
 have := Array.perm_iff_toList_perm.1 h
 rw [e] at this
 simpa using this
theorem upF_perm : ∀ (f : Nat) (l : List Hi) (j : Nat), j < l.length → (upF f l j).Perm l
 | 0, l, _, _ => List.Perm.refl _
 | f + 1, l, j, h => by
  unfold upF; split
  ·exact List.Perm.refl _
  ·split
   ·have hp : (j - 1) / 2 < l.length := by omega
    exact (upF_perm f _ _ (by rw [swapL_length]; exact hp)).trans (swapL_perm l hp h)
   ·exact List.Perm.refl _
theorem kid_lt {l : List Hi} {i n : Nat} (h : 2 * i + 1 < n) : kid l i n < n ∧ i < kid l i n := by
 unfold kid; split
 ·rename_i h2; simp at h2; omega
 ·omega
theorem downF_perm : ∀ (f : Nat) (l : List Hi) (i n : Nat), n ≤ l.length → (downF f l i n).Perm l
 | 0, l, _, _, _ => List.Perm.refl _
 | f + 1, l, i, n, h => by
  unfold downF; split
  ·exact List.Perm.refl _
  ·rename_i hn
   have hk := kid_lt (l := l) (i := i) (n := n) (by omega)
   split
   ·exact (downF_perm f _ _ n (by rw [swapL_length]; exact h)).trans (swapL_perm l (by omega) (by omega))
   ·exact List.Perm.refl _
theorem pushH_perm (l : List Hi) (x : Hi) : (pushH l x).Perm (l ++ [x]) := upF_perm _ _ _ (by simp)
theorem popL_perm {l : List Hi} {n : Nat} (h : l.length = n + 1) : (popL l n).Perm l := by
 unfold popL
 exact (downF_perm _ _ _ _ (by rw [swapL_length]; omega)).trans (swapL_perm l (by omega) (by omega))
theorem Sound.zones {P : Prob} (h : Sound P) {b : Bx} (hv : b.v = true) (hw : b.wi P.reg) : bxE P b = 0 := by
 have hw' : wiP b.a b.b b.c b.d b.e b.f P.x0 P.y0 P.z0 P.x1 P.y1 P.z1 = true := by
  have := wiP_of hv (show P.reg.v = true from h.vb) hw
  dsimp only [Prob.reg] at this
  exact this
 show zonesE P b.a b.b b.c b.d b.e b.f = 0
 unfold zonesE
 rw [if_pos (sound_iff.2 h), if_pos hw']
 exact errOf_zero.2 fun a ha => by
  have hN := ((h.near ha).within hw').1
  obtain ⟨-, -, c⟩ := hN.bnd
  have hp := h.phase ha
  show znE _ _ _ _ _ _ _ _ _ _ _ _ _ _ _ = 0
  unfold znE; rw [if_pos hN.ok, if_pos hN.vb, if_pos hp]; exact c
theorem mid_in {a b : Int} (h : a ≤ b) : a ≤ midI a b ∧ midI a b ≤ b := by have := midI_in h; omega
theorem Bx.center_in {b : Bx} (hv : b.v = true) : b.has b.c0 b.c1 b.c2 ∧ Bx.v ⟨b.c0, b.c1, b.c2, b.c0, b.c1, b.c2⟩ = true ∧ Bx.wi ⟨b.c0, b.c1, b.c2, b.c0, b.c1, b.c2⟩ b := by
 obtain ⟨v0, v1, o0, o1, o2⟩ := bP_iff (show bP b.a b.b b.c b.d b.e b.f = true from hv)
 have i0 := vP_iff v0; have i1 := vP_iff v1
 have e0 : b.c0 = midI b.a b.d := by unfold Bx.c0 cen; rw [hv]; rfl
 have e1 : b.c1 = midI b.b b.e := by unfold Bx.c1 cen; rw [hv]; rfl
 have e2 : b.c2 = midI b.c b.f := by unfold Bx.c2 cen; rw [hv]; rfl
 have m0 := mid_in o0; have m1 := mid_in o1; have m2 := mid_in o2
 have hvp : vP b.c0 b.c1 b.c2 = true := vP_mk (by omega)
 refine ⟨by unfold Bx.has; omega, (show bP b.c0 b.c1 b.c2 b.c0 b.c1 b.c2 = true from bP_mk hvp hvp (Int.le_refl _) (Int.le_refl _) (Int.le_refl _)), by unfold Bx.wi; dsimp only; omega⟩
def AllIn (P : Prob) (h : List Hi) : Prop := ∀ i ∈ h, i.b.v = true ∧ i.b.wi P.reg
theorem AllIn.perm {P : Prob} {h h' : List Hi} (a : AllIn P h) (p : h'.Perm h) : AllIn P h' := fun i hi => a i (p.mem_iff.1 hi)
theorem AllIn.push {P : Prob} {h : List Hi} (a : AllIn P h) {x : Hi} (hv : x.b.v = true) (hw : x.b.wi P.reg) : AllIn P (pushH h x) := fun i hi => by
 have := (pushH_perm h x).mem_iff.1 hi
 simp only [List.mem_append, List.mem_singleton] at this
 rcases this with h1 | rfl
 ·exact a i h1
 ·exact ⟨hv, hw⟩
theorem AllIn.rest {P : Prob} {s : Ps} (a : AllIn P s.h) (h0 : 0 < s.h.length) : AllIn P s.rest := fun i hi => by
 unfold Ps.rest at hi
 have h1 := List.mem_of_mem_take hi
 exact a i ((popL_perm (n := s.h.length - 1) (by omega)).mem_iff.1 h1)
theorem Ps.step_ok {P : Prob} {s : Ps} (h : (hiAt s.h 0).b.ok = true) : s.step P = ⟨pushH (pushH s.rest ⟨(hiAt s.h 0).b.fst, bxC P (hiAt s.h 0).b.fst, s.num⟩) ⟨(hiAt s.h 0).b.snd, bxC P (hiAt s.h 0).b.snd, (s.num + 1 : Nat)⟩, s.num + 1 + 1, s.tk + 1, true, looksP P s.fd s.x (hiAt s.h 0).b⟩ := if_pos h
theorem Ps.step_no {P : Prob} {s : Ps} (h : ¬ (hiAt s.h 0).b.ok = true) : s.step P = ⟨s.rest, s.num, s.tk + 1, true, looksP P s.fd s.x (hiAt s.h 0).b⟩ := if_neg h
theorem AllIn.step {P : Prob} {s : Ps} (a : AllIn P s.h) (h0 : 0 < s.h.length) : AllIn P (s.step P).h := by
 have hb := a (hiAt s.h 0) (by rw [hiAt_eq h0]; exact List.getElem_mem h0)
 have hr := a.rest h0
 by_cases ho : (hiAt s.h 0).b.ok = true
 ·obtain ⟨v1, v2, w1, w2, -⟩ := Bx.parts hb.1 ho
  have w1' := Bx.wi_trans w1 hb.2
  have w2' := Bx.wi_trans w2 hb.2
  rw [Ps.step_ok ho]
  generalize (hiAt s.h 0).b = b at *
  exact (hr.push (x := ⟨b.fst, bxC P b.fst, s.num⟩) v1 w1').push (x := ⟨b.snd, bxC P b.snd, (s.num + 1 : Nat)⟩) v2 w2'
 ·rw [Ps.step_no ho]; exact hr
theorem AllIn.fine {P : Prob} (hP : Sound P) {s : Ps} (a : AllIn P s.h) (h0 : 0 < s.h.length) :
  bdE P (hiAt s.h 0).b.c0 (hiAt s.h 0).b.c1 (hiAt s.h 0).b.c2 (hiAt s.h 0).b.c0 (hiAt s.h 0).b.c1 (hiAt s.h 0).b.c2 = 0 ∧ ((hiAt s.h 0).b.ok = true → bxE P (hiAt s.h 0).b.fst = 0 ∧ bxE P (hiAt s.h 0).b.snd = 0) := by
 have hb := a (hiAt s.h 0) (by rw [hiAt_eq h0]; exact List.getElem_mem h0)
 obtain ⟨-, c2, c3⟩ := Bx.center_in hb.1
 have hc := hP.zones c2 (Bx.wi_trans c3 hb.2)
 generalize (hiAt s.h 0).b = b at *
 unfold bxE at hc
 dsimp only at hc
 refine ⟨hc, fun ho => ?_⟩
 obtain ⟨v1, v2, w1, w2, -⟩ := Bx.parts hb.1 ho
 exact ⟨hP.zones v1 (Bx.wi_trans w1 hb.2), hP.zones v2 (Bx.wi_trans w2 hb.2)⟩
theorem Ps.step_sizes (P : Prob) (s : Ps) (h0 : 0 < s.h.length) : (s.step P).h.length ≤ s.h.length + 1 ∧ (s.step P).num ≤ s.num + 2 ∧ (s.step P).tk = s.tk + 1 ∧ (s.step P).fd = true := by
 have hr := s.rest_length
 by_cases ho : (hiAt s.h 0).b.ok = true
 ·rw [Ps.step_ok ho]
  exact ⟨by dsimp only; rw [pushH_length, pushH_length]; omega, by dsimp only; omega, rfl, rfl⟩
 ·rw [Ps.step_no ho]
  exact ⟨by dsimp only; omega, by dsimp only; omega, rfl, rfl⟩
def Ps.run (P : Prob) (tol : Int) : Nat → Ps → Option Ps
 | 0, s => if s.ended tol then some s else none
 | f + 1, s => if s.ended tol then some s else Ps.run P tol f (s.step P)
def Ps.start (P : Prob) : Ps := ⟨pushH [] ⟨P.reg, bxC P P.reg, (0 : Nat)⟩, 1, 0, false, loc0⟩
end LInv28
section LHeapOk
open Go.RowKit
def hle (a b : Hi) : Prop := hlt b a = false
theorem hle_iff {a b : Hi} : hle a b ↔ a.c < b.c ∨ (a.c = b.c ∧ a.n ≤ b.n) := by
 unfold hle hlt; simp; omega
theorem hle_of_lt {a b : Hi} (h : hlt a b = true) : hle a b := by
 rw [hle_iff]; unfold hlt at h; simp at h; omega
theorem hle_trans {a b c : Hi} (h : hle a b) (k : hle b c) : hle a c := by rw [hle_iff] at *; omega
theorem hle_refl (a : Hi) : hle a a := by rw [hle_iff]; omega
theorem hle_not {a b : Hi} (h : ¬ hlt a b = true) : hle b a := by unfold hle; simpa using h
theorem hiAt_swap {l : List Hi} {i k : Nat} (hi : i < l.length) (hk : k < l.length) (m : Nat) : hiAt (swapL l i k) m = if m = k then hiAt l i else if m = i then hiAt l k else hiAt l m := by
 unfold swapL
 by_cases h1 : m = k
 ·subst h1; simp [hiAt, hk]
 ·rw [if_neg h1]
  by_cases h2 : m = i
  ·subst h2; simp [hiAt, hi, hk, List.getElem?_set, Ne.symm h1]
  ·rw [if_neg h2]; simp [hiAt, List.getElem?_set, Ne.symm h1, Ne.symm h2]
def IsHeap (l : List Hi) (n : Nat) : Prop := ∀ k, 0 < k → k < n → hle (hiAt l ((k - 1) / 2)) (hiAt l k)
theorem IsHeap.least {l : List Hi} {n : Nat} (h : IsHeap l n) : ∀ k, k < n → hle (hiAt l 0) (hiAt l k) := by
 intro k
 induction k using Nat.strongRecOn with
 | _ k ih =>
  intro hk
  by_cases h0 : k = 0
  ·subst h0; exact hle_refl _
  ·exact hle_trans (ih ((k - 1) / 2) (by omega) (by omega)) (h k (by omega) hk)
theorem up_heap : ∀ (f : Nat) (l : List Hi) (j N : Nat), j < f → j < N → N ≤ l.length → (∀ k, 0 < k → k < N → k ≠ j → hle (hiAt l ((k - 1) / 2)) (hiAt l k)) →
  (∀ k, 0 < k → k < N → (k - 1) / 2 = j → 0 < j → hle (hiAt l ((j - 1) / 2)) (hiAt l k)) → IsHeap (upF f l j) N
 | 0, _, _, _, h, _, _, _, _ => by omega
 | f + 1, l, j, N, hf, hj, hN, c1, c2 => by
  unfold upF
  by_cases hp : (j - 1) / 2 = j
  ·rw [if_pos hp]
   intro k h0 hk
   exact c1 k h0 hk (by omega)
  rw [if_neg hp]
  obtain ⟨p, hpe⟩ : ∃ p, p = (j - 1) / 2 := ⟨_, rfl⟩
  have hpj : p < j := by omega
  rw [← hpe]
  by_cases hl : hlt (hiAt l j) (hiAt l p) = true
  ·rw [if_pos hl]
   have hs := fun m => hiAt_swap (l := l) (i := p) (k := j) (by omega) (by omega) m
   refine up_heap f _ p N (by omega) (by omega) (by rw [swapL_length]; exact hN) ?_ ?_
   ·intro k h0 hk hkp
    rw [hs, hs]
    by_cases e1 : k = j
    ·rw [if_pos e1, e1, ← hpe, if_neg (show ¬ p = j by omega), if_pos rfl]; exact hle_of_lt hl
    ·rw [if_neg e1, if_neg hkp]
     by_cases e2 : (k - 1) / 2 = j
     ·rw [if_pos e2, hpe]; exact c2 k h0 hk e2 (by omega)
     ·rw [if_neg e2]
      by_cases e3 : (k - 1) / 2 = p
      ·rw [if_pos e3]
       have := c1 k h0 hk e1
       rw [e3] at this
       exact hle_trans (hle_of_lt hl) this
      ·rw [if_neg e3]; exact c1 k h0 hk e1
   ·intro k h0 hk hkp hp0
    rw [hs, hs]
    have hpp : hle (hiAt l ((p - 1) / 2)) (hiAt l p) := c1 p hp0 (by omega) (by omega)
    rw [if_neg (show ¬ (p - 1) / 2 = j by omega), if_neg (show ¬ (p - 1) / 2 = p by omega)]
    by_cases e1 : k = j
    ·rw [if_pos e1]; exact hpp
    ·rw [if_neg e1, if_neg (show ¬ k = p by omega)]
     have := c1 k h0 hk e1
     rw [hkp] at this
     exact hle_trans hpp this
  ·rw [if_neg hl]
   intro k h0 hk
   by_cases e1 : k = j
   ·subst e1; rw [← hpe]; exact hle_not hl
   ·exact c1 k h0 hk e1
theorem kid_least {l : List Hi} {i n : Nat} : ∀ k, 0 < k → k < n → (k - 1) / 2 = i → hle (hiAt l (kid l i n)) (hiAt l k) := by
 intro k h0 hk hp
 have : k = 2 * i + 1 ∨ k = 2 * i + 1 + 1 := by omega
 unfold kid
 by_cases hc : (decide (2 * i + 1 + 1 < n) && hlt (hiAt l (2 * i + 1 + 1)) (hiAt l (2 * i + 1))) = true
 ·rw [if_pos hc]
  simp only [Bool.and_eq_true, decide_eq_true_eq] at hc
  rcases this with rfl | rfl
  ·exact hle_of_lt hc.2
  ·exact hle_refl _
 ·rw [if_neg hc]
  rcases this with rfl | rfl
  ·exact hle_refl _
  ·refine hle_not fun h => hc ?_
   simp only [Bool.and_eq_true, decide_eq_true_eq]
   exact ⟨hk, h⟩
theorem kid_par {l : List Hi} {i n : Nat} : (kid l i n - 1) / 2 = i ∧ 0 < kid l i n := by
 unfold kid; split <;> omega
theorem down_heap : ∀ (f : Nat) (l : List Hi) (i n : Nat), n < i + f + 1 → n ≤ l.length → (∀ k, 0 < k → k < n → (k - 1) / 2 ≠ i → hle (hiAt l ((k - 1) / 2)) (hiAt l k)) →
  (∀ k, 0 < k → k < n → (k - 1) / 2 = i → 0 < i → hle (hiAt l ((i - 1) / 2)) (hiAt l k)) → IsHeap (downF f l i n) n
 | 0, l, i, n, hf, hN, c1, c2 => by
  intro k h0 hk
  exact c1 k h0 hk (by omega)
 | f + 1, l, i, n, hf, hN, c1, c2 => by
  unfold downF
  by_cases hn : n ≤ 2 * i + 1
  ·rw [if_pos hn]
   intro k h0 hk
   exact c1 k h0 hk (by omega)
  rw [if_neg hn]
  have hk1 := kid_lt (l := l) (i := i) (n := n) (by omega)
  have hk2 := kid_par (l := l) (i := i) (n := n)
  have hk3 := kid_least (l := l) (i := i) (n := n)
  generalize kid l i n = c at *
  by_cases hl : hlt (hiAt l c) (hiAt l i) = true
  ·rw [if_pos hl]
   have hs := fun m => hiAt_swap (l := l) (i := i) (k := c) (by omega) (by omega) m
   refine down_heap f _ c n (by omega) (by rw [swapL_length]; exact hN) ?_ ?_
   ·intro k h0 hk hkc
    rw [hs, hs]
    by_cases e1 : k = c
    ·rw [if_pos e1, e1, hk2.1, if_neg (show ¬ i = c by omega), if_pos rfl]; exact hle_of_lt hl
    ·rw [if_neg e1, if_neg hkc]
     by_cases e2 : (k - 1) / 2 = i
     ·rw [if_pos e2, if_neg (show ¬ k = i by omega)]; exact hk3 k h0 hk e2
     ·rw [if_neg e2]
      by_cases e3 : k = i
      ·rw [if_pos e3, e3]
       exact c2 c hk2.2 hk1.1 hk2.1 (by omega)
      ·rw [if_neg e3]; exact c1 k h0 hk e2
   ·intro k h0 hk hkc hc0
    rw [hs, hs, hk2.1, if_neg (show ¬ i = c by omega), if_pos rfl, if_neg (show ¬ k = c by omega), if_neg (show ¬ k = i by omega)]
    have := c1 k h0 hk (by omega)
    rw [hkc] at this
    exact this
  ·rw [if_neg hl]
   intro k h0 hk
   by_cases e1 : (k - 1) / 2 = i
   ·rw [e1]; exact hle_trans (hle_not hl) (hk3 k h0 hk e1)
   ·exact c1 k h0 hk e1
theorem downF_far : ∀ (f : Nat) (l : List Hi) (i n m : Nat), n ≤ l.length → i < n → n ≤ m → hiAt (downF f l i n) m = hiAt l m
 | 0, _, _, _, _, _, _, _ => rfl
 | f + 1, l, i, n, m, hN, hi, hm => by
  unfold downF; split
  ·rfl
  ·rename_i hn
   have hk := kid_lt (l := l) (i := i) (n := n) (by omega)
   split
   ·rw [downF_far f _ _ n m (by rw [swapL_length]; exact hN) hk.1 hm, hiAt_swap (by omega) (by omega), if_neg (by omega), if_neg (by omega)]
   ·rfl
theorem hiAt_append {l m : List Hi} {k : Nat} (h : k < l.length) : hiAt (l ++ m) k = hiAt l k := by unfold hiAt; rw [List.getElem?_append_left h]
theorem hiAt_take {l : List Hi} {n k : Nat} (h : k < n) : hiAt (l.take n) k = hiAt l k := by simp [hiAt, h]
theorem IsHeap.push {l : List Hi} (h : IsHeap l l.length) (x : Hi) : IsHeap (pushH l x) (pushH l x).length := by
 rw [pushH_length]
 refine up_heap _ _ _ _ (by omega) (by omega) (by simp) ?_ ?_
 ·intro k h0 hk hne
  rw [hiAt_append (by omega), hiAt_append (by omega)]
  exact h k h0 (by omega)
 ·intro k h0 hk hp hl
  omega
theorem IsHeap.pop {l : List Hi} {n : Nat} (h : IsHeap l l.length) (hl : l.length = n + 1) : IsHeap ((popL l n).take n) n ∧ ((popL l n).take n ++ [hiAt l 0]).Perm l := by
 have hs := fun m => hiAt_swap (l := l) (i := 0) (k := n) (by omega) (by omega) m
 constructor
 ·intro k h0 hk
  rw [hiAt_take (by omega), hiAt_take hk]
  refine down_heap (n + 1) (swapL l 0 n) 0 n (by omega) (by rw [swapL_length]; omega) ?_ (by omega) k h0 hk
  intro k h0 hk hp
  rw [hs, hs, if_neg (by omega), if_neg (by omega), if_neg (by omega), if_neg (by omega)]
  exact h k h0 (by omega)
 ·have hlen : (popL l n).length = n + 1 := by rw [popL_length]; exact hl
  have e : hiAt (popL l n) n = hiAt l 0 := by
   unfold popL
   by_cases h0 : n = 0
   ·subst h0; simp [downF, hs]
   ·rw [downF_far _ _ _ _ _ (by rw [swapL_length]; omega) (by omega) (Nat.le_refl _), hs, if_pos rfl]
  have e2 : (popL l n).take n ++ [hiAt l 0] = popL l n := by
   rw [← e, hiAt_eq (by omega)]
   have := List.take_succ_eq_append_getElem (l := popL l n) (i := n) (by omega)
   rw [← this, List.take_of_length_le (by omega)]
  rw [e2]
  exact popL_perm hl
end LHeapOk
open Go.RowKit Rg
set_option maxRecDepth 100000 in
set_option maxHeartbeats 4000000 in
theorem stepfull_any (P : Prob) (vl vh vp : Value) (S B : Nat) (s : Ps) (v : Value) (w : World) (a : PsIn P vl vh vp S B s v w) (ht : s.tk = 3000) :
  Calls Tryz.prog 100 #[.pointer (some ⟨S, 0, none⟩)] w fun e w' => e = .returned (.int .i64 25) ∧ w = w' := by
 have HS := zH a.q.s
 have s13_ := cell_of HS.out 13 (.int .i64 (s.tk : Int)) rfl
 rw [ht] at s13_
 clear a HS
 go_enter Tryz.func100, Tryz.ntmps100
 go_wp2
 go_ret
 exact ⟨rfl, rfl⟩
theorem Fr.out {S : Nat} {v v' : Value} {w u u' : World} (hf : Fr S v v' u u') (hg : w.grownBy u none) (hS : w.heap.size ≤ S) (ho : ∀ g, v.ownBlock = some g → w.heap.size ≤ g) : w.grownBy u' none :=
 ⟨hf.os.trans hg.os, hf.tape.trans hg.tape, hf.output.trans hg.output, Nat.le_trans hg.size hf.size, fun k hk _ => by
  have hs := hg.size
  rw [hf.block k (by omega) (by omega) (fun e => by have := ho k e.symm; omega), hg.block k hk (by simp)]⟩
theorem Sl.older {w : World} {v : Value} {xs : List Int} (h : Sl w v xs) : ∀ b off len cap, v = .slice (some ⟨b, off, none⟩) len cap → 0 < len → b < w.heap.size := by
 intro b off len cap e hl
 rcases h with ⟨-, a, c, e'⟩ | ⟨b', off', cap', e', hb, _⟩
 ·rw [e] at e'; simp at e'; omega
 ·rw [e] at e'; simp at e'; omega
theorem SlC.older {k n : Nat} {w : World} {v : Value} {ys : List Value} (h : SlC k w v n ys) : ∀ b off len cap, v = .slice (some ⟨b, off, none⟩) len cap → 0 < len → b < w.heap.size := by
 intro b off len cap e hl
 rcases h.2 with ⟨rfl, a, c, e'⟩ | ⟨b', off', cap', e', hb, _⟩
 ·rw [e] at e'; simp at e'; omega
 ·rw [e] at e'; simp at e'; omega
def RunOut (P : Prob) (vl vh vp : Value) (tol : Int) (w : World) (e : Ending) (w' : World) : Prop :=
 w.grownBy w' none ∧ ((∃ c, c ≠ 0 ∧ e = .returned (.tuple #[.pointer none, .int .i64 c]) ∧ c = if valE P ≠ 0 then valE P else if tol < 0 then 2 else 25) ∧ (valE P = 0 → ¬ tol < 0 → Ps.run P tol 3000 (Ps.start P) = none) ∨
  (valE P = 0 ∧ ¬ tol < 0 ∧ ∃ S B s v, e = .returned (.tuple #[.pointer (some ⟨S, 0, none⟩), (0:Int)]) ∧ Ps.run P tol 3000 (Ps.start P) = some s ∧ s.h.length ≤ 100000 ∧ PsIn P vl vh vp S B s v w'))
set_option maxRecDepth 100000 in
set_option maxHeartbeats 8000000 in
theorem run_any (P : Prob) (vl vh vp : Value) (tol : Int) (w : World) (hi : ProbIn P vl vh vp w) (hbig : P.phs.length ≤ 1000000000) :
  Calls Tryz.prog 73 #[.agg (P.val vl vh vp), tol] w (RunOut P vl vh vp tol w) := by
 have VA := zH (fun (u : World) (h : w.grownBy u none) => mvalidate_any P vl vh vp u (hi.after h) hbig)
 have OLD : Hid (∀ y, y = vl ∨ y = vh ∨ y = vp → ∀ b off len cap, y = .slice (some ⟨b, off, none⟩) len cap → 0 < len → b < w.heap.size) := zH (by
  rintro y (rfl | rfl | rfl) b off len cap e hl
  ·exact Sl.older hi.l b off len cap e hl
  ·exact Sl.older hi.h b off len cap e hl
  ·exact SlC.older hi.p b off len cap e hl)
 have SND := zH (fun (h : valE P = 0) => sound_iff.1 h)
 have HI := zH hi
 have ADD := zH (fun (S B : Nat) (h : List Hi) (nm : Nat) (tk' : Int) (fd : Bool) (x' : Loc) (v' : Value) (b : Bx) (u : World) (a' : LsAt P vl vh vp S B h nm tk' fd x' v' u) (hb : bdE P b.a b.b b.c b.d b.e b.f = 0) (h1 : h.length + 1 ≤ 1000000) (h2 : nm ≤ 1000000) => add_any P vl vh vp S B h nm tk' fd x' v' b u a' hbig hb h1 h2)
 have STE := zH (fun (S B : Nat) (s : Ps) (v : Value) (u : World) (a : PsIn P vl vh vp S B s v u) (ht : s.tk ≠ 3000) (ht2 : s.tk ≤ 100000) (hl0 : 0 < s.h.length) (hl : s.h.length ≤ 100000) (hn : s.num ≤ 100000) (hs : Sound P) (ha : AllIn P s.h) => step_any P vl vh vp S B s v u a hbig ht ht2 hl0 hl hn (ha.fine hs hl0).1 (ha.fine hs hl0).2)
 obtain ⟨pa, pc, rfl⟩ := hi.p.slice
 obtain ⟨la, ln, lc, rfl⟩ := sl_slice hi.l
 obtain ⟨ha, hn, hc, rfl⟩ := sl_slice hi.h
 generalize hRO : RunOut P (.slice la ln lc) (.slice ha hn hc) (.slice pa P.phs.length pc) tol w = RO
 have HRO := zH hRO.symm
 clear hRO hi hbig
 generalize hPP : P = P0 at *
 obtain ⟨x0, y0, z0, x1, y1, z1, step, ls, hs, phs, cap⟩ := P
 generalize hpn : phs.length = pn at *
 have hpn0 : P0.phs.length = pn := by rw [← hPP]; exact hpn
 rw [hpn0] at VA OLD HI ADD STE HRO ⊢
 have hPV : Prob.val P0 (.slice la ln lc) (.slice ha hn hc) (.slice pa pn pc) = #[.int .i64 x0, .int .i64 y0, .int .i64 z0, .int .i64 x1, .int .i64 y1, .int .i64 z1, .int .i64 step, .slice la ln lc, .slice ha hn hc, .slice pa pn pc, .int .i64 cap] := by rw [← hPP]; rfl
 have hRG : P0.reg = ⟨x0, y0, z0, x1, y1, z1⟩ := by rw [← hPP]; rfl
 rw [hPV] at VA ⊢
 have hg0 := gb_alloc (gb_refl w none) (.cells #[x0, y0, z0, x1, y1, z1, step, .slice la ln lc, .slice ha hn hc, .slice pa pn pc, cap] 83)
 have K0 := zH (heap_alloc_new w (.cells #[x0, y0, z0, x1, y1, z1, step, .slice la ln lc, .slice ha hn hc, .slice pa pn pc, cap] 83)); have G0 := zH hg0
 clear hg0 hPP hpn
 generalize hE : valE P0 = E at *
 obtain ⟨e0_, e1_, e2_, e3_, e4_, e5_, e6_, e7_, e8_, e9_, e10_⟩ := cells11 K0.out
 go_enter Tryz.func73, Tryz.ntmps73
 go_wp2_with fail
 generalize w.alloc (.cells #[x0, y0, z0, x1, y1, z1, step, .slice la ln lc, .slice ha hn hc, .slice pa pn pc, cap] 83) = w1 at *
 (with_reducible refine (VA.out w1 G0.out).mono ?_)
 rintro r w2 ⟨rfl, hg⟩
 clear e0_ e1_ e2_ e3_ e4_ e5_ e6_ e7_ e8_ e9_ e10_
 have K2 := zH (block_kept hg K0.out rfl); have G2 := zH (gb_trans G0.out hg)
 clear hg K0 G0 VA
 by_cases hE0 : E = 0
 rotate_left
 ·have hE' : (E == 0) = false := by simpa using hE0
  go_wp2_with fail
  show RO (.returned (.tuple #[.pointer none, E])) w2
  rw [HRO.out]
  exact ⟨G2.out, .inl ⟨⟨E, hE0, rfl, by rw [hE, if_pos hE0]⟩, fun h => absurd (hE ▸ h) hE0⟩⟩
 subst hE0
 by_cases ht : tol < 0
 ·have ht' : decide (tol < 0) = true := decide_eq_true ht
  go_wp2_with fail
  show RO (.returned (.tuple #[.pointer none, (2:Int)])) w2
  rw [HRO.out]
  exact ⟨G2.out, .inl ⟨⟨2, by decide, rfl, by rw [hE, if_neg (by simp), if_pos ht]⟩, fun _ h => absurd ht h⟩⟩
 have ht' : decide (tol < 0) = false := decide_eq_false ht
 have HS := zH (SND.out rfl)
 have HE0 := zH hE; have HT0 := zH ht
 clear SND hE ht
 have hRV : P0.reg.v = true := HS.out.vb
 have hgS : w2.grownBy (w2.alloc (.cells #[x0, y0, z0, x1, y1, z1, step, .slice la ln lc, .slice ha hn hc, .slice pa pn pc, cap, .slice none 0 0, (0:Int), (0:Int), .bool false, (0:Int), (0:Int), (0:Int), (0:Int), (0:Int), (0:Int), (0:Int), (0:Int), (0:Int), (0:Int), (0:Int), (0:Int)] 119)) none := gb_alloc (gb_refl _ _) _
 have A3 : Hid (LsAt P0 (.slice la ln lc) (.slice ha hn hc) (.slice pa pn pc) w2.heap.size (w2.heap.size + 1) [] (0 : Nat) (0 : Nat) false loc0 (.slice none 0 0) (w2.alloc (.cells #[x0, y0, z0, x1, y1, z1, step, .slice la ln lc, .slice ha hn hc, .slice pa pn pc, cap, .slice none 0 0, (0:Int), (0:Int), .bool false, (0:Int), (0:Int), (0:Int), (0:Int), (0:Int), (0:Int), (0:Int), (0:Int), (0:Int), (0:Int), (0:Int), (0:Int)] 119))) := zH (by
  refine ⟨⟨?_, rfl, ?_, by omega, by simp⟩, HI.out.after (gb_trans G2.out hgS), fun y hy b off len cap e hl => Nat.lt_of_lt_of_le (OLD.out y hy b off len cap e hl) G2.out.size⟩
  ·have e : csS P0 (.slice la ln lc) (.slice ha hn hc) (.slice pa pn pc) (.slice none 0 0) (0 : Nat) (0 : Nat) false loc0 = #[.int .i64 x0, .int .i64 y0, .int .i64 z0, .int .i64 x1, .int .i64 y1, .int .i64 z1, .int .i64 step, .slice la ln lc, .slice ha hn hc, .slice pa pn pc, .int .i64 cap, .slice none 0 0, .int .i64 0, .int .i64 0, .bool false, .int .i64 0, .int .i64 0, .int .i64 0, .int .i64 0, .int .i64 0, .int .i64 0, .int .i64 0, .int .i64 0, .int .i64 0, .int .i64 0, .int .i64 0, .int .i64 0] := by
    have := congrArg Array.toList hPV
    unfold csS
    simp only [Prob.val] at hPV
    simp at hPV
    obtain ⟨q0, q1, q2, q3, q4, q5, q6, q7⟩ := hPV
    simp [q0, q1, q2, q3, q4, q5, q6, q7, loc0]
   rw [e]; exact heap_alloc_new w2 _
  ·exact World.ownsRow_nil _ _ _ _)
 have G3 := zH (gb_trans G2.out hgS); have K3 := zH (block_kept hgS K2.out rfl)
 obtain ⟨e0_, e1_, e2_, e3_, e4_, e5_, e6_, e7_, e8_, e9_, e10_⟩ := cells11 K2.out
 have hsz2 := block_lt' K2.out
 have G2' := zH G2.out
 clear hgS HI OLD
 go_wp2_with fail
 generalize w2.alloc (.cells #[x0, y0, z0, x1, y1, z1, step, .slice la ln lc, .slice ha hn hc, .slice pa pn pc, cap, .slice none 0 0, (0:Int), (0:Int), .bool false, (0:Int), (0:Int), (0:Int), (0:Int), (0:Int), (0:Int), (0:Int), (0:Int), (0:Int), (0:Int), (0:Int), (0:Int)] 119) = w3 at *
 generalize hSS : w2.heap.size = S at *
 clear K2 hsz2
 clear e0_ e1_ e2_ e3_ e4_ e5_ e6_ e7_ e8_ e9_ e10_
 have hSw : w.heap.size ≤ S := by rw [← hSS]; exact G2'.out.size
 have HB0 : bdE P0 P0.reg.a P0.reg.b P0.reg.c P0.reg.d P0.reg.e P0.reg.f = 0 := HS.out.zones hRV (Bx.wi_refl _)
 have AD0 := zH (ADD.out S (S + 1) [] 0 (0 : Nat) false loc0 (.slice none 0 0) P0.reg w3 A3.out HB0 (by simp) (by omega))
 have hBV : P0.reg.val = #[.int .i64 x0, .int .i64 y0, .int .i64 z0, .int .i64 x1, .int .i64 y1, .int .i64 z1] := by rw [hRG]; rfl
 rw [hBV] at AD0
 have HST : Hid (Ps.start P0 = ⟨pushH [] ⟨P0.reg, bxC P0 P0.reg, (0 : Nat)⟩, 1, 0, false, loc0⟩) := zH rfl
 have HAL : Hid (AllIn P0 (pushH [] ⟨P0.reg, bxC P0 P0.reg, (0 : Nat)⟩)) := zH (AllIn.push (P := P0) (h := []) (fun i hi => by cases hi) (x := ⟨P0.reg, bxC P0 P0.reg, (0 : Nat)⟩) hRV (Bx.wi_refl _))
 clear HB0 hSS ADD
 (with_reducible refine AD0.out.mono ?_)
 rintro e w4 ⟨rfl, v4, hA, hf⟩
 have A4 := zH hA
 have G4 := zH (hf.out G3.out hSw (fun g e => by simp [Value.ownBlock] at e))
 clear hA hf A3 G3 K3 AD0
 go_wp2_with fail
 go_loopg [9] 3000 (fun gk c wr => ∃ (s : Ps) (v : Value), s.tk + gk = 3000 ∧ Ps.run P0 tol 3000 (Ps.start P0) = Ps.run P0 tol gk s ∧ AllIn P0 s.h ∧ s.h.length ≤ 1 + s.tk ∧ s.num ≤ 1 + 2 * s.tk ∧ PsIn P0 (.slice la ln lc) (.slice ha hn hc) (.slice pa pn pc) S (S + 1) s v wr ∧ w.grownBy wr none)
 case atStart =>
  refine ⟨⟨pushH [] ⟨P0.reg, bxC P0 P0.reg, (0 : Nat)⟩, 1, 0, false, loc0⟩, v4, rfl, by rw [HST.out], HAL.out, by rw [pushH_length]; simp, by simp, ?_, G4.out⟩
  have := A4.out
  unfold PsIn
  dsimp only
  push_cast at this ⊢
  exact this
 case round =>
  clear A4 G4 HST HAL
  obtain ⟨s, v, htk, hrun, hal, hlen, hnum, ha, hgr⟩ := hrel
  have HRUN := zH hrun; have AL := zH hal; have A5 := zH ha; have G5 := zH hgr
  clear hrun hal ha hgr
  have EN := zH (ended_any P0 _ _ _ S (S + 1) s.h s.num s.tk s.fd s.x v tol wr A5.out)
  have HEN : Hid (s.ended tol = (decide (s.h.length = 0) || (s.fd && decide (IntKind.i64.wrap (s.x.m - (hiAt s.h 0).c) ≤ tol)))) := zH rfl
  rw [← HEN.out] at EN
  go_wp2_with fail
  (with_reducible refine EN.out.mono ?_)
  rintro e w6 ⟨rfl, hg⟩
  have A6 := zH (A5.out.keep hg); have G6 := zH (gb_trans G5.out hg)
  clear hg A5 G5 EN
  obtain ⟨b_, hb_⟩ : ∃ b_, b_ = s.ended tol := ⟨_, rfl⟩
  rw [← hb_]
  cases b_
  rotate_left
  ·have HR : Hid (Ps.run P0 tol 3000 (Ps.start P0) = some s) := zH (by rw [HRUN.out]; cases gk <;> simp [Ps.run, ← hb_])
   clear hb_
   go_wp2_with fail
   show RO (.returned (.tuple #[.pointer (some ⟨S, 0, none⟩), (0:Int)])) w6
   rw [HRO.out]
   exact ⟨G6.out, .inr ⟨HE0.out, Int.not_lt.2 HT0.out, S, S + 1, s, v, rfl, HR.out, by omega, A6.out⟩⟩
  have hpos : 0 < s.h.length := by
   rcases Nat.eq_zero_or_pos s.h.length with h0 | h0
   ·rw [HEN.out, h0] at hb_; simp at hb_
   ·exact h0
  clear HEN
  by_cases h3 : s.tk = 3000
  ·have SF := zH (stepfull_any P0 _ _ _ S (S + 1) s v w6 A6.out h3)
   have HR : Hid (Ps.run P0 tol 3000 (Ps.start P0) = none) := zH (by
    obtain rfl : gk = 0 := by omega
    rw [HRUN.out]; simp [Ps.run, ← hb_])
   clear hb_
   go_wp2_with fail
   (with_reducible refine SF.out.mono ?_)
   rintro e w7 ⟨rfl, rfl⟩
   go_wp2_with fail
   show RO (.returned (.tuple #[.pointer none, (25:Int)])) w6
   rw [HRO.out]
   exact ⟨G6.out, .inl ⟨⟨25, by decide, rfl, by rw [HE0.out, if_neg (by simp), if_neg (Int.not_lt.2 HT0.out)]⟩, fun _ _ => HR.out⟩⟩
  obtain ⟨g, rfl⟩ : ∃ g, gk = g + 1 := ⟨gk - 1, by omega⟩
  have HRN : Hid (Ps.run P0 tol 3000 (Ps.start P0) = Ps.run P0 tol g (s.step P0)) := zH (by rw [HRUN.out, Ps.run, ← hb_]; rfl)
  have hsz := Ps.step_sizes P0 s hpos
  have HAS := zH (AL.out.step hpos)
  have ST := zH (STE.out S (S + 1) s v w6 A6.out h3 (by omega) hpos (by omega) (by omega) HS.out AL.out)
  have HOWN : Hid (∀ gg, v.ownBlock = some gg → w.heap.size ≤ gg) := zH (fun gg e => by have := (A6.out.q.old gg e).1; omega)
  clear hb_ HRUN AL
  go_wp2_with fail
  (with_reducible refine ST.out.mono ?_)
  rintro e w7 ⟨rfl, v', hA, hf⟩
  have A7 := zH hA; have G7 := zH (hf.out G6.out hSw HOWN.out)
  clear hA hf A6 G6 ST HOWN
  go_wp2_with fail
  go_roundg g
  case measure => omega
  case rel => exact ⟨s.step P0, v', by omega, HRN.out, HAS.out, by omega, by omega, A7.out, G7.out⟩
end Go.Proofs.YtiebljanpnadjaaGreat
