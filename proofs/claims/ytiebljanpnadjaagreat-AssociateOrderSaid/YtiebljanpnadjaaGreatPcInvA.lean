/- InvA -/
import Derived.Test.YtiebljanpnadjaaGreatPcStepA
import Derived.Test.YtiebljanpnadjaaGreatPcSr
namespace Go.Proofs.YtiebljanpnadjaaGreat
set_option linter.all false
section LInv28
open Go.RowKit
theorem swapL_perm (l : List Hi) {i k : Nat} (hi : i < l.length) (hk : k < l.length) : (swapL l i k).Perm l := by
  have h := Array.swap_perm (xs := l.toArray) (i := i) (j := k) (by simpa using hi) (by simpa using hk)
  have e : (l.toArray.swap i k (by simpa using hi) (by simpa using hk)).toList = swapL l i k := by
    unfold swapL
    rw [hiAt_eq hi, hiAt_eq hk]
    simp [Array.swap_def]
  have := Array.perm_iff_toList_perm.1 h
  rw [e] at this
  simpa using this
theorem upF_perm : ∀ (f : Nat) (l : List Hi) (j : Nat), j < l.length → (upF f l j).Perm l
  | 0, l, _, _ => List.Perm.refl _
  | f + 1, l, j, h => by
    unfold upF; split
    · exact List.Perm.refl _
    · split
      · have hp : (j - 1) / 2 < l.length := by omega
        exact (upF_perm f _ _ (by rw [swapL_length]; exact hp)).trans (swapL_perm l hp h)
      · exact List.Perm.refl _
theorem kid_lt {l : List Hi} {i n : Nat} (h : 2 * i + 1 < n) : kid l i n < n ∧ i < kid l i n := by
  unfold kid; split
  · rename_i h2; simp at h2; omega
  · omega
theorem downF_perm : ∀ (f : Nat) (l : List Hi) (i n : Nat), n ≤ l.length → (downF f l i n).Perm l
  | 0, l, _, _, _ => List.Perm.refl _
  | f + 1, l, i, n, h => by
    unfold downF; split
    · exact List.Perm.refl _
    · rename_i hn
      have hk := kid_lt (l := l) (i := i) (n := n) (by omega)
      split
      · exact (downF_perm f _ _ n (by rw [swapL_length]; exact h)).trans (swapL_perm l (by omega) (by omega))
      · exact List.Perm.refl _
theorem pushH_perm (l : List Hi) (x : Hi) : (pushH l x).Perm (l ++ [x]) := upF_perm _ _ _ (by simp)
theorem popL_perm {l : List Hi} {n : Nat} (h : l.length = n + 1) : (popL l n).Perm l := by
  unfold popL
  exact (downF_perm _ _ _ _ (by rw [swapL_length]; omega)).trans (swapL_perm l (by omega) (by omega))
theorem Sound.zones {P : Prob} (h : Sound P) {b : Bx} (hv : b.v = true) (hw : b.wi P.reg) : bxE P b = 0 := by
  have hw' : wiP b.a b.b b.c b.d b.e b.f P.x0 P.y0 P.z0 P.x1 P.y1 P.z1 = true := by
    have := wiP_of hv (show P.reg.v = true from h.vb) hw
    dsimp only [Prob.reg] at this
    exact this
  show zonesE P b.a b.b b.c b.d b.e b.f = 0
  unfold zonesE
  rw [if_pos (sound_iff.2 h), if_pos hw']
  exact errOf_zero.2 fun a ha => by
    have hN := ((h.near ha).within hw').1
    obtain ⟨-, -, c⟩ := hN.bnd
    have hp := h.phase ha
    show znE _ _ _ _ _ _ _ _ _ _ _ _ _ _ _ = 0
    unfold znE; rw [if_pos hN.ok, if_pos hN.vb, if_pos hp]; exact c
theorem mid_in {a b : Int} (h : a ≤ b) : a ≤ midI a b ∧ midI a b ≤ b := by have := midI_in h; omega
/-- The center of a box, as a box. -/
theorem Bx.center_in {b : Bx} (hv : b.v = true) : b.has b.c0 b.c1 b.c2 ∧ Bx.v ⟨b.c0, b.c1, b.c2, b.c0, b.c1, b.c2⟩ = true ∧ Bx.wi ⟨b.c0, b.c1, b.c2, b.c0, b.c1, b.c2⟩ b := by
  obtain ⟨v0, v1, o0, o1, o2⟩ := bP_iff (show bP b.a b.b b.c b.d b.e b.f = true from hv)
  have i0 := vP_iff v0; have i1 := vP_iff v1
  have e0 : b.c0 = midI b.a b.d := by unfold Bx.c0 cen; rw [hv]; rfl
  have e1 : b.c1 = midI b.b b.e := by unfold Bx.c1 cen; rw [hv]; rfl
  have e2 : b.c2 = midI b.c b.f := by unfold Bx.c2 cen; rw [hv]; rfl
  have m0 := mid_in o0; have m1 := mid_in o1; have m2 := mid_in o2
  have hvp : vP b.c0 b.c1 b.c2 = true := vP_mk (by omega)
  refine ⟨by unfold Bx.has; omega, (show bP b.c0 b.c1 b.c2 b.c0 b.c1 b.c2 = true from bP_mk hvp hvp (Int.le_refl _) (Int.le_refl _) (Int.le_refl _)), by unfold Bx.wi; dsimp only; omega⟩
/-- All boxes of a queue lie in the region. -/
def AllIn (P : Prob) (h : List Hi) : Prop := ∀ i ∈ h, i.b.v = true ∧ i.b.wi P.reg
theorem AllIn.perm {P : Prob} {h h' : List Hi} (a : AllIn P h) (p : h'.Perm h) : AllIn P h' := fun i hi => a i (p.mem_iff.1 hi)
theorem AllIn.push {P : Prob} {h : List Hi} (a : AllIn P h) {x : Hi} (hv : x.b.v = true) (hw : x.b.wi P.reg) : AllIn P (pushH h x) := fun i hi => by
  have := (pushH_perm h x).mem_iff.1 hi
  simp only [List.mem_append, List.mem_singleton] at this
  rcases this with h1 | rfl
  · exact a i h1
  · exact ⟨hv, hw⟩
theorem AllIn.rest {P : Prob} {s : Ps} (a : AllIn P s.h) (h0 : 0 < s.h.length) : AllIn P s.rest := fun i hi => by
  unfold Ps.rest at hi
  have h1 := List.mem_of_mem_take hi
  exact a i ((popL_perm (n := s.h.length - 1) (by omega)).mem_iff.1 h1)
theorem Ps.step_ok {P : Prob} {s : Ps} (h : (hiAt s.h 0).b.ok = true) : s.step P = ⟨pushH (pushH s.rest ⟨(hiAt s.h 0).b.fst, bxC P (hiAt s.h 0).b.fst, s.num⟩) ⟨(hiAt s.h 0).b.snd, bxC P (hiAt s.h 0).b.snd, (s.num + 1 : Nat)⟩, s.num + 1 + 1, s.tk + 1, true, looksP P s.fd s.x (hiAt s.h 0).b⟩ := if_pos h
theorem Ps.step_no {P : Prob} {s : Ps} (h : ¬ (hiAt s.h 0).b.ok = true) : s.step P = ⟨s.rest, s.num, s.tk + 1, true, looksP P s.fd s.x (hiAt s.h 0).b⟩ := if_neg h
theorem AllIn.step {P : Prob} {s : Ps} (a : AllIn P s.h) (h0 : 0 < s.h.length) : AllIn P (s.step P).h := by
  have hb := a (hiAt s.h 0) (by rw [hiAt_eq h0]; exact List.getElem_mem h0)
  have hr := a.rest h0
  by_cases ho : (hiAt s.h 0).b.ok = true
  · obtain ⟨v1, v2, w1, w2, -⟩ := Bx.parts hb.1 ho
    have w1' := Bx.wi_trans w1 hb.2
    have w2' := Bx.wi_trans w2 hb.2
    rw [Ps.step_ok ho]
    generalize (hiAt s.h 0).b = b at *
    exact (hr.push (x := ⟨b.fst, bxC P b.fst, s.num⟩) v1 w1').push (x := ⟨b.snd, bxC P b.snd, (s.num + 1 : Nat)⟩) v2 w2'
  · rw [Ps.step_no ho]; exact hr
/-- Nothing goes wrong at a step. -/
theorem AllIn.fine {P : Prob} (hP : Sound P) {s : Ps} (a : AllIn P s.h) (h0 : 0 < s.h.length) :
    bdE P (hiAt s.h 0).b.c0 (hiAt s.h 0).b.c1 (hiAt s.h 0).b.c2 (hiAt s.h 0).b.c0 (hiAt s.h 0).b.c1 (hiAt s.h 0).b.c2 = 0 ∧ ((hiAt s.h 0).b.ok = true → bxE P (hiAt s.h 0).b.fst = 0 ∧ bxE P (hiAt s.h 0).b.snd = 0) := by
  have hb := a (hiAt s.h 0) (by rw [hiAt_eq h0]; exact List.getElem_mem h0)
  obtain ⟨-, c2, c3⟩ := Bx.center_in hb.1
  have hc := hP.zones c2 (Bx.wi_trans c3 hb.2)
  generalize (hiAt s.h 0).b = b at *
  unfold bxE at hc
  dsimp only at hc
  refine ⟨hc, fun ho => ?_⟩
  obtain ⟨v1, v2, w1, w2, -⟩ := Bx.parts hb.1 ho
  exact ⟨hP.zones v1 (Bx.wi_trans w1 hb.2), hP.zones v2 (Bx.wi_trans w2 hb.2)⟩
theorem Ps.step_sizes (P : Prob) (s : Ps) (h0 : 0 < s.h.length) : (s.step P).h.length ≤ s.h.length + 1 ∧ (s.step P).num ≤ s.num + 2 ∧ (s.step P).tk = s.tk + 1 ∧ (s.step P).fd = true := by
  have hr := s.rest_length
  by_cases ho : (hiAt s.h 0).b.ok = true
  · rw [Ps.step_ok ho]
    exact ⟨by dsimp only; rw [pushH_length, pushH_length]; omega, by dsimp only; omega, rfl, rfl⟩
  · rw [Ps.step_no ho]
    exact ⟨by dsimp only; omega, by dsimp only; omega, rfl, rfl⟩
/-- The program's search, at most so many steps. -/
def Ps.run (P : Prob) (tol : Int) : Nat → Ps → Option Ps
  | 0, s => if s.ended tol then some s else none
  | f + 1, s => if s.ended tol then some s else Ps.run P tol f (s.step P)
def Ps.start (P : Prob) : Ps := ⟨pushH [] ⟨P.reg, bxC P P.reg, (0 : Nat)⟩, 1, 0, false, loc0⟩
end LInv28
section LHeapOk
open Go.RowKit
/-- a comes no later than b. -/
def hle (a b : Hi) : Prop := hlt b a = false
end LHeapOk
end Go.Proofs.YtiebljanpnadjaaGreat
