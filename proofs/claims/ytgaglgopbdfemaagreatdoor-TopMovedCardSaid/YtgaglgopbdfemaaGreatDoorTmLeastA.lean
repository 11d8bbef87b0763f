/- LeastA QrA -/
import Derived.Test.YtgaglgopbdfemaaGreatDoorTmSnd
import Derived.Test.YtgaglgopbdfemaaGreatDoorTmLoc
namespace Go.Proofs.YtgaglgopbdfemaaGreatDoor
set_option linter.all false
section LLeast
open Go.RowKit
/-- How many steps the open boxes are still good for. -/
def total : List Hi → Int
  | [] => 0
  | i :: l => (2 * i.b.pts - 1) + total l
theorem total_append (l m : List Hi) : total (l ++ m) = total l + total m := by
  induction l with
  | nil => simp [total]
  | cons a l ih => simp only [List.cons_append, total, ih]; omega
theorem total_perm {l m : List Hi} (p : l.Perm m) : total l = total m := by
  induction p with
  | nil => rfl
  | cons _ _ ih => simp only [total, ih]
  | swap _ _ _ => simp only [total]; omega
  | trans _ _ h1 h2 => exact h1.trans h2
theorem total_pos {P : Prob} : ∀ {l : List Hi}, AllIn P l → l ≠ [] → 1 ≤ total l
  | [], _, h => absurd rfl h
  | i :: l, a, _ => by
    have h1 := Bx.pts_pos (a i (by simp)).1
    simp only [total]
    by_cases h2 : l = []
    · subst h2; simp only [total]; omega
    · have := total_pos (l := l) (fun j hj => a j (by simp [hj])) h2; omega
/-- The best point never gets worse. -/
theorem looksP_le (P : Prob) (fd : Bool) (x : Loc) (b : Bx) : (looksP P fd x b).m ≤ bdC P b.c0 b.c1 b.c2 b.c0 b.c1 b.c2 ∧ (fd = true → (looksP P fd x b).m ≤ x.m) := by
  unfold looksP
  by_cases h : lookC P (!fd) x b = true
  · rw [if_pos h]
    refine ⟨Int.le_refl _, fun e => ?_⟩
    subst e
    unfold lookC at h
    simp only [Bool.not_true, Bool.false_or, Bool.or_eq_true, Bool.and_eq_true, decide_eq_true_eq] at h
    dsimp only
    omega
  · rw [if_neg h]
    unfold lookC at h
    simp only [Bool.or_eq_true, Bool.and_eq_true, decide_eq_true_eq, not_or, not_and, Int.not_lt] at h
    exact ⟨h.1.2, fun _ => Int.le_refl _⟩
theorem looksP_or (P : Prob) (fd : Bool) (x : Loc) (b : Bx) : looksP P fd x b = ⟨b.c0, b.c1, b.c2, atT P b.c0 b.c1 b.c2, bdC P b.c0 b.c1 b.c2 b.c0 b.c1 b.c2, 0, 0, 0, 0, 0, 0, 0⟩ ∨ (fd = true ∧ looksP P fd x b = x) := by
  unfold looksP
  by_cases h : lookC P (!fd) x b = true
  · rw [if_pos h]; exact .inl rfl
  · rw [if_neg h]
    refine .inr ⟨?_, rfl⟩
    cases fd
    · unfold lookC at h; simp at h
    · rfl
/-- What holds of a search's state. -/
structure Fine (P : Prob) (s : Ps) : Prop where
  all : AllIn P s.h
  bnd : ∀ i ∈ s.h, i.c = bxC P i.b
  heap : IsHeap s.h s.h.length
  cov : ∀ x y z, P.reg.has x y z → (∃ i ∈ s.h, i.b.has x y z) ∨ (s.fd = true ∧ s.x.m ≤ bdC P x y z x y z)
  best : s.fd = true → P.reg.has s.x.px s.x.py s.x.pz ∧ s.x.m = bdC P s.x.px s.x.py s.x.pz s.x.px s.x.py s.x.pz ∧ s.x.t = atT P s.x.px s.x.py s.x.pz
  fd : s.fd = false → s.h ≠ []
  sum : total s.h + s.tk = 2 * P.reg.pts - 1
theorem Fine.start {P : Prob} (hP : Sound P) : Fine P (Ps.start P) := by
  have hp : (pushH [] ⟨P.reg, bxC P P.reg, (0 : Nat)⟩).Perm [⟨P.reg, bxC P P.reg, (0 : Nat)⟩] := by simpa using pushH_perm [] ⟨P.reg, bxC P P.reg, (0 : Nat)⟩
  have hm : ∀ i, i ∈ pushH [] ⟨P.reg, bxC P P.reg, (0 : Nat)⟩ ↔ i = ⟨P.reg, bxC P P.reg, (0 : Nat)⟩ := fun i => by rw [hp.mem_iff]; simp
  refine ⟨AllIn.push (h := []) (fun i hi => by cases hi) (x := ⟨P.reg, bxC P P.reg, (0 : Nat)⟩) hP.vb (Bx.wi_refl _), fun i hi => ?_, ?_, fun x y z h => .inl ⟨⟨P.reg, bxC P P.reg, (0 : Nat)⟩, (hm _).2 rfl, h⟩, fun h => ?_, fun _ => ?_, ?_⟩
  · rw [(hm i).1 hi]
  · exact IsHeap.push (l := []) (fun k h0 hk => by simp at hk) _
  · simp [Ps.start] at h
  · intro h
    have := pushH_length [] ⟨P.reg, bxC P P.reg, (0 : Nat)⟩
    rw [show pushH [] ⟨P.reg, bxC P P.reg, (0 : Nat)⟩ = [] from h] at this
    simp at this
  · show total (pushH [] ⟨P.reg, bxC P P.reg, (0 : Nat)⟩) + ((0 : Nat) : Int) = _
    rw [total_perm hp]; simp [total]
theorem Fine.step {P : Prob} (hP : Sound P) {s : Ps} (f : Fine P s) (h0 : 0 < s.h.length) : Fine P (s.step P) := by
  obtain ⟨i0, hi0⟩ : ∃ i0, i0 = hiAt s.h 0 := ⟨_, rfl⟩
  have hmem : i0 ∈ s.h := by rw [hi0, hiAt_eq h0]; exact List.getElem_mem h0
  obtain ⟨hv, hw⟩ := f.all i0 hmem
  obtain ⟨hh, hpm⟩ := f.heap.pop (n := s.h.length - 1) (by omega)
  have hrest : s.rest = (popL s.h (s.h.length - 1)).take (s.h.length - 1) := rfl
  rw [← hrest] at hh hpm
  rw [← hi0] at hpm
  have hrl := s.rest_length
  rw [← hrl] at hh
  have hmr : ∀ i, i ∈ s.h ↔ i ∈ s.rest ∨ i = i0 := fun i => by rw [← hpm.mem_iff]; simp
  have htot : total s.rest + (2 * i0.b.pts - 1) = total s.h := by rw [← total_perm hpm, total_append]; simp [total]
  have hlk := looksP_le P s.fd s.x i0.b
  have hor := looksP_or P s.fd s.x i0.b
  obtain ⟨ch, cv, cw⟩ := Bx.center_in hv
  have hbest : P.reg.has (looksP P s.fd s.x i0.b).px (looksP P s.fd s.x i0.b).py (looksP P s.fd s.x i0.b).pz ∧ (looksP P s.fd s.x i0.b).m = bdC P (looksP P s.fd s.x i0.b).px (looksP P s.fd s.x i0.b).py (looksP P s.fd s.x i0.b).pz (looksP P s.fd s.x i0.b).px (looksP P s.fd s.x i0.b).py (looksP P s.fd s.x i0.b).pz ∧ (looksP P s.fd s.x i0.b).t = atT P (looksP P s.fd s.x i0.b).px (looksP P s.fd s.x i0.b).py (looksP P s.fd s.x i0.b).pz := by
    rcases hor with e | ⟨e1, e2⟩
    · rw [e]; exact ⟨Bx.has_wi ch hw, rfl, rfl⟩
    · rw [e2]; exact f.best e1
  have hold : ∀ x y z, s.fd = true ∧ s.x.m ≤ bdC P x y z x y z → (looksP P s.fd s.x i0.b).m ≤ bdC P x y z x y z := fun x y z h => Int.le_trans (hlk.2 h.1) h.2
  have hall := f.all.step h0
  by_cases ho : i0.b.ok = true
  · obtain ⟨v1, v2, w1, w2, hc, hs, -⟩ := Bx.parts hv ho
    have e := Ps.step_ok (P := P) (s := s) (by rw [← hi0]; exact ho)
    rw [← hi0] at e
    rw [e] at hall ⊢
    have p1 := pushH_perm s.rest ⟨i0.b.fst, bxC P i0.b.fst, s.num⟩
    have p2 := pushH_perm (pushH s.rest ⟨i0.b.fst, bxC P i0.b.fst, s.num⟩) ⟨i0.b.snd, bxC P i0.b.snd, (s.num + 1 : Nat)⟩
    have m2 : ∀ i, i ∈ pushH (pushH s.rest ⟨i0.b.fst, bxC P i0.b.fst, s.num⟩) ⟨i0.b.snd, bxC P i0.b.snd, (s.num + 1 : Nat)⟩ ↔ (i ∈ s.rest ∨ i = ⟨i0.b.fst, bxC P i0.b.fst, s.num⟩) ∨ i = ⟨i0.b.snd, bxC P i0.b.snd, (s.num + 1 : Nat)⟩ := fun i => by
      rw [p2.mem_iff, List.mem_append, p1.mem_iff, List.mem_append]; simp
    refine ⟨hall, fun i hi => ?_, (IsHeap.push (hh.push _) _), fun x y z h => ?_, fun _ => hbest, fun h => by simp at h, ?_⟩
    · rcases (m2 i).1 hi with (h1 | rfl) | rfl
      · exact f.bnd i ((hmr i).2 (.inl h1))
      · rfl
      · rfl
    · rcases f.cov x y z h with ⟨i, hi, hx⟩ | h1
      · rcases (hmr i).1 hi with h1 | rfl
        · exact .inl ⟨i, (m2 i).2 (.inl (.inl h1)), hx⟩
        · rcases hc x y z hx with h2 | h2
          · exact .inl ⟨_, (m2 _).2 (.inl (.inr rfl)), h2⟩
          · exact .inl ⟨_, (m2 _).2 (.inr rfl), h2⟩
      · exact .inr ⟨rfl, hold x y z h1⟩
    · have t2 := total_perm p2
      have t1 := total_perm p1
      rw [total_append] at t1 t2
      simp only [total] at t1 t2
      have hsm := f.sum
      have hnt : ((s.tk + 1 : Nat) : Int) = s.tk + 1 := by omega
      show total (pushH (pushH s.rest ⟨i0.b.fst, bxC P i0.b.fst, s.num⟩) ⟨i0.b.snd, bxC P i0.b.snd, (s.num + 1 : Nat)⟩) + ((s.tk + 1 : Nat) : Int) = _
      rw [hnt]
      generalize total (pushH (pushH s.rest ⟨i0.b.fst, bxC P i0.b.fst, s.num⟩) ⟨i0.b.snd, bxC P i0.b.snd, (s.num + 1 : Nat)⟩) = T at t2 ⊢
      omega
  · have e := Ps.step_no (P := P) (s := s) (by rw [← hi0]; exact ho)
    rw [← hi0] at e
    rw [e] at hall ⊢
    have hone : i0.b.a = i0.b.d ∧ i0.b.b = i0.b.e ∧ i0.b.c = i0.b.f := pts_one (show bP i0.b.a i0.b.b i0.b.c i0.b.d i0.b.e i0.b.f = true from hv) (by
      have : ¬ (decide (2 ≤ ptsP i0.b.a i0.b.b i0.b.c i0.b.d i0.b.e i0.b.f) = true) := ho
      simpa using this)
    have hp1 : i0.b.pts = 1 := by
      have := Bx.pts_pos hv
      have h2 : ¬ (decide (2 ≤ ptsP i0.b.a i0.b.b i0.b.c i0.b.d i0.b.e i0.b.f) = true) := ho
      have h3 : i0.b.pts < 2 := by
        have h4 : ptsP i0.b.a i0.b.b i0.b.c i0.b.d i0.b.e i0.b.f < 2 := by simpa using h2
        exact h4
      omega
    refine ⟨hall, fun i hi => f.bnd i ((hmr i).2 (.inl hi)), hh, fun x y z h => ?_, fun _ => hbest, fun h => by simp at h, ?_⟩
    · rcases f.cov x y z h with ⟨i, hi, hx⟩ | h1
      · rcases (hmr i).1 hi with h1 | rfl
        · exact .inl ⟨i, h1, hx⟩
        · refine .inr ⟨rfl, ?_⟩
          have e0 : x = i.b.c0 ∧ y = i.b.c1 ∧ z = i.b.c2 := by unfold Bx.has at hx ch; omega
          obtain ⟨rfl, rfl, rfl⟩ := e0
          exact hlk.1
      · exact .inr ⟨rfl, hold x y z h1⟩
    · have := f.sum
      show total s.rest + ((s.tk + 1 : Nat) : Int) = _
      push_cast
      omega
end LLeast
section LLeastB
open Go.RowKit
/-- In a region that is small enough a search ends. -/
theorem Fine.run {P : Prob} (hP : Sound P) (tol : Int) : ∀ (f : Nat) (s : Ps), Fine P s → 2 * P.reg.pts - 1 - s.tk ≤ f → ∃ s', Ps.run P tol f s = some s' ∧ Fine P s' ∧ s'.ended tol = true := by
  intro f
  induction f with
  | zero =>
    intro s h hf
    have he : s.ended tol = true := by
      by_cases h0 : s.h = []
      · unfold Ps.ended; rw [h0]; simp
      · have := total_pos h.all h0; have := h.sum; omega
    exact ⟨s, by unfold Ps.run; rw [if_pos he], h, he⟩
  | succ f ih =>
    intro s h hf
    by_cases he : s.ended tol = true
    · exact ⟨s, by unfold Ps.run; rw [if_pos he], h, he⟩
    · have hl : 0 < s.h.length := by
        rcases Nat.eq_zero_or_pos s.h.length with e | e
        · exact absurd (by unfold Ps.ended; rw [e]; simp) he
        · exact e
      obtain ⟨s', h1, h2, h3⟩ := ih (s.step P) (h.step hP hl) (by rw [(Ps.step_sizes P s hl).2.2.1]; omega)
      exact ⟨s', by unfold Ps.run; rw [if_neg he]; exact h1, h2, h3⟩
/-- What holds of the result after k boxes. -/
structure FinOk (P : Prob) (s : Ps) (k : Nat) (y : Loc) : Prop where
  p : y.px = s.x.px ∧ y.py = s.x.py ∧ y.pz = s.x.pz ∧ y.t = s.x.t ∧ y.m = s.x.m
  l0 : y.l ≤ s.x.m
  l1 : ∀ j, j < k → y.l ≤ (hiAt s.h j).c
  l2 : y.l = s.x.m ∨ ∃ j, j < k ∧ y.l = (hiAt s.h j).c
  v : Bx.v ⟨y.a0, y.a1, y.a2, y.a3, y.a4, y.a5⟩ = true
  wi : Bx.wi ⟨y.a0, y.a1, y.a2, y.a3, y.a4, y.a5⟩ P.reg
  has : Bx.has ⟨y.a0, y.a1, y.a2, y.a3, y.a4, y.a5⟩ s.x.px s.x.py s.x.pz
  in_ : ∀ j, j < k → (hiAt s.h j).c < s.x.m → (hiAt s.h j).b.wi ⟨y.a0, y.a1, y.a2, y.a3, y.a4, y.a5⟩
theorem Fine.fin {P : Prob} (hP : Sound P) {s : Ps} (h : Fine P s) (hf : s.fd = true) : ∀ k, k ≤ s.h.length → FinOk P s k (s.fin k) := by
  have hrv : P.reg.v = true := hP.vb
  intro k
  induction k with
  | zero =>
    intro _
    obtain ⟨hb, -, -⟩ := h.best hf
    have hw := wiP_iff.1 (wiP_point (q := s.x.px) (r := s.x.py) (s := s.x.pz) hrv ⟨hb.1, hb.2.1⟩ ⟨hb.2.2.1, hb.2.2.2.1⟩ ⟨hb.2.2.2.2.1, hb.2.2.2.2.2⟩)
    refine ⟨⟨rfl, rfl, rfl, rfl, rfl⟩, Int.le_refl _, fun j hj => by omega, .inl rfl, hw.1, ?_, ?_, fun j hj => by omega⟩
    · show Bx.wi ⟨s.x.px, s.x.py, s.x.pz, s.x.px, s.x.py, s.x.pz⟩ P.reg
      unfold Bx.wi; dsimp only; unfold Bx.has at hb; omega
    · show Bx.has ⟨s.x.px, s.x.py, s.x.pz, s.x.px, s.x.py, s.x.pz⟩ _ _ _
      unfold Bx.has; dsimp only; omega
  | succ k ih =>
    intro hk
    have c := ih (by omega)
    obtain ⟨p, l0, l1, l2, v, wi, has, in_⟩ := c
    have hmem : hiAt s.h k ∈ s.h := by rw [hiAt_eq (by omega : k < s.h.length)]; exact List.getElem_mem _
    obtain ⟨iv, iw⟩ := h.all _ hmem
    show FinOk P s (k + 1) ((s.fin k).moreP (hiAt s.h k))
    generalize s.fin k = y at p l0 l1 l2 v wi has in_ ⊢
    obtain ⟨i, hi⟩ : ∃ i, i = hiAt s.h k := ⟨_, rfl⟩
    rw [← hi] at iv iw ⊢
    have hll : ∀ j, j < k + 1 → min y.l i.c ≤ (hiAt s.h j).c := fun j hj => by
      rcases Nat.lt_succ_iff_lt_or_eq.1 hj with e | e
      · have := l1 j e; omega
      · subst e; rw [← hi]; omega
    have hle : min y.l i.c = s.x.m ∨ ∃ j, j < k + 1 ∧ min y.l i.c = (hiAt s.h j).c := by
      rcases Int.le_total y.l i.c with e | e
      · rw [Int.min_eq_left e]
        rcases l2 with e2 | ⟨j, j1, j2⟩
        · exact .inl e2
        · exact .inr ⟨j, by omega, j2⟩
      · rw [Int.min_eq_right e]; exact .inr ⟨k, by omega, by rw [hi]⟩
    unfold Loc.moreP
    by_cases hc : i.c < y.m
    · rw [if_pos hc]
      have ev : (bP y.a0 y.a1 y.a2 y.a3 y.a4 y.a5 && bP i.b.a i.b.b i.b.c i.b.d i.b.e i.b.f) = true := by
        rw [show bP y.a0 y.a1 y.a2 y.a3 y.a4 y.a5 = true from v, show bP i.b.a i.b.b i.b.c i.b.d i.b.e i.b.f = true from iv]; rfl
      rw [ev]
      simp only [huL, huH, if_true]
      have hwR : Bx.wi ⟨min y.a0 i.b.a, min y.a1 i.b.b, min y.a2 i.b.c, max y.a3 i.b.d, max y.a4 i.b.e, max y.a5 i.b.f⟩ P.reg := by
        unfold Bx.wi at wi iw ⊢; dsimp only at wi iw ⊢; omega
      have hwY : Bx.wi ⟨y.a0, y.a1, y.a2, y.a3, y.a4, y.a5⟩ ⟨min y.a0 i.b.a, min y.a1 i.b.b, min y.a2 i.b.c, max y.a3 i.b.d, max y.a4 i.b.e, max y.a5 i.b.f⟩ := by
        unfold Bx.wi; dsimp only; omega
      have hwI : i.b.wi ⟨min y.a0 i.b.a, min y.a1 i.b.b, min y.a2 i.b.c, max y.a3 i.b.d, max y.a4 i.b.e, max y.a5 i.b.f⟩ := by
        unfold Bx.wi; dsimp only; omega
      refine ⟨p, ?_, hll, hle, ?_, hwR, Bx.has_wi has hwY, fun j hj hlt => ?_⟩
      · show min y.l i.c ≤ s.x.m; omega
      · obtain ⟨v0, v1, o0, o1, o2⟩ := bP_iff (show bP y.a0 y.a1 y.a2 y.a3 y.a4 y.a5 = true from v)
        obtain ⟨r0, r1, -⟩ := bP_iff (show bP P.reg.a P.reg.b P.reg.c P.reg.d P.reg.e P.reg.f = true from hrv)
        have i0 := vP_iff r0; have i1 := vP_iff r1
        unfold Bx.wi at hwR; dsimp only at hwR
        show bP _ _ _ _ _ _ = true
        dsimp only
        exact bP_mk (vP_mk (by omega)) (vP_mk (by omega)) (by omega) (by omega) (by omega)
      · rcases Nat.lt_succ_iff_lt_or_eq.1 hj with e | e
        · exact Bx.wi_trans (in_ j e hlt) hwY
        · subst e; rw [← hi]; exact hwI
    · rw [if_neg hc]
      refine ⟨p, ?_, hll, hle, v, wi, has, fun j hj hlt => ?_⟩
      · show min y.l i.c ≤ s.x.m; omega
      · rcases Nat.lt_succ_iff_lt_or_eq.1 hj with e | e
        · exact in_ j e hlt
        · subst e; rw [← hi] at hlt; have := p.2.2.2.2; omega
/-- What Locate returns is least. -/
theorem least_plain {P : Prob} (h : Good P) {tol : Int} (h0 : 0 ≤ tol) (h1 : tol ≤ 1000000) (hp : P.reg.pts ≤ 1500) : ∃ y, locP P tol = (y, 0) ∧ P.reg.has y.px y.py y.pz ∧
    Bx.v ⟨y.a0, y.a1, y.a2, y.a3, y.a4, y.a5⟩ = true ∧ Bx.wi ⟨y.a0, y.a1, y.a2, y.a3, y.a4, y.a5⟩ P.reg ∧ Bx.has ⟨y.a0, y.a1, y.a2, y.a3, y.a4, y.a5⟩ y.px y.py y.pz ∧
    y.l ≤ y.m ∧ y.m - y.l ≤ tol ∧ 0 ≤ y.l ∧ y.m ≤ 10000000000000000 ∧ y.t = tt P y.px y.py y.pz ∧ y.m = mm P y.px y.py y.pz y.px y.py y.pz ∧
    ∀ q r s, P.reg.has q r s → y.l ≤ mm P q r s q r s ∧ y.m - tol ≤ mm P q r s q r s ∧ (mm P q r s q r s < y.m → Bx.has ⟨y.a0, y.a1, y.a2, y.a3, y.a4, y.a5⟩ q r s) := by
  have hS := h.sound
  have hrv : P.reg.v = true := hS.vb
  obtain ⟨s, hrun, hF, hE⟩ := Fine.run hS tol 3000 (Ps.start P) (Fine.start hS) (by show _ - ((0 : Nat) : Int) ≤ _; omega)
  have hfd : s.fd = true := by
    cases hfd : s.fd
    · have := hF.fd hfd
      unfold Ps.ended at hE
      rw [hfd] at hE
      simp at hE
      exact absurd hE this
    · rfl
  obtain ⟨p, l0, l1, l2, v, wi, has, in_⟩ := hF.fin hS hfd s.h.length (Nat.le_refl _)
  obtain ⟨hb, hbm, hbt⟩ := hF.best hfd
  have hval : valE P = 0 := sound_iff.2 hS
  refine ⟨s.fin s.h.length, ?_, ?_⟩
  · unfold locP
    rw [if_neg (by rw [hval]; simp), if_neg (by omega), hrun]
  generalize s.fin s.h.length = y at p l0 l1 l2 v wi has in_ ⊢
  obtain ⟨p0, p1, p2, p3, p4⟩ := p
  have hpt : ∀ {q r t : Int}, P.reg.has q r t → wiP q r t q r t P.x0 P.y0 P.z0 P.x1 P.y1 P.z1 = true := fun {q r t} hq => wiP_point hrv ⟨hq.1, hq.2.1⟩ ⟨hq.2.2.1, hq.2.2.2.1⟩ ⟨hq.2.2.2.2.1, hq.2.2.2.2.2⟩
  have hwx := hpt hb
  have hmi := h.mm_in hwx
  rw [h.bdC_eq hwx] at hbm
  have hci : ∀ i ∈ s.h, 0 ≤ i.c ∧ i.c ≤ 10000000000000000 ∧ ∀ q r t, i.b.has q r t → i.c ≤ mm P q r t q r t := fun i hi => by
    obtain ⟨iv, iw⟩ := hF.all i hi
    have hwc := wiP_of iv hrv iw
    have hbc : i.c = mm P i.b.a i.b.b i.b.c i.b.d i.b.e i.b.f := (hF.bnd i hi).trans (h.bdC_eq hwc)
    have hin := h.mm_in hwc
    refine ⟨by omega, by omega, fun q r t hq => ?_⟩
    rw [hbc]
    exact h.wider hwc (wiP_point iv ⟨hq.1, hq.2.1⟩ ⟨hq.2.2.1, hq.2.2.2.1⟩ ⟨hq.2.2.2.2.1, hq.2.2.2.2.2⟩)
  have hat : ∀ j, j < s.h.length → hiAt s.h j ∈ s.h := fun j hj => by rw [hiAt_eq hj]; exact List.getElem_mem _
  have htop : ∀ j, j < s.h.length → s.x.m - tol ≤ (hiAt s.h j).c := fun j hj => by
    have h0' : 0 < s.h.length := by omega
    have hl := hle_iff.1 (hF.heap.least j hj)
    have hc0 := hci _ (hat 0 h0')
    unfold Ps.ended at hE
    rw [hfd, IntWalk.i64_in _ (by omega)] at hE
    simp only [Bool.true_and, Bool.or_eq_true, decide_eq_true_eq] at hE
    omega
  have hl : s.x.m - tol ≤ y.l := by
    rcases l2 with e | ⟨j, j1, j2⟩
    · omega
    · have := htop j j1; omega
  have hl0 : 0 ≤ y.l := by
    rcases l2 with e | ⟨j, j1, j2⟩
    · omega
    · have := (hci _ (hat j j1)).1; omega
  rw [p0, p1, p2, p3, p4]
  refine ⟨hb, v, wi, has, l0, by omega, hl0, by omega, ?_, hbm, fun q r t hq => ?_⟩
  · rw [hbt]; unfold atT tt; rw [if_pos (h.zones hwx)]
  · rcases hF.cov q r t hq with ⟨i, hi, hx⟩ | ⟨-, hx⟩
    · obtain ⟨j, hj, e⟩ := List.mem_iff_getElem.1 hi
      have e' : hiAt s.h j = i := by rw [hiAt_eq hj]; exact e
      have k1 := (hci i hi).2.2 q r t hx
      have k2 := l1 j hj
      have k3 := htop j hj
      have k4 := in_ j hj
      rw [e'] at k2 k3 k4
      exact ⟨by omega, by omega, fun hlt => Bx.has_wi hx (k4 (by omega))⟩
    · rw [h.bdC_eq (hpt hq)] at hx
      exact ⟨by omega, by omega, fun hlt => by omega⟩
end LLeastB
end Go.Proofs.YtgaglgopbdfemaaGreatDoor
namespace Go.Proofs.YtgaglgopbdfemaaGreatDoor
set_option linter.all false
section LOrder
open Go.RowKit
end LOrder
section LQr
open Go.RowKit Rg
theorem pts_side {x0 y0 z0 x1 y1 z1 : Int} (h0 : x1 - x0 ≤ 8) (h1 : y1 - y0 ≤ 8) (h2 : z1 - z0 ≤ 8) (hv : bP x0 y0 z0 x1 y1 z1 = true) : ptsP x0 y0 z0 x1 y1 z1 ≤ 1500 := by
  obtain ⟨v0, v1, o0, o1, o2⟩ := bP_iff hv
  unfold ptsP ptsD
  rw [hv]
  simp only [if_true]
  have m1 : (x1 - x0 + 1) * (y1 - y0 + 1) ≤ 9 * 9 := Int.mul_le_mul (by omega) (by omega) (by omega) (by omega)
  have p1 : 0 ≤ (x1 - x0 + 1) * (y1 - y0 + 1) := Int.mul_nonneg (by omega) (by omega)
  have m2 : (x1 - x0 + 1) * (y1 - y0 + 1) * (z1 - z0 + 1) ≤ (9 * 9) * 9 := Int.mul_le_mul m1 (by omega) (by omega) (by omega)
  omega
/-- What the walk keeps. -/
structure QrAt (w : World) (q : Nat) (P : Prob) (vl vh vp : Value) (b8 : Nat) (u : World) : Prop where
  p8 : u.heap[b8]? = some (.cells (P.val vl vh vp) 33 (0, 0))
  pi : PrIn q u ⟨P, vl, vh, vp⟩
  G : w.grownBy u none
  lt : w.heap.size ≤ q ∧ q < b8
section
variable {w u u' : World} {q b8 : Nat} {P : Prob} {vl vh vp : Value}
theorem QrAt.draw (h : QrAt w q P vl vh vp b8 u) (hg : u.grownBy u' (some q)) : QrAt w q P vl vh vp b8 u' := by
  have hl := h.lt
  exact ⟨block_keptp hg h.p8 (by omega), h.pi.draw hg, gb_new h.G hg (fun k hk => by simp at hk; omega), h.lt⟩
theorem QrAt.prob (h : QrAt w q P vl vh vp b8 u) : ProbIn P vl vh vp u := h.pi.1
theorem QrAt.keep (h : QrAt w q P vl vh vp b8 u) (hg : u.grownBy u' none) : QrAt w q P vl vh vp b8 u' := h.draw (gb_none hg)
end
end LQr
end Go.Proofs.YtgaglgopbdfemaaGreatDoor
