/- SrP -/
import Derived.Test.YtgaglgopbdfemaaGreatDoorTmLeastA
namespace Go.Proofs.YtgaglgopbdfemaaGreatDoor
set_option linter.all false
open Go.RowKit
/-- The open boxes of a list, numbered from k on. -/
def opn : Nat → List It → List Hi
  | _, [] => []
  | k, i :: l => if i.done then opn (k + 1) l else ⟨i.b, i.c, (k : Int)⟩ :: opn (k + 1) l
theorem opn_append : ∀ (l m : List It) (k : Nat), opn k (l ++ m) = opn k l ++ opn (k + l.length) m
  | [], m, k => by simp [opn]
  | a :: l, m, k => by
    rw [List.cons_append, opn, opn, opn_append l m (k + 1), List.length_cons, show k + 1 + l.length = k + (l.length + 1) by omega]
    split <;> simp
theorem itAt_succ (a : It) (l : List It) (i : Nat) : itAt (a :: l) (i + 1) = itAt l i := by simp [itAt]
theorem itAt_zero (a : It) (l : List It) : itAt (a :: l) 0 = a := by simp [itAt]
theorem mem_opn : ∀ (l : List It) (k : Nat) (x : Hi), x ∈ opn k l ↔ ∃ i, i < l.length ∧ (itAt l i).done = false ∧ x = ⟨(itAt l i).b, (itAt l i).c, ((k + i : Nat) : Int)⟩
  | [], k, x => by simp [opn]
  | a :: l, k, x => by
    have ih := mem_opn l (k + 1) x
    have up : x ∈ opn (k + 1) l → ∃ i, i < (a :: l).length ∧ (itAt (a :: l) i).done = false ∧ x = ⟨(itAt (a :: l) i).b, (itAt (a :: l) i).c, ((k + i : Nat) : Int)⟩ := fun h => by
      obtain ⟨i, h1, h2, h3⟩ := ih.1 h
      exact ⟨i + 1, by simp; omega, by rw [itAt_succ]; exact h2, by rw [itAt_succ, h3, show k + 1 + i = k + (i + 1) by omega]⟩
    constructor
    · intro h
      unfold opn at h; split at h
      · exact up h
      · rename_i hd
        rcases List.mem_cons.1 h with rfl | h
        · exact ⟨0, by simp, by rw [itAt_zero]; simpa using hd, by rw [itAt_zero, Nat.add_zero]⟩
        · exact up h
    · rintro ⟨i, h1, h2, h3⟩
      cases i with
      | zero =>
        rw [itAt_zero] at h2 h3
        rw [Nat.add_zero] at h3
        unfold opn; rw [h2, h3]; simp
      | succ i =>
        rw [itAt_succ] at h2 h3
        have : x ∈ opn (k + 1) l := ih.2 ⟨i, by simpa using h1, h2, by rw [h3, show k + 1 + i = k + (i + 1) by omega]⟩
        unfold opn; split
        · exact this
        · exact List.mem_cons_of_mem _ this
theorem opn_done : ∀ (l : List It) (k j : Nat), j < l.length → (itAt l j).done = false → ((⟨(itAt l j).b, (itAt l j).c, ((k + j : Nat) : Int)⟩ : Hi) :: opn k (l.set j { itAt l j with done := true })).Perm (opn k l)
  | a :: l, k, 0, _, hd => by
    rw [itAt_zero] at hd ⊢
    rw [List.set_cons_zero, opn, opn, hd, Nat.add_zero]
    simp
  | a :: l, k, j + 1, h, hd => by
    rw [itAt_succ] at hd ⊢
    rw [List.set_cons_succ, opn, opn]
    have ih := opn_done l (k + 1) j (by simpa using h) hd
    rw [show k + 1 + j = k + (j + 1) by omega] at ih
    split
    · exact ih
    · exact (List.Perm.swap _ _ _).trans (List.Perm.cons _ ih)
/-- The program's search and the reference's are at the same place. -/
structure Same (p : Ps) (r : Sr) : Prop where
  x : p.x = r.x
  z : r.x.l = 0 ∧ r.x.a0 = 0 ∧ r.x.a1 = 0 ∧ r.x.a2 = 0 ∧ r.x.a3 = 0 ∧ r.x.a4 = 0 ∧ r.x.a5 = 0
  tk : p.tk = r.n
  fd : p.fd = decide (0 < r.n)
  num : p.num = r.l.length
  h : p.h.Perm (opn 0 r.l)
theorem Same.head {p : Ps} {r : Sr} (s : Same p r) (hp : IsHeap p.h p.h.length) (h0 : 0 < p.h.length) : ∃ j : Nat, r.k = j ∧ j < r.l.length ∧ (itAt r.l j).done = false ∧ hiAt p.h 0 = ⟨(itAt r.l j).b, (itAt r.l j).c, (j : Int)⟩ := by
  have hm : hiAt p.h 0 ∈ p.h := by rw [hiAt_eq h0]; exact List.getElem_mem h0
  obtain ⟨i, hi, hd, he⟩ := (mem_opn r.l 0 _).1 (s.h.mem_iff.1 hm)
  rw [Nat.zero_add] at he
  rcases nx_spec r.l r.l.length with ⟨-, h2⟩ | ⟨j, h1, h2, h3, h4⟩
  · rw [h2 i hi] at hd; cases hd
  · refine ⟨j, h1, h2, h3, ?_⟩
    have hj : (⟨(itAt r.l j).b, (itAt r.l j).c, (j : Int)⟩ : Hi) ∈ p.h := s.h.mem_iff.2 ((mem_opn r.l 0 _).2 ⟨j, h2, h3, by rw [Nat.zero_add]⟩)
    obtain ⟨m, hm, hme⟩ := List.mem_iff_getElem.1 hj
    have hle := hp.least m hm
    rw [hiAt_eq hm, hme, he, hle_iff] at hle
    have h4' := h4 i hi hd
    dsimp only at hle
    have e : i = j := by omega
    subst e
    exact he
theorem Same.ended {p : Ps} {r : Sr} (s : Same p r) (hp : IsHeap p.h p.h.length) (tol : Int) : p.ended tol = r.ended tol := by
  by_cases h0 : 0 < p.h.length
  · obtain ⟨j, e, hj, hd, hh⟩ := s.head hp h0
    unfold Ps.ended Sr.ended
    rw [e, hh, s.x, s.fd, show decide (p.h.length = 0) = false from decide_eq_false (by omega), show decide ((j : Int) < 0) = false from decide_eq_false (by omega), Int.toNat_natCast]
  · have he : p.h = [] := List.length_eq_zero_iff.1 (by omega)
    unfold Ps.ended Sr.ended
    rw [show decide (p.h.length = 0) = true from decide_eq_true (by omega)]
    rcases nx_spec r.l r.l.length with ⟨h1, -⟩ | ⟨j, h1, h2, h3, -⟩
    · rw [show r.k = -1 from h1]; rfl
    · exfalso
      have := s.h.mem_iff.2 ((mem_opn r.l 0 _).2 ⟨j, h2, h3, rfl⟩)
      rw [he] at this
      cases this
theorem looks_same {P : Prob} {x : Loc} {b : Bx} {n : Nat} {fd : Bool} (hf : fd = decide (0 < n)) (z : x.l = 0 ∧ x.a0 = 0 ∧ x.a1 = 0 ∧ x.a2 = 0 ∧ x.a3 = 0 ∧ x.a4 = 0 ∧ x.a5 = 0) :
    looksP P fd x b = looks P (decide (n = 0)) x b ∧ ((looks P (decide (n = 0)) x b).l = 0 ∧ (looks P (decide (n = 0)) x b).a0 = 0 ∧ (looks P (decide (n = 0)) x b).a1 = 0 ∧ (looks P (decide (n = 0)) x b).a2 = 0 ∧ (looks P (decide (n = 0)) x b).a3 = 0 ∧ (looks P (decide (n = 0)) x b).a4 = 0 ∧ (looks P (decide (n = 0)) x b).a5 = 0) := by
  have hfd : (!fd) = decide (n = 0) := by
    subst hf
    by_cases h : n = 0
    · simp [h]
    · have : 0 < n := by omega
      simp [h, this]
  obtain ⟨z0, z1, z2, z3, z4, z5, z6⟩ := z
  unfold looksP looks
  rw [hfd]
  by_cases h : lookC P (decide (n = 0)) x b = true
  · rw [if_pos h, if_pos h, z0, z1, z2, z3, z4, z5, z6]
    exact ⟨rfl, rfl, rfl, rfl, rfl, rfl, rfl, rfl⟩
  · rw [if_neg h, if_neg h]
    exact ⟨rfl, z0, z1, z2, z3, z4, z5, z6⟩
theorem Same.step {P : Prob} {p : Ps} {r : Sr} (s : Same p r) (hp : IsHeap p.h p.h.length) (h0 : 0 < p.h.length) : Same (p.step P) (r.step P r.k.toNat) := by
  obtain ⟨j, e, hj, hd, hh⟩ := s.head hp h0
  obtain ⟨-, hpm⟩ := hp.pop (n := p.h.length - 1) (by omega)
  have hrest : p.rest = (popL p.h (p.h.length - 1)).take (p.h.length - 1) := rfl
  rw [← hrest, hh] at hpm
  have hdn := opn_done r.l 0 j hj hd
  rw [Nat.zero_add] at hdn
  have hr : p.rest.Perm (opn 0 (r.l.set j { itAt r.l j with done := true })) := by
    have h1 : ((⟨(itAt r.l j).b, (itAt r.l j).c, (j : Int)⟩ : Hi) :: p.rest).Perm ((⟨(itAt r.l j).b, (itAt r.l j).c, (j : Int)⟩ : Hi) :: opn 0 (r.l.set j { itAt r.l j with done := true })) :=
      (List.perm_append_singleton _ _).symm.trans ((hpm.trans s.h).trans hdn.symm)
    exact h1.cons_inv
  obtain ⟨k1, k2⟩ := looks_same (P := P) (x := r.x) (b := (itAt r.l j).b) s.fd s.z
  have htk : p.tk + 1 = r.n + 1 := by rw [s.tk]
  have hfd : true = decide (0 < r.n + 1) := by simp
  rw [e, Int.toNat_natCast]
  unfold Sr.step
  by_cases ho : (hiAt p.h 0).b.ok = true
  · rw [Ps.step_ok ho]
    rw [hh] at ho ⊢
    dsimp only at ho ⊢
    refine ⟨?_, k2, htk, hfd, ?_, ?_⟩
    · dsimp only; rw [s.x]; exact k1
    · dsimp only; rw [s.num]; unfold halves1; rw [if_pos ho]; simp
    · dsimp only
      rw [opn_append]
      unfold halves1
      rw [if_pos ho, List.length_set, Nat.zero_add]
      have p1 := pushH_perm p.rest ⟨(itAt r.l j).b.fst, bxC P (itAt r.l j).b.fst, p.num⟩
      have p2 := pushH_perm (pushH p.rest ⟨(itAt r.l j).b.fst, bxC P (itAt r.l j).b.fst, p.num⟩) ⟨(itAt r.l j).b.snd, bxC P (itAt r.l j).b.snd, (p.num + 1 : Nat)⟩
      refine p2.trans ((p1.append_right _).trans ?_)
      rw [List.append_assoc, s.num]
      exact hr.append_right _
  · rw [Ps.step_no ho]
    rw [hh] at ho ⊢
    dsimp only at ho ⊢
    refine ⟨?_, k2, htk, hfd, ?_, ?_⟩
    · dsimp only; rw [s.x]; exact k1
    · dsimp only; rw [s.num]; unfold halves1; rw [if_neg ho]; simp
    · dsimp only
      unfold halves1
      rw [if_neg ho, List.append_nil]
      exact hr
theorem Same.start (P : Prob) : Same (Ps.start P) (Sr.start P) := by
  refine ⟨rfl, ⟨rfl, rfl, rfl, rfl, rfl, rfl, rfl⟩, rfl, rfl, rfl, ?_⟩
  exact pushH_perm [] ⟨P.reg, bxC P P.reg, (0 : Nat)⟩
theorem Same.run {P : Prob} (hP : Sound P) (tol : Int) : ∀ (f : Nat) (p : Ps) (r : Sr), Same p r → Fine P p →
    (Ps.run P tol f p = none ∧ Sr.run P tol f r = none) ∨ ∃ p' r', Ps.run P tol f p = some p' ∧ Sr.run P tol f r = some r' ∧ Same p' r' ∧ Fine P p' ∧ p'.ended tol = true := by
  intro f
  induction f with
  | zero =>
    intro p r s h
    have he := s.ended h.heap tol
    cases hp : p.ended tol
    · left
      rw [hp] at he
      unfold Ps.run Sr.run
      rw [hp, ← he]
      exact ⟨rfl, rfl⟩
    · right
      rw [hp] at he
      refine ⟨p, r, ?_, ?_, s, h, hp⟩
      · unfold Ps.run; rw [hp]; rfl
      · unfold Sr.run; rw [← he]; rfl
  | succ f ih =>
    intro p r s h
    have he := s.ended h.heap tol
    cases hp : p.ended tol
    · rw [hp] at he
      have h0 : 0 < p.h.length := by
        rcases Nat.eq_zero_or_pos p.h.length with e | e
        · unfold Ps.ended at hp; rw [e] at hp; simp at hp
        · exact e
      have e1 : Ps.run P tol (f + 1) p = Ps.run P tol f (p.step P) := by rw [Ps.run, hp]; rfl
      rw [e1, Sr.run_next he.symm]
      exact ih _ _ (s.step h.heap h0) (h.step hP h0)
    · right
      rw [hp] at he
      refine ⟨p, r, ?_, Sr.run_ended he.symm _, s, h, hp⟩
      unfold Ps.run; rw [hp]; rfl
def Loc.moreU (y : Loc) (i : Hi) : Loc := ⟨y.px, y.py, y.pz, y.t, y.m, min y.l i.c, if i.c < y.m then min y.a0 i.b.a else y.a0, if i.c < y.m then min y.a1 i.b.b else y.a1, if i.c < y.m then min y.a2 i.b.c else y.a2, if i.c < y.m then max y.a3 i.b.d else y.a3, if i.c < y.m then max y.a4 i.b.e else y.a4, if i.c < y.m then max y.a5 i.b.f else y.a5⟩
theorem moreU_comm (y : Loc) (i j : Hi) : (y.moreU i).moreU j = (y.moreU j).moreU i := by
  unfold Loc.moreU
  dsimp only
  by_cases h1 : i.c < y.m <;> by_cases h2 : j.c < y.m <;> simp only [h1, h2, if_true, if_false] <;> congr 1 <;> omega
/-- An area that holds, and a bound that is one. -/
def Loc.okA (y : Loc) : Prop := bP y.a0 y.a1 y.a2 y.a3 y.a4 y.a5 = true ∧ y.l ≤ y.m
theorem moreU_ok {y : Loc} {i : Hi} (h : y.okA) (hv : i.b.v = true) : (y.moreU i).okA := by
  obtain ⟨h1, h2⟩ := h
  obtain ⟨v0, v1, o0, o1, o2⟩ := bP_iff h1
  obtain ⟨w0, w1, q0, q1, q2⟩ := bP_iff (show bP i.b.a i.b.b i.b.c i.b.d i.b.e i.b.f = true from hv)
  have a0 := vP_iff v0; have a1 := vP_iff v1; have b0 := vP_iff w0; have b1 := vP_iff w1
  unfold Loc.moreU Loc.okA
  dsimp only
  by_cases hc : i.c < y.m
  · simp only [hc, if_true]
    exact ⟨bP_mk (vP_mk (by omega)) (vP_mk (by omega)) (by omega) (by omega) (by omega), by omega⟩
  · simp only [hc, if_false]
    exact ⟨h1, by omega⟩
theorem moreP_U {y : Loc} {i : Hi} (h : y.okA) (hv : i.b.v = true) : y.moreP i = y.moreU i := by
  have hb : (bP y.a0 y.a1 y.a2 y.a3 y.a4 y.a5 && bP i.b.a i.b.b i.b.c i.b.d i.b.e i.b.f) = true := by rw [h.1]; exact hv
  unfold Loc.moreP Loc.moreU
  rw [hb]
  by_cases hc : i.c < y.m
  · simp only [hc, if_true]; rfl
  · simp only [hc, if_false]
theorem more_U {y : Loc} {b : Bx} {c n : Int} (h : y.okA) (hv : b.v = true) : (if c < y.m then y.more b c else y) = y.moreU ⟨b, c, n⟩ := by
  have hb : (bP y.a0 y.a1 y.a2 y.a3 y.a4 y.a5 && bP b.a b.b b.c b.d b.e b.f) = true := by rw [h.1]; exact hv
  have hl := h.2
  unfold Loc.more Loc.moreU
  rw [hb]
  by_cases hc : c < y.m
  · simp only [hc, if_true]; rfl
  · simp only [hc, if_false]
    rw [show min y.l c = y.l by omega]
def Loc.one (x : Loc) : Loc := ⟨x.px, x.py, x.pz, x.t, x.m, x.m, x.px, x.py, x.pz, x.px, x.py, x.pz⟩
theorem fold_ok : ∀ (l : List Hi) (y : Loc), y.okA → (∀ i ∈ l, i.b.v = true) → (l.foldl Loc.moreU y).okA
  | [], y, h, _ => h
  | i :: l, y, h, hv => fold_ok l _ (moreU_ok h (hv i (List.mem_cons_self ..))) (fun j hj => hv j (List.mem_cons_of_mem _ hj))
theorem Ps.fin_fold {s : Ps} (hx : s.x.one.okA) (hv : ∀ i ∈ s.h, i.b.v = true) : ∀ k, k ≤ s.h.length → s.fin k = (s.h.take k).foldl Loc.moreU s.x.one
  | 0, _ => rfl
  | k + 1, hk => by
    have ih := Ps.fin_fold hx hv k (by omega)
    have hm : ∀ i ∈ s.h.take k, i.b.v = true := fun i hi => hv i (List.mem_of_mem_take hi)
    rw [List.take_succ_eq_append_getElem (by omega), List.foldl_append, ← ih]
    show (s.fin k).moreP (hiAt s.h k) = _
    rw [hiAt_eq (by omega), moreP_U (by rw [ih]; exact fold_ok _ _ hx hm) (hv _ (List.getElem_mem _))]
    rfl
theorem foldU_m : ∀ (l : List Hi) (y : Loc), (l.foldl Loc.moreU y).m = y.m
  | [], _ => rfl
  | i :: l, y => foldU_m l (y.moreU i)
theorem Sr.fin_fold {s : Sr} (hx : s.x.one.okA) (hv : ∀ i, i < s.l.length → (itAt s.l i).done = false → (itAt s.l i).b.v = true) : ∀ k, k ≤ s.l.length → s.fin k = (opn 0 (s.l.take k)).foldl Loc.moreU s.x.one
  | 0, _ => rfl
  | k + 1, hk => by
    have ih := Sr.fin_fold hx hv k (by omega)
    have hm : ∀ i ∈ opn 0 (s.l.take k), i.b.v = true := fun i hi => by
      obtain ⟨j, h1, h2, h3⟩ := (mem_opn _ _ _).1 hi
      have hjk : j < k := by rw [List.length_take] at h1; omega
      have e : itAt (s.l.take k) j = itAt s.l j := by unfold itAt; rw [List.getElem?_take_of_lt hjk]
      rw [e] at h2 h3
      rw [h3]; exact hv j (by omega) h2
    have hok : (s.fin k).okA := by rw [ih]; exact fold_ok _ _ hx hm
    have hmx : (s.fin k).m = s.x.m := by rw [ih, foldU_m]; rfl
    rw [Sr.fin_succ, List.take_succ_eq_append_getElem (by omega), opn_append, List.foldl_append, ← ih]
    unfold Sr.finC opn
    rw [← itAt_eq (by omega)]
    cases hd : (itAt s.l k).done
    · have := more_U (y := s.fin k) (b := (itAt s.l k).b) (c := (itAt s.l k).c) (n := ((0 + (s.l.take k).length : Nat) : Int)) hok (hv k (by omega) hd)
      rw [hmx] at this
      by_cases hc : (itAt s.l k).c < s.x.m
      · rw [if_pos hc] at this
        simp only [hc, Bool.not_false, decide_true, Bool.and_self, if_true, opn, List.foldl_cons, List.foldl_nil]
        exact this
      · rw [if_neg hc] at this
        simp only [hc, Bool.not_false, decide_false, Bool.and_false, opn, List.foldl_cons, List.foldl_nil]
        exact this
    · simp [opn]
theorem Fine.one_ok {P : Prob} (hP : Sound P) {p : Ps} (h : Fine P p) (hf : p.fd = true) : p.x.one.okA := by
  obtain ⟨hb, -, -⟩ := h.best hf
  have hw := wiP_iff.1 (wiP_point (q := p.x.px) (r := p.x.py) (s := p.x.pz) (show bP P.x0 P.y0 P.z0 P.x1 P.y1 P.z1 = true from hP.vb) ⟨hb.1, hb.2.1⟩ ⟨hb.2.2.1, hb.2.2.2.1⟩ ⟨hb.2.2.2.2.1, hb.2.2.2.2.2⟩)
  exact ⟨hw.1, Int.le_refl _⟩
theorem Same.fin {P : Prob} (hP : Sound P) {p : Ps} {r : Sr} (s : Same p r) (h : Fine P p) (hf : p.fd = true) : p.fin p.h.length = r.fin r.l.length := by
  have hx := h.one_ok hP hf
  have hv : ∀ i ∈ p.h, i.b.v = true := fun i hi => (h.all i hi).1
  have hx' : r.x.one.okA := by rw [← s.x]; exact hx
  have hv' : ∀ i, i < r.l.length → (itAt r.l i).done = false → (itAt r.l i).b.v = true := fun i hi hd => by
    obtain ⟨x, hx2⟩ : ∃ x : Hi, x = ⟨(itAt r.l i).b, (itAt r.l i).c, ((0 + i : Nat) : Int)⟩ := ⟨_, rfl⟩
    have hm : x ∈ opn 0 r.l := (mem_opn r.l 0 x).2 ⟨i, hi, hd, hx2⟩
    have hxv := hv x (s.h.mem_iff.2 hm)
    rw [hx2] at hxv
    exact hxv
  have e1 := Ps.fin_fold hx hv p.h.length (Nat.le_refl _)
  have e2 := Sr.fin_fold hx' hv' r.l.length (Nat.le_refl _)
  have e3 := s.h.foldl_eq' (f := Loc.moreU) (fun i _ j _ y => moreU_comm y i j) p.x.one
  rw [List.take_length] at e1 e2
  rw [s.x] at e3
  rw [s.x] at e1
  exact e1.trans (e3.trans e2.symm)
theorem Fine.fd_end {P : Prob} {s : Ps} (hF : Fine P s) {tol : Int} (hE : s.ended tol = true) : s.fd = true := by
  cases hfd : s.fd
  · have := hF.fd hfd
    unfold Ps.ended at hE
    rw [hfd] at hE
    simp at hE
    exact absurd hE this
  · rfl
end Go.Proofs.YtgaglgopbdfemaaGreatDoor
