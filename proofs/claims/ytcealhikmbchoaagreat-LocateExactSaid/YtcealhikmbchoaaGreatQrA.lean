/- Plain laws of LocateOrder: a greater tolerance takes no more boxes. -/
import Derived.Test.YtcealhikmbchoaaGreatLeastA
namespace Go.Proofs.YtcealhikmbchoaaGreat
set_option linter.all false
section LOrder
open Go.RowKit

theorem Ps.ended_mono {s : Ps} {t u : Int} (h : s.ended t = true) (k : t ≤ u) : s.ended u = true := by
  unfold Ps.ended at h ⊢
  simp only [Bool.or_eq_true, Bool.and_eq_true, decide_eq_true_eq] at h ⊢
  rcases h with h | ⟨h1, h2⟩
  · exact .inl h
  · exact .inr ⟨h1, Int.le_trans h2 k⟩
theorem Ps.run_tk (P : Prob) (t : Int) : ∀ (f : Nat) (s s' : Ps), Ps.run P t f s = some s' → s.tk ≤ s'.tk := by
  intro f
  induction f with
  | zero => intro s s' h; unfold Ps.run at h; split at h <;> simp at h; subst h; exact Nat.le_refl _
  | succ f ih =>
    intro s s' h
    unfold Ps.run at h
    split at h
    · simp at h; subst h; exact Nat.le_refl _
    · rename_i he
      have hl : 0 < s.h.length := by
        rcases Nat.eq_zero_or_pos s.h.length with e | e
        · exact absurd (by unfold Ps.ended; rw [e]; simp) he
        · exact e
      have := ih _ _ h
      rw [(Ps.step_sizes P s hl).2.2.1] at this
      omega
theorem Ps.run_mono (P : Prob) {t u : Int} (k : t ≤ u) : ∀ (f : Nat) (s s' : Ps), Ps.run P t f s = some s' → ∃ s2, Ps.run P u f s = some s2 ∧ s2.tk ≤ s'.tk := by
  intro f
  induction f with
  | zero =>
    intro s s' h
    unfold Ps.run at h
    split at h
    · rename_i he
      simp at h; subst h
      exact ⟨s, by unfold Ps.run; rw [if_pos (Ps.ended_mono he k)], Nat.le_refl _⟩
    · simp at h
  | succ f ih =>
    intro s s' h
    by_cases hu : s.ended u = true
    · exact ⟨s, by unfold Ps.run; rw [if_pos hu], Ps.run_tk P t _ _ _ h⟩
    · unfold Ps.run at h
      rw [if_neg (fun e => hu (Ps.ended_mono e k))] at h
      obtain ⟨s2, h1, h2⟩ := ih _ _ h
      exact ⟨s2, by unfold Ps.run; rw [if_neg hu]; exact h1, h2⟩
/-- A cost as a sum over phases and zones. -/
def sumL : List Int → Int
  | [] => 0
  | x :: l => x + sumL l
theorem sumL_append (l m : List Int) : sumL (l ++ m) = sumL l + sumL m := by
  induction l with
  | nil => simp [sumL]
  | cons a l ih => simp only [List.cons_append, sumL, ih]; omega
theorem sumL_perm {l m : List Int} (p : l.Perm m) : sumL l = sumL m := by
  induction p with
  | nil => rfl
  | cons _ _ ih => simp only [sumL, ih]
  | swap _ _ _ => simp only [sumL]; omega
  | trans _ _ h1 h2 => exact h1.trans h2
theorem costN_sum (cap : Int) (phs : List Ph) (z : Ph → Zn) (t : Int) : ∀ k, k ≤ phs.length → costN cap phs (phs.map z) t k = sumL ((phs.take k).map fun a => a.n * min cap (resid (z a) t)) := by
  intro k
  induction k with
  | zero => intro _; simp [costN, sumL]
  | succ k ih =>
    intro hk
    have hk' : k < phs.length := hk
    rw [costN, ih (by omega), List.take_succ_eq_append_getElem hk', List.map_append, sumL_append]
    simp [term, hk', sumL]
theorem cost_perm {cap : Int} {l m : List Ph} (p : l.Perm m) (z : Ph → Zn) (t : Int) : cost cap l (l.map z) t = cost cap m (m.map z) t := by
  unfold cost
  rw [costN_sum _ _ _ _ _ (Nat.le_refl _), costN_sum _ _ _ _ _ (Nat.le_refl _), List.take_length, List.take_length]
  exact sumL_perm (p.map _)
theorem best_perm {cap : Int} {l m : List Ph} (p : l.Perm m) (z : Ph → Zn) (h : 0 < l.length) : best cap l (l.map z) = best cap m (m.map z) := by
  have hm : 0 < m.length := by have := p.length_eq; omega
  obtain ⟨a1, a2, a3⟩ := best_spec (cap := cap) (phs := l) (zs := l.map z) (by simpa using h)
  obtain ⟨b1, b2, b3⟩ := best_spec (cap := cap) (phs := m) (zs := m.map z) (by simpa using hm)
  have hT : ∀ t, t ∈ timesOf (l.map z) ↔ t ∈ timesOf (m.map z) := fun t => by
    unfold timesOf
    exact ((p.map z).flatMap_right _).mem_iff
  obtain ⟨c1, c2⟩ := a3 _ ((hT _).2 b2)
  obtain ⟨d1, d2⟩ := b3 _ ((hT _).1 a2)
  rw [cost_perm p z] at c1 c2
  rw [← cost_perm p z] at d1 d2
  have e2 : (best cap l (l.map z)).2 = (best cap m (m.map z)).2 := by omega
  have e1 : (best cap l (l.map z)).1 = (best cap m (m.map z)).1 := by
    have := c2 (by omega); have := d2 (by omega); omega
  exact Prod.ext e1 e2
/-- A search looks at a problem's region, bounds and times alone. -/
theorem looksP_eq {P Q : Prob} (h1 : bdC P = bdC Q) (h2 : atT P = atT Q) : looksP P = looksP Q := by
  funext fd x b
  unfold looksP lookC
  rw [h1, h2]
theorem step_eq {P Q : Prob} (h1 : bdC P = bdC Q) (h2 : atT P = atT Q) : Ps.step P = Ps.step Q := by
  have hb : bxC P = bxC Q := by funext b; unfold bxC; rw [h1]
  have hl := looksP_eq h1 h2
  funext s
  by_cases ho : (hiAt s.h 0).b.ok = true
  · rw [Ps.step_ok ho, Ps.step_ok ho, hb, hl]
  · rw [Ps.step_no ho, Ps.step_no ho, hl]
theorem run_eq {P Q : Prob} (h1 : bdC P = bdC Q) (h2 : atT P = atT Q) (t : Int) : ∀ f s, Ps.run P t f s = Ps.run Q t f s := by
  intro f
  induction f with
  | zero => intro s; unfold Ps.run; rfl
  | succ f ih => intro s; unfold Ps.run; rw [step_eq h1 h2, ih]
theorem locP_eq {P Q : Prob} (hr : P.reg = Q.reg) (hv : valE P = valE Q) (h1 : bdC P = bdC Q) (h2 : atT P = atT Q) (t : Int) : locP P t = locP Q t ∧ boxP P t = boxP Q t := by
  have hb : bxC P = bxC Q := by funext b; unfold bxC; rw [h1]
  have hs : Ps.start P = Ps.start Q := by unfold Ps.start; rw [hr, hb]
  unfold locP boxP
  rw [hv, hs, run_eq h1 h2]
  exact ⟨rfl, rfl⟩
/-- The problem with other phases. -/
def Prob.phases (P : Prob) (l : List Ph) : Prob := ⟨P.x0, P.y0, P.z0, P.x1, P.y1, P.z1, P.step, P.ls, P.hs, l, P.cap⟩
theorem Sound.phases {P : Prob} (h : Sound P) {l : List Ph} (p : P.phs.Perm l) : Sound (P.phases l) :=
  ⟨h.vb, h.ok, by have := h.some; have := p.length_eq; show 0 < l.length ∧ l.length ≤ 64; omega, h.cap, fun a ha => h.ph a (p.mem_iff.2 ha)⟩
theorem zonesE_phases {P : Prob} (h : Sound P) {l : List Ph} (p : P.phs.Perm l) (b0 b1 b2 b3 b4 b5 : Int) : zonesE (P.phases l) b0 b1 b2 b3 b4 b5 = 0 ↔ zonesE P b0 b1 b2 b3 b4 b5 = 0 := by
  unfold zonesE
  rw [if_pos (sound_iff.2 h), if_pos (sound_iff.2 (h.phases p))]
  show (if wiP b0 b1 b2 b3 b4 b5 P.x0 P.y0 P.z0 P.x1 P.y1 P.z1 = true then errOf (zoneE P.step P.ls P.hs b0 b1 b2 b3 b4 b5) l else 20) = 0 ↔ _
  by_cases hw : wiP b0 b1 b2 b3 b4 b5 P.x0 P.y0 P.z0 P.x1 P.y1 P.z1 = true
  · rw [if_pos hw, if_pos hw, errOf_zero, errOf_zero]
    exact ⟨fun k a ha => k a (p.mem_iff.1 ha), fun k a ha => k a (p.mem_iff.2 ha)⟩
  · rw [if_neg hw, if_neg hw]
theorem best_phases {P : Prob} (h : Sound P) {l : List Ph} (p : P.phs.Perm l) (b0 b1 b2 b3 b4 b5 : Int) : best P.cap P.phs (zonesL P b0 b1 b2 b3 b4 b5) = best (P.phases l).cap (P.phases l).phs (zonesL (P.phases l) b0 b1 b2 b3 b4 b5) :=
  best_perm p (zoneOf P.step P.ls P.hs b0 b1 b2 b3 b4 b5) h.some.1
theorem locP_phases {P : Prob} (h : Sound P) {l : List Ph} (p : P.phs.Perm l) (t : Int) : locP P t = locP (P.phases l) t ∧ boxP P t = boxP (P.phases l) t := by
  refine locP_eq (P := P) (Q := P.phases l) rfl ((sound_iff.2 h).trans (sound_iff.2 (h.phases p)).symm) ?_ ?_ t
  · funext b0 b1 b2 b3 b4 b5
    unfold bdC
    simp only [zonesE_phases h p, best_phases h p]
  · funext x y z
    unfold atT
    simp only [zonesE_phases h p, best_phases h p]
/-- In small regions a greater tolerance takes no more boxes. -/
theorem boxP_mono {P : Prob} (h : Sound P) (hp : P.reg.pts ≤ 1500) {t u : Int} (h0 : 0 ≤ t) (k : t ≤ u) : ∃ a b, boxP P t = (a, 0) ∧ boxP P u = (b, 0) ∧ b ≤ a := by
  obtain ⟨s, hrun, -, -⟩ := Fine.run h t 3000 (Ps.start P) (Fine.start h) (by show _ - ((0 : Nat) : Int) ≤ _; omega)
  obtain ⟨s2, h1, h2⟩ := Ps.run_mono P k _ _ _ hrun
  have hv := sound_iff.2 h
  refine ⟨s.tk, s2.tk, ?_, ?_, by omega⟩
  · unfold boxP; rw [if_neg (by rw [hv]; simp), if_neg (by omega), hrun]
  · unfold boxP; rw [if_neg (by rw [hv]; simp), if_neg (by omega), h1]
end LOrder
section LQr
open Go.RowKit Rg

theorem addr_is (g j : Nat) : (⟨g, 0, none⟩ : Addr).add j = ⟨g, j, none⟩ := by unfold Addr.add; split <;> simp_all
theorem pts_side {x0 y0 z0 x1 y1 z1 : Int} (h0 : x1 - x0 ≤ 8) (h1 : y1 - y0 ≤ 8) (h2 : z1 - z0 ≤ 8) (hv : bP x0 y0 z0 x1 y1 z1 = true) : ptsP x0 y0 z0 x1 y1 z1 ≤ 1500 := by
  obtain ⟨v0, v1, o0, o1, o2⟩ := bP_iff hv
  unfold ptsP ptsD
  rw [hv]
  simp only [if_true]
  have m1 : (x1 - x0 + 1) * (y1 - y0 + 1) ≤ 9 * 9 := Int.mul_le_mul (by omega) (by omega) (by omega) (by omega)
  have p1 : 0 ≤ (x1 - x0 + 1) * (y1 - y0 + 1) := Int.mul_nonneg (by omega) (by omega)
  have m2 : (x1 - x0 + 1) * (y1 - y0 + 1) * (z1 - z0 + 1) ≤ (9 * 9) * 9 := Int.mul_le_mul m1 (by omega) (by omega) (by omega)
  omega
/-- What the walk keeps. -/
structure QrAt (w : World) (q : Nat) (P : Prob) (vl vh vp : Value) (b8 : Nat) (u : World) : Prop where
  p8 : u.heap[b8]? = some (.cells (P.val vl vh vp) 36 (0, 0))
  pi : PrIn q u ⟨P, vl, vh, vp⟩
  G : w.grownBy u none
  lt : w.heap.size ≤ q ∧ q < b8
section
variable {w u u' : World} {q b8 : Nat} {P : Prob} {vl vh vp : Value}
theorem QrAt.draw (h : QrAt w q P vl vh vp b8 u) (hg : u.grownBy u' (some q)) : QrAt w q P vl vh vp b8 u' := by
  have hl := h.lt
  exact ⟨block_keptp hg h.p8 (by omega), h.pi.draw hg, gb_new h.G hg (fun k hk => by simp at hk; omega), h.lt⟩
theorem QrAt.prob (h : QrAt w q P vl vh vp b8 u) : ProbIn P vl vh vp u := h.pi.1
theorem QrAt.keep (h : QrAt w q P vl vh vp b8 u) (hg : u.grownBy u' none) : QrAt w q P vl vh vp b8 u' := h.draw (gb_none hg)
end
end LQr
end Go.Proofs.YtcealhikmbchoaaGreat
