/- There is a certificate for what Locate returns, and none is shorter: plain. -/
import Derived.Test.YtcealhikmbchoaaLeastA
namespace Go.Proofs.Ytcealhikmbchoaa
set_option linter.all false
open Go.RowKit

/-- A box that is not split is one point. -/
theorem Bx.one_pt {b : Bx} (hv : b.v = true) (ho : b.ok = false) : b.a = b.d ∧ b.b = b.e ∧ b.c = b.f := by
  obtain ⟨v0, v1, o0, o1, o2⟩ := bP_iff (show bP b.a b.b b.c b.d b.e b.f = true from hv)
  have hp : b.pts < 2 := by
    have : ¬ 2 ≤ ptsP b.a b.b b.c b.d b.e b.f := by
      intro h; simp [Bx.ok, splOk, h] at ho
    show ptsP b.a b.b b.c b.d b.e b.f < 2
    omega
  have e : b.pts = (b.d - b.a + 1) * (b.e - b.b + 1) * (b.f - b.c + 1) := by
    show ptsP b.a b.b b.c b.d b.e b.f = _
    unfold ptsP ptsD; rw [show bP b.a b.b b.c b.d b.e b.f = true from hv]; rfl
  rw [e] at hp
  have p1 := Int.mul_pos (show 0 < b.d - b.a + 1 by omega) (show 0 < b.e - b.b + 1 by omega)
  have k1 : ∀ {x y : Int}, 0 < x → 0 < y → x * y < 2 → x = 1 ∧ y = 1 := by
    intro x y hx hy h
    have a1 : x * 1 ≤ x * y := Int.mul_le_mul_of_nonneg_left (by omega) (by omega)
    have a2 : 1 * y ≤ x * y := Int.mul_le_mul_of_nonneg_right (by omega) (by omega)
    omega
  obtain ⟨q1, q2⟩ := k1 p1 (by omega) hp
  obtain ⟨q3, q4⟩ := k1 (by omega) (by omega) (by rw [q1]; decide : (b.d - b.a + 1) * (b.e - b.b + 1) < 2)
  omega
/-- A certificate is written where each point is proved. -/
theorem wr_all {P : Prob} {V : Bx → Bool} (hV : ∀ b : Bx, b.v = true → b.wi P.reg → b.ok = false → V b = true) : ∀ (n : Nat) (b : Bx) (l : List Int), b.v = true → b.wi P.reg → (l.length : Int) + 2 * b.pts ≤ 6001 → b.pts < n → ∃ s : List Int, wr V n b l = (0, l ++ s) ∧ (s.length : Int) + 1 ≤ 2 * b.pts
  | 0, b, l, hv, _, _, h => by have := Bx.pts_pos hv; omega
  | n + 1, b, l, hv, hw, hl, hn => by
    have hp := Bx.pts_pos hv
    unfold wr
    rw [if_neg (by omega)]
    by_cases h : V b = true
    · rw [if_pos h]; exact ⟨[0], rfl, by simp; omega⟩
    rw [if_neg h]
    have ho : b.ok = true := by
      cases ho : b.ok
      · exact absurd (hV b hv hw ho) h
      · rfl
    rw [if_pos ho]
    obtain ⟨v1, v2, w1, w2, -, hs, -⟩ := Bx.parts hv ho
    have p1 := Bx.pts_pos v1
    have p2 := Bx.pts_pos v2
    obtain ⟨s1, e1, k1⟩ := wr_all hV n b.fst (l ++ [1]) v1 (Bx.wi_trans w1 hw) (by simp; omega) (by omega)
    rw [e1]
    simp only [if_true]
    obtain ⟨s2, e2, k2⟩ := wr_all hV n b.snd (l ++ [1] ++ s1) v2 (Bx.wi_trans w2 hw) (by simp; omega) (by omega)
    rw [e2]
    exact ⟨1 :: (s1 ++ s2), by simp, by simp; omega⟩
/-- Make finds a certificate for what Locate returns. -/
theorem makes_plain {P : Prob} (h : Good P) {tol : Int} (h0 : 0 ≤ tol) (h1 : tol ≤ 1000000) (hp : P.reg.pts ≤ 1500) : ∃ (y : Loc) (s : List Int), locP P tol = (y, 0) ∧ y.l ≤ y.m ∧ mkE P y tol = (0, s) ∧ s.length ≤ 3000 := by
  obtain ⟨y, e, hin, hv, hw, hA, l0, l1, l2, l3, ht, hm, hall⟩ := least_plain h h0 h1 hp
  have hS := h.sound
  have hrv : P.reg.v = true := hS.vb
  have hpt : ∀ {q r t : Int}, P.reg.has q r t → wiP q r t q r t P.x0 P.y0 P.z0 P.x1 P.y1 P.z1 = true := fun {q r t} hq => wiP_point hrv ⟨hq.1, hq.2.1⟩ ⟨hq.2.2.1, hq.2.2.2.1⟩ ⟨hq.2.2.2.2.1, hq.2.2.2.2.2⟩
  have hz := h.zones (hpt hin)
  have hask : askE P y tol = 0 := by
    unfold askE
    rw [if_neg (by rw [show valE P = 0 from sound_iff.2 hS]; simp), if_neg (by omega), if_pos]
    unfold corB
    simp only [Bool.and_eq_true, decide_eq_true_eq]
    refine ⟨⟨hz, ?_⟩, ?_⟩
    · unfold atT; rw [if_pos hz, ht]; rfl
    · rw [h.bdC_eq (hpt hin), hm]
  obtain ⟨s, es, ks⟩ := wr_all (P := P) (V := prV P y tol) (fun b hbv hbw hbo => by
    obtain ⟨e1, e2, e3⟩ := Bx.one_pt hbv hbo
    have hh : P.reg.has b.a b.b b.c := by
      obtain ⟨v0, v1, o0, o1, o2⟩ := bP_iff (show bP b.a b.b b.c b.d b.e b.f = true from hbv)
      unfold Bx.wi at hbw; unfold Bx.has; omega
    obtain ⟨g1, g2, g3⟩ := hall _ _ _ hh
    have hi := h.mm_in (hpt hh)
    unfold prV prB
    rw [← e1, ← e2, ← e3, h.bdC_eq (hpt hh), IntWalk.i64_in _ (by omega)]
    simp only [Bool.and_eq_true, Bool.or_eq_true, decide_eq_true_eq]
    refine ⟨⟨⟨h.zones (hpt hh), by omega⟩, g1⟩, ?_⟩
    by_cases hlt : mm P b.a b.b b.c b.a b.b b.c < y.m
    · right
      have hA' := g3 hlt
      have hvb : bP b.a b.b b.c b.a b.b b.c = true := by have := hbv; unfold Bx.v at this; rwa [← e1, ← e2, ← e3] at this
      exact wiP_iff.2 ⟨hvb, hv, by unfold Bx.has at hA'; dsimp only at hA'; omega⟩
    · left; omega) 6002 P.reg [] hrv (Bx.wi_refl _) (by simp; omega) (by omega)
  refine ⟨y, s, e, l0, ?_, by omega⟩
  unfold mkE
  rw [if_neg (by simpa using hask), if_neg (by omega), es, List.nil_append]
  rfl
/-- A greater tolerance asks less. -/
theorem rd_mono {V W : Bx → Bool} (h : ∀ b, V b = true → W b = true) : ∀ (n : Nat) (b : Bx) (l r : List Int), rd V n b l = (true, r) → rd W n b l = (true, r)
  | 0, b, l, r, k => by simp [rd] at k
  | n + 1, b, [], r, k => by simp [rd] at k
  | n + 1, b, x :: l, r, k => by
    unfold rd at k ⊢
    by_cases h0 : x = 0
    · rw [if_pos h0] at k ⊢
      simp only [Prod.mk.injEq] at k ⊢
      exact ⟨h b k.1, k.2⟩
    rw [if_neg h0] at k ⊢
    by_cases h1 : x = 1
    · rw [if_pos h1] at k ⊢
      by_cases ho : b.ok = true
      · rw [if_pos ho] at k ⊢
        by_cases hr : (rd V n b.fst l).1 = true
        · rw [if_pos hr] at k
          have := rd_mono h n b.fst l (rd V n b.fst l).2 (by rw [← hr])
          rw [this]
          simp only [if_true]
          exact rd_mono h n b.snd _ r k
        · rw [if_neg hr] at k; simp at k
      · rw [if_neg ho] at k; simp at k
    · rw [if_neg h1] at k; simp at k
theorem chk_more {P : Prob} {x : Loc} {tol more : Int} (hle : tol ≤ more) {l : List Int} (h : chkE P x tol l = 0) : chkE P x more l = 0 := by
  unfold chkE at h ⊢
  by_cases ha : askE P x tol = 0
  · have hb : askE P x more = 0 := by
      unfold askE at ha ⊢
      by_cases h1 : valE P ≠ 0
      · rw [if_pos h1] at ha; exact absurd ha h1
      rw [if_neg h1] at ha ⊢
      by_cases h2 : tol < 0
      · rw [if_pos h2] at ha; simp at ha
      rw [if_neg h2] at ha; rw [if_neg (by omega)]; exact ha
    rw [if_neg (by simpa using ha)] at h
    rw [if_neg (by simpa using hb)]
    by_cases h1 : 6001 < l.length
    · rw [if_pos h1] at h; simp at h
    rw [if_neg h1] at h ⊢
    by_cases h2 : x.m < x.l
    · rw [if_pos h2] at h; simp at h
    rw [if_neg h2] at h ⊢
    by_cases h3 : rd (prV P x tol) (l.length + 1) P.reg l = (true, [])
    · rw [if_pos]
      refine rd_mono (fun b hb => ?_) _ _ _ _ h3
      unfold prV prB at hb ⊢
      simp only [Bool.and_eq_true, Bool.or_eq_true, decide_eq_true_eq] at hb ⊢
      exact ⟨⟨⟨hb.1.1.1, by omega⟩, hb.1.2⟩, hb.2⟩
    · rw [if_neg h3] at h; simp at h
  · rw [if_pos (by simpa using ha)] at h; exact absurd h ha
/-- Leaves less inner boxes. -/
def wgt : List Int → Int
  | [] => 0
  | x :: l => (if x = 0 then 1 else if x = 1 then -1 else 0) + wgt l
theorem wgt_append (l m : List Int) : wgt (l ++ m) = wgt l + wgt m := by
  induction l with
  | nil => simp [wgt]
  | cons a l ih => simp only [List.cons_append, wgt, ih]; omega
theorem rd_wgt (V : Bx → Bool) : ∀ (n : Nat) (b : Bx) (l r : List Int), rd V n b l = (true, r) → ∃ s, l = s ++ 0 :: r ∧ wgt s = 0
  | 0, b, l, r, k => by simp [rd] at k
  | n + 1, b, [], r, k => by simp [rd] at k
  | n + 1, b, x :: l, r, k => by
    unfold rd at k
    by_cases h0 : x = 0
    · rw [if_pos h0] at k
      simp only [Prod.mk.injEq] at k
      exact ⟨[], by rw [h0, k.2]; rfl, rfl⟩
    rw [if_neg h0] at k
    by_cases h1 : x = 1
    · rw [if_pos h1] at k
      by_cases ho : b.ok = true
      · rw [if_pos ho] at k
        by_cases hr : (rd V n b.fst l).1 = true
        · rw [if_pos hr] at k
          obtain ⟨s1, e1, k1⟩ := rd_wgt V n b.fst l (rd V n b.fst l).2 (by rw [← hr])
          obtain ⟨s2, e2, k2⟩ := rd_wgt V n b.snd _ r k
          refine ⟨1 :: (s1 ++ 0 :: s2), ?_, ?_⟩
          · rw [h1, List.cons_append, List.append_assoc, List.cons_append, ← e2, ← e1]
          · simp only [wgt, wgt_append, k1, k2]; decide
        · rw [if_neg hr] at k; simp at k
      · rw [if_neg ho] at k; simp at k
    · rw [if_neg h1] at k; simp at k
/-- All that ProofShortest says of certificates. -/
theorem shortest_plain {P : Prob} {x : Loc} {tol : Int} {c : List Int} (h : mkE P x tol = (0, c)) (hl : c.length ≤ 3000) :
    (∃ s, c = s ++ [0]) ∧ (∀ l : List Int, l.length ≤ 6001 → chkE P x tol l = 0 ∨ chkE P x tol l = 26) ∧ ∀ a b : List Int, c = a ++ 0 :: b → chkE P x tol (a ++ b) = 26 := by
  have hc := make_check h
  unfold mkE at h
  by_cases ha : askE P x tol ≠ 0
  · rw [if_pos ha] at h; exact absurd (congrArg Prod.fst h) ha
  rw [if_neg ha] at h
  by_cases hm : x.m < x.l
  · rw [if_pos hm] at h; simp at h
  clear h
  have hr : rd (prV P x tol) (c.length + 1) P.reg c = (true, []) := by
    unfold chkE at hc
    rw [if_neg ha, if_neg (by omega), if_neg hm] at hc
    by_cases h3 : rd (prV P x tol) (c.length + 1) P.reg c = (true, [])
    · exact h3
    · rw [if_neg h3] at hc; simp at hc
  obtain ⟨s, es, hs⟩ := rd_wgt _ _ _ _ _ hr
  refine ⟨⟨s, es⟩, fun l hl => ?_, fun a b e => ?_⟩
  · unfold chkE
    rw [if_neg ha, if_neg (by omega), if_neg hm]
    by_cases h3 : rd (prV P x tol) (l.length + 1) P.reg l = (true, [])
    · rw [if_pos h3]; exact .inl rfl
    · rw [if_neg h3]; exact .inr rfl
  · have hlen : (a ++ b).length ≤ 6001 := by
      have := congrArg List.length e; simp at this ⊢; omega
    unfold chkE
    rw [if_neg ha, if_neg (by omega), if_neg hm, if_neg]
    intro h3
    obtain ⟨s2, e2, k2⟩ := rd_wgt _ _ _ _ _ h3
    have w1 : wgt c = 1 := by rw [es, wgt_append, hs]; decide
    have w2 : wgt (a ++ b) = 1 := by rw [e2, wgt_append, k2]; decide
    rw [e] at w1
    rw [wgt_append] at w1 w2
    simp only [wgt] at w1
    simp at w1
    omega
end Go.Proofs.Ytcealhikmbchoaa
