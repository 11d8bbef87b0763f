/- A certificate that is accepted is true: plain. -/
import Derived.Test.YtdkckhihleffeaaGreatPrfA
import Derived.Test.YtdkckhihleffeaaGreatGeoQ
import Derived.Test.YtdkckhihleffeaaGreatMisP
namespace Go.Proofs.YtdkckhihleffeaaGreat
set_option linter.all false
open Go.RowKit

/-- A point lies in a box. -/
def Bx.has (b : Bx) (x y z : Int) : Prop := b.a ≤ x ∧ x ≤ b.d ∧ b.b ≤ y ∧ y ≤ b.e ∧ b.c ≤ z ∧ z ≤ b.f
/-- A box lies within another. -/
def Bx.wi (c b : Bx) : Prop := b.a ≤ c.a ∧ c.d ≤ b.d ∧ b.b ≤ c.b ∧ c.e ≤ b.e ∧ b.c ≤ c.c ∧ c.f ≤ b.f
theorem Bx.wi_trans {a b c : Bx} (h : a.wi b) (k : b.wi c) : a.wi c := by unfold Bx.wi at *; omega
theorem Bx.wi_refl (a : Bx) : a.wi a := by unfold Bx.wi; omega
theorem Bx.has_wi {a b : Bx} {x y z : Int} (h : a.has x y z) (k : a.wi b) : b.has x y z := by unfold Bx.wi at *; unfold Bx.has at *; omega

/-- The halves of a box. -/
theorem Bx.parts {b : Bx} (hv : b.v = true) (ho : b.ok = true) : b.fst.v = true ∧ b.snd.v = true ∧ b.fst.wi b ∧ b.snd.wi b ∧ (∀ x y z, b.has x y z → b.fst.has x y z ∨ b.snd.has x y z) ∧ b.fst.pts + b.snd.pts = b.pts ∧ (∀ x y z, b.fst.has x y z → ¬ b.snd.has x y z) := by
  obtain ⟨a, bb, c, d, e, f⟩ := b
  have hp : 2 ≤ ptsP a bb c d e f := by simpa [Bx.ok, splOk] using ho
  obtain ⟨e0, e1, e2, f0, f1, f2, hs, hh⟩ := split_halves (show bP a bb c d e f = true from hv) hp
  have ho' : splOk a bb c d e f = true := ho
  have hE : spE true (axis (d - a) (e - bb) (f - c)) 0 a d = e0 ∧ spE true (axis (d - a) (e - bb) (f - c)) 1 bb e = e1 ∧ spE true (axis (d - a) (e - bb) (f - c)) 2 c f = e2 ∧ spB true (axis (d - a) (e - bb) (f - c)) 0 a d = f0 ∧ spB true (axis (d - a) (e - bb) (f - c)) 1 bb e = f1 ∧ spB true (axis (d - a) (e - bb) (f - c)) 2 c f = f2 := by
    rw [ho'] at hs; simp [splV] at hs; exact ⟨hs.1.2.2.2.1, hs.1.2.2.2.2.1, hs.1.2.2.2.2.2, hs.2.1, hs.2.2.1, hs.2.2.2.1⟩
  obtain ⟨h1, h2, h3, h4, h5, h6⟩ := hE
  have hf : Bx.fst ⟨a, bb, c, d, e, f⟩ = ⟨a, bb, c, e0, e1, e2⟩ := by simp [Bx.fst, Bx.ok, Bx.ax, ho', keepI, h1, h2, h3]
  have hg : Bx.snd ⟨a, bb, c, d, e, f⟩ = ⟨f0, f1, f2, d, e, f⟩ := by simp [Bx.snd, Bx.ok, Bx.ax, ho', keepI, h4, h5, h6]
  rw [hf, hg]
  have w1 := wiP_iff.1 hh.wx
  have w2 := wiP_iff.1 hh.wy
  obtain ⟨v0, v1, o0, o1, o2⟩ := bP_iff (show bP a bb c d e f = true from hv)
  have i0 := vP_iff v0; have i1 := vP_iff v1
  have part : ∀ x y z, Bx.has ⟨a, bb, c, d, e, f⟩ x y z → (Bx.has ⟨a, bb, c, e0, e1, e2⟩ x y z ↔ ¬ Bx.has ⟨f0, f1, f2, d, e, f⟩ x y z) := by
    intro x y z h
    simp only [Bx.has] at h ⊢
    have hq := hh.part x y z h.1 h.2.1 h.2.2.1 h.2.2.2.1 h.2.2.2.2.1 h.2.2.2.2.2
    have hvq : vP x y z = true := vP_mk (by omega)
    have A : conP a bb c e0 e1 e2 x y z = true ↔ (a ≤ x ∧ x ≤ e0 ∧ bb ≤ y ∧ y ≤ e1 ∧ c ≤ z ∧ z ≤ e2) := by
      rw [conP_iff]; exact ⟨fun k => by omega, fun k => ⟨hh.vx, hvq, by omega⟩⟩
    have B : conP f0 f1 f2 d e f x y z = true ↔ (f0 ≤ x ∧ x ≤ d ∧ f1 ≤ y ∧ y ≤ e ∧ f2 ≤ z ∧ z ≤ f) := by
      rw [conP_iff]; exact ⟨fun k => by omega, fun k => ⟨hh.vy, hvq, by omega⟩⟩
    rw [← A, ← B, hq]
    cases conP f0 f1 f2 d e f x y z <;> simp
  refine ⟨hh.vx, hh.vy, ?_, ?_, fun x y z h => ?_, hh.sum, fun x y z h => ?_⟩
  · simp only [Bx.wi]; omega
  · simp only [Bx.wi]; omega
  · by_cases k : Bx.has ⟨f0, f1, f2, d, e, f⟩ x y z
    · exact .inr k
    · exact .inl ((part x y z h).2 k)
  · exact (part x y z (Bx.has_wi h (by simp only [Bx.wi]; omega))).1 h

/-- Each point of a box that a certificate proves lies in a leaf. -/
theorem rd_leaf (V : Bx → Bool) : ∀ (n : Nat) (b : Bx) (l : List Int), b.v = true → (rd V n b l).1 = true → ∀ x y z, b.has x y z → ∃ c : Bx, V c = true ∧ c.v = true ∧ c.wi b ∧ c.has x y z
  | 0, b, l, _, h => by simp [rd] at h
  | n + 1, b, [], _, h => by simp [rd] at h
  | n + 1, b, k :: l, hv, h => by
    intro x y z hx
    unfold rd at h
    by_cases h0 : k = 0
    · rw [if_pos h0] at h; exact ⟨b, h, hv, b.wi_refl, hx⟩
    rw [if_neg h0] at h
    by_cases h1 : k = 1
    · rw [if_pos h1] at h
      by_cases ho : b.ok = true
      · rw [if_pos ho] at h
        obtain ⟨v1, v2, w1, w2, hc, -⟩ := Bx.parts hv ho
        by_cases hr : (rd V n b.fst l).1 = true
        · rw [if_pos hr] at h
          rcases hc x y z hx with k | k
          · obtain ⟨c, p1, p2, p3, p4⟩ := rd_leaf V n b.fst l v1 hr x y z k
            exact ⟨c, p1, p2, Bx.wi_trans p3 w1, p4⟩
          · obtain ⟨c, p1, p2, p3, p4⟩ := rd_leaf V n b.snd _ v2 h x y z k
            exact ⟨c, p1, p2, Bx.wi_trans p3 w2, p4⟩
        · rw [if_neg hr] at h; simp at h
      · rw [if_neg ho] at h; simp at h
    · rw [if_neg h1] at h; simp at h

theorem wiP_of {c b : Bx} (hc : c.v = true) (hb : b.v = true) (h : c.wi b) : wiP c.a c.b c.c c.d c.e c.f b.a b.b b.c b.d b.e b.f = true :=
  wiP_iff.2 ⟨hc, hb, by unfold Bx.wi at h; omega⟩
/-- A misfit is no great number. -/
theorem Good.mm_in {P : Prob} (h : Good P) {b0 b1 b2 b3 b4 b5 : Int} (hw : wiP b0 b1 b2 b3 b4 b5 P.x0 P.y0 P.z0 P.x1 P.y1 P.z1 = true) : 0 ≤ mm P b0 b1 b2 b3 b4 b5 ∧ mm P b0 b1 b2 b3 b4 b5 ≤ 10000000000000000 := by
  have hf := h.sound.fair b0 b1 b2 b3 b4 b5
  have hz : 0 < (zonesL P b0 b1 b2 b3 b4 b5).length := by rw [zonesL_length]; exact h.sound.some.1
  have hb := (best_spec (cap := P.cap) (phs := P.phs) hz).1
  unfold mm; rw [hb]
  have key : ∀ (t : Int) (k : Nat), k ≤ P.phs.length → 0 ≤ costN P.cap P.phs (zonesL P b0 b1 b2 b3 b4 b5) t k ∧ costN P.cap P.phs (zonesL P b0 b1 b2 b3 b4 b5) t k ≤ k * 109951162777600 := by
    intro t k
    induction k with
    | zero => intro _; simp [costN]
    | succ k ih => intro hk; have := hf.term_in t (i := k) (by omega); have := ih (by omega); simp only [costN]; omega
  have := key (best P.cap P.phs (zonesL P b0 b1 b2 b3 b4 b5)).1 P.phs.length (Nat.le_refl _)
  have hl := h.sound.some.2
  unfold cost; omega
theorem Good.bdC_eq {P : Prob} (h : Good P) {b0 b1 b2 b3 b4 b5 : Int} (hw : wiP b0 b1 b2 b3 b4 b5 P.x0 P.y0 P.z0 P.x1 P.y1 P.z1 = true) : bdC P b0 b1 b2 b3 b4 b5 = mm P b0 b1 b2 b3 b4 b5 := by
  unfold bdC mm; rw [if_pos (h.zones hw)]

/-- What Check accepts is true of all points of the region. -/
theorem sound_plain {P : Prob} (h : Good P) {x : Loc} {tol : Int} {lst : List Int} (hc : chkE P x tol lst = 0) (ht : tol ≤ 1000000) :
    0 ≤ tol ∧ 0 ≤ x.m ∧ x.m ≤ 10000000000000000 ∧ ∀ q r s, P.reg.has q r s → x.l ≤ mm P q r s q r s ∧ x.m - tol ≤ mm P q r s q r s ∧ (mm P q r s q r s < x.m → conP x.a0 x.a1 x.a2 x.a3 x.a4 x.a5 q r s = true) := by
  have hv : P.reg.v = true := h.sound.vb
  unfold chkE at hc
  by_cases ha : askE P x tol = 0
  · rw [if_neg (by simpa using ha)] at hc
    unfold askE at ha
    rw [if_neg (by rw [sound_iff.2 h.sound]; simp)] at ha
    by_cases ht0 : tol < 0
    · rw [if_pos ht0] at ha; simp at ha
    rw [if_neg ht0] at ha
    by_cases hcor : corB P x = true
    · unfold corB at hcor
      simp only [Bool.and_eq_true, decide_eq_true_eq] at hcor
      obtain ⟨⟨hE, -⟩, hM⟩ := hcor
      have hwx : wiP x.px x.py x.pz x.px x.py x.pz P.x0 P.y0 P.z0 P.x1 P.y1 P.z1 = true := by
        have hE' : zonesE P x.px x.py x.pz x.px x.py x.pz = 0 := hE
        unfold zonesE at hE'
        rw [if_pos (sound_iff.2 h.sound)] at hE'
        by_cases k : wiP x.px x.py x.pz x.px x.py x.pz P.x0 P.y0 P.z0 P.x1 P.y1 P.z1 = true
        · exact k
        · rw [if_neg k] at hE'; simp at hE'
      have hmi := h.mm_in hwx
      rw [h.bdC_eq hwx] at hM
      by_cases hl : 6001 < lst.length
      · rw [if_pos hl] at hc; simp at hc
      rw [if_neg hl] at hc
      by_cases hml : x.m < x.l
      · rw [if_pos hml] at hc; simp at hc
      rw [if_neg hml] at hc
      by_cases hr : rd (prV P x tol) (lst.length + 1) P.reg lst = (true, [])
      · refine ⟨by omega, by omega, by omega, fun q r s hq => ?_⟩
        obtain ⟨c, p1, p2, p3, p4⟩ := rd_leaf (prV P x tol) _ P.reg lst hv (by rw [hr]) q r s hq
        have hwc := wiP_of p2 hv p3
        have hci := h.mm_in hwc
        unfold prV prB at p1
        rw [h.bdC_eq hwc] at p1
        simp only [Bool.and_eq_true, Bool.or_eq_true, decide_eq_true_eq] at p1
        obtain ⟨⟨⟨-, q1⟩, q2⟩, q3⟩ := p1
        rw [IntWalk.i64_in _ (by omega)] at q1
        have hpt : wiP q r s q r s c.a c.b c.c c.d c.e c.f = true := wiP_point p2 ⟨p4.1, p4.2.1⟩ ⟨p4.2.2.1, p4.2.2.2.1⟩ ⟨p4.2.2.2.2.1, p4.2.2.2.2.2⟩
        have hle : mm P c.a c.b c.c c.d c.e c.f ≤ mm P q r s q r s := h.wider hwc hpt
        refine ⟨by omega, by omega, fun hlt => ?_⟩
        rcases q3 with q3 | q3
        · omega
        · obtain ⟨-, hA, w3⟩ := wiP_iff.1 q3
          have hvq := (bP_iff (wiP_iff.1 hpt).1).1
          exact conP_iff.2 ⟨hA, hvq, by unfold Bx.has at p4; omega⟩
      · rw [if_neg hr] at hc; simp at hc
    · rw [if_neg hcor] at ha; simp at ha
  · rw [if_pos (by simpa using ha)] at hc; exact absurd hc ha

/-- What Make writes, Check reads. -/
theorem wr_rd (V : Bx → Bool) : ∀ (n : Nat) (b : Bx) (l r : List Int), l.length ≤ 6001 → wr V n b l = (0, r) → ∃ s : List Int, r = l ++ s ∧ r.length ≤ 6001 ∧ ∀ f t, s.length < f → rd V f b (s ++ t) = (true, t)
  | 0, b, l, r, _, h => by simp [wr] at h
  | n + 1, b, l, r, hl, h => by
    unfold wr at h
    by_cases h0 : l.length = 6001
    · rw [if_pos h0] at h; simp at h
    rw [if_neg h0] at h
    by_cases hV : V b = true
    · rw [if_pos hV] at h
      simp only [Prod.mk.injEq, true_and] at h
      refine ⟨[0], h.symm, by rw [← h]; simp; omega, fun f t hf => ?_⟩
      obtain ⟨f, rfl⟩ : ∃ g, f = g + 1 := ⟨f - 1, by simp at hf; omega⟩
      simp [rd, hV]
    rw [if_neg hV] at h
    by_cases ho : b.ok = true
    · rw [if_pos ho] at h
      by_cases h1 : (wr V n b.fst (l ++ [1])).1 = 0
      · rw [if_pos h1] at h
        obtain ⟨s1, e1, k1, q1⟩ := wr_rd V n b.fst (l ++ [1]) (wr V n b.fst (l ++ [1])).2 (by simp; omega) (by rw [← h1])
        obtain ⟨s2, e2, k2, q2⟩ := wr_rd V n b.snd _ r k1 h
        rw [e1] at e2
        refine ⟨1 :: (s1 ++ s2), by rw [e2]; simp, k2, fun f t hf => ?_⟩
        obtain ⟨f, rfl⟩ : ∃ g, f = g + 1 := ⟨f - 1, by omega⟩
        simp only [List.length_cons, List.length_append] at hf
        have a1 := q1 f (s2 ++ t) (by omega)
        have a2 := q2 f t (by omega)
        rw [List.cons_append, List.append_assoc, rd, if_neg (by decide), if_pos rfl, if_pos ho, a1, if_pos rfl, a2]
      · rw [if_neg h1] at h; exact absurd (congrArg Prod.fst h) h1
    · rw [if_neg ho] at h; simp at h
theorem make_check {P : Prob} {x : Loc} {tol : Int} {l : List Int} (h : mkE P x tol = (0, l)) : chkE P x tol l = 0 := by
  unfold mkE at h
  by_cases ha : askE P x tol ≠ 0
  · rw [if_pos ha] at h; exact absurd (congrArg Prod.fst h) ha
  rw [if_neg ha] at h
  by_cases hm : x.m < x.l
  · rw [if_pos hm] at h; simp at h
  rw [if_neg hm] at h
  by_cases hw : (wr (prV P x tol) 6002 P.reg []).1 = 0
  · rw [if_pos hw] at h
    obtain ⟨s, e, hl, hr⟩ := wr_rd _ _ _ _ _ (by simp) h
    simp only [List.nil_append] at e
    subst e
    unfold chkE
    rw [if_neg ha, if_neg (by omega), if_neg hm, if_pos]
    have := hr (l.length + 1) [] (by omega)
    rwa [List.append_nil] at this
  · rw [if_neg hw] at h; exact absurd (congrArg Prod.fst h) hw
theorem Bx.pts_pos {b : Bx} (h : b.v = true) : 1 ≤ b.pts := by
  obtain ⟨v0, v1, o0, o1, o2⟩ := bP_iff (show bP b.a b.b b.c b.d b.e b.f = true from h)
  unfold Bx.pts ptsP ptsD
  rw [show bP b.a b.b b.c b.d b.e b.f = true from h]
  simp only [if_true]
  have h1 : 1 ≤ b.d - b.a + 1 := by omega
  have h2 : 1 ≤ b.e - b.b + 1 := by omega
  have h3 : 1 ≤ b.f - b.c + 1 := by omega
  have m1 : 1 * 1 ≤ (b.d - b.a + 1) * (b.e - b.b + 1) := Int.mul_le_mul h1 h2 (by omega) (by omega)
  have m2 : 1 * 1 ≤ (b.d - b.a + 1) * (b.e - b.b + 1) * (b.f - b.c + 1) := Int.mul_le_mul (by omega) h3 (by omega) (by omega)
  omega
end Go.Proofs.YtdkckhihleffeaaGreat
