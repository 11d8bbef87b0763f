/- GeoQ Snd -/
import Derived.Test.YtgaglgopbdfemaaGreatDoorTmRgPos
import Derived.Test.YtgaglgopbdfemaaGreatDoorTmMisP
import Derived.Test.YtgaglgopbdfemaaGreatDoorTmSwpA
namespace Go.Proofs.YtgaglgopbdfemaaGreatDoor
set_option linter.all false
open Go.RowKit
/-- A valid box with fewer than two points is a point. -/
theorem pts_one {x0 y0 z0 x1 y1 z1 : Int} (h : bP x0 y0 z0 x1 y1 z1 = true) (hp : ptsP x0 y0 z0 x1 y1 z1 < 2) : x0 = x1 ∧ y0 = y1 ∧ z0 = z1 := by
  obtain ⟨v0, v1, o0, o1, o2⟩ := bP_iff h
  unfold ptsP ptsD at hp; rw [h] at hp; simp only [if_true] at hp
  have two : ∀ p q r : Int, 1 ≤ p → 1 ≤ q → 1 ≤ r → p * q * r < 2 → p = 1 ∧ q = 1 ∧ r = 1 := by
    intro p q r hp hq hr hl
    have h1 : p * 1 ≤ p * q := Int.mul_le_mul_of_nonneg_left hq (by omega)
    have h2 : 1 * q ≤ p * q := Int.mul_le_mul_of_nonneg_right hp (by omega)
    have h3 : p * q * 1 ≤ p * q * r := Int.mul_le_mul_of_nonneg_left hr (by omega)
    have h4 : 1 * r ≤ p * q * r := Int.mul_le_mul_of_nonneg_right (by omega) (by omega)
    omega
  have := two _ _ _ (by omega) (by omega) (by omega) hp
  omega
/-- What is said of the halves. -/
structure Halves (x0 y0 z0 x1 y1 z1 e0 e1 e2 f0 f1 f2 : Int) : Prop where
  vx : bP x0 y0 z0 e0 e1 e2 = true
  vy : bP f0 f1 f2 x1 y1 z1 = true
  part : ∀ p q r, x0 ≤ p → p ≤ x1 → y0 ≤ q → q ≤ y1 → z0 ≤ r → r ≤ z1 → conP x0 y0 z0 e0 e1 e2 p q r = !conP f0 f1 f2 x1 y1 z1 p q r
  wx : wiP x0 y0 z0 e0 e1 e2 x0 y0 z0 x1 y1 z1 = true
  wy : wiP f0 f1 f2 x1 y1 z1 x0 y0 z0 x1 y1 z1 = true
  mid : conP x0 y0 z0 e0 e1 e2 (midI x0 x1) (midI y0 y1) (midI z0 z1) = true
  sum : ptsP x0 y0 z0 e0 e1 e2 + ptsP f0 f1 f2 x1 y1 z1 = ptsP x0 y0 z0 x1 y1 z1
  hull : min x0 f0 = x0 ∧ min y0 f1 = y0 ∧ min z0 f2 = z0 ∧ max e0 x1 = x1 ∧ max e1 y1 = y1 ∧ max e2 z1 = z1
theorem halves {x0 y0 z0 x1 y1 z1 e0 e1 e2 f0 f1 f2 : Int} (h : bP x0 y0 z0 x1 y1 z1 = true) (hm : x0 ≤ midI x0 x1 ∧ midI x0 x1 ≤ x1 ∧ y0 ≤ midI y0 y1 ∧ midI y0 y1 ≤ y1 ∧ z0 ≤ midI z0 z1 ∧ midI z0 z1 ≤ z1)
    (hc : (midI x0 x1 < x1 ∧ e0 = midI x0 x1 ∧ f0 = midI x0 x1 + 1 ∧ e1 = y1 ∧ f1 = y0 ∧ e2 = z1 ∧ f2 = z0) ∨ (midI y0 y1 < y1 ∧ e0 = x1 ∧ f0 = x0 ∧ e1 = midI y0 y1 ∧ f1 = midI y0 y1 + 1 ∧ e2 = z1 ∧ f2 = z0) ∨
      (midI z0 z1 < z1 ∧ e0 = x1 ∧ f0 = x0 ∧ e1 = y1 ∧ f1 = y0 ∧ e2 = midI z0 z1 ∧ f2 = midI z0 z1 + 1)) : Halves x0 y0 z0 x1 y1 z1 e0 e1 e2 f0 f1 f2 := by
  obtain ⟨v0, v1, o0, o1, o2⟩ := bP_iff h
  have i0 := vP_iff v0; have i1 := vP_iff v1
  have vx : bP x0 y0 z0 e0 e1 e2 = true := bP_mk v0 (vP_mk (by omega)) (by omega) (by omega) (by omega)
  have vy : bP f0 f1 f2 x1 y1 z1 = true := bP_mk (vP_mk (by omega)) v1 (by omega) (by omega) (by omega)
  refine ⟨vx, vy, ?_, wiP_iff.2 ⟨vx, h, by omega⟩, wiP_iff.2 ⟨vy, h, by omega⟩, conP_iff.2 ⟨vx, vP_mk (by omega), by omega⟩, ?_, by omega⟩
  · intro p q r p0 p1 q0 q1 r0 r1
    have vq : vP p q r = true := vP_mk (by omega)
    have A : conP x0 y0 z0 e0 e1 e2 p q r = true ↔ (p ≤ e0 ∧ q ≤ e1 ∧ r ≤ e2) := by rw [conP_iff]; exact ⟨fun h => by omega, fun h => ⟨vx, vq, by omega⟩⟩
    have B : conP f0 f1 f2 x1 y1 z1 p q r = true ↔ (f0 ≤ p ∧ f1 ≤ q ∧ f2 ≤ r) := by rw [conP_iff]; exact ⟨fun h => by omega, fun h => ⟨vy, vq, by omega⟩⟩
    cases ca : conP x0 y0 z0 e0 e1 e2 p q r <;> cases cb : conP f0 f1 f2 x1 y1 z1 p q r <;> simp only [ca, cb, Bool.false_eq_true, false_iff, true_iff, Bool.not_true, Bool.not_false] at A B ⊢ <;> omega
  · unfold ptsP; rw [vx, vy, h]; simp only [if_true]; unfold ptsD
    rcases hc with ⟨-, rfl, rfl, rfl, rfl, rfl, rfl⟩ | ⟨-, rfl, rfl, rfl, rfl, rfl, rfl⟩ | ⟨-, rfl, rfl, rfl, rfl, rfl, rfl⟩
    · generalize midI x0 x1 = m; grind
    · generalize midI y0 y1 = m; grind
    · generalize midI z0 z1 = m; grind
/-- Split's own halves. -/
theorem split_halves {x0 y0 z0 x1 y1 z1 : Int} (h : bP x0 y0 z0 x1 y1 z1 = true) (hp : 2 ≤ ptsP x0 y0 z0 x1 y1 z1) :
    ∃ e0 e1 e2 f0 f1 f2, splV (splOk x0 y0 z0 x1 y1 z1) (axis (x1 - x0) (y1 - y0) (z1 - z0)) x0 y0 z0 x1 y1 z1 = .tuple #[.agg #[.int .i64 x0, .int .i64 y0, .int .i64 z0, .int .i64 e0, .int .i64 e1, .int .i64 e2], .agg #[.int .i64 f0, .int .i64 f1, .int .i64 f2, .int .i64 x1, .int .i64 y1, .int .i64 z1], .bool true] ∧
      Halves x0 y0 z0 x1 y1 z1 e0 e1 e2 f0 f1 f2 := by
  have hv : splOk x0 y0 z0 x1 y1 z1 = true := by simp [splOk]; omega
  obtain ⟨v0, v1, o0, o1, o2⟩ := bP_iff h
  have mx := midI_in o0; have my := midI_in o1; have mz := midI_in o2
  have hne : ¬ (x0 = x1 ∧ y0 = y1 ∧ z0 = z1) := by
    rintro ⟨rfl, rfl, rfl⟩
    unfold ptsP ptsD at hp; rw [h] at hp; simp at hp
  rw [hv]
  rcases axis_cases x0 y0 z0 x1 y1 z1 with ⟨h1, h2, h3⟩ | ⟨h1, h2, h3⟩ | ⟨h1, h2, h3⟩ | ⟨h1, h2, h3⟩ <;> rw [h3]
  · exact ⟨midI x0 x1, y1, z1, midI x0 x1 + 1, y0, z0, by simp [splV, keepI, spE, spB], halves h (by omega) (.inl ⟨mx.2.2 (by omega), rfl, rfl, rfl, rfl, rfl, rfl⟩)⟩
  · exact ⟨x1, y1, midI z0 z1, x0, y0, midI z0 z1 + 1, by simp [splV, keepI, spE, spB], halves h (by omega) (.inr (.inr ⟨mz.2.2 (by omega), rfl, rfl, rfl, rfl, rfl, rfl⟩))⟩
  · exact ⟨x1, midI y0 y1, z1, x0, midI y0 y1 + 1, z0, by simp [splV, keepI, spE, spB], halves h (by omega) (.inr (.inl ⟨my.2.2 (by omega), rfl, rfl, rfl, rfl, rfl, rfl⟩))⟩
  · exact ⟨x1, y1, midI z0 z1, x0, y0, midI z0 z1 + 1, by simp [splV, keepI, spE, spB], halves h (by omega) (.inr (.inr ⟨mz.2.2 (by omega), rfl, rfl, rfl, rfl, rfl, rfl⟩))⟩
end Go.Proofs.YtgaglgopbdfemaaGreatDoor
namespace Go.Proofs.YtgaglgopbdfemaaGreatDoor
set_option linter.all false
open Go.RowKit
/-- A point lies in a box. -/
def Bx.has (b : Bx) (x y z : Int) : Prop := b.a ≤ x ∧ x ≤ b.d ∧ b.b ≤ y ∧ y ≤ b.e ∧ b.c ≤ z ∧ z ≤ b.f
/-- A box lies within another. -/
def Bx.wi (c b : Bx) : Prop := b.a ≤ c.a ∧ c.d ≤ b.d ∧ b.b ≤ c.b ∧ c.e ≤ b.e ∧ b.c ≤ c.c ∧ c.f ≤ b.f
theorem Bx.wi_trans {a b c : Bx} (h : a.wi b) (k : b.wi c) : a.wi c := by unfold Bx.wi at *; omega
theorem Bx.wi_refl (a : Bx) : a.wi a := by unfold Bx.wi; omega
theorem Bx.has_wi {a b : Bx} {x y z : Int} (h : a.has x y z) (k : a.wi b) : b.has x y z := by unfold Bx.wi at *; unfold Bx.has at *; omega
/-- The halves of a box. -/
theorem Bx.parts {b : Bx} (hv : b.v = true) (ho : b.ok = true) : b.fst.v = true ∧ b.snd.v = true ∧ b.fst.wi b ∧ b.snd.wi b ∧ (∀ x y z, b.has x y z → b.fst.has x y z ∨ b.snd.has x y z) ∧ b.fst.pts + b.snd.pts = b.pts ∧ (∀ x y z, b.fst.has x y z → ¬ b.snd.has x y z) := by
  obtain ⟨a, bb, c, d, e, f⟩ := b
  have hp : 2 ≤ ptsP a bb c d e f := by simpa [Bx.ok, splOk] using ho
  obtain ⟨e0, e1, e2, f0, f1, f2, hs, hh⟩ := split_halves (show bP a bb c d e f = true from hv) hp
  have ho' : splOk a bb c d e f = true := ho
  have hE : spE true (axis (d - a) (e - bb) (f - c)) 0 a d = e0 ∧ spE true (axis (d - a) (e - bb) (f - c)) 1 bb e = e1 ∧ spE true (axis (d - a) (e - bb) (f - c)) 2 c f = e2 ∧ spB true (axis (d - a) (e - bb) (f - c)) 0 a d = f0 ∧ spB true (axis (d - a) (e - bb) (f - c)) 1 bb e = f1 ∧ spB true (axis (d - a) (e - bb) (f - c)) 2 c f = f2 := by
    rw [ho'] at hs; simp [splV] at hs; exact ⟨hs.1.2.2.2.1, hs.1.2.2.2.2.1, hs.1.2.2.2.2.2, hs.2.1, hs.2.2.1, hs.2.2.2.1⟩
  obtain ⟨h1, h2, h3, h4, h5, h6⟩ := hE
  have hf : Bx.fst ⟨a, bb, c, d, e, f⟩ = ⟨a, bb, c, e0, e1, e2⟩ := by simp [Bx.fst, Bx.ok, Bx.ax, ho', keepI, h1, h2, h3]
  have hg : Bx.snd ⟨a, bb, c, d, e, f⟩ = ⟨f0, f1, f2, d, e, f⟩ := by simp [Bx.snd, Bx.ok, Bx.ax, ho', keepI, h4, h5, h6]
  rw [hf, hg]
  have w1 := wiP_iff.1 hh.wx
  have w2 := wiP_iff.1 hh.wy
  obtain ⟨v0, v1, o0, o1, o2⟩ := bP_iff (show bP a bb c d e f = true from hv)
  have i0 := vP_iff v0; have i1 := vP_iff v1
  have part : ∀ x y z, Bx.has ⟨a, bb, c, d, e, f⟩ x y z → (Bx.has ⟨a, bb, c, e0, e1, e2⟩ x y z ↔ ¬ Bx.has ⟨f0, f1, f2, d, e, f⟩ x y z) := by
    intro x y z h
    simp only [Bx.has] at h ⊢
    have hq := hh.part x y z h.1 h.2.1 h.2.2.1 h.2.2.2.1 h.2.2.2.2.1 h.2.2.2.2.2
    have hvq : vP x y z = true := vP_mk (by omega)
    have A : conP a bb c e0 e1 e2 x y z = true ↔ (a ≤ x ∧ x ≤ e0 ∧ bb ≤ y ∧ y ≤ e1 ∧ c ≤ z ∧ z ≤ e2) := by
      rw [conP_iff]; exact ⟨fun k => by omega, fun k => ⟨hh.vx, hvq, by omega⟩⟩
    have B : conP f0 f1 f2 d e f x y z = true ↔ (f0 ≤ x ∧ x ≤ d ∧ f1 ≤ y ∧ y ≤ e ∧ f2 ≤ z ∧ z ≤ f) := by
      rw [conP_iff]; exact ⟨fun k => by omega, fun k => ⟨hh.vy, hvq, by omega⟩⟩
    rw [← A, ← B, hq]
    cases conP f0 f1 f2 d e f x y z <;> simp
  refine ⟨hh.vx, hh.vy, ?_, ?_, fun x y z h => ?_, hh.sum, fun x y z h => ?_⟩
  · simp only [Bx.wi]; omega
  · simp only [Bx.wi]; omega
  · by_cases k : Bx.has ⟨f0, f1, f2, d, e, f⟩ x y z
    · exact .inr k
    · exact .inl ((part x y z h).2 k)
  · exact (part x y z (Bx.has_wi h (by simp only [Bx.wi]; omega))).1 h
theorem wiP_of {c b : Bx} (hc : c.v = true) (hb : b.v = true) (h : c.wi b) : wiP c.a c.b c.c c.d c.e c.f b.a b.b b.c b.d b.e b.f = true :=
  wiP_iff.2 ⟨hc, hb, by unfold Bx.wi at h; omega⟩
/-- A misfit is no great number. -/
theorem Good.mm_in {P : Prob} (h : Good P) {b0 b1 b2 b3 b4 b5 : Int} (hw : wiP b0 b1 b2 b3 b4 b5 P.x0 P.y0 P.z0 P.x1 P.y1 P.z1 = true) : 0 ≤ mm P b0 b1 b2 b3 b4 b5 ∧ mm P b0 b1 b2 b3 b4 b5 ≤ 10000000000000000 := by
  have hf := h.sound.fair b0 b1 b2 b3 b4 b5
  have hz : 0 < (zonesL P b0 b1 b2 b3 b4 b5).length := by rw [zonesL_length]; exact h.sound.some.1
  have hb := (best_spec (cap := P.cap) (phs := P.phs) hz).1
  unfold mm; rw [hb]
  have key : ∀ (t : Int) (k : Nat), k ≤ P.phs.length → 0 ≤ costN P.cap P.phs (zonesL P b0 b1 b2 b3 b4 b5) t k ∧ costN P.cap P.phs (zonesL P b0 b1 b2 b3 b4 b5) t k ≤ k * 109951162777600 := by
    intro t k
    induction k with
    | zero => intro _; simp [costN]
    | succ k ih => intro hk; have := hf.term_in t (i := k) (by omega); have := ih (by omega); simp only [costN]; omega
  have := key (best P.cap P.phs (zonesL P b0 b1 b2 b3 b4 b5)).1 P.phs.length (Nat.le_refl _)
  have hl := h.sound.some.2
  unfold cost; omega
theorem Good.bdC_eq {P : Prob} (h : Good P) {b0 b1 b2 b3 b4 b5 : Int} (hw : wiP b0 b1 b2 b3 b4 b5 P.x0 P.y0 P.z0 P.x1 P.y1 P.z1 = true) : bdC P b0 b1 b2 b3 b4 b5 = mm P b0 b1 b2 b3 b4 b5 := by
  unfold bdC mm; rw [if_pos (h.zones hw)]
theorem Bx.pts_pos {b : Bx} (h : b.v = true) : 1 ≤ b.pts := by
  obtain ⟨v0, v1, o0, o1, o2⟩ := bP_iff (show bP b.a b.b b.c b.d b.e b.f = true from h)
  unfold Bx.pts ptsP ptsD
  rw [show bP b.a b.b b.c b.d b.e b.f = true from h]
  simp only [if_true]
  have h1 : 1 ≤ b.d - b.a + 1 := by omega
  have h2 : 1 ≤ b.e - b.b + 1 := by omega
  have h3 : 1 ≤ b.f - b.c + 1 := by omega
  have m1 : 1 * 1 ≤ (b.d - b.a + 1) * (b.e - b.b + 1) := Int.mul_le_mul h1 h2 (by omega) (by omega)
  have m2 : 1 * 1 ≤ (b.d - b.a + 1) * (b.e - b.b + 1) * (b.f - b.c + 1) := Int.mul_le_mul (by omega) h3 (by omega) (by omega)
  omega
end Go.Proofs.YtgaglgopbdfemaaGreatDoor
