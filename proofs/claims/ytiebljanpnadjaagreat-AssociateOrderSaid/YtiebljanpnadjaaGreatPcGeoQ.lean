/- GeoQ -/
import Derived.Test.YtiebljanpnadjaaGreatPcGeoP
namespace Go.Proofs.YtiebljanpnadjaaGreat
set_option linter.all false
open Go.RowKit
/-- What is said of the halves. -/
structure Halves (x0 y0 z0 x1 y1 z1 e0 e1 e2 f0 f1 f2 : Int) : Prop where
  vx : bP x0 y0 z0 e0 e1 e2 = true
  vy : bP f0 f1 f2 x1 y1 z1 = true
  part : ∀ p q r, x0 ≤ p → p ≤ x1 → y0 ≤ q → q ≤ y1 → z0 ≤ r → r ≤ z1 → conP x0 y0 z0 e0 e1 e2 p q r = !conP f0 f1 f2 x1 y1 z1 p q r
  wx : wiP x0 y0 z0 e0 e1 e2 x0 y0 z0 x1 y1 z1 = true
  wy : wiP f0 f1 f2 x1 y1 z1 x0 y0 z0 x1 y1 z1 = true
  mid : conP x0 y0 z0 e0 e1 e2 (midI x0 x1) (midI y0 y1) (midI z0 z1) = true
  sum : ptsP x0 y0 z0 e0 e1 e2 + ptsP f0 f1 f2 x1 y1 z1 = ptsP x0 y0 z0 x1 y1 z1
  hull : min x0 f0 = x0 ∧ min y0 f1 = y0 ∧ min z0 f2 = z0 ∧ max e0 x1 = x1 ∧ max e1 y1 = y1 ∧ max e2 z1 = z1
theorem halves {x0 y0 z0 x1 y1 z1 e0 e1 e2 f0 f1 f2 : Int} (h : bP x0 y0 z0 x1 y1 z1 = true) (hm : x0 ≤ midI x0 x1 ∧ midI x0 x1 ≤ x1 ∧ y0 ≤ midI y0 y1 ∧ midI y0 y1 ≤ y1 ∧ z0 ≤ midI z0 z1 ∧ midI z0 z1 ≤ z1)
    (hc : (midI x0 x1 < x1 ∧ e0 = midI x0 x1 ∧ f0 = midI x0 x1 + 1 ∧ e1 = y1 ∧ f1 = y0 ∧ e2 = z1 ∧ f2 = z0) ∨ (midI y0 y1 < y1 ∧ e0 = x1 ∧ f0 = x0 ∧ e1 = midI y0 y1 ∧ f1 = midI y0 y1 + 1 ∧ e2 = z1 ∧ f2 = z0) ∨
      (midI z0 z1 < z1 ∧ e0 = x1 ∧ f0 = x0 ∧ e1 = y1 ∧ f1 = y0 ∧ e2 = midI z0 z1 ∧ f2 = midI z0 z1 + 1)) : Halves x0 y0 z0 x1 y1 z1 e0 e1 e2 f0 f1 f2 := by
  obtain ⟨v0, v1, o0, o1, o2⟩ := bP_iff h
  have i0 := vP_iff v0; have i1 := vP_iff v1
  have vx : bP x0 y0 z0 e0 e1 e2 = true := bP_mk v0 (vP_mk (by omega)) (by omega) (by omega) (by omega)
  have vy : bP f0 f1 f2 x1 y1 z1 = true := bP_mk (vP_mk (by omega)) v1 (by omega) (by omega) (by omega)
  refine ⟨vx, vy, ?_, wiP_iff.2 ⟨vx, h, by omega⟩, wiP_iff.2 ⟨vy, h, by omega⟩, conP_iff.2 ⟨vx, vP_mk (by omega), by omega⟩, ?_, by omega⟩
  · intro p q r p0 p1 q0 q1 r0 r1
    have vq : vP p q r = true := vP_mk (by omega)
    have A : conP x0 y0 z0 e0 e1 e2 p q r = true ↔ (p ≤ e0 ∧ q ≤ e1 ∧ r ≤ e2) := by rw [conP_iff]; exact ⟨fun h => by omega, fun h => ⟨vx, vq, by omega⟩⟩
    have B : conP f0 f1 f2 x1 y1 z1 p q r = true ↔ (f0 ≤ p ∧ f1 ≤ q ∧ f2 ≤ r) := by rw [conP_iff]; exact ⟨fun h => by omega, fun h => ⟨vy, vq, by omega⟩⟩
    cases ca : conP x0 y0 z0 e0 e1 e2 p q r <;> cases cb : conP f0 f1 f2 x1 y1 z1 p q r <;> simp only [ca, cb, Bool.false_eq_true, false_iff, true_iff, Bool.not_true, Bool.not_false] at A B ⊢ <;> omega
  · unfold ptsP; rw [vx, vy, h]; simp only [if_true]; unfold ptsD
    rcases hc with ⟨-, rfl, rfl, rfl, rfl, rfl, rfl⟩ | ⟨-, rfl, rfl, rfl, rfl, rfl, rfl⟩ | ⟨-, rfl, rfl, rfl, rfl, rfl, rfl⟩
    · generalize midI x0 x1 = m; grind
    · generalize midI y0 y1 = m; grind
    · generalize midI z0 z1 = m; grind
/-- Split's own halves. -/
theorem split_halves {x0 y0 z0 x1 y1 z1 : Int} (h : bP x0 y0 z0 x1 y1 z1 = true) (hp : 2 ≤ ptsP x0 y0 z0 x1 y1 z1) :
    ∃ e0 e1 e2 f0 f1 f2, splV (splOk x0 y0 z0 x1 y1 z1) (axis (x1 - x0) (y1 - y0) (z1 - z0)) x0 y0 z0 x1 y1 z1 = .tuple #[.agg #[.int .i64 x0, .int .i64 y0, .int .i64 z0, .int .i64 e0, .int .i64 e1, .int .i64 e2], .agg #[.int .i64 f0, .int .i64 f1, .int .i64 f2, .int .i64 x1, .int .i64 y1, .int .i64 z1], .bool true] ∧
      Halves x0 y0 z0 x1 y1 z1 e0 e1 e2 f0 f1 f2 := by
  have hv : splOk x0 y0 z0 x1 y1 z1 = true := by simp [splOk]; omega
  obtain ⟨v0, v1, o0, o1, o2⟩ := bP_iff h
  have mx := midI_in o0; have my := midI_in o1; have mz := midI_in o2
  have hne : ¬ (x0 = x1 ∧ y0 = y1 ∧ z0 = z1) := by
    rintro ⟨rfl, rfl, rfl⟩
    unfold ptsP ptsD at hp; rw [h] at hp; simp at hp
  rw [hv]
  rcases axis_cases x0 y0 z0 x1 y1 z1 with ⟨h1, h2, h3⟩ | ⟨h1, h2, h3⟩ | ⟨h1, h2, h3⟩ | ⟨h1, h2, h3⟩ <;> rw [h3]
  · exact ⟨midI x0 x1, y1, z1, midI x0 x1 + 1, y0, z0, by simp [splV, keepI, spE, spB], halves h (by omega) (.inl ⟨mx.2.2 (by omega), rfl, rfl, rfl, rfl, rfl, rfl⟩)⟩
  · exact ⟨x1, y1, midI z0 z1, x0, y0, midI z0 z1 + 1, by simp [splV, keepI, spE, spB], halves h (by omega) (.inr (.inr ⟨mz.2.2 (by omega), rfl, rfl, rfl, rfl, rfl, rfl⟩))⟩
  · exact ⟨x1, midI y0 y1, z1, x0, midI y0 y1 + 1, z0, by simp [splV, keepI, spE, spB], halves h (by omega) (.inr (.inl ⟨my.2.2 (by omega), rfl, rfl, rfl, rfl, rfl, rfl⟩))⟩
  · exact ⟨x1, y1, midI z0 z1, x0, y0, midI z0 z1 + 1, by simp [splV, keepI, spE, spB], halves h (by omega) (.inr (.inr ⟨mz.2.2 (by omega), rfl, rfl, rfl, rfl, rfl, rfl⟩))⟩
end Go.Proofs.YtiebljanpnadjaaGreat
