/- The best time of a drawn problem, and the residuals at it. -/
import Derived.Test.YtcealhikmbchoaaMisP
import Derived.Test.YtcealhikmbchoaaProb
namespace Go.Proofs.Ytcealhikmbchoaa
set_option linter.all false
open Go.RowKit Rg

theorem Good.time {P : Prob} (h : Good P) {x y z : Int} (hw : wiP x y z x y z P.x0 P.y0 P.z0 P.x1 P.y1 P.z1 = true) : -4000000000000 ≤ tt P x y z ∧ tt P x y z ≤ 4000000000000 := by
  obtain ⟨-, hm, -⟩ := best_spec (cap := P.cap) (phs := P.phs) (zs := zonesL P x y z x y z) (by rw [zonesL_length]; exact h.sound.some.1)
  obtain ⟨q, hq, e⟩ := mem_timesOf.1 hm
  unfold zonesL at hq
  obtain ⟨a, ha, rfl⟩ := List.mem_map.1 hq
  have hN := ((h.near a ha).within hw).1
  obtain ⟨-, e1, e2⟩ := hN.zE (h.ph a ha).ok
  obtain ⟨n0, n1, n2⟩ := far_small hN.vb hN.vp
  have tb := time_bounds hN.ok n0 (by omega) (Int.le_trans (ceilI_mono n0 n1) hN.reach)
  have tb2 := time_bounds hN.ok (by omega : 0 ≤ farD x y z x y z a.x a.y a.z) (by omega) hN.reach
  have hg := h.ph a ha
  have hg1 := hg.2.1; have hg2 := hg.2.2.1; have hg3 := hg.2.2.2.1
  unfold tt
  rcases e with e | e
  · rw [e]; show _ ≤ znF _ _ _ _ _ _ _ _ _ _ _ _ _ _ _ ∧ znF _ _ _ _ _ _ _ _ _ _ _ _ _ _ _ ≤ _; rw [e1]; omega
  · rw [e]; show _ ≤ znT _ _ _ _ _ _ _ _ _ _ _ _ _ _ _ ∧ znT _ _ _ _ _ _ _ _ _ _ _ _ _ _ _ ≤ _; rw [e2]; omega
theorem Good.resC {P : Prob} (h : Good P) {vl vh vp : Value} {cs : Array Value} (hcs : cs = P.val vl vh vp) (x y z : Int) (u : World) (hw : wiP x y z x y z P.x0 P.y0 P.z0 P.x1 P.y1 P.z1 = true) (hi : ProbIn P vl vh vp u) :
    Calls Try.prog 31 #[.agg cs, .agg #[.int .i64 x, .int .i64 y, .int .i64 z], .int .i64 (tt P x y z)] u fun e w' => ∃ v, e = .returned (.tuple #[v, .int .i64 0]) ∧ Sl w' v (resL (zonesL P x y z x y z) (tt P x y z)) ∧ u.grownBy w' none := by
  rw [hcs]
  have := h.time hw
  exact residuals_any P vl vh vp x y z _ u hi (by have := h.sound.some; omega) (h.zones hw) (by omega) (by omega)
end Go.Proofs.Ytcealhikmbchoaa
