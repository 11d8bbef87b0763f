/- The walk of GeometryRoots. -/
import Derived.Test.YtkmikiljpajaaaaAwake24
namespace Go.Proofs.Ytkmikiljpajaaaa
open Go.RowKit

/-- What is said of the roots. -/
theorem roots_plain {n : Int} (h0 : 0 ≤ n) (h1 : n < 1152921504606846976) :
    0 ≤ floorI n ∧ floorI n ≤ 1073741824 ∧ floorI n ≤ ceilI n ∧ ceilI n ≤ floorI n + 1 ∧ floorI n * floorI n ≤ n ∧ n < (floorI n + 1) * (floorI n + 1) ∧ n ≤ ceilI n * ceilI n ∧ (ceilI n = 0 ∨ (ceilI n - 1) * (ceilI n - 1) < n) := by
  have f0 := (floorI_le (n := n) (by omega)).1
  obtain ⟨f1, f2⟩ := floorI_spec h0
  have f3 : floorI n ≤ 1073741824 := by
    rcases Int.lt_or_le 1073741824 (floorI n) with h | h
    · have := Int.mul_le_mul (a := 1073741825) (b := 1073741825) (c := floorI n) (d := floorI n) (by omega) (by omega) (by omega) (by omega)
      omega
    · exact h
  have e2 : (floorI n + 1) * (floorI n + 1) = floorI n * floorI n + (floorI n + floorI n + 1) := by rw [Int.add_mul, Int.mul_add]; omega
  have e3 : (floorI n - 1) * (floorI n - 1) = floorI n * floorI n - (floorI n + floorI n - 1) := by rw [Int.sub_mul, Int.mul_sub]; omega
  refine ⟨f0, f3, by unfold ceilI; split <;> omega, ?_, f1, f2, ?_, ?_⟩
  · unfold ceilI; split <;> omega
  · unfold ceilI; split <;> omega
  · unfold ceilI; split
    · rename_i h
      right; rw [Int.add_sub_cancel]; exact h
    · by_cases e : floorI n = 0
      · exact .inl e
      · right; omega

set_option maxRecDepth 100000 in
set_option maxHeartbeats 400000 in
theorem geometryRoots_walk (w : World) (n0 : Int) (_h1 : -9223372036854775808 ≤ n0) (_h2 : n0 ≤ 9223372036854775807) :
    Calls Try.prog 6 #[.int .i64 n0] w fun e w' => e = .returned (.bool true) ∧ Below w.heap.size w w' := by
  go_enter Try.func6, Try.ntmps6
  go_wp2_with fail
  (with_reducible refine (mod_any n0 1152921504606846976 _ (by omega) (by omega)).mono ?_)
  rintro e w1 ⟨rfl, rfl⟩
  have hn0 := Int.emod_nonneg n0 (show (1152921504606846976 : Int) ≠ 0 by omega)
  have hn1 := Int.emod_lt_of_pos n0 (show 0 < (1152921504606846976 : Int) by omega)
  generalize n0 % 1152921504606846976 = n at *
  obtain ⟨r1, r2, r3, r4, r5, r6, r7, r8⟩ := roots_plain hn0 hn1
  have s1 : (floorI n + 1) * (floorI n + 1) ≤ 1073741825 * 1073741825 := Int.mul_le_mul (by omega) (by omega) (by omega) (by omega)
  have s2 : ceilI n * ceilI n ≤ 1073741825 * 1073741825 := Int.mul_le_mul (by omega) (by omega) (by omega) (by omega)
  have s0 : 0 ≤ floorI n * floorI n := Int.mul_nonneg r1 r1
  have s3 : 0 ≤ ceilI n - 1 → 0 ≤ (ceilI n - 1) * (ceilI n - 1) := fun h => Int.mul_nonneg h h
  go_wp2_with fail
  (with_reducible refine (gfloor_any n _ (by omega)).mono ?_)
  rintro e w2 ⟨rfl, rfl⟩
  go_wp2_with fail
  (with_reducible refine (gceil_any n _ (by omega)).mono ?_)
  rintro e w2 ⟨rfl, rfl⟩
  generalize floorI n = f at *
  generalize ceilI n = c at *
  generalize hp : f * f = p at *
  generalize hp1 : (f + 1) * (f + 1) = p1 at *
  generalize hq : c * c = q at *
  have wp : wrap64 p = p := IntWalk.wrap64_in _ (by omega)
  have wp1 : wrap64 p1 = p1 := IntWalk.wrap64_in _ (by omega)
  have wq : wrap64 q = q := IntWalk.wrap64_in _ (by omega)
  by_cases hc : c = 0
  · obtain rfl := hc
    clear r8 s3
    obtain rfl : q = 0 := by rw [← hq]; rfl
    obtain rfl : n = 0 := by omega
    obtain rfl : f = 0 := by omega
    obtain rfl : p = 0 := by rw [← hp]; rfl
    obtain rfl : p1 = 1 := by rw [← hp1]; rfl
    clear hp hp1 hq wp wp1 wq
    go_wp2_with fail
    (with_reducible refine (awake24_any _).mono ?_)
    rintro e w3 ⟨rfl, hg3⟩
    go_wp2
    go_ret
    exact ⟨rfl, gb_end hg3⟩
  · have hc' : (c == 0) = false := by simp [hc]
    have hr := r8.resolve_left hc
    have hr0 := s3 (by omega)
    clear r8 s3
    generalize hr1 : (c - 1) * (c - 1) = r at *
    have wr : wrap64 r = r := IntWalk.wrap64_in _ (by omega)
    go_wp2_with fail
    (with_reducible refine (awake24_any _).mono ?_)
    rintro e w3 ⟨rfl, hg3⟩
    go_wp2
    go_ret
    exact ⟨rfl, gb_end hg3⟩
end Go.Proofs.Ytkmikiljpajaaaa
