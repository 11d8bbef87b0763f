/- Plain lists of the points of a box. Of no program. -/
import Derived.Test.YtkckcaijfedijaaGen
namespace Go.Proofs.Ytkckcaijfedijaa
set_option linter.all false
open Go.RowKit

def preZ (x y z0 : Int) (k : Nat) : List (Int × Int × Int) := (List.range k).map fun (c : Nat) => (x, y, z0 + (c : Int))
def preY (x y0 z0 : Int) (nz j : Nat) : List (Int × Int × Int) := (List.range j).flatMap fun (b : Nat) => preZ x (y0 + (b : Int)) z0 nz
def preX (x0 y0 z0 : Int) (ny nz i : Nat) : List (Int × Int × Int) := (List.range i).flatMap fun (a : Nat) => preY (x0 + (a : Int)) y0 z0 nz ny
def flat3 (l : List (Int × Int × Int)) : List Value := l.flatMap fun q => [.int .i64 q.1, .int .i64 q.2.1, .int .i64 q.2.2]

theorem preZ_zero (x y z0 : Int) : preZ x y z0 0 = [] := rfl
theorem preY_zero (x y0 z0 : Int) (nz : Nat) : preY x y0 z0 nz 0 = [] := rfl
theorem preX_zero (x0 y0 z0 : Int) (ny nz : Nat) : preX x0 y0 z0 ny nz 0 = [] := rfl
theorem preZ_succ (x y z0 : Int) (k : Nat) : preZ x y z0 (k + 1) = preZ x y z0 k ++ [(x, y, z0 + (k : Int))] := by simp [preZ, List.range_succ]
theorem preY_succ (x y0 z0 : Int) (nz j : Nat) : preY x y0 z0 nz (j + 1) = preY x y0 z0 nz j ++ preZ x (y0 + (j : Int)) z0 nz := by simp [preY, List.range_succ]
theorem preX_succ (x0 y0 z0 : Int) (ny nz i : Nat) : preX x0 y0 z0 ny nz (i + 1) = preX x0 y0 z0 ny nz i ++ preY (x0 + (i : Int)) y0 z0 nz ny := by simp [preX, List.range_succ]
theorem preZ_length (x y z0 : Int) (k : Nat) : (preZ x y z0 k).length = k := by simp [preZ]
theorem preY_length (x y0 z0 : Int) (nz j : Nat) : (preY x y0 z0 nz j).length = j * nz := by
  induction j with
  | zero => simp [preY_zero]
  | succ j ih => rw [preY_succ, List.length_append, ih, preZ_length, Nat.succ_mul]
theorem preX_length (x0 y0 z0 : Int) (ny nz i : Nat) : (preX x0 y0 z0 ny nz i).length = i * (ny * nz) := by
  induction i with
  | zero => simp [preX_zero]
  | succ i ih => rw [preX_succ, List.length_append, ih, preY_length, Nat.succ_mul]
theorem mem_preX {x0 y0 z0 : Int} {ny nz i : Nat} {q : Int × Int × Int} : q ∈ preX x0 y0 z0 ny nz i ↔ x0 ≤ q.1 ∧ q.1 < x0 + i ∧ y0 ≤ q.2.1 ∧ q.2.1 < y0 + ny ∧ z0 ≤ q.2.2 ∧ q.2.2 < z0 + nz := by
  obtain ⟨a, b, c⟩ := q
  simp only [preX, preY, preZ, List.mem_flatMap, List.mem_range, List.mem_map, Prod.mk.injEq]
  constructor
  · rintro ⟨i', hi, j', hj, k', hk, h1, h2, h3⟩
    omega
  · rintro ⟨h1, h2, h3, h4, h5, h6⟩
    exact ⟨(a - x0).toNat, by omega, (b - y0).toNat, by omega, (c - z0).toNat, by omega, by omega, by omega, by omega⟩
theorem flat3_append (l m : List (Int × Int × Int)) : flat3 (l ++ m) = flat3 l ++ flat3 m := by simp [flat3]
theorem flat3_length (l : List (Int × Int × Int)) : (flat3 l).length = l.length * 3 := by
  induction l with
  | nil => rfl
  | cons q l ih => rw [show q :: l = [q] ++ l from rfl, flat3_append, List.length_append, ih]; simp [flat3]; omega
theorem flat3_at : ∀ (l : List (Int × Int × Int)) (i : Nat) (h : i < l.length), (flat3 l)[i * 3]? = some (.int .i64 l[i].1) ∧ (flat3 l)[i * 3 + 1]? = some (.int .i64 l[i].2.1) ∧ (flat3 l)[i * 3 + 2]? = some (.int .i64 l[i].2.2)
  | q :: l, 0, _ => by simp [flat3]
  | q :: l, i + 1, h => by
    have ih := flat3_at l i (by simpa using h)
    have e : flat3 (q :: l) = [.int .i64 q.1, .int .i64 q.2.1, .int .i64 q.2.2] ++ flat3 l := by simp [flat3]
    rw [e]
    refine ⟨?_, ?_, ?_⟩
    · rw [List.getElem?_append_right (by simp; omega), show (i + 1) * 3 - [Value.int .i64 q.1, .int .i64 q.2.1, .int .i64 q.2.2].length = i * 3 by simp; omega]; exact ih.1
    · rw [List.getElem?_append_right (by simp; omega), show (i + 1) * 3 + 1 - [Value.int .i64 q.1, .int .i64 q.2.1, .int .i64 q.2.2].length = i * 3 + 1 by simp; omega]; exact ih.2.1
    · rw [List.getElem?_append_right (by simp; omega), show (i + 1) * 3 + 2 - [Value.int .i64 q.1, .int .i64 q.2.1, .int .i64 q.2.2].length = i * 3 + 2 by simp; omega]; exact ih.2.2
end Go.Proofs.Ytkckcaijfedijaa
