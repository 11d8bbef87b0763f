/- nat.From and the law's limbs: slices that the call makes. -/
import Derived.Test.YtmgfdfbhfhmekaaGreatBase
import Derived.Test.YtmgfdfbhfhmekaaGreatNat
namespace Go.Proofs.YtmgfdfbhfhmekaaGreat
set_option linter.all false
open Go.RowKit

theorem Tryz.infoInt : (Tryz.prog.info? 3).map (fun i => (i.zero, i.size, i.bytes)) = some (some (.int .i64 0), 1, 8) := by kernel_rfl

def limbsF : Nat → Nat → List Int
  | 0, _ => []
  | k + 1, n => if n = 0 then [] else ((n % 1073741824 : Nat) : Int) :: limbsF k (n / 1073741824)
theorem limbsF_pos (k n : Nat) (h : 0 < n) : limbsF (k + 1) n = ((n % 1073741824 : Nat) : Int) :: limbsF k (n / 1073741824) := by
  rw [limbsF, if_neg (by omega)]
theorem limbsF_zero (k : Nat) : limbsF k 0 = [] := by cases k <;> simp [limbsF]

/-- A slice with these ints is returned, in new memory. -/
def NewNat (B : Nat) (xs : List Int) (w : World) (e : Ending) (w' : World) : Prop :=
  ∃ v : Value, e = .returned (.tuple #[v, .int .i64 0]) ∧ w'.ownsRow B 3 1 v xs.length (xs.map (Value.int .i64)) ∧ w.grownBy w' none

theorem pow_step {y k : Nat} (h0 : 0 < y) (h : y < 1073741824 ^ k) : ∃ j, k = j + 1 ∧ y / 1073741824 < 1073741824 ^ j := by
  cases k with
  | zero => simp at h; omega
  | succ j => exact ⟨j, rfl, by rw [Nat.pow_succ] at h; omega⟩

theorem one_cell_int (x : Int) : ∀ u ∈ [Value.int .i64 x], u.oneCell' = true := by simp [Value.oneCell']
theorem int_cast_mod (y : Nat) : (y : Int) % 1073741824 = ((y % 1073741824 : Nat) : Int) := by simp
theorem owns_snoc {w1 : World} {B E : Nat} {v' : Value} {ys : List Int} {x y : Int} (hown' : w1.ownsRow B E 1 v' (ys.length + 1) (ys.map (Value.int .i64) ++ [.int .i64 x])) (h : x = y) :
    w1.ownsRow B E 1 v' (ys ++ [y]).length ((ys ++ [y]).map (Value.int .i64)) := by
  subst h; simpa using hown'

set_option maxHeartbeats 400000 in
theorem from_any (n : Nat) (w : World) (h : n < 9223372036854775808) :
    Calls Tryz.prog 108 #[.int .i64 n] w (NewNat w.heap.size (limbsF 3 n) w) := by
  go_enter Tryz.func108, Tryz.ntmps108
  go_wp2
  go_loopw [0, 4] (fun x v wr => ∃ (y k : Nat) (ys : List Int), x = .int .i64 y ∧ k ≤ 3 ∧ ys.length + k = 3 ∧ y < 9223372036854775808 ∧ y < 1073741824 ^ k ∧ limbsF 3 n = ys ++ limbsF k y ∧ wr.ownsRow w.heap.size 3 1 v ys.length (ys.map (Value.int .i64)) ∧ w.grownBy wr none)
    (fun x _ _ => (intOf x).toNat)
  case atStart => exact ⟨n, 3, [], rfl, by omega, rfl, h, by omega, rfl, World.ownsRow_nil _ _ _ _, gb_refl _ _⟩
  case round =>
    obtain ⟨y, k, ys, rfl, hk, hyk, hy, hp, hl, hown, hgr⟩ := hrel
    by_cases h0 : 0 < y
    · obtain ⟨j, rfl, hj⟩ := pow_step h0 hp
      have HJ := Lib.hid hj; clear hj hp
      rw [limbsF_pos j y h0] at hl
      have HL := Lib.hid hl; clear hl
      have hys : ys.length ≤ 2 := by omega
      have HY := Lib.hid hyk; clear hyk
      have hsz := hgr.size
      go_wp2_with (at_builtin; refine wpList_push rfl _ _ 66 rfl w.heap.size 3 (.int .i64 0) 1 8 Tryz.underlying66 Tryz.infoInt rfl (by decide) (by decide) _ _ _ rfl (hown.alloc _) wr.heap.size 1 [.int .i64 ((y : Int) % 1073741824)] 3 rfl (heap_alloc_new _ _) rfl (one_cell_int _) (by omega) (by simp; omega) ?_; intro v' w1 hown' hg')
      have R1 := Lib.hid (owns_snoc hown' (int_cast_mod y))
      have R2 := Lib.hid (push_grown hgr hown (Nat.le_refl _) hg')
      clear hown' hg' hown hgr
      go_wp2
      go_roundw
      case rel => exact ⟨y / 1073741824, j, ys ++ [((y % 1073741824 : Nat) : Int)], by go_num, by omega, by have := HY.out; simp; omega, by omega, HJ.out, by rw [HL.out]; simp, R1.out, R2.out⟩
      case measure => simp [intOf]; omega
    · obtain rfl : y = 0 := by omega
      rw [limbsF_zero, List.append_nil] at hl
      have HL := Lib.hid hl; clear hl
      go_wp2
      go_ret2
      exact ⟨_, rfl, by rw [HL.out]; exact hown, hgr⟩

theorem int_and_mod (y : Nat) (h : y < 9223372036854775808) : bits .and .i64 (y : Int) 1073741823 = ((y % 1073741824 : Nat) : Int) := by
  rw [show (1073741823 : Int) = 2 ^ 30 - 1 from by decide, bits_mask .i64 63 (by decide) wraps_i64 30 (by decide) _ (by omega) (by omega)]
  simp

/-- A slice with these ints is returned, in new memory. -/
def NewInts (B : Nat) (xs : List Int) (w : World) (e : Ending) (w' : World) : Prop :=
  ∃ v : Value, e = .returned v ∧ w'.ownsRow B 3 1 v xs.length (xs.map (Value.int .i64)) ∧ w.grownBy w' none

end Go.Proofs.YtmgfdfbhfhmekaaGreat
