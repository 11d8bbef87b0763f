/- StrL -/
import Derived.Test.YtlddgafbgaaiiaaGreatDoorTsDetP
namespace Go.Proofs.YtlddgafbgaaiiaaGreatDoor
set_option linter.all false
open Go.RowKit Rg
/-- What a feed keeps behind the first n samples. -/
def pastW (T : Nat) (xs : List Int) (n : Nat) : List Int := (xs.take n).drop (n + 1 - T)
theorem pastW_len {T : Nat} {xs : List Int} {n : Nat} (hT : 1 ≤ T) (hn : n ≤ xs.length) : (pastW T xs n).length = n - (n + 1 - T) := by
  unfold pastW; rw [List.length_drop, List.length_take, Nat.min_eq_left hn]
theorem pastW_mem {T : Nat} {xs : List Int} {n : Nat} : ∀ x ∈ pastW T xs n, x ∈ xs := fun _ h => List.mem_of_mem_take (List.mem_of_mem_drop h)
/-- The samples from one number to another. -/
def piece (xs : List Int) (a b : Nat) : List Int := (xs.take b).drop a
theorem piece_len {xs : List Int} {a b : Nat} (hb : b ≤ xs.length) : (piece xs a b).length = b - a := by
  unfold piece; rw [List.length_drop, List.length_take, Nat.min_eq_left hb]
theorem piece_mem {xs : List Int} {a b : Nat} : ∀ x ∈ piece xs a b, x ∈ xs := fun _ h => List.mem_of_mem_take (List.mem_of_mem_drop h)
theorem past_piece {T : Nat} {xs : List Int} {a b : Nat} (hab : a ≤ b) (hT : 1 ≤ T) : pastW T xs a ++ piece xs a b = (xs.take b).drop (a + 1 - T) := by
  have e1 : (xs.take b).take a = xs.take a := by rw [List.take_take, Nat.min_eq_left hab]
  have e : xs.take b = xs.take a ++ piece xs a b := by
    unfold piece
    rw [← e1]
    exact (List.take_append_drop a (xs.take b)).symm
  unfold pastW
  rw [e]
  by_cases hl : a ≤ xs.length
  · rw [List.drop_append_of_le_length (by rw [List.length_take, Nat.min_eq_left hl]; omega)]
  · have h0 : piece xs a b = [] := by
      unfold piece; rw [List.drop_eq_nil_iff, List.length_take]; omega
    rw [h0]; simp
theorem past_next {T : Nat} {xs : List Int} {a b : Nat} (hab : a ≤ b) (hb : b ≤ xs.length) (hT : 1 ≤ T) :
    (pastW T xs a ++ piece xs a b).drop ((pastW T xs a ++ piece xs a b).length + 1 - T) = pastW T xs b := by
  rw [past_piece hab hT, List.length_drop, List.length_take, Nat.min_eq_left hb, List.drop_drop]
  unfold pastW
  congr 1
  omega
theorem cv_shift (taps xs : List Int) (d i b : Nat) (hi : d + i < b) : ∀ k, k ≤ i + 1 → cv taps ((xs.take b).drop d) i k = cv taps xs (d + i) k
  | 0, _ => rfl
  | k + 1, h => by
    have ih := cv_shift taps xs d i b hi k (by omega)
    simp only [cv, ih]
    have e : ((xs.take b).drop d).getD (i - k) 0 = xs.getD (d + i - k) 0 := by
      rw [List.getD_eq_getElem?_getD, List.getD_eq_getElem?_getD, List.getElem?_drop, List.getElem?_take, if_pos (by omega)]
      congr 2
      omega
    rw [e]
theorem outG_shift (taps : List Int) (fa sh : Int) (xs : List Int) (num : Int) (d i b : Nat) (hi : d + i < b) (hT : taps.length ≤ i + 1) :
    outG taps fa sh ((xs.take b).drop d) (num + d) i = outG taps fa sh xs num (d + i) := by
  have e : outV taps sh ((xs.take b).drop d) i = outV taps sh xs (d + i) := by
    unfold outV
    rw [cv_shift taps xs d i b hi taps.length hT]
  have e2 : num + (d : Int) + (i : Int) = num + ((d + i : Nat) : Int) := by omega
  unfold outG
  rw [e, e2]
  by_cases h : (num + ((d + i : Nat) : Int)) % fa = 0
  · rw [if_pos ⟨hT, h⟩, if_pos ⟨by omega, h⟩]
  · rw [if_neg (fun h' => h h'.2), if_neg (fun h' => h h'.2)]
theorem outG_zero (taps : List Int) (fa sh : Int) (xs : List Int) (num : Int) (i b : Nat) (hi : i < b) : outG taps fa sh (xs.take b) num i = outG taps fa sh xs num i := by
  by_cases hT : taps.length ≤ i + 1
  · have h := outG_shift taps fa sh xs num 0 i b (by omega) hT
    simp only [List.drop_zero, Nat.zero_add] at h
    rw [← h]
    congr 1
    simp
  · unfold outG; rw [if_neg (fun h => hT h.1), if_neg (fun h => hT h.1)]
/-- The outputs of a piece behind what the feed keeps are those of the whole. -/
theorem outR_piece (taps : List Int) (fa sh : Int) (xs : List Int) (num : Int) (a b : Nat) (hab : a ≤ b) (hb : b ≤ xs.length) (hT : 1 ≤ taps.length) :
    outR taps fa sh (pastW taps.length xs a ++ piece xs a b) (num + a - (pastW taps.length xs a).length) (pastW taps.length xs a).length (piece xs a b).length = outR taps fa sh xs num a (b - a) := by
  have hl := pastW_len (T := taps.length) (xs := xs) (n := a) hT (by omega)
  rw [past_piece hab hT, piece_len hb, hl]
  have e : num + (a : Int) - ((a - (a + 1 - taps.length) : Nat) : Int) = num + ((a + 1 - taps.length : Nat) : Int) := by omega
  rw [e]
  generalize hd : a + 1 - taps.length = d
  unfold outR
  have hr : List.range' a (b - a) = (List.range' (a - d) (b - a)).map (d + ·) := by
    rw [List.map_add_range']
    congr 1
    omega
  rw [hr, List.flatMap_map]
  have hc : ∀ i ∈ List.range' (a - d) (b - a), outG taps fa sh ((xs.take b).drop d) (num + d) i = outG taps fa sh xs num (d + i) := by
    intro i hi
    obtain ⟨h1, h2⟩ := List.mem_range'_1.1 hi
    by_cases h0 : d = 0
    · subst h0
      simp only [List.drop_zero, Nat.zero_add, Int.natCast_zero, Int.add_zero]
      exact outG_zero taps fa sh xs num i b (by omega)
    · exact outG_shift taps fa sh xs num d i b (by omega) (by omega)
  rw [List.flatMap_def, List.flatMap_def, List.map_congr_left hc]
/-- What the watch is like, and what it has told, behind the first n samples. -/
def tw (s l n f : Int) (taps : List Int) (fa sh : Int) (xs : List Int) (num : Int) (a : Nat) : Wt × List Tg := lookAll s l n f ⟨[], 0, -1, 0, 0⟩ (outR taps fa sh xs num 0 a)
theorem tw_step (s l n f : Int) (taps : List Int) (fa sh : Int) (xs : List Int) (num : Int) {a b : Nat} (hab : a ≤ b) :
    tw s l n f taps fa sh xs num b = ((lookAll s l n f (tw s l n f taps fa sh xs num a).1 (outR taps fa sh xs num a (b - a))).1, (tw s l n f taps fa sh xs num a).2 ++ (lookAll s l n f (tw s l n f taps fa sh xs num a).1 (outR taps fa sh xs num a (b - a))).2) := by
  have e : outR taps fa sh xs num 0 b = outR taps fa sh xs num 0 a ++ outR taps fa sh xs num a (b - a) := by
    have h := outR_add taps fa sh xs num 0 a (b - a)
    rw [show a + (b - a) = b by omega, Nat.zero_add] at h
    exact h
  unfold tw
  rw [e, lookAll_append]
theorem tw_zero (s l n f : Int) (taps : List Int) (fa sh : Int) (xs : List Int) (num : Int) : tw s l n f taps fa sh xs num 0 = (⟨[], 0, -1, 0, 0⟩, []) := by simp [tw, outR, lookAll]
theorem tw_ok {s l n f : Int} {taps : List Int} {fa sh : Int} {xs : List Int} {num : Int} (a : Nat) (hl : 1 < l) (ok : FilOk fa sh taps) (hx : ∀ x ∈ xs, -100 ≤ x ∧ x ≤ 100) (ha : a ≤ 80) :
    WtOk l (tw s l n f taps fa sh xs num a).1 ∧ (0 ≤ (tw s l n f taps fa sh xs num a).1.count ∧ (tw s l n f taps fa sh xs num a).1.count ≤ 80) ∧ (tw s l n f taps fa sh xs num a).2.length ≤ 80 := by
  have hb := outR_bound ok xs num 0 a 100 (by omega) hx
  have hlen := outR_len taps fa sh xs num 0 a
  obtain ⟨h1, h2, h3⟩ := lookAll_ok (s := s) (n := n) (f := f) hl (outR taps fa sh xs num 0 a) ⟨[], 0, -1, 0, 0⟩ (WtOk.start hl) (fun x hx => by have := hb x hx; omega)
  refine ⟨h1, ?_, by show (lookAll s l n f _ _).2.length ≤ 80; omega⟩
  show 0 ≤ (lookAll s l n f _ _).1.count ∧ (lookAll s l n f _ _).1.count ≤ 80
  rw [h2]
  simp only
  omega
end Go.Proofs.YtlddgafbgaaiiaaGreatDoor
