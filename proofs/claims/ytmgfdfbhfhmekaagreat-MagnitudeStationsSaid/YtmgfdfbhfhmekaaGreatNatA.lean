/- nat: From, Add, Times, in the numbers' own terms; response's squares. -/
import Derived.Test.YtmgfdfbhfhmekaaGreatNatY
import Derived.Test.YtmgfdfbhfhmekaaGreatFrom
import Derived.Test.YtmgfdfbhfhmekaaGreatMagP
namespace Go.Proofs.YtmgfdfbhfhmekaaGreat
set_option linter.all false
open Go.RowKit

theorem limbsF_natL : ∀ (k n : Nat), n < 1073741824 ^ k → limbsF k n = natL n
  | 0, n, h => by
    have : n = 0 := by simp at h; omega
    subst this; rw [limbsF_zero, natL_zero]
  | k + 1, n, h => by
    by_cases h0 : n = 0
    · subst h0; rw [limbsF_zero, natL_zero]
    · rw [limbsF_pos k n (by omega), natL_pos (by omega), limbsF_natL k (n / 1073741824) (by rw [Nat.pow_succ] at h; omega)]
theorem from_nat (n : Nat) (w : World) (h : n < 9223372036854775808) :
    Calls Tryz.prog 108 #[.int .i64 n] w fun e w' => ∃ v, e = .returned (.tuple #[v, .int .i64 0]) ∧ Sl w' v (natL n) ∧ w.grownBy w' none := by
  refine (from_any n w h).mono ?_
  rintro e w' ⟨v, rfl, ho, hg⟩
  rw [limbsF_natL 3 n (by omega)] at ho
  exact ⟨v, rfl, Sl_of_owns ho rfl, hg⟩

/-- The state of a sum. -/
structure SumAt (xs ys os : List Int) (k : Nat) (c : Int) : Prop where
  len : os.length = k
  dig : Dig os
  c0 : 0 ≤ c
  c1 : c ≤ 1
  val : valL os + bpow k * c = valL (xs.take k) + valL (ys.take k)
theorem take_succ_val (xs : List Int) (k : Nat) : valL (xs.take (k + 1)) = valL (xs.take k) + bpow k * (xs[k]?.getD 0) := by
  by_cases h : k < xs.length
  · exact valL_take_succ xs k h
  · rw [List.take_of_length_le (by omega), List.take_of_length_le (by omega), List.getElem?_eq_none (by omega)]; simp
theorem valL_snoc (os : List Int) (y : Int) : valL (os ++ [y]) = valL os + bpow os.length * y := by
  have := take_succ_val (os ++ [y]) os.length
  rw [List.take_of_length_le (by simp), List.take_left] at this
  rw [this]; simp
theorem SumAt.step {xs ys os : List Int} {k : Nat} {c : Int} (hx : Dig xs) (hy : Dig ys) (h : SumAt xs ys os k c) :
    0 ≤ c + (xs[k]?.getD 0 + ys[k]?.getD 0) ∧ c + (xs[k]?.getD 0 + ys[k]?.getD 0) < 2147483648 ∧ 0 ≤ xs[k]?.getD 0 + ys[k]?.getD 0 ∧ xs[k]?.getD 0 + ys[k]?.getD 0 < 2147483648 ∧
    SumAt xs ys (os ++ [(c + (xs[k]?.getD 0 + ys[k]?.getD 0)) % 1073741824]) (k + 1) ((c + (xs[k]?.getD 0 + ys[k]?.getD 0)) / 1073741824) := by
  have h1 := hx.at k; have h2 := hy.at k; have h3 := h.c0; have h4 := h.c1
  refine ⟨by omega, by omega, by omega, by omega, by simp [h.len], ?_, by omega, by omega, ?_⟩
  · intro z hz
    rcases List.mem_append.1 hz with hz | hz
    · exact h.dig z hz
    · simp only [List.mem_singleton] at hz; omega
  · rw [valL_snoc, take_succ_val, take_succ_val, h.len, bpow_succ]
    have hv := h.val
    generalize hs : c + (xs[k]?.getD 0 + ys[k]?.getD 0) = s at *
    have e : s = 1073741824 * (s / 1073741824) + s % 1073741824 := (Int.mul_ediv_add_emod s 1073741824).symm
    generalize s / 1073741824 = q at *
    generalize s % 1073741824 = r at *
    generalize xs[k]?.getD 0 = x at *
    generalize ys[k]?.getD 0 = y at *
    generalize bpow k = B at *
    have e2 : B * s = B * (1073741824 * q + r) := by rw [← e]
    rw [← hs, Int.mul_add, Int.mul_add, Int.mul_add] at e2
    rw [Int.mul_assoc B 1073741824 q]
    omega
theorem SumAt.out {xs ys os : List Int} {N : Nat} {c : Int} {m n : Int} (h : SumAt xs ys os (N + 1) c) (hx : xs.length ≤ N) (hy : ys.length ≤ N) (hm : IsNat xs m) (hn : IsNat ys n) : valL os = m + n := by
  have hv := h.val
  rw [List.take_of_length_le (by omega), List.take_of_length_le (by omega), hm.val, hn.val] at hv
  have h1 := hm.lt; have h2 := hn.lt
  have h3 := bpow_le hx; have h4 := bpow_le hy
  have h5 := valL_nn h.dig
  have h6 := h.c0; have h7 := h.c1
  have h8 := bpow_succ N; have h9 := bpow_pos N
  have : c = 0 := by
    rcases Int.lt_or_le c 1 with hc | hc
    · omega
    · obtain rfl : c = 1 := by omega
      rw [Int.mul_one] at hv
      omega
  subst this
  omega

set_option maxRecDepth 100000 in
set_option maxHeartbeats 2000000 in
theorem Add_nat (xs ys : List Int) (v u : Value) (m n : Int) (w : World) (h1 : Sl w v xs) (h2 : Sl w u ys) (hm : IsNat xs m) (hn : IsNat ys n) (hx : xs.length ≤ 64) (hy : ys.length ≤ 64) (hmn : m + n < bpow 64) :
    Calls Tryz.prog 110 #[v, u] w fun e w' => ∃ v' zs, e = .returned (.tuple #[v', .int .i64 0]) ∧ Sl w' v' zs ∧ IsNat zs (m + n) ∧ zs.length ≤ 64 ∧ w.grownBy w' none := by
  have A := Lib.hid (both_nat xs ys v u m n w h1 h2 hm hn hx hy)
  obtain ⟨a1, c1, rfl⟩ := h1.shape; obtain ⟨a2, c2, rfl⟩ := h2.shape
  obtain ⟨N, hN, hNx, hNy⟩ : ∃ N : Nat, max (xs.length : Int) (ys.length : Int) = N ∧ xs.length ≤ N ∧ ys.length ≤ N := ⟨max xs.length ys.length, by omega, by omega, by omega⟩
  have hN64 : N ≤ 64 := by omega
  have hwN : IntKind.i64.wrap ((N : Int) + 1) = ((N + 1 : Nat) : Int) := by rw [IntKind.wrap_i64]; omega
  have D1 := Lib.hid (fun (k : Nat) (hk : k ≤ 1000) (u : World) (hg : w.grownBy u none) => digit_any xs (.slice a1 xs.length c1) k u (h1.after hg) (by omega) (by omega))
  have D2 := Lib.hid (fun (k : Nat) (hk : k ≤ 1000) (u : World) (hg : w.grownBy u none) => digit_any ys (.slice a2 ys.length c2) k u (h2.after hg) (by omega) (by omega))
  have STEP := Lib.hid (fun (os : List Int) (k : Nat) (c : Int) (h : SumAt xs ys os k c) => h.step hm.dig hn.dig)
  have FIN := Lib.hid (fun (os : List Int) (c : Int) (h : SumAt xs ys os (N + 1) c) => h.out hNx hNy hm hn)
  have START := Lib.hid (show SumAt xs ys [] 0 0 from ⟨rfl, by intro z hz; simp at hz, by omega, by omega, by simp [valL]⟩)
  have HMN := Lib.hid hmn
  clear h1 h2 hm hn hmn hNx hNy
  go_enter Tryz.func110, Tryz.ntmps110
  go_wp2_with fail
  (with_reducible refine A.out.mono ?_)
  rintro e w' ⟨rfl, rfl⟩
  generalize xs.length = lx at *
  generalize ys.length = ly at *
  clear A
  go_wp2_with fail
  go_loopw [6, 7, 8, 19] (fun o c _ i wr => ∃ (k : Nat) (cy : Int) (os : List Int), k ≤ N + 1 ∧ i = .int .i64 k ∧ c = .int .i64 cy ∧ SumAt xs ys os k cy ∧ wr.ownsRow w.heap.size 3 1 o os.length (os.map (Value.int .i64)) ∧ w.grownBy wr none) (fun _ _ _ i _ => N + 1 - (intOf i).toNat)
  case atStart => exact ⟨0, 0, [], by omega, rfl, rfl, START.out, World.ownsRow_nil _ _ _ _, gb_refl _ _⟩
  case round =>
    obtain ⟨k, cy, os, hk, rfl, rfl, hS, hown, hgr⟩ := hrel
    by_cases hlt : k < N + 1
    · obtain ⟨s0, s1, s2, s3, hS2⟩ := STEP.out os k cy hS
      have D1k := Lib.hid (D1.out k (by omega) wr hgr); have D2k := Lib.hid (D2.out k (by omega) wr hgr)
      have HS2 := Lib.hid hS2
      have HLEN := Lib.hid hS.len
      have hc0 := hS.c0; have hc1 := hS.c1
      have HOW := Lib.hid hown; have HGR := Lib.hid hgr
      clear hS hS2 hown hgr
      generalize xs[k]?.getD 0 = x at *
      generalize ys[k]?.getD 0 = y at *
      have hw1 : IntKind.i64.wrap (x + y) = x + y := by rw [IntKind.wrap_i64]; omega
      have hw2 : IntKind.i64.wrap (cy + (x + y)) = cy + (x + y) := by rw [IntKind.wrap_i64]; omega
      go_wp2_with fail
      (with_reducible refine D1k.out.mono ?_)
      rintro e w' ⟨rfl, rfl⟩
      go_wp2_with fail
      (with_reducible refine D2k.out.mono ?_)
      rintro e w' ⟨rfl, rfl⟩
      clear D1k D2k
      have hsz := HGR.out.size
      go_wp2_with (at_builtin; refine wpList_push rfl _ _ 66 rfl w.heap.size 3 (.int .i64 0) 1 8 Tryz.underlying66 Tryz.infoInt rfl (by decide) (by decide) _ _ _ rfl (HOW.out.alloc _) wr.heap.size 1 [.int .i64 ((cy + (x + y)) % 1073741824)] 3 rfl (heap_alloc_new _ _) rfl (one_cell_int _) (by have := HLEN.out; omega) (by simp; omega) ?_; refine Hid.out ?_)
      refine Lib.hid ?_
      intro v' w1 hown' hg'
      have R1 := Lib.hid (owns_snoc hown' rfl)
      have R2 := Lib.hid (push_grown HGR.out HOW.out (Nat.le_refl _) hg')
      clear hown' hg' HOW HGR
      go_wp2_with fail
      go_roundw
      case rel => exact ⟨k + 1, (cy + (x + y)) / 1073741824, os ++ [(cy + (x + y)) % 1073741824], by omega, by go_num, rfl, HS2.out, R1.out, R2.out⟩
      case measure => simp [intOf]; omega
    · obtain rfl : k = N + 1 := by omega
      have hd_ : decide (((N + 1 : Nat) : Int) < ((N + 1 : Nat) : Int)) = false := decide_eq_false (by omega)
      have hv := FIN.out os cy hS
      have HS := Lib.hid (Sl_of_owns hown rfl)
      have HD := Lib.hid hS.dig; have HLN := Lib.hid hS.len; have HGR := Lib.hid hgr
      clear hown hgr hS
      go_wp2_with fail
      (with_reducible refine (limited_nat os _ (m + n) wr HS.out (by have := HLN.out; omega) HD.out hv HMN.out).mono ?_)
      rintro e w' ⟨v', zs, rfl, rfl, hs, hz, hl⟩
      have HS2 := Lib.hid hs; have HZ := Lib.hid hz; have HL := Lib.hid hl
      obtain ⟨za, zc, rfl⟩ := hs.shape
      clear hs hz hl
      go_wp2_with fail
      exact bodyPost_ret (v := .tuple #[.slice za zs.length zc, .int .i64 0]) (by simp [results, Tryz.results110, go_sem]) rfl ⟨_, _, rfl, HS2.out, HZ.out, HL.out, HGR.out⟩
end Go.Proofs.YtmgfdfbhfhmekaaGreat
