/- Shelf Trv -/
import Derived.Shelf.Strings.Builder1
import Derived.Shelf.Strings.Builder2
import Derived.Shelf.Small.Bits
import Derived.Shelf.Strconv.Itoa0
import Derived.Shelf.Strconv.Itoa1
import Derived.Shelf.LaysM
import Derived.Shelf.Strconv.Itoa2
import Derived.Shelf.Strconv.Itoa3
import Derived.Shelf.Bits.Mul64
import Derived.Ground.Names2Prog
import Derived.Shelf.Slices.Clone
import Derived.Shelf.Slices.SearchI
import Derived.Ground.SlgnProg
import Derived.Shelf.SlicesE.Clone
import Derived.Test.YtgaglgopbdfemaaGreatDoorProg
import Derived.Test.YtgaglgopbdfemaaGreatDoorTmBase
namespace Go.Proofs
open Go.Shelf
def Tryz.lays125_ren : Go.Shelf.Ren := ⟨fun | 125 => 217 | 128 => 301 | 129 => 302 | n => n, fun | 46 => 386 | 3 => 3 | 51 => 465 | 53 => 402 | 4 => 4 | 5 => 5 | 9 => 9 | n => n, fun | n => n⟩
theorem Tryz.lays125 : Go.Proofs.Lays.n125 Tryz.prog Tryz.lays125_ren := {
  mixed := by kernel_rfl
  f125 := Tryz.func217.trans (congrArg some (by kernel_rfl))
  f128 := Tryz.func301.trans (congrArg some (by kernel_rfl))
  f129 := Tryz.func302.trans (congrArg some (by kernel_rfl))
  t3 := Tryz.underlying3
  a3 := Tryz.isAgg3
  z3 := Tryz.sizeOf3
  v3 := Tryz.zeroValue3
  t4 := Tryz.underlying4
  a4 := Tryz.isAgg4
  z4 := Tryz.sizeOf4
  v4 := Tryz.zeroValue4
  t5 := Tryz.underlying5
  a5 := Tryz.isAgg5
  z5 := Tryz.sizeOf5
  v5 := Tryz.zeroValue5
  t9 := Tryz.underlying9
  a9 := Tryz.isAgg9
  z9 := Tryz.sizeOf9
  v9 := Tryz.zeroValue9
  t46 := Tryz.underlying386
  a46 := Tryz.isAgg386
  z46 := Tryz.sizeOf386
  v46 := Tryz.zeroValue386
  t51 := Tryz.underlying465
  a51 := Tryz.isAgg465
  z51 := Tryz.sizeOf465
  v51 := Tryz.zeroValue465
  t53 := Tryz.underlying402
  a53 := Tryz.isAgg402
  z53 := Tryz.sizeOf402
  v53 := Tryz.zeroValue402 }
/-- bits.Len: "Len returns the minimum number of bits required to represent x; the result is 0 for x == 0.": IT RETURNS 'Lib.bitLen x'; the world is as it was. (A uint has 64 bits in the model.) ITS CALLEE bits.Len64 IS MET BY ITS OWN CONTRACT OFF THE SHELF (lay that first). (LAID: no walk: one application.) -/
theorem Tryz.bits_Len (x : Int) (w : World) (h0 : 0 ≤ x) (h1 : x ≤ 18446744073709551615) :
    Calls Tryz.prog 217 #[.int .u64 x] w fun e w' => e = .returned (.int .i64 (Lib.bitLen x.toNat)) ∧ w' = w := Any.bits_Len Tryz.lays125 x w h0 h1
end Go.Proofs
namespace Go.Proofs.YtgaglgopbdfemaaGreatDoor
set_option linter.all false
section LSqrt
open Go.RowKit
/-- The square root, rounded down. -/
def sqF : Nat → Nat → Nat
  | 0, _ => 0
  | k + 1, n => if (sqF k n + 1) * (sqF k n + 1) ≤ n then sqF k n + 1 else sqF k n
def sqS (n : Nat) : Nat := sqF n n
theorem sqF_le (n : Nat) : ∀ k, sqF k n * sqF k n ≤ n
  | 0 => by simp [sqF]
  | k + 1 => by unfold sqF; split; assumption; exact sqF_le n k
theorem sqF_lt (n : Nat) : ∀ k, n < (sqF k n + 1) * (sqF k n + 1) ∨ k ≤ sqF k n
  | 0 => .inr (Nat.zero_le _)
  | k + 1 => by
    unfold sqF
    rcases sqF_lt n k with h | h
    · split
      · omega
      · exact .inl h
    · split
      · right; omega
      · left; omega
theorem sqS_spec (n : Nat) : sqS n * sqS n ≤ n ∧ n < (sqS n + 1) * (sqS n + 1) := by
  refine ⟨sqF_le n n, ?_⟩
  rcases sqF_lt n n with h | h
  · exact h
  · have : n * n ≤ sqF n n * sqF n n := Nat.mul_le_mul h h
    unfold sqS
    rw [Nat.add_mul, Nat.mul_add]; omega
theorem sq_mono {a b : Nat} (h : a * a < b * b) : a < b := by
  rcases Nat.lt_or_ge a b with h' | h'
  · exact h'
  · have := Nat.mul_le_mul h' h'; omega
theorem sqS_unique {n r : Nat} (h1 : r * r ≤ n) (h2 : n < (r + 1) * (r + 1)) : r = sqS n := by
  obtain ⟨a, b⟩ := sqS_spec n
  have := sq_mono (Nat.lt_of_le_of_lt h1 b)
  have := sq_mono (Nat.lt_of_le_of_lt a h2)
  omega
theorem sqS_le {n : Nat} (h : n < 9223372036854775808) : sqS n ≤ 3037000499 := by
  have a := (sqS_spec n).1
  have : sqS n < 3037000500 := sq_mono (by omega)
  omega
def floorI (n : Int) : Int := sqS n.toNat
def ceilI (n : Int) : Int := if floorI n * floorI n < n then floorI n + 1 else floorI n
theorem floorI_neg {n : Int} (h : n ≤ 0) : floorI n = 0 := by
  unfold floorI; rw [show n.toNat = 0 from by omega]; rfl
theorem floorI_le {n : Int} (h : n ≤ 9223372036854775807) : 0 ≤ floorI n ∧ floorI n ≤ 3037000499 := by
  have := sqS_le (n := n.toNat) (by omega)
  unfold floorI; omega
theorem floorI_spec {n : Int} (h : 0 ≤ n) : floorI n * floorI n ≤ n ∧ n < (floorI n + 1) * (floorI n + 1) := by
  obtain ⟨a, b⟩ := sqS_spec n.toNat
  have e1 : floorI n * floorI n = ((sqS n.toNat * sqS n.toNat : Nat) : Int) := by unfold floorI; simp
  have e2 : (floorI n + 1) * (floorI n + 1) = (((sqS n.toNat + 1) * (sqS n.toNat + 1) : Nat) : Int) := by unfold floorI; simp
  rw [e1, e2]; omega
theorem floorI_unique {n r : Int} (h0 : 0 ≤ r) (h1 : r * r ≤ n) (h2 : n < (r + 1) * (r + 1)) : r = floorI n := by
  obtain ⟨r, rfl⟩ := Int.eq_ofNat_of_zero_le h0
  have hn : 0 ≤ n := Int.le_trans (Int.mul_nonneg h0 h0) h1
  obtain ⟨n, rfl⟩ := Int.eq_ofNat_of_zero_le hn
  have := sqS_unique (n := n) (r := r) (by exact_mod_cast h1) (by exact_mod_cast h2)
  unfold floorI; rw [this]; rfl
theorem pow2 (j : Nat) : 2 ^ (j + 1) = 2 * 2 ^ j := by rw [Nat.pow_succ]; omega
theorem or_bit {r j : Nat} (h : r % 2 ^ (j + 1) = 0) (h1 : r < 4294967296) (h2 : j ≤ 31) : bits .or .i64 (r : Int) (2 ^ j) = ((r + 2 ^ j : Nat) : Int) := by
  have p : 2 ^ j ≤ 2 ^ 31 := Nat.pow_le_pow_right (by omega) h2
  have pp := pow2 j
  have q := Nat.two_pow_pos j
  have c : (2 : Int) ^ j = ((2 ^ j : Nat) : Int) := by simp
  have c2 : (2 : Int) ^ (j + 1) = ((2 ^ (j + 1) : Nat) : Int) := by simp
  rw [bits_join .i64 63 (by decide) wraps_i64 (j + 1) _ _ (by omega) (by rw [c2]; omega) (by omega) (by rw [c]; omega) (by rw [c, c2]; omega) (by rw [c]; omega)]
  rw [c]; omega
/-- The walk's state: r is the root so far, its square at most n, and n is less than the square of r + 2^j. -/
def Root (n r j : Nat) : Prop := r % 2 ^ j = 0 ∧ r * r ≤ n ∧ n < (r + 2 ^ j) * (r + 2 ^ j)
theorem Root.yes {n r j : Nat} (h : Root n r (j + 1)) (hx : (r + 2 ^ j) * (r + 2 ^ j) ≤ n) : Root n (r + 2 ^ j) j := by
  obtain ⟨h1, h2, h3⟩ := h
  have pp := pow2 j
  refine ⟨?_, hx, ?_⟩
  · rw [Nat.add_mod_right]
    rw [pp] at h1
    have : r % (2 * 2 ^ j) % 2 ^ j = r % 2 ^ j := Nat.mod_mul_left_mod r 2 (2 ^ j)
    rw [h1] at this; simpa using this.symm
  · rw [pp] at h3; rw [show r + 2 ^ j + 2 ^ j = r + 2 * 2 ^ j from by omega]; exact h3
theorem Root.no {n r j : Nat} (h : Root n r (j + 1)) (hx : n < (r + 2 ^ j) * (r + 2 ^ j)) : Root n r j := by
  obtain ⟨h1, h2, h3⟩ := h
  refine ⟨?_, h2, hx⟩
  rw [pow2 j] at h1
  have : r % (2 * 2 ^ j) % 2 ^ j = r % 2 ^ j := Nat.mod_mul_left_mod r 2 (2 ^ j)
  rw [h1] at this; simpa using this.symm
theorem Root.done {n r : Nat} (h : Root n r 0) : r = sqS n := sqS_unique h.2.1 (by simpa using h.2.2)
theorem Root.start {n m : Nat} (h : n < 2 ^ (2 * m)) : Root n 0 m := by
  refine ⟨by simp, by simp, ?_⟩
  rw [Nat.zero_add, ← Nat.pow_add]; rwa [show m + m = 2 * m from by omega]
theorem Root.lt {n r j : Nat} (h : Root n r j) (hn : n < 9223372036854775808) : r ≤ 3037000499 := by
  have : r < 3037000500 := sq_mono (by have := h.2.1; omega)
  omega
theorem le_div_iff {x n : Nat} (h : 0 < x) : x ≤ n / x ↔ x * x ≤ n := Nat.le_div_iff_mul_le h
theorem wrap_pow {j : Nat} (h : j ≤ 62) : wrap64 (2 ^ j) = ((2 ^ j : Nat) : Int) := by
  have pw : 2 ^ j ≤ 2 ^ 62 := Nat.pow_le_pow_right (by omega) h
  have e : (2 : Int) ^ j = ((2 ^ j : Nat) : Int) := by simp
  rw [e]
  generalize 2 ^ j = p at *
  exact IntWalk.wrap64_in _ (by omega)
theorem or_bit' {r j b : Nat} (hb : b = 2 ^ j) (h : r % 2 ^ (j + 1) = 0) (h1 : r < 4294967296) (h2 : j ≤ 31) : bits .or .i64 (r : Int) (b : Int) = ((r + b : Nat) : Int) := by
  subst hb; rw [← or_bit h h1 h2]; simp
theorem div_dec_yes {x n : Nat} (h : x * x ≤ n) (h0 : 0 < x) : (x : Int) ≤ (n : Int) / (x : Int) := by
  have := (le_div_iff h0).2 h
  exact_mod_cast this
theorem div_dec_no {x n : Nat} (h : n < x * x) (h0 : 0 < x) : (n : Int) / (x : Int) < (x : Int) := by
  rcases Nat.lt_or_ge (n / x) x with h' | h'
  · exact_mod_cast h'
  · have := (le_div_iff h0).1 h'; omega
theorem div_wrap {x n : Nat} (h2 : n < 9223372036854775808) : wrap64 ((n : Int) / (x : Int)) = (n : Int) / (x : Int) := by
  have e : (n : Int) / (x : Int) = ((n / x : Nat) : Int) := by simp
  rw [e]
  have : n / x ≤ n := Nat.div_le_self n x
  generalize n / x = y at *
  exact IntWalk.wrap64_in _ (by omega)
set_option maxHeartbeats 800000 in
theorem floor_pos (n : Nat) (w : World) (h1 : 1 ≤ n) (h2 : n < 9223372036854775808) :
    Calls Tryz.prog 240 #[.int .i64 n] w fun e w' => e = .returned (.int .i64 (sqS n)) ∧ w = w' := by
  obtain ⟨a, b, c⟩ := Lib.bitLenAux_bounds 64 n (Nat.lt_trans h2 (by decide)) (by omega)
  have d := Lib.bitLen_le n 63 (by omega) h2
  change 1 ≤ Lib.bitLen n at a
  change n < 2 ^ Lib.bitLen n at c
  obtain ⟨l, hl⟩ : ∃ l, Lib.bitLen n = l + 1 := ⟨Lib.bitLen n - 1, by omega⟩
  rw [hl] at c d
  have hst : Root n 0 (l / 2 + 1) := Root.start (Nat.lt_of_lt_of_le c (Nat.pow_le_pow_right (by omega) (by omega)))
  have HL := Lib.hid hl; have HST := Lib.hid hst
  clear a b c hl hst
  have hl2 : l / 2 ≤ 31 := by omega
  have EW := Lib.hid (wrap_pow (j := l / 2) (by omega))
  go_enter Tryz.func240, Tryz.ntmps240
  go_wp2_with (go_at_call 217; refine (Tryz.bits_Len _ _ (by omega) (by omega)).mono ?_; rintro e w' ⟨rfl, rfl⟩; rw [show (↑n : Int).toNat = n from rfl, HL.out])
  rw [EW.out]
  go_loop [3, 4] (fun x y => ∃ r j b : Nat, j ≤ 32 ∧ x = .int .i64 r ∧ y = .int .i64 b ∧ b = 2 ^ j / 2 ∧ Root n r j) (fun _ y => (intOf y).toNat)
  case atStart => exact ⟨0, l / 2 + 1, 2 ^ (l / 2), by omega, rfl, rfl, by rw [pow2, Nat.mul_div_cancel_left _ (by omega)], HST.out⟩
  case round =>
    obtain ⟨r, j, b, hj, rfl, rfl, hb, hR⟩ := hrel
    have hr := hR.lt h2
    cases j with
    | zero =>
      have hd := hR.done
      obtain rfl : b = 0 := hb
      have HD := Lib.hid hd
      clear hR hd
      go_wp2
      go_ret
      exact ⟨by rw [← HD.out]; rfl, rfl⟩
    | succ i =>
      have hb' : b = 2 ^ i := by rw [hb, pow2]; exact Nat.mul_div_cancel_left _ (by omega)
      have hor := or_bit' hb' hR.1 (by omega) (by omega)
      have hb1 : 1 ≤ b := by rw [hb']; exact Nat.two_pow_pos i
      have hb2 : b ≤ 2147483648 := by rw [hb']; exact Nat.pow_le_pow_right (n := 2) (by omega) (show i ≤ 31 by omega)
      have HB := Lib.hid hb'
      have hbn : b / 2 = 2 ^ i / 2 := by rw [hb']
      have HBN := Lib.hid hbn
      obtain ⟨x, hx⟩ : ∃ x, x = r + b := ⟨_, rfl⟩
      rw [← hx] at hor
      have hx1 : 1 ≤ x := by omega
      have hx2 : x ≤ 6000000000 := by omega
      have HX := Lib.hid hx; have HR := Lib.hid hR
      clear hb hb' hbn hx hR
      by_cases hq : x * x ≤ n
      · have hd := div_dec_yes hq hx1
        have hdw := div_wrap (x := x) h2
        have hR' : Root n x i := by have := HR.out.yes (by rw [← HB.out, ← HX.out]; exact hq); rwa [← HB.out, ← HX.out] at this
        have HR' := Lib.hid hR'
        clear hq hR'
        go_wp2
        go_round
        case rel => exact ⟨x, i, b / 2, by omega, rfl, by go_num, HBN.out, HR'.out⟩
        case measure => simp [intOf]; omega
      · have hd := div_dec_no (Nat.lt_of_not_le hq) hx1
        have hdw := div_wrap (x := x) h2
        have hR' : Root n r i := HR.out.no (by rw [← HB.out, ← HX.out]; omega)
        have HR' := Lib.hid hR'
        clear hq hR'
        go_wp2
        go_round
        case rel => exact ⟨r, i, b / 2, by omega, rfl, by go_num, HBN.out, HR'.out⟩
        case measure => simp [intOf]; omega
theorem floor_neg (n : Int) (w : World) (h : n ≤ 0) :
    Calls Tryz.prog 240 #[.int .i64 n] w fun e w' => e = .returned (.int .i64 0) ∧ w = w' := by
  go_enter Tryz.func240, Tryz.ntmps240
  go_wp2
  go_ret
  exact ⟨rfl, rfl⟩
theorem gfloor_any (n : Int) (w : World) (h : n ≤ 9223372036854775807) :
    Calls Tryz.prog 240 #[.int .i64 n] w fun e w' => e = .returned (.int .i64 (floorI n)) ∧ w = w' := by
  by_cases h0 : n ≤ 0
  · rw [floorI_neg h0]; exact floor_neg n w h0
  · obtain ⟨m, rfl⟩ := Int.eq_ofNat_of_zero_le (show 0 ≤ n by omega)
    exact floor_pos m w (by omega) (by omega)
theorem floor_sq_dec (n : Int) (h : n ≤ 9223372036854775807) : wrap64 (floorI n * floorI n) = floorI n * floorI n := by
  have a := floorI_le h
  have b : floorI n * floorI n ≤ 3037000499 * 3037000499 := Int.mul_le_mul a.2 a.2 a.1 (by omega)
  have c := Int.mul_nonneg a.1 a.1
  generalize floorI n * floorI n = q at *
  exact IntWalk.wrap64_in _ (by omega)
set_option maxHeartbeats 400000 in
theorem gceil_any (n : Int) (w : World) (h : n ≤ 9223372036854775807) :
    Calls Tryz.prog 236 #[.int .i64 n] w fun e w' => e = .returned (.int .i64 (ceilI n)) ∧ w = w' := by
  have hw := floor_sq_dec n h
  have hin := floorI_le h
  by_cases hlt : floorI n * floorI n < n
  · have hc : ceilI n = floorI n + 1 := by unfold ceilI; rw [if_pos hlt]
    have HC := Lib.hid hc; clear hc
    go_enter Tryz.func236, Tryz.ntmps236
    go_wp2_with (go_at_call 240; refine (gfloor_any _ _ h).mono ?_; rintro e w' ⟨rfl, rfl⟩)
    go_ret
    exact ⟨by rw [HC.out]; rfl, rfl⟩
  · have hc : ceilI n = floorI n := by unfold ceilI; rw [if_neg hlt]
    have HC := Lib.hid hc; clear hc
    go_enter Tryz.func236, Tryz.ntmps236
    go_wp2_with (go_at_call 240; refine (gfloor_any _ _ h).mono ?_; rintro e w' ⟨rfl, rfl⟩)
    go_ret
    exact ⟨by rw [HC.out]; rfl, rfl⟩
end LSqrt
section LTrvA
open Go.RowKit
/-- The number at a place of a list. -/
def at0 (xs : List Int) (k : Nat) : Int := xs[k]?.getD 0
theorem Sl.shape {w : World} {v : Value} {xs : List Int} (h : Sl w v xs) : ∃ a cap, v = .slice a xs.length cap := by
  rcases h with ⟨rfl, a, cap, rfl⟩ | ⟨b, off, cap, rfl, _⟩
  · exact ⟨a, cap, rfl⟩
  · exact ⟨_, _, rfl⟩
theorem Sl.block {w : World} {v : Value} {xs : List Int} (h : Sl w v xs) (h0 : 0 < xs.length) : ∃ b off cap, v = .slice (some ⟨b, off, none⟩) xs.length cap ∧ b < w.heap.size ∧ xs.length ≤ cap ∧ cap ≤ 9223372036854775807 ∧ ∀ k, k < xs.length → w.cell? ⟨b, off + k, none⟩ = some (.int .i64 (at0 xs k)) := by
  rcases h with ⟨rfl, a, cap, rfl⟩ | h
  · simp at h0
  · exact h
theorem Sl.after {w w' : World} {v : Value} {xs : List Int} (h : Sl w v xs) (hg : w.grownBy w' none) : Sl w' v xs := h.later hg (by simp)
/-- An entry of a table is in order with the one ahead of it. -/
def okAt (ls hs : List Int) (k : Nat) : Prop := (if k = 0 then 0 else at0 ls (k - 1)) ≤ at0 ls k ∧ (if k = 0 then 0 else at0 hs (k - 1)) ≤ at0 hs k ∧ at0 ls k ≤ at0 hs k ∧ at0 hs k ≤ 1099511627776
instance (ls hs : List Int) (k : Nat) : Decidable (okAt ls hs k) := by unfold okAt; infer_instance
/-- The table is valid. -/
def tOk (step : Int) (ls hs : List Int) : Prop := 1 ≤ step ∧ step ≤ 1048576 ∧ ls.length = hs.length ∧ 2 ≤ ls.length ∧ ls.length ≤ 256 ∧ ∀ k, k < ls.length → okAt ls hs k
instance (step : Int) (ls hs : List Int) : Decidable (tOk step ls hs) := by unfold tOk; infer_instance
def tE (step : Int) (ls hs : List Int) : Int := if tOk step ls hs then 0 else 21
theorem tE_bad {step : Int} {ls hs : List Int} (h : ¬ tOk step ls hs) : 21 = tE step ls hs := by simp [tE, h]
theorem tE_ok {step : Int} {ls hs : List Int} (h : tOk step ls hs) : 0 = tE step ls hs := by simp [tE, h]
set_option maxHeartbeats 1000000 in
theorem validate_any (step : Int) (vl vh : Value) (ls hs : List Int) (w : World) (h1 : Sl w vl ls) (h2 : Sl w vh hs) :
    Calls Tryz.prog 56 #[.agg #[.int .i64 step, vl, vh]] w fun e w' => e = .returned (.int .i64 (tE step ls hs)) ∧ w.grownBy w' none := by
  have go : (step < 1 ∨ 1048576 < step ∨ ls.length ≠ hs.length ∨ ls.length < 2 ∨ 256 < ls.length) ∨ (1 ≤ step ∧ step ≤ 1048576 ∧ ls.length = hs.length ∧ 2 ≤ ls.length ∧ ls.length ≤ 256) := by omega
  rcases go with hbad | ⟨hs1, hs2, hlen, hl2, hl3⟩
  · obtain ⟨a, c, rfl⟩ := h1.shape
    obtain ⟨a', c', rfl⟩ := h2.shape
    have hno : ¬ tOk step ls hs := by rintro ⟨t1, t2, t3, t4, t5, _⟩; omega
    have HNO := Lib.hid hno; clear hno h1 h2
    by_cases b1 : step < 1
    rotate_left
    by_cases b2 : 1048576 < step
    rotate_left
    by_cases b3 : (ls.length : Int) = hs.length
    by_cases b4 : ls.length < 2
    rotate_left
    have b5 : 256 < ls.length := by omega
    all_goals
      go_enter Tryz.func56, Tryz.ntmps56
      go_wp2
    all_goals
      first | (exfalso; omega) | skip
      go_ret
      refine ⟨ret_int (tE_bad HNO.out), ?_⟩
      repeat (first | exact gb_refl _ _ | refine gb_alloc ?_ _)
  · obtain ⟨b, off, cap, rfl, hb, hcap, hcap2, hcell⟩ := h1.block (by omega)
    obtain ⟨b', off', cap', rfl, hb', hcap', hcap2', hcell'⟩ := h2.block (by omega)
    have HC := Lib.hid hcell; have HC' := Lib.hid hcell'; clear hcell hcell' h1 h2
    have HT := Lib.hid (show (∀ k, k < ls.length → okAt ls hs k) → tOk step ls hs from fun h => ⟨hs1, hs2, hlen, hl2, hl3, h⟩)
    have HF := Lib.hid (show ∀ k, k < ls.length → ¬ okAt ls hs k → ¬ tOk step ls hs from fun k hk h t => h (t.2.2.2.2.2 k hk))
    generalize hn : ls.length = n at *
    have HNL := Lib.hid hn; have HNL' := Lib.hid hlen; clear hn
    rw [← hlen] at HC' hcap' ⊢; clear hlen
    go_enter Tryz.func56, Tryz.ntmps56
    go_wp2
    go_loopw [4, 5, 34] (fun lo hi i wr => ∃ k m : Nat, k ≤ n ∧ i = .int .i64 k ∧ lo = .int .i64 (if k = 0 then 0 else at0 ls (k - 1)) ∧ hi = .int .i64 (if k = 0 then 0 else at0 hs (k - 1)) ∧ (∀ j, j < k → okAt ls hs j) ∧ wr = (w.alloc (.cells #[.int .i64 step, .slice (some ⟨b, off, none⟩) n cap, .slice (some ⟨b', off', none⟩) n cap'] 30)).drewN m)
      (fun _ _ i _ => n - (intOf i).toNat)
    case atStart => exact ⟨0, 0, by omega, rfl, rfl, rfl, fun j hj => by omega, rfl⟩
    case round =>
      obtain ⟨k, m, hk, rfl, rfl, rfl, hp, rfl⟩ := hrel
      have HP := Lib.hid hp; clear hp
      by_cases hlt : k < n
      · have hcl := HC.out k hlt
        have hch := HC'.out k hlt
        have HO := Lib.hid (show okAt ls hs k ↔ (if k = 0 then 0 else at0 ls (k - 1)) ≤ at0 ls k ∧ (if k = 0 then 0 else at0 hs (k - 1)) ≤ at0 hs k ∧ at0 ls k ≤ at0 hs k ∧ at0 hs k ≤ 1099511627776 from Iff.rfl)
        generalize (if k = 0 then 0 else at0 ls (k - 1)) = lo at *
        generalize (if k = 0 then 0 else at0 hs (k - 1)) = hi at *
        have HL0 := Lib.hid (show at0 ls k = (if k + 1 = 0 then 0 else at0 ls (k + 1 - 1)) from by simp)
        have HH0 := Lib.hid (show at0 hs k = (if k + 1 = 0 then 0 else at0 hs (k + 1 - 1)) from by simp)
        generalize at0 ls k = l at *
        generalize at0 hs k = h at *
        have bads : ∀ {Q : Prop}, Q = Q → ¬ (lo ≤ l ∧ hi ≤ h ∧ l ≤ h ∧ h ≤ 1099511627776) → ¬ tOk step ls hs := fun _ hq => HF.out k hlt (fun ho => hq (HO.out.1 ho))
        have HB := Lib.hid (bads (Q := True) rfl); clear bads
        by_cases c1 : l < lo
        · have d1 : decide (l < lo) = true := decide_eq_true c1
          go_wp2
          go_quiet (fail)
          go_wp2
          go_ret
          refine ⟨ret_int (tE_bad (HB.out (by omega))), ?_⟩
          repeat (first | exact gb_refl _ _ | refine gb_alloc ?_ _ | refine gb_drewN ?_ _ | refine gb_drew ?_)
        have d1 : decide (l < lo) = false := decide_eq_false c1
        by_cases c2 : h < hi
        · have d2 : decide (h < hi) = true := decide_eq_true c2
          go_wp2
          go_quiet (fail)
          go_wp2
          go_ret
          refine ⟨ret_int (tE_bad (HB.out (by omega))), ?_⟩
          repeat (first | exact gb_refl _ _ | refine gb_alloc ?_ _ | refine gb_drewN ?_ _ | refine gb_drew ?_)
        have d2 : decide (h < hi) = false := decide_eq_false c2
        by_cases c3 : h < l
        · have d3 : decide (h < l) = true := decide_eq_true c3
          go_wp2
          go_quiet (fail)
          go_wp2
          go_ret
          refine ⟨ret_int (tE_bad (HB.out (by omega))), ?_⟩
          repeat (first | exact gb_refl _ _ | refine gb_alloc ?_ _ | refine gb_drewN ?_ _ | refine gb_drew ?_)
        have d3 : decide (h < l) = false := decide_eq_false c3
        by_cases c4 : 1099511627776 < h
        · have d4 : decide (1099511627776 < h) = true := decide_eq_true c4
          go_wp2
          go_quiet (fail)
          go_wp2
          go_ret
          refine ⟨ret_int (tE_bad (HB.out (by omega))), ?_⟩
          repeat (first | exact gb_refl _ _ | refine gb_alloc ?_ _ | refine gb_drewN ?_ _ | refine gb_drew ?_)
        have d4 : decide (1099511627776 < h) = false := decide_eq_false c4
        have hok := HO.out.2 ⟨by omega, by omega, by omega, by omega⟩
        have HOK := Lib.hid hok; clear hok
        go_wp2
        go_quiet (fail)
        go_wp2
        go_quiet (fail)
        go_wp2
        go_roundw
        case rel =>
          refine ⟨k + 1, _, by omega, by go_num, by rw [HL0.out], by rw [HH0.out], fun j hj => ?_, rfl⟩
          by_cases hjk : j = k
          · subst hjk; exact HOK.out
          · exact HP.out j (by omega)
        case measure => simp [intOf]; omega
      · go_wp2
        go_ret
        refine ⟨ret_int (tE_ok (HT.out fun j hj => HP.out j (by omega))), ?_⟩
        repeat (first | exact gb_refl _ _ | refine gb_alloc ?_ _ | refine gb_drewN ?_ _ | refine gb_drew ?_)
end LTrvA
section LTrvB
open Go.RowKit
def okR (ls hs : List Int) (k : Nat) : Prop := 0 ≤ at0 ls k ∧ at0 hs k ≤ 1099511627776 ∧ at0 ls k ≤ at0 hs k ∧ (0 < k → at0 ls (k - 1) ≤ at0 ls k ∧ at0 hs (k - 1) ≤ at0 hs k)
theorem okAt_nonneg {ls hs : List Int} {n : Nat} (h : ∀ k, k < n → okAt ls hs k) : ∀ k, k < n → 0 ≤ at0 ls k
  | 0, hk => by have := (h 0 hk).1; simpa using this
  | k + 1, hk => by
    have a := (h (k + 1) hk).1
    have b := okAt_nonneg h k (by omega)
    simp at a; omega
theorem okAt_iff {ls hs : List Int} {n : Nat} : (∀ k, k < n → okAt ls hs k) ↔ ∀ k, k < n → okR ls hs k := by
  constructor
  · intro h k hk
    obtain ⟨h1, h2, h3, h4⟩ := h k hk
    refine ⟨okAt_nonneg h k hk, h4, h3, fun h0 => ?_⟩
    rw [if_neg (by omega)] at h1 h2
    exact ⟨h1, h2⟩
  · intro h k hk
    obtain ⟨h1, h2, h3, h4⟩ := h k hk
    by_cases h0 : k = 0
    · subst h0; exact ⟨by simpa using h1, by simp; omega, h3, h2⟩
    · have := h4 (by omega)
      unfold okAt
      rw [if_neg h0, if_neg h0]
      exact ⟨this.1, this.2, h3, h2⟩
theorem tOk_R {step : Int} {ls hs : List Int} (h : tOk step ls hs) : ∀ k, k < ls.length → okR ls hs k := okAt_iff.1 h.2.2.2.2.2
end LTrvB
section LTrvC
open Go.RowKit
def reachS (step : Int) (ls : List Int) : Int := step * ((ls.length : Int) - 1)
theorem mul_small {a b A B : Int} (h0 : 0 ≤ a) (h1 : a ≤ A) (h2 : 0 ≤ b) (h3 : b ≤ B) : 0 ≤ a * b ∧ a * b ≤ A * B :=
  ⟨Int.mul_nonneg h0 h2, Int.mul_le_mul h1 h3 h2 (by omega)⟩
theorem reachS_le {step : Int} {ls hs : List Int} (h : tOk step ls hs) : 0 ≤ reachS step ls ∧ reachS step ls ≤ 267386880 ∧ wrap64 (reachS step ls) = reachS step ls := by
  obtain ⟨h1, h2, h3, h4, h5, _⟩ := h
  have := mul_small (a := step) (b := (ls.length : Int) - 1) (A := 1048576) (B := 255) (by omega) h2 (by omega) (by omega)
  unfold reachS
  generalize step * ((ls.length : Int) - 1) = q at *
  exact ⟨by omega, by omega, IntWalk.wrap64_in _ (by omega)⟩
theorem reach_any (step : Int) (vl vh : Value) (ls hs : List Int) (w : World) (h1 : Sl w vl ls) (h : tOk step ls hs) :
    Calls Tryz.prog 237 #[.agg #[.int .i64 step, vl, vh]] w fun e w' => e = .returned (.int .i64 (reachS step ls)) ∧ w.grownBy w' none := by
  obtain ⟨a, c, rfl⟩ := h1.shape
  obtain ⟨r1, r2, r3⟩ := reachS_le h
  obtain ⟨t1, t2, -, t4, t5, -⟩ := h
  unfold reachS at *
  generalize hr : step * ((ls.length : Int) - 1) = r at *
  go_enter Tryz.func237, Tryz.ntmps237
  go_wp2
  go_ret
  refine ⟨rfl, ?_⟩
  repeat (first | exact gb_refl _ _ | refine gb_alloc ?_ _)
/-- 'k*t.Step >= d'. -/
theorem clo_any (step k d : Int) (b b' : Nat) (w : World) (hk : 0 ≤ k) (hk2 : k ≤ 256) (hs : 0 ≤ step) (hs2 : step ≤ 1048576)
    (hc : w.cell? ⟨b, 0, none⟩ = some (.int .i64 step)) (hd : w.cell? ⟨b', 0, none⟩ = some (.int .i64 d)) :
    Calls Tryz.prog 239 #[.int .i64 k, .pointer (some ⟨b, 0, none⟩), .pointer (some ⟨b', 0, none⟩)] w fun e w' => e = .returned (.bool (decide (d ≤ k * step))) ∧ w = w' := by
  have hm := mul_small hk hk2 hs hs2
  have hw : wrap64 (k * step) = k * step := by
    generalize k * step = q at *
    exact IntWalk.wrap64_in _ (by omega)
  clear hm
  generalize hr : k * step = q at *
  go_enter Tryz.func239, Tryz.ntmps239
  go_wp2
  go_ret
  exact ⟨rfl, rfl⟩
theorem search_any (n : Nat) (step d : Int) (b b' : Nat) (w : World) (hn : n ≤ 256) (hs : 0 ≤ step) (hs2 : step ≤ 1048576)
    (hc : w.cell? ⟨b, 0, none⟩ = some (.int .i64 step)) (hd : w.cell? ⟨b', 0, none⟩ = some (.int .i64 d)) :
    Calls Tryz.prog 238 #[.int .i64 n, .func (.func 239) #[] #[.pointer (some ⟨b, 0, none⟩), .pointer (some ⟨b', 0, none⟩)]] w
      fun e w' => ∃ u : Nat, e = .returned (.int .i64 u) ∧ u ≤ n ∧ (0 < u → ((u : Int) - 1) * step < d) ∧ (u < n → d ≤ (u : Int) * step) ∧ w = w' := by
  go_enter Tryz.func238, Tryz.ntmps238
  go_wp2
  go_loop [5, 6] (fun i j => ∃ x y : Nat, i = .int .i64 x ∧ j = .int .i64 y ∧ x ≤ y ∧ y ≤ n ∧ (0 < x → ((x : Int) - 1) * step < d) ∧ (y < n → d ≤ (y : Int) * step))
    (fun i j => (intOf j).toNat - (intOf i).toNat)
  case atStart => exact ⟨0, n, rfl, rfl, by omega, by omega, by omega, by omega⟩
  case round =>
    obtain ⟨x, y, rfl, rfl, hxy, hy, hlo, hhi⟩ := hrel
    have HLO := Lib.hid hlo; have HHI := Lib.hid hhi; clear hlo hhi
    by_cases hlt : x < y
    · obtain ⟨m, hm, hm1, hm2⟩ : ∃ m : Nat, ((x : Int) + (y : Int)) / 2 = (m : Int) ∧ x ≤ m ∧ m < y := ⟨(x + y) / 2, by omega, by omega, by omega⟩
      go_wp2_with fail
      (with_reducible refine (clo_any step m d b b' w (by omega) (by omega) hs hs2 hc hd).mono ?_)
      rintro e w' ⟨rfl, rfl⟩
      by_cases hc2 : d ≤ (m : Int) * step
      · have HC2 := Lib.hid hc2
        have dd : decide (d ≤ (m : Int) * step) = true := decide_eq_true hc2
        clear hc2
        go_wp2
        go_round
        case rel => exact ⟨x, m, by go_num, by go_num, by omega, by omega, HLO.out, fun _ => HC2.out⟩
        case measure => simp [intOf]; omega
      · have HC2 := Lib.hid hc2
        have dd : decide (d ≤ (m : Int) * step) = false := decide_eq_false hc2
        clear hc2
        go_wp2
        go_round
        case rel => exact ⟨m + 1, y, by go_num, by go_num, by omega, by omega, fun _ => by have := HC2.out; rw [show ((m + 1 : Nat) : Int) - 1 = (m : Int) from by omega]; omega, HHI.out⟩
        case measure => simp [intOf]; omega
    · go_wp2
      go_ret
      obtain rfl : x = y := by omega
      exact ⟨x, rfl, hy, HLO.out, HHI.out, rfl⟩
end LTrvC
section LTrvD
open Go.RowKit
theorem tOk_at {step : Int} {ls hs : List Int} (h : tOk step ls hs) {k : Nat} (hk : k < ls.length) : 0 ≤ at0 ls k ∧ at0 ls k ≤ at0 hs k ∧ at0 hs k ≤ 1099511627776 := by
  obtain ⟨h1, h2, h3, _⟩ := tOk_R h k hk
  exact ⟨h1, h3, h2⟩
/-- The entry that a distance reaches, rounded down. -/
def loI (step d : Int) : Nat := (d / step).toNat
/-- The entry that a distance reaches, rounded up. -/
def upI (step d : Int) : Nat := ((d + step - 1) / step).toNat
theorem loI_spec {step d : Int} {n : Nat} (h1 : 1 ≤ step) (h2 : 0 ≤ d) (h3 : d ≤ step * ((n : Int) - 1)) (hn : 2 ≤ n) : d / step = (loI step d : Int) ∧ loI step d < n := by
  have a := Int.ediv_nonneg h2 (by omega : 0 ≤ step)
  have b : d / step ≤ (n : Int) - 1 := by
    have := Int.ediv_le_ediv (by omega : 0 < step) h3
    rwa [Int.mul_ediv_cancel_left _ (by omega)] at this
  unfold loI
  generalize d / step = q at *
  omega
theorem upI_spec {step d : Int} {n : Nat} (h1 : 1 ≤ step) (h2 : 0 ≤ d) (h3 : d ≤ step * ((n : Int) - 1)) (hn : 2 ≤ n) : (d + step - 1) / step = (upI step d : Int) ∧ upI step d < n := by
  have a := Int.ediv_nonneg (by omega : 0 ≤ d + step - 1) (by omega : 0 ≤ step)
  have b : (d + step - 1) / step < (n : Int) := by
    refine Int.ediv_lt_of_lt_mul (by omega) ?_
    rw [Int.mul_sub, Int.mul_one] at h3
    rw [Int.mul_comm]; omega
  unfold upI
  generalize (d + step - 1) / step = q at *
  omega
theorem upI_unique {step d : Int} {u : Nat} (h1 : 1 ≤ step) (h2 : 0 ≤ d) (hlo : 0 < u → ((u : Int) - 1) * step < d) (hhi : d ≤ (u : Int) * step) : u = upI step d := by
  have e : (d + step - 1) / step = (u : Int) := by
    refine Int.le_antisymm ?_ ?_
    · refine Int.lt_add_one_iff.1 (Int.ediv_lt_of_lt_mul (by omega) ?_)
      rw [Int.add_mul, Int.one_mul]; omega
    · refine (Int.le_ediv_iff_mul_le (by omega)).2 ?_
      rcases Nat.eq_zero_or_pos u with rfl | hu
      · simp; omega
      · have := hlo hu
        rw [Int.sub_mul, Int.one_mul] at this; omega
  unfold upI; omega
/-- The results of Between: lower time, upper time, error. -/
def btwE (step : Int) (ls hs : List Int) (near far : Int) : Int := if ¬ tOk step ls hs then 21 else if near < 0 ∨ far < near then 2 else if reachS step ls < ceilI far then 22 else 0
def btwA (step : Int) (ls hs : List Int) (near far : Int) : Int := if btwE step ls hs near far = 0 then at0 ls (loI step (floorI near)) else 0
def btwB (step : Int) (ls hs : List Int) (near far : Int) : Int := if btwE step ls hs near far = 0 then at0 hs (upI step (ceilI far)) else 0
def btw (step : Int) (ls hs : List Int) (near far : Int) : Value := .tuple #[.int .i64 (btwA step ls hs near far), .int .i64 (btwB step ls hs near far), .int .i64 (btwE step ls hs near far)]
theorem btw_err {step : Int} {ls hs : List Int} {near far c : Int} (hc : c ≠ 0) (h : btwE step ls hs near far = c) : Ending.returned (.tuple #[.int .i64 0, .int .i64 0, .int .i64 c]) = .returned (btw step ls hs near far) := by
  unfold btw btwA btwB; rw [h, if_neg hc, if_neg hc]
theorem btw_ok {step : Int} {ls hs : List Int} {near far : Int} {i j : Nat} (h : btwE step ls hs near far = 0) (hi : i = loI step (floorI near)) (hj : j = upI step (ceilI far)) : Ending.returned (.tuple #[.int .i64 (at0 ls i), .int .i64 (at0 hs j), .int .i64 0]) = .returned (btw step ls hs near far) := by
  unfold btw btwA btwB; rw [h, if_pos rfl, if_pos rfl, hi, hj]
theorem floorI_mono {a b : Int} (h : a ≤ b) : floorI a ≤ floorI b := by
  obtain ⟨a1, a2⟩ := sqS_spec a.toNat
  obtain ⟨b1, b2⟩ := sqS_spec b.toNat
  have : sqS a.toNat < sqS b.toNat + 1 := sq_mono (by omega)
  unfold floorI; omega
theorem ceilI_ge (a : Int) : floorI a ≤ ceilI a := by unfold ceilI; split <;> omega
theorem ceilI_le {a : Int} (h : a ≤ 9223372036854775807) : 0 ≤ ceilI a ∧ ceilI a ≤ 3037000500 := by
  have := floorI_le h
  unfold ceilI; split <;> omega
theorem between_fits {step : Int} {ls hs : List Int} {near far : Int} (h : tOk step ls hs) (h1 : 0 ≤ near) (h2 : near ≤ far) (hf : far ≤ 9223372036854775807) (h3 : ceilI far ≤ reachS step ls) :
    floorI near / step = (loI step (floorI near) : Int) ∧ loI step (floorI near) < ls.length ∧ (ceilI far + step - 1) / step = (upI step (ceilI far) : Int) ∧ upI step (ceilI far) < ls.length := by
  obtain ⟨t1, t2, t3, t4, t5, _⟩ := h
  have a := floorI_le (n := near) (by omega)
  have b := floorI_mono h2
  have c := ceilI_ge far
  have d := ceilI_le hf
  unfold reachS at h3
  obtain ⟨p1, p2⟩ := loI_spec (d := floorI near) t1 a.1 (by omega) t4
  obtain ⟨q1, q2⟩ := upI_spec (d := ceilI far) t1 d.1 h3 t4
  exact ⟨p1, p2, q1, q2⟩
end LTrvD
section LTrvE
open Go.RowKit
set_option maxHeartbeats 1000000 in
theorem between_any (step near far : Int) (vl vh : Value) (ls hs : List Int) (w : World) (h1 : Sl w vl ls) (h2 : Sl w vh hs) (hf : far ≤ 9223372036854775807) :
    Calls Tryz.prog 172 #[.agg #[.int .i64 step, vl, vh], .int .i64 near, .int .i64 far] w fun e w' => e = .returned (btw step ls hs near far) ∧ w.grownBy w' none := by
  go_enter Tryz.func172, Tryz.ntmps172
  have hg0 := gb_alloc (gb_refl w none) (.cells #[.int .i64 step, vl, vh] 30)
  go_wp2_with fail
  (with_reducible refine (validate_any _ _ _ ls hs _ (h1.after hg0) (h2.after hg0)).mono ?_)
  rintro e w1 ⟨rfl, hg⟩
  obtain ⟨cb, hz⟩ := gb_at hg (b := w.heap.size) (by simp)
  have hg1 := gb_trans hg0 hg
  have S1 := Lib.hid (h1.after hg1); have S2 := Lib.hid (h2.after hg1); have HG := Lib.hid hg1; clear hg hg0 hg1 h1 h2
  by_cases hok : tOk step ls hs
  rotate_left
  · have he : tE step ls hs = 21 := (tE_bad hok).symm
    go_wp2
    refine bodyPost_ret (v := .tuple #[.int .i64 0, .int .i64 0, .int .i64 21]) (by simp [results, Tryz.results172, go_sem]) rfl ⟨btw_err (by decide) (by simp [btwE, hok]), HG.out⟩
  have he : tE step ls hs = 0 := (tE_ok hok).symm
  have HOK := Lib.hid hok; clear hok
  by_cases c1 : near < 0
  · go_wp2
    refine bodyPost_ret (v := .tuple #[.int .i64 0, .int .i64 0, .int .i64 2]) (by simp [results, Tryz.results172, go_sem]) rfl ⟨btw_err (by decide) (by simp [btwE, HOK.out, c1]), HG.out⟩
  by_cases c2 : far < near
  · go_wp2
    refine bodyPost_ret (v := .tuple #[.int .i64 0, .int .i64 0, .int .i64 2]) (by simp [results, Tryz.results172, go_sem]) rfl ⟨btw_err (by decide) (by simp [btwE, HOK.out, c2]), HG.out⟩
  go_wp2_with fail
  (with_reducible refine (gceil_any far w1 hf).mono ?_)
  rintro e w2 ⟨rfl, rfl⟩
  have S1' := Lib.hid (S1.out.after (gb_alloc (gb_refl w1 none) (.cells #[.int .i64 (ceilI far)] 3)))
  have S2' := Lib.hid (S2.out.after (gb_alloc (gb_refl w1 none) (.cells #[.int .i64 (ceilI far)] 3)))
  have hnd := fun (x : Up (w1.alloc (.cells #[.int .i64 (ceilI far)] 3))) => ever_cell x (b := w1.heap.size) (o := 0) (by simp)
  have hnt := fun (x : Up (w1.alloc (.cells #[.int .i64 (ceilI far)] 3))) (o : Nat) => ever_cell x (b := w.heap.size) (o := o) (by simp; omega)
  go_wp2_with fail
  (refine wp_region_grown (by kernel_rfl) (by kernel_rfl) ?_; (repeat (go_big_quiet_step (first | (go_at_call 237; exact Calls.grown_of (reach_any _ _ _ ls hs _ (S1'.out.after (ever_up _)) HOK.out))))); refine wpQuiet_nil ?_; intro wq hq)
  obtain ⟨wt, hzt⟩ := gb_at hq (b := w.heap.size) (by simp; omega)
  obtain ⟨wd, hzd⟩ := gb_at hq (b := w1.heap.size) (by simp)
  have HG2 := Lib.hid (gb_trans (gb_alloc HG.out _) hq)
  have S1q := Lib.hid (S1'.out.after hq); have S2q := Lib.hid (S2'.out.after hq); clear S1' S2' S1 S2 HG hnd hnt hq
  by_cases c3 : reachS step ls < ceilI far
  · go_wp2
    refine bodyPost_ret (v := .tuple #[.int .i64 0, .int .i64 0, .int .i64 22]) (by simp [results, Tryz.results172, go_sem]) rfl ⟨btw_err (by decide) (by simp [btwE, HOK.out, c3]; omega), HG2.out⟩
  have HE := Lib.hid (show btwE step ls hs near far = 0 from by simp [btwE, HOK.out, c3]; omega)
  obtain ⟨q1, q2, q3, q4⟩ := between_fits HOK.out (by omega) (by omega) hf (by omega)
  obtain ⟨t1, t2, t3, t4, t5, -⟩ := HOK.out
  have HC3 := Lib.hid c3; clear c3 he
  obtain ⟨u1, u2⟩ := floorI_le (n := near) (by omega)
  obtain ⟨v1, v2⟩ := ceilI_le hf
  obtain ⟨b1, off1, cap1, rfl, hb1, hcap1, hcapb1, hcell1⟩ := S1q.out.block (by omega)
  obtain ⟨b2, off2, cap2, rfl, hb2, hcap2, hcapb2, hcell2⟩ := S2q.out.block (by omega)
  have hl1 := hcell1 _ q2
  have HQ3 := Lib.hid q3
  have HC1 := Lib.hid hcell1; have HC2 := Lib.hid hcell2; clear hcell1 hcell2 S1q S2q q3
  generalize hi1 : loI step (floorI near) = i1 at *
  have HI1 := Lib.hid hi1; clear hi1
  generalize hn : ls.length = n at *
  have HN := Lib.hid hn; clear hn
  rw [← t3] at HC2 hcap2
  have HN2 := Lib.hid t3
  rw [← t3] at cb ⊢; clear t3
  go_wp2_with fail
  (with_reducible refine (search_any n step (ceilI far) w.heap.size w1.heap.size wq (by omega) (by omega) t2 ?_ ?_).mono ?_)
  · rw [wt, World.cell?_of_block (heap_alloc_old w1 _ hz), cb, cell_new]; rfl
  · rw [wd, cell_new]; rfl
  rintro e w2 ⟨u, rfl, hu1, hu2, hu3, rfl⟩
  have hu4 : u < n := by
    rcases Nat.lt_or_ge u n with h | h
    · exact h
    · have := hu2 (by omega)
      have h3 := HC3.out
      unfold reachS at h3
      rw [HN.out] at h3
      rw [show u = n from by omega] at this
      rw [Int.mul_comm] at this
      omega
  have HU := Lib.hid (upI_unique t1 v1 hu2 (hu3 hu4))
  have hl2 := HC2.out u (by omega)
  clear hu2 hu3 HC3
  go_wp2_with fail
  (refine wp_region_grown (by kernel_rfl) (by kernel_rfl) ?_; (repeat (go_big_quiet_step (first | (go_at_call 240; exact Calls.grown_same (gfloor_any near _ (by omega)))))); refine wpQuiet_nil ?_; intro wq hq)
  go_wp2
  refine bodyPost_ret (v := .tuple #[.int .i64 (at0 ls i1), .int .i64 (at0 hs u), .int .i64 0]) (by simp [results, Tryz.results172, go_sem]) rfl ⟨btw_ok HE.out HI1.out.symm HU.out, gb_trans HG2.out hq⟩
end LTrvE
section LTrvF
open Go.RowKit
end LTrvF
section LTrvG
open Go.RowKit
theorem floorI_sq {x : Int} (h : 0 ≤ x) : floorI (x * x) = x := by
  refine (floorI_unique h (Int.le_refl _) ?_).symm
  have : (x + 1) * (x + 1) = x * x + (x + x + 1) := by rw [Int.add_mul, Int.mul_add]; omega
  omega
def loA (step : Int) (ls : List Int) (x : Int) : Int := at0 ls (loI step x)
def hiA (step : Int) (hs : List Int) (x : Int) : Int := at0 hs (upI step x)
theorem btwE_ok {step : Int} {ls hs : List Int} {near far : Int} (h : tOk step ls hs) (h0 : 0 ≤ near) (h1 : near ≤ far) (h2 : ceilI far ≤ reachS step ls) : btwE step ls hs near far = 0 := by
  unfold btwE; rw [if_neg (by simpa using h), if_neg (by omega), if_neg (by omega)]
theorem btw_good {step : Int} {ls hs : List Int} {near far : Int} (h : tOk step ls hs) (h0 : 0 ≤ near) (h1 : near ≤ far) (h2 : ceilI far ≤ reachS step ls) :
    btw step ls hs near far = .tuple #[.int .i64 (loA step ls (floorI near)), .int .i64 (hiA step hs (ceilI far)), .int .i64 0] := by
  have e := btwE_ok h h0 h1 h2
  unfold btw btwA btwB loA hiA; rw [e]; simp
theorem at0_mono {step : Int} {ls hs : List Int} (h : tOk step ls hs) {i j : Nat} (hij : i ≤ j) (hj : j < ls.length) : at0 ls i ≤ at0 ls j ∧ at0 hs i ≤ at0 hs j := by
  induction j with
  | zero =>
    obtain rfl : i = 0 := by omega
    exact ⟨Int.le_refl _, Int.le_refl _⟩
  | succ j ih =>
    by_cases e : i = j + 1
    · subst e; exact ⟨Int.le_refl _, Int.le_refl _⟩
    · have := ih (by omega) (by omega)
      have hk := h.2.2.2.2.2 (j + 1) hj
      unfold okAt at hk
      rw [if_neg (by omega), if_neg (by omega), Nat.add_sub_cancel] at hk
      omega
theorem loI_mono {step x y : Int} (h1 : 1 ≤ step) (h : x ≤ y) : loI step x ≤ loI step y := by
  unfold loI
  have := Int.ediv_le_ediv (c := step) (by omega) h
  omega
theorem upI_mono {step x y : Int} (h1 : 1 ≤ step) (h : x ≤ y) : upI step x ≤ upI step y := by
  unfold upI
  have := Int.ediv_le_ediv (c := step) (a := x + step - 1) (b := y + step - 1) (by omega) (by omega)
  omega
theorem loI_upI {step x : Int} (h1 : 1 ≤ step) : loI step x ≤ upI step x := by
  unfold loI upI
  have := Int.ediv_le_ediv (c := step) (a := x) (b := x + step - 1) (by omega) (by omega)
  omega
/-- The times grow. -/
theorem grows_plain {step : Int} {ls hs : List Int} {x y : Int} (h : tOk step ls hs) (h0 : 0 ≤ x) (h1 : x ≤ y) (h2 : y ≤ reachS step ls) :
    loA step ls x ≤ hiA step hs x ∧ loA step ls y ≤ hiA step hs y ∧ loA step ls x ≤ loA step ls y ∧ hiA step hs x ≤ hiA step hs y := by
  have hstep := h.1
  have hn := h.2.2.2.1
  unfold reachS at h2
  have ux := (upI_spec (n := ls.length) hstep h0 (by omega) hn).2
  have uy := (upI_spec (n := ls.length) hstep (d := y) (by omega) (by omega) hn).2
  have lx := (loI_spec (n := ls.length) hstep h0 (by omega) hn).2
  have ly := (loI_spec (n := ls.length) hstep (d := y) (by omega) (by omega) hn).2
  have ax := (tOk_at h lx).2.1
  have ay := (tOk_at h ly).2.1
  have bx := (at0_mono h (loI_upI (x := x) hstep) ux).2
  have by' := (at0_mono h (loI_upI (x := y) hstep) uy).2
  have cl := (at0_mono h (loI_mono hstep h1) ly).1
  have cu := (at0_mono h (upI_mono hstep h1) uy).2
  unfold loA hiA
  omega
theorem ceilI_le_root {n R : Int} (h0 : 0 ≤ n) (h : n ≤ R * R) (hR : 0 ≤ R) : ceilI n ≤ R := by
  have := floorI_mono h
  rw [floorI_sq hR] at this
  unfold ceilI
  split
  · rename_i hlt
    by_cases e : floorI n = R
    · rw [e] at hlt; omega
    · omega
  · exact this
/-- How far a drawn table reaches. -/
theorem reach_small {step : Int} {ls : List Int} (h0 : 1 ≤ step) (h1 : step ≤ 100) (h2 : 400 ≤ step * ((ls.length : Int) - 1)) (h3 : ls.length ≤ 23) : 400 ≤ reachS step ls ∧ reachS step ls ≤ 2200 := by
  unfold reachS
  have := mul_small (a := step) (b := 22) (A := 100) (B := 22) (by omega) h1 (by omega) (by omega)
  have := Int.mul_le_mul_of_nonneg_left (show (ls.length : Int) - 1 ≤ 22 by omega) (show 0 ≤ step by omega)
  omega
end LTrvG
end Go.Proofs.YtgaglgopbdfemaaGreatDoor
