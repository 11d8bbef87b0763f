/- FilV -/
import Derived.Test.YtlddgafbgaaiiaaGreatDoorTsFil
namespace Go.Proofs.YtlddgafbgaaiiaaGreatDoor
set_option linter.all false
open Go.RowKit Rg
structure FilOk (fa sh : Int) (taps : List Int) : Prop where
  f1 : 1 ≤ fa ∧ fa ≤ 3
  s1 : 0 ≤ sh ∧ sh ≤ 6
  l1 : 1 ≤ taps.length ∧ taps.length ≤ 5
  sum : absS taps ≤ 2 ^ sh.toNat
theorem FilOk.low {fa sh : Int} {taps : List Int} (h : FilOk fa sh taps) : (2 : Int) ^ sh.toNat ≤ 64 ∧ 1 ≤ (2 : Int) ^ sh.toNat := by
  obtain ⟨k, rfl⟩ := Int.eq_ofNat_of_zero_le h.s1.1
  have := h.s1.2
  match k, this with
  | 0, _ | 1, _ | 2, _ | 3, _ | 4, _ | 5, _ | 6, _ => decide
  | k + 7, h => omega
theorem absS_take_succ {l : List Int} {k : Nat} (h : k < l.length) : absS (l.take (k + 1)) = absS (l.take k) + max l[k] (-l[k]) := by
  rw [List.take_succ_eq_append_getElem h, absS_snoc]
theorem absS_append (a b : List Int) : absS (a ++ b) = absS a + absS b := by simp [absS]
theorem absS_take_le (l : List Int) (k : Nat) : absS (l.take k) ≤ absS l := by
  have h := absS_append (l.take k) (l.drop k)
  rw [List.take_append_drop] at h
  have := absS_nonneg (l.drop k)
  omega
theorem fin_yes (n lo hi : Int) (w : World) (h1 : lo ≤ n) (h2 : n ≤ hi) :
    Calls Tryz.prog 29 #[.int .i64 n, .int .i64 lo, .int .i64 hi] w fun e w' => e = .returned (.bool true) ∧ w = w' :=
  (fin_any n lo hi w).mono fun _ _ ⟨e, h⟩ => ⟨e.trans (ret_bool (decide_eq_true ⟨h1, h2⟩)), h⟩
theorem din_yes (n lo hi : Int) (w : World) (h1 : lo ≤ n) (h2 : n ≤ hi) :
    Calls Tryz.prog 67 #[.int .i64 n, .int .i64 lo, .int .i64 hi] w fun e w' => e = .returned (.bool true) ∧ w = w' :=
  (din_any n lo hi w).mono fun _ _ ⟨e, h⟩ => ⟨e.trans (ret_bool (decide_eq_true ⟨h1, h2⟩)), h⟩
/-- A slice that is not empty. -/
theorem Sl.block {w : World} {v : Value} {xs : List Int} (h : Sl w v xs) (h0 : 0 < xs.length) : ∃ b off cap, v = .slice (some ⟨b, off, none⟩) xs.length cap ∧ b < w.heap.size ∧ xs.length ≤ cap ∧ cap ≤ 9223372036854775807 ∧ ∀ k, k < xs.length → w.cell? ⟨b, off + k, none⟩ = some (.int .i64 (xs[k]?.getD 0)) := by
  rcases h with ⟨rfl, -⟩ | h
  · simp at h0
  · exact h
set_option maxRecDepth 100000 in
set_option maxHeartbeats 1000000 in
theorem fvalid_any (fa sh : Int) (taps : List Int) (v : Value) (w : World) (ok : FilOk fa sh taps) (hs : Sl w v taps) :
    Calls Tryz.prog 28 #[.agg #[v, .int .i64 fa, .int .i64 sh]] w fun e w' => e = .returned (.bool true) ∧ w.grownBy w' none := by
  obtain ⟨b, off, cap, rfl, hb, hcap, hcap2, hc⟩ := hs.block (by have := ok.l1; omega)
  have hf := ok.f1; have hsh := ok.s1; have hl := ok.l1; have hsum := ok.sum; have hlow := ok.low
  have B1 := Lib.hid (heap_alloc_new w (.cells #[.slice (some ⟨b, off, none⟩) taps.length cap, .int .i64 fa, .int .i64 sh] 28))
  have G1 := Lib.hid (gb_alloc (gb_refl w none) (.cells #[.slice (some ⟨b, off, none⟩) taps.length cap, .int .i64 fa, .int .i64 sh] 28))
  have HC := Lib.hid hc
  have HS := Lib.hid hsum
  have HLw := Lib.hid hlow
  clear hc hs ok hsum hlow
  go_enter Tryz.func28, Tryz.ntmps28
  go_wp2_with (go_at_call 29; refine (fin_yes _ _ _ _ (by omega) (by omega)).mono ?_; rintro e w' ⟨rfl, rfl⟩)
  generalize w.alloc (.cells #[.slice (some ⟨b, off, none⟩) taps.length cap, .int .i64 fa, .int .i64 sh] 28) = w1 at *
  have s_ := cellD B1.out 2 _ rfl
  go_loop [3, 5, 26] (fun s _ i => ∃ k : Nat, k ≤ taps.length ∧ i = .int .i64 k ∧ s = .int .i64 (absS (taps.take k))) (fun _ _ i => taps.length - (intOf i).toNat)
  case atStart => exact ⟨0, by omega, rfl, rfl⟩
  case round =>
    obtain ⟨k, hk, rfl, rfl⟩ := hrel
    have hsk : 0 ≤ absS (taps.take k) ∧ absS (taps.take k) ≤ 64 := by
      have := absS_take_le taps k; have := HS.out; have := HLw.out; have := absS_nonneg (taps.take k); omega
    by_cases hlt : k < taps.length
    · have hsk' : absS (taps.take k) + max taps[k] (-taps[k]) ≤ 64 := by
        have := absS_take_le taps (k + 1); rw [absS_take_succ hlt] at this; have := HS.out; have := HLw.out; omega
      have HN := Lib.hid (absS_take_succ hlt)
      obtain ⟨x, hx⟩ : ∃ x, taps[k] = x := ⟨_, rfl⟩
      have hcell := (gb_cell G1.out hb (o := off + k) (by simp)).trans ((HC.out k hlt).trans (by rw [List.getElem?_eq_getElem hlt, Option.getD_some, hx]))
      rw [hx] at hsk' HN
      clear hx
      generalize absS (taps.take k) = s at *
      go_wp2_with (go_at_call 29; refine (fin_yes _ _ _ _ (by omega) (by omega)).mono ?_; rintro e w' ⟨rfl, rfl⟩)
      all_goals go_round
      all_goals first | exact ⟨k + 1, by omega, by go_num, by rw [HN.out]; congr 1; omega⟩ | (simp [intOf]; omega)
    · obtain rfl : k = taps.length := by omega
      rw [List.take_length] at *
      have hs' := HS.out
      have hw : wrap64 ((2 : Int) ^ sh.toNat) = (2 : Int) ^ sh.toNat := by have := HLw.out; exact IntWalk.wrap64_in _ (by omega)
      go_wp2
      go_ret
      exact ⟨ret_bool (by first | rfl | (simp only [hw, hs', decide_true])), G1.out⟩
/-- The output at a sample. -/
def cv (taps xs : List Int) (i : Nat) : Nat → Int
  | 0 => 0
  | k + 1 => cv taps xs i k + taps.getD k 0 * xs.getD (i - k) 0
def outV (taps : List Int) (sh : Int) (xs : List Int) (i : Nat) : Int := cv taps xs i taps.length / 2 ^ sh.toNat
theorem mul_le_abs (a x M : Int) (hx : -M ≤ x ∧ x ≤ M) : -(max a (-a) * M) ≤ a * x ∧ a * x ≤ max a (-a) * M := by
  rcases Int.le_total 0 a with h | h
  · have e : max a (-a) = a := by omega
    rw [e]
    have h1 := Int.mul_le_mul_of_nonneg_left hx.1 h
    have h2 := Int.mul_le_mul_of_nonneg_left hx.2 h
    rw [Int.mul_neg] at h1
    exact ⟨h1, h2⟩
  · have e : max a (-a) = -a := by omega
    rw [e]
    have h0 : 0 ≤ -a := by omega
    have h1 := Int.mul_le_mul_of_nonneg_left hx.1 h0
    have h2 := Int.mul_le_mul_of_nonneg_left hx.2 h0
    simp only [Int.neg_mul, Int.mul_neg, Int.neg_neg] at h1 h2 ⊢
    omega
theorem cv_bound (taps xs : List Int) (i : Nat) (M : Int) (hM : 0 ≤ M) (hx : ∀ x ∈ xs, -M ≤ x ∧ x ≤ M) : ∀ k, k ≤ taps.length → -(absS (taps.take k) * M) ≤ cv taps xs i k ∧ cv taps xs i k ≤ absS (taps.take k) * M
  | 0, _ => by simp [cv, absS]
  | k + 1, h => by
    have ih := cv_bound taps xs i M hM hx k (by omega)
    have hxi : -M ≤ xs.getD (i - k) 0 ∧ xs.getD (i - k) 0 ≤ M := by
      rw [List.getD_eq_getElem?_getD]
      cases e : xs[i - k]? with
      | none => simp; omega
      | some y => exact hx y (List.mem_of_getElem? e)
    have hm := mul_le_abs (taps.getD k 0) _ M hxi
    have e : taps.getD k 0 = taps[k] := by rw [List.getD_eq_getElem?_getD, List.getElem?_eq_getElem (by omega : k < taps.length)]; rfl
    rw [absS_take_succ (by omega : k < taps.length), Int.add_mul]
    rw [e] at hm
    simp only [cv, e]
    omega
theorem outV_bound {fa sh : Int} {taps : List Int} (ok : FilOk fa sh taps) (xs : List Int) (i : Nat) (M : Int) (hM : 0 ≤ M) (hx : ∀ x ∈ xs, -M ≤ x ∧ x ≤ M) : -M ≤ outV taps sh xs i ∧ outV taps sh xs i ≤ M := by
  have h := cv_bound taps xs i M hM hx taps.length (Nat.le_refl _)
  rw [List.take_length] at h
  have h2 := Int.mul_le_mul_of_nonneg_right ok.sum hM
  have hp := ok.low
  unfold outV
  generalize (2 : Int) ^ sh.toNat = L at *
  generalize cv taps xs i taps.length = c at *
  generalize absS taps * M = s at *
  have h3 : L * M = M * L := Int.mul_comm _ _
  constructor
  · refine (Int.le_ediv_iff_mul_le (by omega)).2 ?_
    rw [Int.neg_mul]; omega
  · refine Int.ediv_le_of_le_mul (by omega) (by omega)
set_option maxRecDepth 100000 in
set_option maxHeartbeats 1000000 in
theorem foutput_any (fa sh : Int) (taps xs : List Int) (v x : Value) (i : Nat) (w : World) (ok : FilOk fa sh taps) (hs : Sl w v taps) (hsx : Sl w x xs) (hx : ∀ x ∈ xs, -1000 ≤ x ∧ x ≤ 1000) (hi : i < xs.length) (hi0 : taps.length ≤ i + 1) :
    Calls Tryz.prog 65 #[.agg #[v, .int .i64 fa, .int .i64 sh], x, .int .i64 i] w fun e w' => e = .returned (.int .i64 (outV taps sh xs i)) ∧ w.grownBy w' none := by
  obtain ⟨b, off, cap, rfl, hb, hcap, hcap2, hc⟩ := hs.block (by have := ok.l1; omega)
  obtain ⟨c, ofx, capx, rfl, hcb, hcapx, hcapx2, hcx⟩ := hsx.block (by omega)
  have hsh := ok.s1; have hl := ok.l1; have hsum := ok.sum; have hlow := ok.low
  have B1 := Lib.hid (heap_alloc_new w (.cells #[.slice (some ⟨b, off, none⟩) taps.length cap, .int .i64 fa, .int .i64 sh] 28))
  have G1 := Lib.hid (gb_alloc (gb_refl w none) (.cells #[.slice (some ⟨b, off, none⟩) taps.length cap, .int .i64 fa, .int .i64 sh] 28))
  have HC := Lib.hid hc; have HCX := Lib.hid hcx
  have HB := Lib.hid (cv_bound taps xs i 1000 (by omega) hx)
  have HS := Lib.hid hsum
  have HLw := Lib.hid hlow
  clear hc hcx hs hsx ok hsum hlow hx
  go_enter Tryz.func65, Tryz.ntmps65
  go_wp2
  generalize w.alloc (.cells #[.slice (some ⟨b, off, none⟩) taps.length cap, .int .i64 fa, .int .i64 sh] 28) = w1 at *
  have s_ := cellD B1.out 2 _ rfl
  go_loop [7, 8, 9, 13] (fun s _ _ k => ∃ m : Nat, m ≤ taps.length ∧ k = .int .i64 m ∧ s = .int .i64 (cv taps xs i m)) (fun _ _ _ k => taps.length - (intOf k).toNat)
  case atStart => exact ⟨0, by omega, rfl, rfl⟩
  case round =>
    obtain ⟨k, hk, rfl, rfl⟩ := hrel
    by_cases hlt : k < taps.length
    · have hN : Hid (cv taps xs i (k + 1) = cv taps xs i k + taps.getD k 0 * xs.getD (i - k) 0) := Lib.hid rfl
      have hb1 := HB.out (k + 1) (by omega)
      have hb0 := HB.out k hk
      have hs1 : absS (taps.take (k + 1)) ≤ 64 ∧ absS (taps.take k) ≤ 64 := by have := absS_take_le taps (k + 1); have := absS_take_le taps k; have := HS.out; have := HLw.out; omega
      obtain ⟨t, ht⟩ : ∃ t, taps.getD k 0 = t := ⟨_, rfl⟩
      obtain ⟨y, hy⟩ : ∃ y, xs.getD (i - k) 0 = y := ⟨_, rfl⟩
      have hcell := (gb_cell G1.out hb (o := off + k) (by simp)).trans ((HC.out k hlt).trans (by rw [← List.getD_eq_getElem?_getD, ht]))
      have hcelx := (gb_cell G1.out hcb (o := ofx + (i - k)) (by simp)).trans ((HCX.out (i - k) (by omega)).trans (by rw [← List.getD_eq_getElem?_getD, hy]))
      rw [hN.out, ht, hy] at hb1
      rw [ht, hy] at hN
      clear ht hy
      generalize cv taps xs i k = s at *
      generalize hp : t * y = p at *
      have wp_ : wrap64 (t * y) = p := by rw [hp]; exact IntWalk.wrap64_in _ (by omega)
      have wi_ : ((i : Int) - (k : Int)) = ((i - k : Nat) : Int) := by omega
      go_wp2
      go_round
      case rel => exact ⟨k + 1, by omega, by go_num, by rw [hN.out]⟩
      case measure => simp [intOf]; omega
    · obtain rfl : k = taps.length := by omega
      have hw : wrap64 ((2 : Int) ^ sh.toNat) = (2 : Int) ^ sh.toNat := by have := HLw.out; exact IntWalk.wrap64_in _ (by omega)
      go_wp2
      go_ret
      exact ⟨ret_int rfl, G1.out⟩
/-- What is kept at a sample; from one on. -/
def outG (taps : List Int) (fa sh : Int) (xs : List Int) (num : Int) (i : Nat) : List Int := if taps.length ≤ i + 1 ∧ (num + i) % fa = 0 then [outV taps sh xs i] else []
def outR (taps : List Int) (fa sh : Int) (xs : List Int) (num : Int) (a n : Nat) : List Int := (List.range' a n).flatMap (outG taps fa sh xs num)
theorem outR_succ (taps : List Int) (fa sh : Int) (xs : List Int) (num : Int) (a n : Nat) : outR taps fa sh xs num a (n + 1) = outR taps fa sh xs num a n ++ outG taps fa sh xs num (a + n) := by
  simp [outR, List.range'_concat]
theorem outR_add (taps : List Int) (fa sh : Int) (xs : List Int) (num : Int) (a n m : Nat) : outR taps fa sh xs num a (n + m) = outR taps fa sh xs num a n ++ outR taps fa sh xs num (a + n) m := by
  simp only [outR, ← List.flatMap_append, List.range'_append_1]
theorem outR_early (taps : List Int) (fa sh : Int) (xs : List Int) (num : Int) (a : Nat) : ∀ n, a + n < taps.length → outR taps fa sh xs num a n = []
  | 0, _ => rfl
  | n + 1, h => by
    rw [outR_succ, outR_early taps fa sh xs num a n (by omega)]
    simp only [outG, List.nil_append]
    rw [if_neg (by omega)]
theorem outG_len (taps : List Int) (fa sh : Int) (xs : List Int) (num : Int) (i : Nat) : (outG taps fa sh xs num i).length ≤ 1 := by unfold outG; split <;> simp
theorem outR_len (taps : List Int) (fa sh : Int) (xs : List Int) (num : Int) (a : Nat) : ∀ n, (outR taps fa sh xs num a n).length ≤ n
  | 0 => by simp [outR]
  | n + 1 => by rw [outR_succ, List.length_append]; have := outR_len taps fa sh xs num a n; have := outG_len taps fa sh xs num (a + n); omega
theorem outR_bound {fa sh : Int} {taps : List Int} (ok : FilOk fa sh taps) (xs : List Int) (num : Int) (a n : Nat) (M : Int) (hM : 0 ≤ M) (hx : ∀ x ∈ xs, -M ≤ x ∧ x ≤ M) : ∀ y ∈ outR taps fa sh xs num a n, -M ≤ y ∧ y ≤ M := by
  intro y hy
  simp only [outR, List.mem_flatMap] at hy
  obtain ⟨i, -, hi⟩ := hy
  unfold outG at hi
  split at hi
  · simp at hi; subst hi; exact outV_bound ok xs i M hM hx
  · simp at hi
structure FoAt (w : World) (b : Nat) (cs : Array Value) (L : List Int) (v : Value) (u : World) : Prop where
  own : u.ownsRow (b + 1) 3 1 v L.length (L.map (Value.int .i64))
  blk : u.heap[b]? = some (.cells cs 28 (0, 0))
  g : w.grownBy u none
  le : w.heap.size ≤ b
theorem FoAt.keep {w : World} {b : Nat} {cs : Array Value} {L : List Int} {v : Value} {u u' : World} (h : FoAt w b cs L v u) (hg : u.grownBy u' none) : FoAt w b cs L v u' := ⟨owns_keep h.own hg, kept0 hg h.blk, gb_trans h.g hg, h.le⟩
theorem FoAt.push {w : World} {b : Nat} {cs : Array Value} {L : List Int} {v v' : Value} {y : Int} {o : Obj} {u u' : World} (h : FoAt w b cs L v u) (h1 : u'.ownsRow (b + 1) 3 1 v' (L.length + 1) (L.map (Value.int .i64) ++ [.int .i64 y])) (hg : (u.alloc o).grownBy u' v.ownBlock) : FoAt w b cs (L ++ [y]) v' u' :=
  ⟨by rw [List.length_append, List.map_append]; exact h1, keptv hg (heapOld h.blk) (fun e => by have := (h.own.lt b e.symm).1; omega), gbNew (gb_trans h.g (gb_alloc (gb_refl _ none) _)) hg (fun k hk => by have := (h.own.lt k hk).1; have := h.le; omega), h.le⟩
set_option maxRecDepth 100000 in
set_option maxHeartbeats 2000000 in
theorem foutputs_any (fa sh : Int) (taps xs : List Int) (v x : Value) (num : Int) (fr : Nat) (w : World) (ok : FilOk fa sh taps) (hs : Sl w v taps) (hsx : Sl w x xs) (hx : ∀ x ∈ xs, -1000 ≤ x ∧ x ≤ 1000) (h0 : 0 < xs.length) (hl : xs.length ≤ 1000) (hnum : 0 ≤ num ∧ num ≤ 10000) (hfr : fr ≤ xs.length) :
    Calls Tryz.prog 35 #[.agg #[v, .int .i64 fa, .int .i64 sh], x, .int .i64 num, .int .i64 fr] w fun e w' => ∃ v', e = .returned v' ∧ w'.ownsRow w.heap.size 3 1 v' (outR taps fa sh xs num fr (xs.length - fr)).length ((outR taps fa sh xs num fr (xs.length - fr)).map (Value.int .i64)) ∧ w.grownBy w' none := by
  have HO := Lib.hid (fun (u : World) (hu : w.grownBy u none) (i : Nat) (h1 : i < xs.length) (h2 : taps.length ≤ i + 1) => foutput_any fa sh taps xs v x i u ok (hs.later hu (by simp)) (hsx.later hu (by simp)) hx h1 h2)
  obtain ⟨b, off, cap, rfl, hb, hcap, hcap2, hc⟩ := hs.block (by have := ok.l1; omega)
  obtain ⟨c, ofx, capx, rfl, hcb, hcapx, hcapx2, hcx⟩ := hsx.block h0
  have hf := ok.f1; have ht := ok.l1
  have B1 := Lib.hid (heap_alloc_new w (.cells #[.slice (some ⟨b, off, none⟩) taps.length cap, .int .i64 fa, .int .i64 sh] 28))
  have G1 := Lib.hid (gb_alloc (gb_refl w none) (.cells #[.slice (some ⟨b, off, none⟩) taps.length cap, .int .i64 fa, .int .i64 sh] 28))
  clear hc hcx hs hsx ok hx
  obtain ⟨s, hs⟩ : ∃ s : Nat, max fr (taps.length - 1) = s := ⟨_, rfl⟩
  have hsI : max (fr : Int) ((taps.length : Int) - 1) = (s : Int) := by omega
  go_enter Tryz.func35, Tryz.ntmps35
  have F1 : Hid (FoAt w w.heap.size #[.slice (some ⟨b, off, none⟩) taps.length cap, .int .i64 fa, .int .i64 sh] [] (.slice none 0 0) (w.alloc (.cells #[.slice (some ⟨b, off, none⟩) taps.length cap, .int .i64 fa, .int .i64 sh] 28))) := Lib.hid ⟨World.ownsRow_nil _ _ _ _, B1.out, G1.out, Nat.le_refl _⟩
  have ZZ : outR taps fa sh xs num s 0 = [] := rfl
  clear B1 G1
  by_cases hmx : (taps.length : Int) - 1 ≤ fr
  · obtain rfl : s = fr := by omega
    go_wp2_with fail
    generalize w.alloc (.cells #[.slice (some ⟨b, off, none⟩) taps.length cap, .int .i64 fa, .int .i64 sh] 28) = w1 at *
    go_loopw [9, 10] (fun o i wr => ∃ m : Nat, s ≤ m ∧ (m ≤ xs.length ∨ m = s) ∧ i = .int .i64 m ∧ FoAt w w.heap.size #[.slice (some ⟨b, off, none⟩) taps.length cap, .int .i64 fa, .int .i64 sh] (outR taps fa sh xs num s (m - s)) o wr) (fun _ i _ => xs.length - (intOf i).toNat)
    case atStart => exact ⟨s, Nat.le_refl _, .inr rfl, rfl, by rw [Nat.sub_self]; exact F1.out⟩
    case round =>
      obtain ⟨m, hm, hm1, rfl, ha⟩ := hrel
      have AR := Lib.hid ha
      obtain ⟨oa, oc, hoc⟩ := owns_slice ha.own
      subst hoc
      have f_ := cellD ha.blk 1 _ rfl
      have a_ := cellD ha.blk 0 _ rfl
      have c_ := cellD ha.blk 2 _ rfl
      have hln := outR_len taps fa sh xs num s (m - s)
      clear ha
      by_cases hlt : m < xs.length
      · have HN := Lib.hid (outR_succ taps fa sh xs num s (m - s))
        rw [show s + (m - s) = m by omega] at HN
        have hem := Int.emod_nonneg (num + m) (by omega : fa ≠ 0)
        have htm : (num + (m : Int)).tmod fa = (num + m) % fa := Int.tmod_eq_emod_of_nonneg (by omega)
        have hfa0 : ¬ fa = 0 := by omega
        have HOm := Lib.hid (HO.out _ AR.out.g m hlt (by omega))
        have hG : Hid (outG taps fa sh xs num m = if taps.length ≤ m + 1 ∧ (num + m) % fa = 0 then [outV taps sh xs m] else []) := Lib.hid rfl
        have hsm : m + 1 - s = m - s + 1 := by omega
        generalize outR taps fa sh xs num s (m - s) = L at *
        generalize outV taps sh xs m = y at *
        by_cases hz : (num + (m : Int)) % fa = 0
        · have hz' : (num + (m : Int)).tmod fa = 0 := by rw [htm]; exact hz
          have hGy := Lib.hid (hG.out.trans (if_pos ⟨by omega, hz⟩))
          clear hG hem htm
          go_wp2_with fail
          (with_reducible refine HOm.out.mono ?_)
          rintro r w2 ⟨rfl, hg⟩
          have A2 := Lib.hid (AR.out.keep hg)
          clear hg AR HOm f_ a_ c_
          have hsz := blkLt A2.out.blk
          go_wp2_with (at_builtin; (refine pushAt rfl _ _ 22 rfl (w.heap.size + 1) 3 (.int .i64 0) 1 8 Tryz.underlying22 Tryz.infoIntD rfl (by decide) (by decide) _ _ _ rfl (A2.out.own.alloc _) w2.heap.size 1 [.int .i64 y] 3 rfl (heap_alloc_new w2 _) rfl (by simp [Value.oneCell']) (by omega) (by simp; omega) ?_); refine Hid.out ?_)
          refine Lib.hid ?_
          intro v' wf h1 hg hb
          obtain ⟨oa', oc', rfl⟩ := owns_slice h1
          have AF := Lib.hid (A2.out.push h1 hg)
          clear h1 hg hb A2
          go_wp2_with fail
          exact ⟨⟨m + 1, by omega, by omega, by go_num, by rw [hsm, HN.out, hGy.out]; simpa using AF.out⟩, by simp [intOf]; omega⟩
        · have hz' : ¬ (num + (m : Int)).tmod fa = 0 := by rw [htm]; exact hz
          have hGy := Lib.hid (hG.out.trans (if_neg (fun h => hz h.2)))
          clear hG hem htm
          go_wp2_with fail
          exact ⟨⟨m + 1, by omega, by omega, by go_num, by rw [hsm, HN.out, hGy.out, List.append_nil]; exact AR.out⟩, by simp [intOf]; omega⟩
      · go_wp2_with fail
        go_ret
        have e : outR taps fa sh xs num s (xs.length - s) = outR taps fa sh xs num s (m - s) := by rw [show m = xs.length by omega]
        rw [e]
        exact ⟨_, rfl, ownMono AR.out.own (by omega), AR.out.g⟩
  · have hs2 : s + 1 = taps.length := by omega
    have hs3 : (taps.length : Int) - 1 = (s : Int) := by omega
    go_wp2_with fail
    generalize w.alloc (.cells #[.slice (some ⟨b, off, none⟩) taps.length cap, .int .i64 fa, .int .i64 sh] 28) = w1 at *
    go_loopw [9, 10] (fun o i wr => ∃ m : Nat, s ≤ m ∧ (m ≤ xs.length ∨ m = s) ∧ i = .int .i64 m ∧ FoAt w w.heap.size #[.slice (some ⟨b, off, none⟩) taps.length cap, .int .i64 fa, .int .i64 sh] (outR taps fa sh xs num s (m - s)) o wr) (fun _ i _ => xs.length - (intOf i).toNat)
    case atStart => exact ⟨s, Nat.le_refl _, .inr rfl, by go_num, by rw [Nat.sub_self]; exact F1.out⟩
    case round =>
      obtain ⟨m, hm, hm1, rfl, ha⟩ := hrel
      have AR := Lib.hid ha
      obtain ⟨oa, oc, hoc⟩ := owns_slice ha.own
      subst hoc
      have f_ := cellD ha.blk 1 _ rfl
      have a_ := cellD ha.blk 0 _ rfl
      have c_ := cellD ha.blk 2 _ rfl
      have hln := outR_len taps fa sh xs num s (m - s)
      clear ha
      by_cases hlt : m < xs.length
      · have HN := Lib.hid (outR_succ taps fa sh xs num s (m - s))
        rw [show s + (m - s) = m by omega] at HN
        have hem := Int.emod_nonneg (num + m) (by omega : fa ≠ 0)
        have htm : (num + (m : Int)).tmod fa = (num + m) % fa := Int.tmod_eq_emod_of_nonneg (by omega)
        have hfa0 : ¬ fa = 0 := by omega
        have HOm := Lib.hid (HO.out _ AR.out.g m hlt (by omega))
        have hG : Hid (outG taps fa sh xs num m = if taps.length ≤ m + 1 ∧ (num + m) % fa = 0 then [outV taps sh xs m] else []) := Lib.hid rfl
        have hsm : m + 1 - s = m - s + 1 := by omega
        generalize outR taps fa sh xs num s (m - s) = L at *
        generalize outV taps sh xs m = y at *
        by_cases hz : (num + (m : Int)) % fa = 0
        · have hz' : (num + (m : Int)).tmod fa = 0 := by rw [htm]; exact hz
          have hGy := Lib.hid (hG.out.trans (if_pos ⟨by omega, hz⟩))
          clear hG hem htm
          go_wp2_with fail
          (with_reducible refine HOm.out.mono ?_)
          rintro r w2 ⟨rfl, hg⟩
          have A2 := Lib.hid (AR.out.keep hg)
          clear hg AR HOm f_ a_ c_
          have hsz := blkLt A2.out.blk
          go_wp2_with (at_builtin; (refine pushAt rfl _ _ 22 rfl (w.heap.size + 1) 3 (.int .i64 0) 1 8 Tryz.underlying22 Tryz.infoIntD rfl (by decide) (by decide) _ _ _ rfl (A2.out.own.alloc _) w2.heap.size 1 [.int .i64 y] 3 rfl (heap_alloc_new w2 _) rfl (by simp [Value.oneCell']) (by omega) (by simp; omega) ?_); refine Hid.out ?_)
          refine Lib.hid ?_
          intro v' wf h1 hg hb
          obtain ⟨oa', oc', rfl⟩ := owns_slice h1
          have AF := Lib.hid (A2.out.push h1 hg)
          clear h1 hg hb A2
          go_wp2_with fail
          exact ⟨⟨m + 1, by omega, by omega, by go_num, by rw [hsm, HN.out, hGy.out]; simpa using AF.out⟩, by simp [intOf]; omega⟩
        · have hz' : ¬ (num + (m : Int)).tmod fa = 0 := by rw [htm]; exact hz
          have hGy := Lib.hid (hG.out.trans (if_neg (fun h => hz h.2)))
          clear hG hem htm
          go_wp2_with fail
          exact ⟨⟨m + 1, by omega, by omega, by go_num, by rw [hsm, HN.out, hGy.out, List.append_nil]; exact AR.out⟩, by simp [intOf]; omega⟩
      · go_wp2_with fail
        go_ret
        have e : outR taps fa sh xs num fr (xs.length - fr) = outR taps fa sh xs num s (m - s) := by
          rcases Nat.lt_or_ge xs.length s with h | h
          · obtain rfl : m = s := by omega
            rw [Nat.sub_self, outR_early taps fa sh xs num fr _ (by omega)]; rfl
          · obtain rfl : m = xs.length := by omega
            rw [show xs.length - fr = (s - fr) + (xs.length - s) by omega, outR_add, outR_early taps fa sh xs num fr (s - fr) (by omega), List.nil_append, show fr + (s - fr) = s by omega]
        rw [e]
        exact ⟨_, rfl, ownMono AR.out.own (by omega), AR.out.g⟩
end Go.Proofs.YtlddgafbgaaiiaaGreatDoor
