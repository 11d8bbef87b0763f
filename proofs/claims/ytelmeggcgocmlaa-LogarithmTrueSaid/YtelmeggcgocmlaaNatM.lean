/- nat: compare, Compare, multiply, Mul. -/
import Derived.Test.YtelmeggcgocmlaaNatW
import Derived.Test.YtelmeggcgocmlaaFrom
import Derived.Test.YtelmeggcgocmlaaMis
namespace Go.Proofs.Ytelmeggcgocmlaa
set_option linter.all false
open Go.RowKit

theorem sgn_lt {a b : Int} (h : a < b) : sgn a b = -1 := by simp [sgn, h]
theorem sgn_gt {a b : Int} (h : b < a) : sgn a b = 1 := by unfold sgn; rw [if_neg (by omega), if_pos h]
theorem sgn_eq (a : Int) : sgn a a = 0 := by simp [sgn]
theorem cmp_at {xs ys : List Int} {m n : Int} (hm : IsNat xs m) (hn : IsNat ys n) (hl : xs.length = ys.length) {k : Nat} (hk : k < xs.length) (hd : xs.drop (k + 1) = ys.drop (k + 1)) (hne : xs[k]?.getD 0 ≠ ys[k]?.getD 0) : sgn (xs[k]?.getD 0) (ys[k]?.getD 0) = sgn m n := by
  rw [← hm.val, ← hn.val]
  by_cases h : xs[k]?.getD 0 < ys[k]?.getD 0
  · rw [sgn_lt h, sgn_lt (valL_cmp hm.dig hn.dig hl hk hd h)]
  · have h' : ys[k]?.getD 0 < xs[k]?.getD 0 := by omega
    rw [sgn_gt h', sgn_gt (valL_cmp (i := k) hn.dig hm.dig hl.symm (hl ▸ hk) hd.symm h')]
theorem drop_eq {xs ys : List Int} (hl : xs.length = ys.length) {k : Nat} (hk : k < xs.length) (hd : xs.drop (k + 1) = ys.drop (k + 1)) (he : xs[k]?.getD 0 = ys[k]?.getD 0) : xs.drop k = ys.drop k := by
  rw [List.drop_eq_getElem_cons hk, List.drop_eq_getElem_cons (show k < ys.length by omega), hd]
  rw [List.getElem?_eq_getElem hk, List.getElem?_eq_getElem (by omega)] at he
  simp at he; rw [he]

set_option maxHeartbeats 2000000 in
theorem compare_nat (xs ys : List Int) (v u : Value) (m n : Int) (w : World) (h1 : Sl w v xs) (h2 : Sl w u ys) (hm : IsNat xs m) (hn : IsNat ys n) (hx : xs.length ≤ 64) (hy : ys.length ≤ 64) :
    Calls Try.prog 84 #[v, u] w fun e w' => e = .returned (.int .i64 (sgn m n)) ∧ w.grownBy w' none := by
  by_cases hl : xs.length = ys.length
  · by_cases h0 : xs.length = 0
    · obtain rfl : xs = [] := List.length_eq_zero_iff.1 h0
      obtain rfl : ys = [] := List.length_eq_zero_iff.1 (by simpa using hl.symm)
      have e : sgn m n = 0 := by rw [← hm.val, ← hn.val]; exact sgn_eq _
      rw [e]
      obtain ⟨a, c, rfl⟩ := h1.shape; obtain ⟨a', c', rfl⟩ := h2.shape
      clear h1 h2 hm hn e
      go_enter Try.func84, Try.ntmps84
      go_wp2_with fail
      go_loopw [5] (fun i wr => i = .int .i64 (-1) ∧ w = wr) (fun i _ => 0)
      case atStart => exact ⟨rfl, rfl⟩
      case round =>
        obtain ⟨rfl, rfl⟩ := hrel
        go_wp2
        go_ret
        exact ⟨rfl, gb_refl _ _⟩
    obtain ⟨b, off, c, rfl, hb, -, -, hc⟩ := h1.block (by omega)
    obtain ⟨b', off', c', rfl, hb', -, -, hc'⟩ := h2.block (by omega)
    have HC := Lib.hid hc; have HC' := Lib.hid hc'
    have CA := Lib.hid (fun (k : Nat) (hk : k < xs.length) (hd : xs.drop (k + 1) = ys.drop (k + 1)) (hne : xs[k]?.getD 0 ≠ ys[k]?.getD 0) => cmp_at hm hn hl hk hd hne)
    have EQ : Hid (xs.drop 0 = ys.drop 0 → sgn m n = 0) := Lib.hid (fun h => by rw [← hm.val, ← hn.val]; simp at h; rw [h]; exact sgn_eq _)
    have HL := Lib.hid hl
    have DE := Lib.hid (fun (k : Nat) (hk : k < xs.length) (hd : xs.drop (k + 1) = ys.drop (k + 1)) (he : xs[k]?.getD 0 = ys[k]?.getD 0) => drop_eq hl hk hd he)
    clear h1 h2 hc hc' hm hn
    rw [← hl]
    generalize hN : xs.length = N at *
    have HN := Lib.hid hN
    have hN1 : IntKind.i64.wrap ((N : Int) - 1) = (N : Int) - 1 := by rw [IntKind.wrap_i64]; omega
    clear hl hN
    go_enter Try.func84, Try.ntmps84
    go_wp2_with fail
    go_loopw [5] (fun i wr => ∃ k : Nat, k ≤ N ∧ i = .int .i64 ((k : Int) - 1) ∧ xs.drop k = ys.drop k ∧ w.grownBy wr none) (fun i _ => (intOf i + 1).toNat)
    case atStart => exact ⟨N, Nat.le_refl _, rfl, by rw [List.drop_of_length_le (by have := HN.out; omega), List.drop_of_length_le (by have := HN.out; have := HL.out; omega)], gb_refl _ _⟩
    case round =>
      obtain ⟨k, hk, rfl, hd, hgr⟩ := hrel
      have HG := Lib.hid hgr
      by_cases hk0 : k = 0
      · subst hk0
        have E := EQ.out hd
        have HE_ := Lib.hid E
        clear hd hgr E
        go_wp2
        go_ret
        exact ⟨ret_int HE_.out.symm, HG.out⟩
      obtain ⟨j, rfl⟩ : ∃ j, k = j + 1 := ⟨k - 1, by omega⟩
      have hjN : j < N := by omega
      have hi_ : ((j + 1 : Nat) : Int) - 1 = (j : Int) := by omega
      rw [hi_]
      have c1 : wr.cell? ⟨b, off + j, none⟩ = some (.int .i64 (xs[j]?.getD 0)) := (gb_cell hgr hb (by simp)).trans (HC.out j (by omega))
      have c2 : wr.cell? ⟨b', off' + j, none⟩ = some (.int .i64 (ys[j]?.getD 0)) := (gb_cell hgr hb' (by simp)).trans (HC'.out j (by have := HL.out; omega))
      have hbz := Nat.lt_of_lt_of_le hb hgr.size; have hbz' := Nat.lt_of_lt_of_le hb' hgr.size
      have HD := Lib.hid hd
      have CAj := Lib.hid (CA.out j hjN hd); have DEj := Lib.hid (DE.out j hjN hd)
      have hwj : IntKind.i64.wrap ((j : Int) - 1) = (j : Int) - 1 := by rw [IntKind.wrap_i64]; omega
      generalize xs[j]?.getD 0 = p at *
      generalize ys[j]?.getD 0 = q at *
      clear hd hgr hi_
      by_cases hpq : p = q
      · subst hpq
        go_wp2_with fail
        go_quiet (fail)
        have HG2 := Lib.hid (gb_drewN HG.out nq)
        go_wp2_with fail
        go_roundw
        case rel => exact ⟨j, by omega, rfl, DEj.out trivial, HG2.out⟩
        case measure => simp [intOf] <;> omega
      · have hne : (p == q) = false := by simpa using hpq
        have HPQ := Lib.hid hpq
        clear hpq
        go_wp2_with fail
        go_quiet (fail)
        have d1 : (wr.drewN nq).cell? ⟨b, off + j, none⟩ = some (.int .i64 p) := c1
        have d2 : (wr.drewN nq).cell? ⟨b', off' + j, none⟩ = some (.int .i64 q) := c2
        have hz1 : b < (wr.drewN nq).heap.size := hbz; have hz2 : b' < (wr.drewN nq).heap.size := hbz'
        have HG2 := Lib.hid (gb_drewN HG.out nq)
        generalize wr.drewN nq = w5 at *
        clear c1 c2 hbz hbz'
        have u1 := fun (x : Up w5) => (ever_cell x (o := off + j) hz1).trans d1
        have u2 := fun (x : Up w5) => (ever_cell x (o := off' + j) hz2).trans d2
        go_wp2_with fail
        (refine wp_region_grown (by kernel_rfl) (by kernel_rfl) ?_; (repeat (go_big_quiet_step (first | (go_at_call 93; exact Calls.grown_same (cmpc_any _ _ _))))); refine wpQuiet_nil ?_; intro wq hq)
        have HGE := Lib.hid (gb_trans HG2.out hq)
        go_wp2
        go_ret
        exact ⟨ret_int (CAj.out HPQ.out), HGE.out⟩
  · have HS : Hid (sgn (xs.length : Int) (ys.length : Int) = sgn m n) := Lib.hid (by
      by_cases h : xs.length < ys.length
      · rw [sgn_lt (by omega), sgn_lt (hm.cmp_len hn h)]
      · rw [sgn_gt (by omega), sgn_gt (hn.cmp_len hm (by omega))])
    obtain ⟨a, c, rfl⟩ := h1.shape; obtain ⟨a', c', rfl⟩ := h2.shape
    have hne : ((xs.length : Int) == (ys.length : Int)) = false := by simp; omega
    clear h1 h2 hm hn
    generalize xs.length = lx at *
    generalize ys.length = ly at *
    go_enter Try.func84, Try.ntmps84
    go_wp2_with fail
    (with_reducible refine (cmpc_any _ _ _).mono ?_)
    rintro e w' ⟨rfl, rfl⟩
    go_wp2
    go_ret
    exact ⟨ret_int HS.out, gb_refl _ _⟩

theorem Compare_nat (xs ys : List Int) (v u : Value) (m n : Int) (w : World) (h1 : Sl w v xs) (h2 : Sl w u ys) (hm : IsNat xs m) (hn : IsNat ys n) (hx : xs.length ≤ 64) (hy : ys.length ≤ 64) :
    Calls Try.prog 48 #[v, u] w fun e w' => e = .returned (.int .i64 (sgn m n)) ∧ w.grownBy w' none := by
  have A := Lib.hid (both_nat xs ys v u m n w h1 h2 hm hn hx hy); have B := Lib.hid (compare_nat xs ys v u m n w h1 h2 hm hn hx hy)
  have hv : v.oneCell' = true := by obtain ⟨a, c, rfl⟩ := h1.shape; rfl
  have hu : u.oneCell' = true := by obtain ⟨a, c, rfl⟩ := h2.shape; rfl
  clear h1 h2 hm hn
  generalize sgn m n = s at *
  go_enter Try.func48, Try.ntmps48
  go_wp2_with fail
  (with_reducible refine A.out.mono ?_)
  rintro e w' ⟨rfl, rfl⟩
  go_wp2_with fail
  (with_reducible refine B.out.mono ?_)
  rintro e w' ⟨rfl, hg⟩
  have HG := Lib.hid hg; clear hg
  go_wp2
  go_ret
  exact ⟨rfl, HG.out⟩
end Go.Proofs.Ytelmeggcgocmlaa
