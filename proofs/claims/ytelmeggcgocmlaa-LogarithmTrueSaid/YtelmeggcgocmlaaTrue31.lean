/- The walk of LogarithmTrue. -/
import Derived.Test.YtelmeggcgocmlaaPow31
namespace Go.Proofs.Ytelmeggcgocmlaa
set_option linter.all false
open Go.RowKit

theorem p128 (k : Nat) : (128 : Nat) ^ k = 2 ^ (7 * k) := by rw [Nat.pow_mul]
theorem pow256 {n E : Nat} (hE : E = 7 * 256) (h1 : 1 ≤ n) (h : n ≤ 127) {j : Nat} (hj : j ≤ 256) : n ^ j < 2 ^ E := by
  have h2 : n ^ j ≤ n ^ 256 := Nat.pow_le_pow_right h1 hj
  have h3 : n ^ 256 ≤ 127 ^ 256 := Nat.pow_le_pow_left h 256
  have h4 : (127 : Nat) ^ 256 < 128 ^ 256 := Nat.pow_lt_pow_left (by omega) (by omega)
  have h5 : ∀ k, k = 256 → (128 : Nat) ^ 256 = 2 ^ E := fun k hk => by
    have := p128 k
    rw [← show E = 7 * k by omega] at this
    rw [← this, hk]
  have h5 := h5 256 rfl
  rw [h5] at h4
  exact Nat.lt_of_le_of_lt (Nat.le_trans h2 h3) h4
theorem pow_cast (n j : Nat) : ((n ^ j : Nat) : Int) = (n : Int) ^ j := by simp
theorem two_cast (k : Nat) : ((2 ^ k : Nat) : Int) = (2 : Int) ^ k := by simp
theorem bpow_ge {k M : Nat} (h : M ≤ 30 * k) : (2 : Int) ^ M ≤ bpow k := by
  rw [bpow_two, ← two_cast, ← two_cast]
  exact Int.ofNat_le.2 (Nat.pow_le_pow_right (by omega) h)
theorem pow_bp {n : Nat} (h1 : 1 ≤ n) (h : n ≤ 127) {j : Nat} (hj : j < 256) : (n : Int) ^ j * (n : Int) < bpow 64 := by
  rw [← Int.pow_succ, ← pow_cast]
  obtain ⟨E, hE⟩ : ∃ E, E = 7 * 256 := ⟨_, rfl⟩
  have a := pow256 hE h1 h (show j + 1 ≤ 256 by omega)
  have b := bpow_ge (k := 64) (M := E) (by omega)
  rw [← two_cast] at b
  exact Int.lt_of_lt_of_le (Int.ofNat_lt.2 a) b
theorem one_nat : IsNat (limbsF 3 1) 1 := by
  rw [limbs1 (by omega) (by omega)]
  exact ⟨fun x hx => by simp at hx; omega, fun _ => by simp, by simp [valL]⟩
theorem small_nat {n : Nat} (h1 : 1 ≤ n) (h : n ≤ 127) : IsNat (limbsF 3 n) n ∧ (limbsF 3 n).length = 1 := by
  rw [limbs1 h1 (by omega)]
  exact ⟨⟨fun x hx => by simp at hx; omega, fun _ => by simp; omega, by simp [valL]⟩, rfl⟩

set_option maxRecDepth 100000 in
set_option maxHeartbeats 2000000 in
theorem logarithmTrue_walk (w : World) (x : Int) (h1 : -9223372036854775808 ≤ x) (h2 : x ≤ 9223372036854775807) :
    Calls Try.prog 5 #[.int .i64 x] w fun e w' => e = .returned (.bool true) ∧ Below w.heap.size w w' := by
  go_enter Try.func5, Try.ntmps5
  go_wp2_with fail
  (with_reducible refine (mod_any x 127 _ (by omega) (by omega)).mono ?_)
  rintro e w' ⟨rfl, rfl⟩
  have hd : 0 ≤ x % 127 ∧ x % 127 < 127 := by omega
  generalize x % 127 = d at *
  obtain ⟨n, hn⟩ : ∃ n : Nat, 1 + d = n := ⟨(1 + d).toNat, by omega⟩
  have hwn : IntKind.i64.wrap (1 + d) = (n : Int) := by rw [IntKind.wrap_i64]; omega
  have hn1 : 1 ≤ n ∧ n ≤ 127 := by omega
  have hT := logS_true hn1.1 (show n < 9223372036854775808 by omega)
  have hnn := logS_nn (n := n)
  obtain ⟨r, hr⟩ : ∃ r : Nat, logS n = r := ⟨(logS n).toNat, by omega⟩
  have LG := Lib.hid (fun u => log_any n u hn1.1 (by omega))
  rw [hr] at hT LG
  rw [Int.toNat_natCast] at hT
  have hr1 : r ≤ 1792 := by
    obtain ⟨E, hE⟩ : ∃ E, E = 7 * 256 := ⟨_, rfl⟩
    have a := pow_lt_of (Nat.lt_of_le_of_lt hT.1 (pow256 hE hn1.1 hn1.2 (Nat.le_refl _)))
    omega
  have HT := Lib.hid hT
  have hwr : IntKind.i64.wrap ((r : Int) + 2) = ((r + 2 : Nat) : Int) := by rw [IntKind.wrap_i64]; omega
  have C1 : Hid (decide (sgn (2 ^ r) ((n : Int) ^ 256) ≤ 0) = true) := Lib.hid (decide_eq_true (by
    have a : (2 : Int) ^ r ≤ (n : Int) ^ 256 := by rw [← pow_cast, ← two_cast]; exact Int.ofNat_le.2 hT.1
    unfold sgn; split
    · omega
    · rw [if_neg (by omega)]; omega))
  have C2 : Hid (decide (sgn ((n : Int) ^ 256) (2 ^ (r + 2)) < 0) = true) := Lib.hid (decide_eq_true (by
    have a : (n : Int) ^ 256 < (2 : Int) ^ (r + 2) := by rw [← pow_cast, ← two_cast]; exact Int.ofNat_lt.2 hT.2
    rw [sgn_lt a]; omega))
  clear h1 h2 hnn hr hT HT hn hd
  go_wp2_with fail
  (with_reducible refine (LG.out _).mono ?_)
  rintro e w' ⟨rfl, rfl⟩
  have g0 : decide ((r : Int) < 0) = false := decide_eq_false (by omega)
  have g1 : decide ((1792 : Int) < (r : Int)) = false := decide_eq_false (by omega)
  go_wp2_with fail
  have F1 : Calls Try.prog 46 #[.int .i64 1] w (NewNat w.heap.size (limbsF 3 1) w) := from_any 1 w (by omega)
  (with_reducible refine F1.mono ?_)
  clear F1
  rintro e w1 ⟨v1, rfl, o1, hg1⟩
  have S1 := Lib.hid (Sl_of_owns o1 rfl); have HG1 := Lib.hid hg1
  obtain ⟨a1, c1, rfl⟩ := owns_slice o1
  clear o1 hg1
  go_wp2_with fail
  (with_reducible refine (from_any n w1 (by omega)).mono ?_)
  rintro e w2 ⟨v2, rfl, o2, hg2⟩
  have S2 := Lib.hid (Sl_of_owns o2 rfl); have S12 := Lib.hid (S1.out.after hg2); have HG2 := Lib.hid (gb_trans HG1.out hg2)
  obtain ⟨a2, c2, rfl⟩ := owns_slice o2
  clear o2 hg2 S1 HG1
  obtain ⟨N2, l2⟩ := small_nat hn1.1 hn1.2
  have N2 := Lib.hid N2; have L2 := Lib.hid l2
  have l1 : (limbsF 3 1).length = 1 := by rw [limbs1 (by omega) (by omega)]; rfl
  have L1 := Lib.hid l1
  generalize limbsF 3 n = zs2 at *
  generalize hz1 : limbsF 3 1 = zs1 at *
  have N1 : Hid (IsNat zs1 1) := Lib.hid (hz1 ▸ one_nat)
  clear hz1
  rw [l1] at S12
  rw [l2] at S2
  rw [l1, l2]
  clear l1 l2
  go_wp2_with fail
  go_loopw [5, 9] (fun y i wr => ∃ (j : Nat) (zs : List Int), j ≤ 256 ∧ i = .int .i64 j ∧ Sl wr y zs ∧ IsNat zs ((n : Int) ^ j) ∧ zs.length ≤ 64 ∧ w2.grownBy wr none) (fun _ i _ => 256 - (intOf i).toNat)
  case atStart => exact ⟨0, zs1, by omega, rfl, S12.out, by simpa using N1.out, by have := L1.out; omega, gb_refl _ _⟩
  case round =>
    obtain ⟨j, zs, hj, rfl, hs, hz, hl, hgr⟩ := hrel
    by_cases hlt : j < 256
    · have M := Lib.hid (Mul_nat zs zs2 _ (.slice a2 1 c2) _ n wr hs (S2.out.after hgr) hz N2.out hl (by have := L2.out; omega) (pow_bp hn1.1 hn1.2 hlt))
      rw [← Int.pow_succ] at M
      have HG := Lib.hid hgr
      have hd1 : decide ((j : Int) < 256) = true := decide_eq_true (by omega)
      obtain ⟨a3, c3, rfl⟩ := hs.shape
      clear hs hz hl hgr
      go_wp2_with fail
      (with_reducible refine M.out.mono ?_)
      rintro e w4 ⟨v4, zs4, rfl, hs, hz, hl, hg⟩
      have HS := Lib.hid hs; have HZ := Lib.hid hz; have HL := Lib.hid hl; have HGN := Lib.hid (gb_trans HG.out hg)
      clear hs hz hl hg
      go_wp2_with fail
      go_roundw
      case rel => exact ⟨j + 1, zs4, by omega, by go_num, HS.out, HZ.out, HL.out, HGN.out⟩
      case measure => simp [intOf]; omega
    · have hje : j = 256 := by omega
      subst hje
      have HS := Lib.hid hs; have HZ := Lib.hid hz; have HL := Lib.hid hl; have HG := Lib.hid (gb_trans HG2.out hgr)
      obtain ⟨a3, c3, rfl⟩ := hs.shape
      clear hs hz hl hgr
      generalize (n : Int) ^ 256 = P at *
      go_wp2_with fail
      (with_reducible refine (power_any r wr (by omega)).mono ?_)
      rintro e w4 ⟨v4, zs4, rfl, hs, hz, hl, hg⟩
      have CM := Lib.hid (Compare_nat zs4 zs v4 _ _ P w4 hs (HS.out.after hg) hz HZ.out hl HL.out)
      have HS4 := Lib.hid (HS.out.after hg); have HG4 := Lib.hid (gb_trans HG.out hg)
      obtain ⟨a4, c4, rfl⟩ := hs.shape
      clear hs hz hl hg HS HG
      go_wp2_with fail
      (with_reducible refine CM.out.mono ?_)
      rintro e w5 ⟨rfl, hg⟩
      have HS5 := Lib.hid (HS4.out.after hg); have HG5 := Lib.hid (gb_trans HG4.out hg)
      have k1 := C1.out
      clear hg HS4 HG4 CM
      generalize sgn (2 ^ r) P = s1 at *
      go_wp2_with fail
      have PW : Calls Try.prog 49 #[.int .i64 ((r : Int) + 2)] w5 _ := power_any (r + 2) w5 (by omega)
      (with_reducible refine PW.mono ?_)
      clear PW
      rintro e w6 ⟨v6, zs6, rfl, hs, hz, hl, hg⟩
      have CM := Lib.hid (Compare_nat zs zs6 _ v6 P _ w6 (HS5.out.after hg) hs HZ.out hz HL.out hl)
      have HG6 := Lib.hid (gb_trans HG5.out hg)
      obtain ⟨a6, c6, rfl⟩ := hs.shape
      clear hs hz hl hg HG5 HS5
      go_wp2_with fail
      (with_reducible refine CM.out.mono ?_)
      rintro e w7 ⟨rfl, hg⟩
      have HG7 := Lib.hid (gb_trans HG6.out hg)
      have k2 := C2.out
      clear hg HG6 CM
      generalize sgn P (2 ^ (r + 2)) = s2 at *
      go_wp2_with fail
      (with_reducible refine (awake_any w7).mono ?_)
      rintro e w8 ⟨rfl, hg⟩
      have HGE := Lib.hid (gb_trans HG7.out hg)
      clear hg
      go_wp2_with fail
      go_ret
      exact ⟨rfl, gb_end HGE.out⟩
end Go.Proofs.Ytelmeggcgocmlaa
