/- The law's power, and LogarithmTrue's walk. -/
import Derived.Test.YtelmeggcgocmlaaNatY
import Derived.Test.YtelmeggcgocmlaaAwake31
import Derived.Test.YtelmeggcgocmlaaNatMath
import Derived.Test.YtelmeggcgocmlaaLogMath
import Derived.Test.YtelmeggcgocmlaaBase
namespace Go.Proofs.Ytelmeggcgocmlaa
set_option linter.all false
open Go.RowKit

theorem bpow_two (k : Nat) : bpow k = 2 ^ (30 * k) := by
  unfold bpow; rw [Int.pow_mul]; rfl
theorem pow_limbs (q s : Nat) (hs : s < 30) : IsNat ((List.replicate (q + 1) (0 : Int)).set q (2 ^ s)) (2 ^ (30 * q + s)) := by
  have hp : (1 : Int) ≤ 2 ^ s ∧ (2 : Int) ^ s < 1073741824 := by
    constructor
    · have := Int.pow_pos (n := 2) (m := s) (by omega); omega
    · have : (2 : Nat) ^ s < 2 ^ 30 := Nat.pow_lt_pow_right (by omega) hs
      have e : ((2 ^ s : Nat) : Int) = 2 ^ s := by simp
      rw [← e]; omega
  have hl : ((List.replicate (q + 1) (0 : Int)).set q (2 ^ s)).length = q + 1 := by simp
  refine ⟨?_, fun _ => ?_, ?_⟩
  · refine Dig.set (fun x hx => ?_) q (by omega) hp.2
    rw [List.eq_of_mem_replicate hx]; omega
  · rw [hl, Nat.add_sub_cancel, List.getElem?_set_self (by simp)]
    simp; omega
  · rw [valL_set _ _ _ (by simp), valL_zeros, List.getElem?_eq_getElem (by simp), bpow_two, Int.pow_add]
    simp

set_option maxHeartbeats 1000000 in
theorem power_any (r : Nat) (w : World) (hr : r ≤ 1900) :
    Calls Try.prog 49 #[.int .i64 r] w fun e w' => ∃ v' zs, e = .returned v' ∧ Sl w' v' zs ∧ IsNat zs (2 ^ r) ∧ zs.length ≤ 64 ∧ w.grownBy w' none := by
  obtain ⟨q, s, hs, rfl⟩ : ∃ q s, s < 30 ∧ r = 30 * q + s := ⟨r / 30, r % 30, by omega, by omega⟩
  have PL := Lib.hid (pow_limbs q s hs)
  have h1 : ((30 * q + s : Nat) : Int) / 30 = (q : Int) := by omega
  have h2 : ((30 * q + s : Nat) : Int) % 30 = (s : Int) := by omega
  have hq : q ≤ 63 := by omega
  have hp : (1 : Nat) ≤ 2 ^ s ∧ 2 ^ s < 1073741824 := ⟨Nat.one_le_two_pow, by have : (2 : Nat) ^ s < 2 ^ 30 := Nat.pow_lt_pow_right (by omega) hs; omega⟩
  have hw1 : IntKind.i64.wrap ((q : Int) + 1) = ((q + 1 : Nat) : Int) := by rw [IntKind.wrap_i64]; omega
  have hpi : ((2 ^ s : Nat) : Int) = (2 : Int) ^ s := by simp
  have hw2 : wrap64 ((2 : Int) ^ s) = (2 : Int) ^ s := by unfold wrap64; rw [← hpi]; omega
  have hw3 : wrap64 (1 * (2 : Int) ^ s) = (2 : Int) ^ s := by rw [Int.one_mul]; exact hw2
  generalize hrr : ((30 * q + s : Nat) : Int) = R at *
  have HRR := Lib.hid hrr
  obtain ⟨i0, hi0, hz0, hz1, hz2⟩ := info_parts Try.infoInt
  have IB : Hid (i0.bytes * (q + 1) ≤ 281474976710656 ∧ (q + 1) ≤ maxLen) := Lib.hid ⟨by rw [hz2]; omega, by unfold maxLen; omega⟩
  clear hrr hr
  go_enter Try.func49, Try.ntmps49
  go_wp2_with (with_reducible refine wpList_make_full _ rfl _ _ 67 rfl w.heap.size 3 i0 (.int .i64 0) 1 Try.underlying67 hi0 hz0 hz1 .i64 .i64 ((q + 1 : Nat) : Int) ((q + 1 : Nat) : Int) (q + 1) rfl rfl rfl rfl IB.out.1 IB.out.2 (Nat.le_refl _) ?_; refine Hid.out ?_)
  refine Lib.hid ?_
  intro w1 ho hg
  rw [toList_madeCells_one, show List.replicate (q + 1) (Value.int .i64 0) = (List.replicate (q + 1) (0 : Int)).map (Value.int .i64) by simp] at ho
  have hc_ : w1.cell? ⟨w.heap.size, q, none⟩ = some (.int .i64 0) := by
    rw [ho.cellAt _ (by omega), List.getElem?_map, List.getElem?_eq_getElem (by simp)]; simp
  have hF := ho.frozenAt q
  have OS := Lib.hid (ho.stored q (.int .i64 (2 ^ s)))
  rw [← List.map_set] at OS
  have HG := Lib.hid (gb_new hg OS.out.2 (fun q hq => by simp at hq; omega))
  have SL := Lib.hid (Sl_of_owns OS.out.1 (by simp))
  clear ho hg hi0 hz0 hz1 hz2 IB OS hpi hp
  go_wp2
  go_ret
  exact ⟨_, _, rfl, SL.out, PL.out, by simp; omega, HG.out⟩
end Go.Proofs.Ytelmeggcgocmlaa
