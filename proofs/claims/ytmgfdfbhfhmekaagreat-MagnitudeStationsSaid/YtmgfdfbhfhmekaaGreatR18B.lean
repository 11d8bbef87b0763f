/- keep.SmallTable; ref32.half. -/
import Derived.Test.YtmgfdfbhfhmekaaGreatR18M
import Derived.Test.YtmgfdfbhfhmekaaGreatMag
import Derived.Test.YtmgfdfbhfhmekaaGreatRsp2
import Derived.Test.YtmgfdfbhfhmekaaGreatBent
namespace Go.Proofs.YtmgfdfbhfhmekaaGreat
set_option linter.all false
section LR18b
open Go.RowKit Rg

theorem and1_i64 (n : Int) : bits .and .i64 n 1 = n % 2 := by
  have h1 : (BitVec.ofInt 64 1).toNat = 2 ^ 1 - 1 := by decide
  have key : (BitVec.ofInt 64 n &&& BitVec.ofInt 64 1).toNat = (n % ((2 ^ 64 : Nat) : Int)).toNat % 2 ^ 1 := by
    rw [BitVec.toNat_and, BitVec.toNat_ofInt, h1, Nat.and_two_pow_sub_one_eq_mod]
  show IntKind.i64.wrap ((BitVec.ofInt 64 n &&& BitVec.ofInt 64 1).toNat : Nat) = n % 2
  rw [key, IntKind.wrap_i64]
  omega
theorem rhalf_any (n : Int) (w : World) (h0 : -4611686018427387904 ≤ n) (h1 : n ≤ 4611686018427387904) :
    Calls Tryz.prog 34 #[.int .i64 n] w fun e w' => e = .returned (.int .i64 (n / 2)) ∧ w = w' := by
  go_enter Tryz.func34, Tryz.ntmps34
  go_wp2
  go_ret
  refine ⟨?_, rfl⟩
  show Ending.returned (.int .i64 (wrap64 ((wrap64 (n - bits .and .i64 n 1)).tdiv 2))) = _
  rw [and1_i64]
  have e1 : wrap64 (n - n % 2) = n - n % 2 := by have := IntKind.wrap_i64 (n - n % 2); unfold wrap64; omega
  rw [e1]
  have e2 : (n - n % 2).tdiv 2 = n / 2 := by
    obtain ⟨k, hk⟩ : ∃ k, n - n % 2 = 2 * k := ⟨n / 2, by omega⟩
    rw [hk, Int.mul_tdiv_cancel_left _ (by decide)]; omega
  rw [e2]
  have e3 : wrap64 (n / 2) = n / 2 := by unfold wrap64; omega
  rw [e3]
end LR18b
section LR18v
open Go.RowKit Rg

set_option maxHeartbeats 1000000 in
theorem rvscale_any (s : Sca) (vl vh : Value) (w : World) (hl : Sl w vl s.ls) (hh : Sl w vh s.hs) :
    Calls Tryz.prog 14 #[.agg (s.val vl vh)] w fun e w' => e = .returned (.bool s.ok) ∧ w.grownBy w' none := by
  obtain ⟨step, ls, hs, num, den⟩ := s
  dsimp only at hl hh
  have g1 := gb_alloc (gb_refl w none) (.cells #[.int .i64 step, vl, vh, .int .i64 num, .int .i64 den] 26)
  have VA := Lib.hid (rvalidate_any step vl vh ls hs _ (hl.after g1) (hh.after g1))
  have G1 := Lib.hid g1; have B1 := Lib.hid (heap_alloc_new w (.cells #[.int .i64 step, vl, vh, .int .i64 num, .int .i64 den] 26))
  have hv1 : vl.oneCell' = true := by obtain ⟨a, c, rfl⟩ := hl.shape; rfl
  have hv2 : vh.oneCell' = true := by obtain ⟨a, c, rfl⟩ := hh.shape; rfl
  have HOK : Hid (Sca.ok ⟨step, ls, hs, num, den⟩ = (decide (tE step ls hs = 0) && (decide (0 ≤ num) && decide (num ≤ 65536)) && (decide (1 ≤ den) && decide (den ≤ 65536)))) := Lib.hid rfl
  generalize Sca.ok ⟨step, ls, hs, num, den⟩ = ok at *
  generalize tE step ls hs = te at *
  clear g1 hl hh
  simp only [Sca.val]
  go_enter Tryz.func14, Tryz.ntmps14
  go_wp2_with fail
  generalize w.alloc (.cells #[.int .i64 step, vl, vh, .int .i64 num, .int .i64 den] 26) = w1 at *
  generalize w.heap.size = z at *
  (with_reducible refine VA.out.mono ?_)
  rintro e w2 ⟨rfl, hg⟩
  have G2 := Lib.hid (gb_trans G1.out hg)
  obtain ⟨c0_, c1_, c2_, c3_, c4_⟩ := cells5 (block_kept hg B1.out rfl)
  clear hg G1 B1 VA
  by_cases h0 : te = 0
  · subst h0
    rcases Int.lt_or_le num 0 with h1 | h1
    rotate_left
    rcases Int.lt_or_le 65536 num with h2 | h2
    rotate_left
    rcases Int.lt_or_le den 1 with h3 | h3
    rotate_left
    rcases Int.lt_or_le 65536 den with h4 | h4
    all_goals
      go_wp2
      go_ret
      refine ⟨ret_bool (by rw [HOK.out, Bool.eq_iff_iff]; simp; omega), G2.out⟩
  · have h0' : (te == 0) = false := by simpa using h0
    have HE : Hid (ok = false) := Lib.hid (by rw [HOK.out, decide_eq_false h0]; rfl)
    clear h0
    go_wp2
    go_ret
    exact ⟨by rw [HE.out]; rfl, G2.out⟩

end LR18v
section LR18s
open Go.RowKit Rg

def smallR (L : List Stv) : Bool := L.all (fun x => decide (x.s.taps.length ≤ 200)) && decide (L.length ≤ 12)
set_option maxHeartbeats 1000000 in
theorem smallResponse_any (L : List Stv) (v : Value) (w : World) (h : StIn w v L) :
    Calls Tryz.prog 5 #[.agg #[v]] w fun e w' => e = .returned (.bool (smallR L)) ∧ w.grownBy w' none := by
  have g1 := gb_alloc (gb_refl w none) (.cells #[v] 29)
  have G1 := Lib.hid g1
  have H1 := Lib.hid (h.after g1)
  have c1_ : (w.alloc (.cells #[v] 29)).cell? ⟨w.heap.size, 0, none⟩ = some v := by rw [cell_new]; rfl
  have l1_ : w.heap.size < (w.alloc (.cells #[v] 29)).heap.size := by simp
  clear g1 h
  by_cases h0 : L.length = 0
  · obtain rfl : L = [] := List.length_eq_zero_iff.1 h0
    obtain ⟨a, c, rfl⟩ := H1.out.1.slice
    go_enter Tryz.func5, Tryz.ntmps5
    go_wp2_with fail
    go_rounds 1
    go_ret
    exact ⟨rfl, G1.out⟩
  · obtain ⟨b, off, cap, rfl⟩ := H1.out.1.some (by omega)
    have hn2 : L.length ≤ 9223372036854775807 := by
      obtain ⟨b', off', cap', -, -, q1, q2, -⟩ := H1.out.1.block (by omega)
      omega
    generalize hn : L.length = n at *
    have HN := Lib.hid hn
    clear hn
    go_enter Tryz.func5, Tryz.ntmps5
    go_wp2_with fail
    go_loop [7] (fun i => ∃ k : Nat, k ≤ n ∧ i = .int .i64 k ∧ ∀ j (h : j < L.length), j < k → L[j].s.taps.length ≤ 200) (fun i => n - (intOf i).toNat)
    case atStart => exact ⟨0, by omega, rfl, fun j h h2 => by omega⟩
    case round =>
      obtain ⟨k, hk, rfl, hok⟩ := hrel
      have HOK := Lib.hid hok
      clear hok
      by_cases hlt : k < n
      · have hkl : k < L.length := by have := HN.out; omega
        obtain ⟨hb, -, -, -, -, -, -, -, t_, -, -⟩ := H1.out.at k hkl
        obtain ⟨ta, tc, ht⟩ := (H1.out.2 L[k] (List.getElem_mem hkl)).shape
        rw [ht] at t_
        have HLK := Lib.hid (rfl : L[k].s.taps.length = L[k].s.taps.length)
        obtain ⟨m, hm⟩ : ∃ m, L[k].s.taps.length = m := ⟨_, rfl⟩
        have HMM := Lib.hid hm
        rw [hm] at t_
        clear ht hm
        by_cases h2 : 200 < m
        · have d1 : decide ((m : Int) > 200) = true := decide_eq_true (by omega)
          go_wp2_with fail
          go_ret
          refine ⟨?_, G1.out⟩
          have : smallR L = false := by
            cases hq : smallR L with
            | false => rfl
            | true =>
              unfold smallR at hq
              have h1 := (List.all_eq_true.1 (Bool.and_eq_true_iff.1 hq).1) L[k] (List.getElem_mem hkl)
              rw [HMM.out] at h1
              have := of_decide_eq_true h1
              omega
          rw [this]; rfl
        · have d1 : decide ((m : Int) > 200) = false := decide_eq_false (by omega)
          go_wp2_with fail
          go_round
          case rel => exact ⟨k + 1, by omega, by go_num, fun j h h2 => by
            by_cases hj : j < k
            · exact HOK.out j h hj
            · obtain rfl : j = k := by omega
              rw [HMM.out]; omega⟩
          case measure => simp [intOf]; omega
      · go_wp2_with fail
        go_ret
        refine ⟨?_, G1.out⟩
        have : smallR L = decide (n ≤ 12) := by
          unfold smallR
          rw [HN.out, List.all_eq_true.2 (fun x hx => by
            obtain ⟨j, hj, rfl⟩ := List.getElem_of_mem hx
            exact decide_eq_true (HOK.out j hj (by have := HN.out; omega))), Bool.true_and]
        rw [this]
        show Ending.returned (.bool (decide ((n : Int) ≤ 12))) = _
        have e : decide ((n : Int) ≤ 12) = decide (n ≤ 12) := by rw [Bool.eq_iff_iff]; simp; omega
        rw [e]
end LR18s
end Go.Proofs.YtmgfdfbhfhmekaaGreat
