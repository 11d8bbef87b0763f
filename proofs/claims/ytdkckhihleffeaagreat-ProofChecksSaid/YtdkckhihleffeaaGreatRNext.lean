/- ref28.next. -/
import Derived.Test.YtdkckhihleffeaaGreatSr
namespace Go.Proofs.YtdkckhihleffeaaGreat
set_option linter.all false
open Go.RowKit Rg

set_option maxRecDepth 100000 in
set_option maxHeartbeats 1000000 in
theorem rnext_any (l : List It) (v : Value) (w : World) (h : SlC 8 w v l.length (flatI l)) (h0 : 0 < l.length) :
    Calls Tryz.prog 44 #[v] w fun e w' => e = .returned (.int .i64 (nx l l.length)) ∧ w.grownBy w' none := by
  obtain ⟨-, ⟨h1, -⟩ | ⟨b, off, cap, rfl, hb, hc, hm, hcell⟩⟩ := h
  · omega
  have IT := Lib.hid (fun (u : World) (hg : w.grownBy u none) => SlC.it (w := u) (b := b) (off := off) (l := l) (fun j x hj => (gb_cell hg hb (by simp)).trans (hcell j x hj)))
  clear hcell
  have hln : (l.length : Int) ≤ 9223372036854775807 := by omega
  go_enter Tryz.func44, Tryz.ntmps44
  go_wp2
  go_loopw [3, 4] (fun bst i wr => ∃ k : Nat, k ≤ l.length ∧ i = .int .i64 k ∧ bst = .int .i64 (nx l k) ∧ w.grownBy wr none) (fun _ i _ => l.length - (intOf i).toNat)
  case atStart => exact ⟨0, by omega, rfl, rfl, gb_refl _ _⟩
  case round =>
    obtain ⟨k, hk, rfl, rfl, hgr⟩ := hrel
    have HG := Lib.hid hgr
    clear hgr
    by_cases hlt : k < l.length
    · have hlt' : decide ((k : Int) < (l.length : Int)) = true := decide_eq_true (by omega)
      obtain ⟨-, -, -, -, -, -, c6_, c7_⟩ := IT.out _ HG.out k hlt
      have HS := Lib.hid (nx_skip (l := l) (k := k)); have HT := Lib.hid (nx_take (l := l) (k := k))
      have hN := nx_in l k
      cases hd : (itAt l k).done
      rotate_left
      · rw [hd] at c7_
        have HE : Hid (nx l (k + 1) = nx l k) := Lib.hid (HS.out (by rw [hd]; rfl))
        clear HS HT
        go_wp2
        go_quiet (fail)
        go_wp2
        go_roundw
        case rel => exact ⟨k + 1, by omega, by go_num, by rw [HE.out], gb_drewN HG.out _⟩
        case measure => simp [intOf]; omega
      rw [hd] at c7_
      by_cases hn : nx l k < 0
      · have hn' : decide (nx l k < 0) = true := decide_eq_true hn
        have HE : Hid (nx l (k + 1) = k) := Lib.hid (HT.out (by rw [hd, hn']; rfl))
        clear HS HT
        go_wp2
        go_quiet (fail)
        go_wp2
        go_roundw
        case rel => exact ⟨k + 1, by omega, by go_num, by rw [HE.out], gb_drewN HG.out _⟩
        case measure => simp [intOf]; omega
      obtain ⟨j, hj⟩ : ∃ j : Nat, nx l k = j := ⟨(nx l k).toNat, by omega⟩
      have hjl : j < l.length := by omega
      obtain ⟨-, -, -, -, -, -, d6_, -⟩ := IT.out _ HG.out j hjl
      have hjn : decide ((j : Int) < 0) = false := decide_eq_false (by omega)
      have hjt : (nx l k).toNat = j := by omega
      have HJ := Lib.hid hj
      rw [hj]
      by_cases hcc : (itAt l k).c < (itAt l j).c
      · have hcc' : decide ((itAt l k).c < (itAt l j).c) = true := decide_eq_true hcc
        have HE : Hid (nx l (k + 1) = k) := Lib.hid (HT.out (by rw [hd, hjt, hcc']; simp))
        clear HS HT hj hjt hN hn
        generalize (itAt l k).c = ck at *
        generalize (itAt l j).c = cj at *
        go_wp2
        go_quiet (fail)
        go_wp2
        go_roundw
        case rel => exact ⟨k + 1, by omega, by go_num, by rw [HE.out], gb_drewN HG.out _⟩
        case measure => simp [intOf]; omega
      · have hcc' : decide ((itAt l k).c < (itAt l j).c) = false := decide_eq_false hcc
        have HE : Hid (nx l (k + 1) = j) := Lib.hid (by rw [HS.out (by rw [hd, hjt, hcc', hj, hjn]; rfl), hj])
        clear HS HT hj hjt hN hn
        generalize (itAt l k).c = ck at *
        generalize (itAt l j).c = cj at *
        go_wp2
        go_quiet (fail)
        go_wp2
        go_roundw
        case rel => exact ⟨k + 1, by omega, by go_num, by rw [HE.out], gb_drewN HG.out _⟩
        case measure => simp [intOf]; omega
    · obtain rfl : k = l.length := by omega
      go_wp2
      go_ret
      exact ⟨rfl, HG.out⟩
end Go.Proofs.YtdkckhihleffeaaGreat
