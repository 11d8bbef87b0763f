/- nat: digit, trim, limited, both, compare, Compare, multiply, Mul. -/
import Derived.Test.YtmgfdfbhfhmekaaGreatNatV
import Derived.Test.YtmgfdfbhfhmekaaGreatTrv
import Derived.Test.YtmgfdfbhfhmekaaGreatRefC
namespace Go.Proofs.YtmgfdfbhfhmekaaGreat
set_option linter.all false
open Go.RowKit

theorem digit_any (xs : List Int) (v : Value) (i : Nat) (w : World) (hs : Sl w v xs) (hl : xs.length ≤ 1000000) (hi : i ≤ 1000000) :
    Calls Tryz.prog 112 #[v, .int .i64 i] w fun e w' => e = .returned (.int .i64 (xs[i]?.getD 0)) ∧ w = w' := by
  by_cases h : i < xs.length
  · obtain ⟨b, off, cap, rfl, hb, -, -, hc⟩ := hs.block (by omega)
    have hx := hc i h
    clear hc hs
    have h' : decide ((xs.length : Int) ≤ (i : Int)) = false := decide_eq_false (by omega)
    unfold at0 at hx
    generalize xs[i]?.getD 0 = d at *
    go_enter Tryz.func112, Tryz.ntmps112
    go_wp2
    go_ret
    exact ⟨rfl, rfl⟩
  · obtain ⟨a, cap, rfl⟩ := hs.shape
    clear hs
    have h' : decide ((xs.length : Int) ≤ (i : Int)) = true := decide_eq_true (by omega)
    have h0 : xs[i]?.getD 0 = 0 := by rw [List.getElem?_eq_none (by omega)]; rfl
    rw [h0]
    go_enter Tryz.func112, Tryz.ntmps112
    go_wp2
    go_ret
    exact ⟨rfl, rfl⟩

def slLen : Value → Nat
  | .slice _ n _ => n
  | _ => 0
/-- What trim leaves. -/
def Trim (xs : List Int) (w : World) (e : Ending) (w' : World) : Prop :=
  ∃ (k : Nat) (v' : Value), e = .returned v' ∧ w = w' ∧ Sl w v' (xs.take k) ∧ k ≤ xs.length ∧ (∀ j, k ≤ j → j < xs.length → xs[j]?.getD 0 = 0) ∧ (0 < k → xs[k - 1]?.getD 0 ≠ 0)
set_option maxHeartbeats 1000000 in
theorem trim_any (xs : List Int) (v : Value) (w : World) (hs : Sl w v xs) (hl : xs.length ≤ 1000000) :
    Calls Tryz.prog 111 #[v] w (Trim xs w) := by
  have HS := Lib.hid hs
  by_cases h0 : 0 < xs.length
  · obtain ⟨b, off, cap, rfl, hb, hn, hm, hc⟩ := hs.block h0
    have HC := Lib.hid hc
    clear hs hc
    go_enter Tryz.func111, Tryz.ntmps111
    go_wp2_with fail
    go_loopw [0] (fun v wr => ∃ k : Nat, k ≤ xs.length ∧ v = .slice (some ⟨b, off, none⟩) k cap ∧ (∀ j, k ≤ j → j < xs.length → xs[j]?.getD 0 = 0) ∧ w = wr) (fun v _ => slLen v)
    case atStart => exact ⟨xs.length, Nat.le_refl _, rfl, fun j h1 h2 => by omega, rfl⟩
    case round =>
      obtain ⟨k, hk, rfl, hz, rfl⟩ := hrel
      by_cases hk0 : k = 0
      · subst hk0
        have HZ := Lib.hid hz; clear hz
        go_wp2
        go_ret
        exact ⟨0, _, rfl, rfl, HS.out.take (Nat.zero_le _), Nat.zero_le _, HZ.out, fun h => absurd h (by omega)⟩
      obtain ⟨m, rfl⟩ : ∃ m, k = m + 1 := ⟨k - 1, by omega⟩
      have hx : w.cell? ⟨b, off + m, none⟩ = some (.int .i64 (xs[m]?.getD 0)) := HC.out m (by omega)
      have hw_ : IntKind.i64.wrap (((m + 1 : Nat) : Int) - 1) = (m : Int) := by rw [IntKind.wrap_i64]; omega
      have hw2 : IntKind.i64.wrap ((m : Int) + 1 - 1) = (m : Int) := by rw [IntKind.wrap_i64]; omega
      have HZ := Lib.hid hz; clear hz
      by_cases hz0 : xs[m]?.getD 0 = 0
      · have HZ0 := Lib.hid hz0
        rw [hz0] at hx
        clear hz0
        go_wp2_with fail
        go_roundw
        case rel => exact ⟨m, by omega, rfl, fun j h1 h2 => by
          by_cases e : j = m
          · subst e; exact HZ0.out
          · exact HZ.out j (by omega) h2, trivial⟩
        case measure => simp [slLen]
      · have hne : (xs[m]?.getD 0 == 0) = false := by simpa using hz0
        have HN := Lib.hid hz0; clear hz0
        generalize hd : xs[m]?.getD 0 = d at *
        have HD := Lib.hid hd; clear hd
        go_wp2
        go_ret
        exact ⟨m + 1, _, rfl, rfl, HS.out.take (by omega), by omega, HZ.out, fun _ => by rw [Nat.add_sub_cancel, HD.out]; exact HN.out⟩
  · obtain rfl : xs = [] := List.length_eq_zero_iff.1 (by omega)
    obtain ⟨a, cap, rfl⟩ := hs.shape
    clear hs
    go_enter Tryz.func111, Tryz.ntmps111
    go_wp2_with fail
    go_loopw [0] (fun v wr => v = .slice a ([] : List Int).length cap ∧ w = wr) (fun v _ => slLen v)
    case atStart => exact ⟨rfl, rfl⟩
    case round =>
      obtain ⟨rfl, rfl⟩ := hrel
      go_wp2
      go_ret
      exact ⟨0, _, rfl, rfl, by simpa using HS.out, Nat.le_refl _, fun j _ h => absurd h (by simp), fun h => absurd h (by omega)⟩

theorem limited_nat (xs : List Int) (v : Value) (n : Int) (w : World) (hs : Sl w v xs) (hl : xs.length ≤ 1000000) (hd : Dig xs) (hv : valL xs = n) (hn : n < bpow 64) :
    Calls Tryz.prog 86 #[v] w fun e w' => ∃ v' ys, e = .returned (.tuple #[v', .int .i64 0]) ∧ w = w' ∧ Sl w v' ys ∧ IsNat ys n ∧ ys.length ≤ 64 := by
  have T := Lib.hid (trim_any xs v w hs hl)
  have ho := (show v.oneCell' = true by obtain ⟨a, c, rfl⟩ := hs.shape; rfl)
  clear hs
  go_enter Tryz.func86, Tryz.ntmps86
  go_wp2_with fail
  (with_reducible refine T.out.mono ?_)
  rintro e w' ⟨k, v', rfl, rfl, h1, h2, h3, h4⟩
  have N := IsNat.mk' hd hv h2 h3 h4
  have h5 := N.length_le hn
  have hlen : (xs.take k).length = k := by simp; omega
  obtain ⟨a, cap, e⟩ := h1.shape
  rw [hlen] at e h5
  subst e
  have HN := Lib.hid N; have H1 := Lib.hid h1; have H5 := Lib.hid (show (xs.take k).length ≤ 64 by rw [hlen]; exact h5)
  clear N h1 h3 h4 hd hv hn hlen T
  go_wp2_with fail
  exact bodyPost_ret (v := .tuple #[.slice a k cap, .int .i64 0]) (by simp [results, Tryz.results86, go_sem]) rfl ⟨_, _, rfl, rfl, H1.out, HN.out, H5.out⟩

theorem both_nat (xs ys : List Int) (v u : Value) (m n : Int) (w : World) (h1 : Sl w v xs) (h2 : Sl w u ys) (hm : IsNat xs m) (hn : IsNat ys n) (hx : xs.length ≤ 64) (hy : ys.length ≤ 64) :
    Calls Tryz.prog 123 #[v, u] w fun e w' => e = .returned (.bool true) ∧ w = w' := by
  have A := Lib.hid (nvalid_any xs v w h1); have B := Lib.hid (nvalid_any ys u w h2)
  rw [hm.valid hx] at A; rw [hn.valid hy] at B
  have hv : v.oneCell' = true := by obtain ⟨a, c, rfl⟩ := h1.shape; rfl
  have hu : u.oneCell' = true := by obtain ⟨a, c, rfl⟩ := h2.shape; rfl
  clear h1 h2
  go_enter Tryz.func123, Tryz.ntmps123
  go_wp2_with fail
  (with_reducible refine A.out.mono ?_)
  rintro e w' ⟨rfl, rfl⟩
  go_wp2_with fail
  (with_reducible refine B.out.mono ?_)
  rintro e w' ⟨rfl, rfl⟩
  go_wp2
  go_ret
  exact ⟨rfl, rfl⟩
end Go.Proofs.YtmgfdfbhfhmekaaGreat
