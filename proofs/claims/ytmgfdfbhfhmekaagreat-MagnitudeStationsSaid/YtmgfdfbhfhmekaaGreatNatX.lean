/- nat: multiply, Mul. -/
import Derived.Test.YtmgfdfbhfhmekaaGreatNatM
namespace Go.Proofs.YtmgfdfbhfhmekaaGreat
set_option linter.all false
open Go.RowKit

/-- What a round of the product leaves. -/
structure MulAt (xs ys os : List Int) (I : Nat) : Prop where
  len : os.length = xs.length + ys.length
  dig : Dig os
  val : valL os = valL (xs.take I) * valL ys
  zero : ∀ j, I + ys.length ≤ j → os[j]?.getD 0 = 0
structure MulIn (xs ys os : List Int) (I K : Nat) (cy : Int) : Prop where
  len : os.length = xs.length + ys.length
  dig : Dig os
  c0 : 0 ≤ cy
  c1 : cy < 1073741824
  last : ys.length < K → cy = 0
  val : valL os + cy * bpow (I + K) = valL (xs.take I) * valL ys + xs[I]?.getD 0 * valL (ys.take K) * bpow I
  zero : ∀ j, I + K ≤ j → I + ys.length ≤ j → os[j]?.getD 0 = 0
theorem MulAt.start (xs ys : List Int) : MulAt xs ys (List.replicate (xs.length + ys.length) 0) 0 :=
  ⟨by simp, fun x hx => by rw [List.eq_of_mem_replicate hx]; omega, by rw [valL_zeros]; simp [valL], fun j _ => by
    by_cases h : j < xs.length + ys.length
    · rw [List.getElem?_eq_getElem (by simpa using h)]; simp
    · rw [List.getElem?_eq_none (by simp; omega)]; rfl⟩
theorem MulAt.enter {xs ys os : List Int} {I : Nat} (h : MulAt xs ys os I) : MulIn xs ys os I 0 0 :=
  ⟨h.len, h.dig, by omega, by omega, fun _ => rfl, by rw [h.val]; simp [valL], fun j _ h2 => h.zero j h2⟩
theorem MulIn.exit {xs ys os : List Int} {I : Nat} {cy : Int} (hI : I < xs.length) (h : MulIn xs ys os I (ys.length + 1) cy) : MulAt xs ys os (I + 1) := by
  have hc := h.last (by omega)
  have hv := h.val
  rw [hc, List.take_of_length_le (show ys.length ≤ ys.length + 1 by omega)] at hv
  refine ⟨h.len, h.dig, ?_, fun j hj => h.zero j (by omega) (by omega)⟩
  rw [valL_take_succ xs I hI]
  grind
theorem MulIn.step {xs ys os : List Int} {I K : Nat} {cy : Int} (hdx : Dig xs) (hdy : Dig ys) (hI : I < xs.length) (hK : K ≤ ys.length) (h : MulIn xs ys os I K cy) :
    0 ≤ cy + (os[I + K]?.getD 0 + xs[I]?.getD 0 * ys[K]?.getD 0) ∧ cy + (os[I + K]?.getD 0 + xs[I]?.getD 0 * ys[K]?.getD 0) < 1152921504606846976 ∧
    MulIn xs ys (os.set (I + K) ((cy + (os[I + K]?.getD 0 + xs[I]?.getD 0 * ys[K]?.getD 0)) % 1073741824)) I (K + 1) ((cy + (os[I + K]?.getD 0 + xs[I]?.getD 0 * ys[K]?.getD 0)) / 1073741824) := by
  have ho := h.dig.at (I + K); have hx := hdx.at I; have hy := hdy.at K
  have hc0 := h.c0; have hc1 := h.c1
  have hp := mul_small (a := xs[I]?.getD 0) (b := ys[K]?.getD 0) (A := 1073741823) (B := 1073741823) hx.1 (by omega) hy.1 (by omega)
  have hz := h.zero (I + K) (Nat.le_refl _)
  have hval := h.val
  have hlen := h.len
  have hlt : I + K < os.length := by omega
  have hset := valL_set os (I + K) ((cy + (os[I + K]?.getD 0 + xs[I]?.getD 0 * ys[K]?.getD 0)) % 1073741824) hlt
  have hy0 : K = ys.length → ys[K]?.getD 0 = 0 := fun e => by rw [List.getElem?_eq_none (by omega)]; rfl
  have htk : valL (ys.take (K + 1)) = valL (ys.take K) + bpow K * ys[K]?.getD 0 := by
    by_cases e : K < ys.length
    · exact valL_take_succ ys K e
    · rw [hy0 (by omega), List.take_of_length_le (by omega : ys.length ≤ K + 1), List.take_of_length_le (by omega : ys.length ≤ K)]; simp
  have hbI : bpow (I + K) = bpow I * bpow K := by unfold bpow; rw [Int.pow_add]
  have hb1 : bpow (I + (K + 1)) = bpow (I + K) * 1073741824 := bpow_succ (I + K)
  generalize ho' : os[I + K]?.getD 0 = o at *
  generalize hx' : xs[I]?.getD 0 = x at *
  generalize hy' : ys[K]?.getD 0 = y at *
  generalize hp' : x * y = p at *
  generalize hs' : cy + (o + p) = s at *
  have hs0 : 0 ≤ s ∧ s < 1152921504606846976 := by omega
  have hdm := Int.emod_add_mul_ediv s 1073741824
  refine ⟨hs0.1, hs0.2, by simpa using hlen, h.dig.set _ (by omega) (by omega), by omega, by omega, fun e => ?_, ?_, fun j h1 h2 => ?_⟩
  · have e1 : K = ys.length := by omega
    have hy2 := hy0 e1
    have ho2 := hz (by omega)
    subst hy2
    rw [Int.mul_zero] at hp'
    omega
  · rw [hset, htk, hb1]
    have e2 : s % 1073741824 = s - 1073741824 * (s / 1073741824) := by omega
    rw [e2]
    generalize s / 1073741824 = t at *
    generalize valL (xs.take I) * valL ys = V at *
    generalize valL (ys.take K) = U at *
    generalize valL os = W at *
    generalize bpow (I + K) = b at *
    generalize bpow I = bi at *
    generalize bpow K = bk at *
    subst hbI
    subst hs'
    subst hp'
    grind
  · rw [List.getElem?_set_ne (by omega)]
    exact h.zero j (by omega) h2
end Go.Proofs.YtmgfdfbhfhmekaaGreat
