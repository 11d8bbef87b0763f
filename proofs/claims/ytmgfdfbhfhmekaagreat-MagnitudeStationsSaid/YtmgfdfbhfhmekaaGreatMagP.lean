/- Of no program: the magnitude of a station, as numbers; what follows for its laws. -/
import Derived.Test.YtmgfdfbhfhmekaaGreatMagM
import Derived.Test.YtmgfdfbhfhmekaaGreatLogNat
import Derived.Test.YtmgfdfbhfhmekaaGreatLogMath
import Derived.Test.YtmgfdfbhfhmekaaGreatTrv
namespace Go.Proofs.YtmgfdfbhfhmekaaGreat
set_option linter.all false

/-- A scale. -/
structure Sca where
  step : Int
  ls : List Int
  hs : List Int
  num : Int
  den : Int
def Sca.ok (s : Sca) : Bool := decide (tE s.step s.ls s.hs = 0) && inB s.num 0 65536 && inB s.den 1 65536
/-- The doubled logarithm of the ground's amplitude. -/
def grd (a : Int) (n d : Nat) : Int := 2 * logS a.toNat + logNatS (natL d) - logNatS (natL n)
def stnE (s : Sca) (l : List Stg) (a near far : Int) : Int :=
  if s.ok = false then 27 else if inB a 1 1073741823 = false then 2 else
  if (gainE l s.num s.den).1 ≠ 0 then (gainE l s.num s.den).1 else if (gainE l s.num s.den).2.1 = 0 then 24 else btwE s.step s.ls s.hs near far
def stnG (s : Sca) (l : List Stg) (a : Int) : Int := grd a (gainE l s.num s.den).2.1 (gainE l s.num s.den).2.2
def stnL (s : Sca) (l : List Stg) (a near far : Int) : Int := if stnE s l a near far = 0 then floorS ((stnG s l a - 2) / 2) + btwA s.step s.ls s.hs near far else 0
def stnH (s : Sca) (l : List Stg) (a near far : Int) : Int := if stnE s l a near far = 0 then -floorS ((-stnG s l a - 6) / 2) + btwB s.step s.ls s.hs near far else 0
def stnV (s : Sca) (l : List Stg) (a near far : Int) : Value := .tuple #[.agg #[.int .i64 (stnL s l a near far), .int .i64 (stnH s l a near far)], .int .i64 (stnE s l a near far)]

theorem floorS_mono {x y : Int} (h0 : -16777216 ≤ x) (h : x ≤ y) (h1 : y ≤ 16777216) : floorS x ≤ floorS y := by
  unfold floorS
  rw [if_pos ⟨h0, by omega⟩, if_pos ⟨by omega, h1⟩]
  omega
theorem floorS_cross {x y : Int} (h0 : -16777216 ≤ x) (h : x ≤ -y) (h1 : x ≤ 16777216) (h2 : -16777216 ≤ y) (h3 : y ≤ 16777216) : floorS x ≤ -floorS y := by
  unfold floorS
  rw [if_pos ⟨h0, h1⟩, if_pos ⟨h2, h3⟩]
  omega
theorem logNat_one {n : Nat} (h1 : 1 ≤ n) (h : n < 1073741824) : logNatS (natL n) = logS n := by
  rw [natL_pos h1, show n / 1073741824 = 0 by omega, natL_zero]
  unfold logNatS
  rw [if_pos (by simp)]
  simp only [List.getElem?_cons_zero, Option.getD_some, Int.toNat_natCast]
  rw [Nat.mod_eq_of_lt h]

/-- MagnitudeTens, in plain words. -/
theorem tens_plain (s : Sca) (a d : Nat) (lo hi : Int) (hs : s.ok = true) (ha1 : 1 ≤ a) (ha : a ≤ 1000000) (hd1 : 1 ≤ d) (hd : d ≤ 100)
    (hE : btwE s.step s.ls s.hs 0 0 = 0) (hlo : btwA s.step s.ls s.hs 0 0 = lo) (hhi : btwB s.step s.ls s.hs 0 0 = hi) :
    (stnE s [] a 0 0 = 0 ∧ stnE s [] (10 * (a : Int)) 0 0 = 0 ∧ stnE s [⟨0, 1, 0, 0, d, 0, 0, [], 0, 0⟩] a 0 0 = 0 ∧ stnE s [] ((a : Int) * d) 0 0 = 0) ∧
    (97 ≤ stnL s [] (10 * (a : Int)) 0 0 - stnL s [] a 0 0 ∧ stnL s [] (10 * (a : Int)) 0 0 - stnL s [] a 0 0 ≤ 103) ∧
    (97 ≤ stnH s [] (10 * (a : Int)) 0 0 - stnH s [] a 0 0 ∧ stnH s [] (10 * (a : Int)) 0 0 - stnH s [] a 0 0 ≤ 103) ∧
    (-4 ≤ stnL s [⟨0, 1, 0, 0, d, 0, 0, [], 0, 0⟩] a 0 0 - stnL s [] ((a : Int) * d) 0 0 ∧ stnL s [⟨0, 1, 0, 0, d, 0, 0, [], 0, 0⟩] a 0 0 - stnL s [] ((a : Int) * d) 0 0 ≤ 4) ∧
    (-4 ≤ stnH s [⟨0, 1, 0, 0, d, 0, 0, [], 0, 0⟩] a 0 0 - stnH s [] ((a : Int) * d) 0 0 ∧ stnH s [⟨0, 1, 0, 0, d, 0, 0, [], 0, 0⟩] a 0 0 - stnH s [] ((a : Int) * d) 0 0 ≤ 4) := by
  have hok := hs
  simp only [Sca.ok, Bool.and_eq_true] at hok
  have hang : (inB s.num 0 65536 && inB s.den 1 65536) = true := by rw [hok.1.2, hok.2]; rfl
  have g0 : gainE [] s.num s.den = (0, 1, 1) := by
    unfold gainE
    rw [if_neg (by decide), if_neg (by rw [hang]; decide)]
    rfl
  have had1 : 1 ≤ a * d := Nat.mul_pos ha1 hd1
  have had : a * d ≤ 1000000 * 100 := Nat.mul_le_mul ha hd
  have hdd1 : 1 ≤ d * d := Nat.mul_pos hd1 hd1
  have hdd : d * d ≤ 100 * 100 := Nat.mul_le_mul hd hd
  have hkok : Stg.ok ⟨0, 1, 0, 0, d, 0, 0, [], 0, 0⟩ = true := by
    simp [Stg.ok, Stg.plain, inB]; omega
  have g1 : gainE [⟨0, 1, 0, 0, d, 0, 0, [], 0, 0⟩] s.num s.den = (0, 1, d * d) := by
    have hr : rspOk [⟨0, 1, 0, 0, d, 0, 0, [], 0, 0⟩] = true := by
      unfold rspOk
      rw [List.all_cons, hkok]
      simp [facOk]
    unfold gainE
    rw [if_neg (by rw [hr]; decide), if_neg (by rw [hang]; decide)]
    simp only [gnL, Stg.gd, Stg.gn, if_pos, sqN, Int.natAbs_natCast]
    rw [if_neg (by omega)]
    simp
  have cad : ((a : Int) * d) = ((a * d : Nat) : Int) := by simp
  have c10 : (10 * (a : Int)) = ((10 * a : Nat) : Int) := by simp
  rw [cad, c10]
  have b : ∀ n : Nat, 1 ≤ n → n ≤ 100000000 → inB n 1 1073741823 = true := fun n h1 h2 => by simp [inB]; omega
  have e0 : ∀ n : Nat, 1 ≤ n → n ≤ 100000000 → stnE s [] n 0 0 = 0 := fun n h1 h2 => by
    unfold stnE
    rw [if_neg (by rw [hs]; decide), if_neg (by rw [b n h1 h2]; decide), g0]
    simpa using hE
  have e1 : stnE s [⟨0, 1, 0, 0, d, 0, 0, [], 0, 0⟩] a 0 0 = 0 := by
    unfold stnE
    rw [if_neg (by rw [hs]; decide), if_neg (by rw [b a ha1 (by omega)]; decide), g1]
    simpa using hE
  have l1 : logNatS (natL 1) = 0 := by rw [logNat_one (by omega) (by omega)]; exact logS_one
  have G0 : ∀ n : Nat, stnG s [] n = 2 * logS n := fun n => by
    unfold stnG grd
    rw [g0]
    simp only [l1, Int.toNat_natCast]; omega
  have G1 : stnG s [⟨0, 1, 0, 0, d, 0, 0, [], 0, 0⟩] a = 2 * logS a + logS (d * d) := by
    unfold stnG grd
    rw [g1]
    simp only [l1, Int.toNat_natCast]
    rw [logNat_one hdd1 (by omega)]; omega
  have L10 : logS 10 = 850 := by decide
  have A10 := logS_adds (a := 10) (b := a) (by omega) ha1 (by omega) (by omega) (by omega)
  have AD := logS_adds (a := a) (b := d) ha1 hd1 (by omega) (by omega) (by omega)
  have DD := logS_adds (a := d) (b := d) hd1 hd1 (by omega) (by omega) (by omega)
  have i1 := logS_in a (by omega); have i2 := logS_in d (by omega); have i3 := logS_in (10 * a) (by omega); have i4 := logS_in (a * d) (by omega); have i5 := logS_in (d * d) (by omega)
  have ea := e0 a ha1 (by omega); have e10 := e0 (10 * a) (by omega) (by omega); have ead := e0 (a * d) had1 (by omega)
  refine ⟨⟨ea, e10, e1, ead⟩, ?_⟩
  unfold stnL stnH
  rw [if_pos ea, if_pos ea, if_pos e10, if_pos e10, if_pos e1, if_pos e1, if_pos ead, if_pos ead, hlo, hhi, G0, G0, G0, G1]
  rw [L10] at A10
  generalize logS a = x at *
  generalize logS d = y at *
  generalize logS (10 * a) = z at *
  generalize logS (a * d) = u at *
  generalize logS (d * d) = t at *
  have fe : ∀ v : Int, -1000000 ≤ v → v ≤ 1000000 → floorS v = v * 30103 / 256000 := fun v h1 h2 => by unfold floorS; rw [if_pos ⟨by omega, by omega⟩]
  rw [fe _ (by omega) (by omega), fe _ (by omega) (by omega), fe _ (by omega) (by omega), fe _ (by omega) (by omega), fe _ (by omega) (by omega), fe _ (by omega) (by omega), fe _ (by omega) (by omega), fe _ (by omega) (by omega)]
  omega

theorem topS_in' {xs : List Int} (h : validS xs = true) (h2 : 2 ≤ xs.length) : topS xs < 1152921504606846976 := by
  have hv := validS_ok h
  have a := hv.2.1 (xs.length - 1) (by omega); have b := hv.2.1 (xs.length - 2) (by omega)
  unfold topS
  omega
theorem logNatS_in {xs : List Int} (h : validS xs = true) (h0 : 0 < xs.length) : 0 ≤ logNatS xs ∧ logNatS xs ≤ 500000 := by
  have hv := validS_ok h
  unfold logNatS
  by_cases h1 : xs.length = 1
  · rw [if_pos h1]
    have := hv.2.1 0 (by omega)
    have := logS_in (xs[0]?.getD 0).toNat (by omega)
    omega
  · rw [if_neg h1]
    have := logS_in (topS xs) (by have := topS_in' h (by omega); omega)
    omega
theorem gnL_pos {num den : Int} : ∀ {l : List Stg} {n d : Nat}, 1 ≤ d → (gnL num den l n d).1 = 0 → 1 ≤ (gnL num den l n d).2.2
  | [], n, d, hd, _ => hd
  | s :: l, n, d, hd, h => by
    unfold gnL at h ⊢
    by_cases h0 : s.gd num den = 0
    · rw [if_pos h0] at h; simp at h
    · rw [if_neg h0] at h ⊢
      exact gnL_pos (Nat.mul_pos hd (by omega)) h
theorem gnL_lt {num den : Int} (hn : num.natAbs ≤ 65536) (hd : den.natAbs ≤ 65536) : ∀ {l : List Stg} {n d k : Nat}, (∀ s ∈ l, s.ok = true) → n < 2 ^ k → d < 2 ^ k → (gnL num den l n d).2.1 < 2 ^ (k + 110 * l.length) ∧ (gnL num den l n d).2.2 < 2 ^ (k + 110 * l.length)
  | [], n, d, k, _, h1, h2 => ⟨h1, h2⟩
  | s :: l, n, d, k, hl, h1, h2 => by
    unfold gnL
    by_cases h0 : s.gd num den = 0
    · rw [if_pos h0]; exact ⟨Nat.pow_pos (by omega), Nat.pow_pos (by omega)⟩
    · rw [if_neg h0]
      have hs := Stg.gn_lt (hl s (by simp)) hn hd
      have := gnL_lt hn hd (l := l) (k := k + 110) (fun s hs => hl s (by simp [hs])) (mul_lt_pow h1 hs.1) (mul_lt_pow h2 hs.2)
      rw [show k + 110 * (s :: l).length = k + 110 + 110 * l.length by simp; omega]
      exact this
theorem gainE_in {M : Nat} (hM : M = 881) {l : List Stg} {num den : Int} : (gainE l num den).2.1 < 2 ^ M ∧ (gainE l num den).2.2 < 2 ^ M ∧ ((gainE l num den).1 = 0 → 1 ≤ (gainE l num den).2.2) := by
  unfold gainE
  by_cases h : rspOk l = false
  · rw [if_pos h]; exact ⟨Nat.pow_pos (by omega), Nat.pow_pos (by omega), fun h => by simp at h⟩
  rw [if_neg h]
  by_cases h2 : (inB num 0 65536 && inB den 1 65536) = false
  · rw [if_pos h2]; exact ⟨Nat.pow_pos (by omega), Nat.pow_pos (by omega), fun h => by simp at h⟩
  rw [if_neg h2]
  simp only [Bool.not_eq_false, Bool.and_eq_true, inB_iff, rspOk, decide_eq_true_eq, List.all_eq_true] at h h2
  have hh := gnL_lt (num := num) (den := den) (by omega) (by omega) (l := l) (n := 1) (d := 1) (k := 1) h.1.2 (by decide) (by decide)
  have hle : (2 : Nat) ^ (1 + 110 * l.length) ≤ 2 ^ M := Nat.pow_le_pow_right (by omega) (by omega)
  exact ⟨Nat.lt_of_lt_of_le hh.1 hle, Nat.lt_of_lt_of_le hh.2 hle, gnL_pos (Nat.le_refl 1)⟩
theorem natL_ok {M : Nat} (hM : M = 881) {n : Nat} (h : n < 2 ^ M) : (natL n).length ≤ 30 ∧ validS (natL n) = true := by
  obtain ⟨K, hK⟩ : ∃ K : Nat, K = 30 := ⟨_, rfl⟩
  rw [← hK]
  have h1 : (natL n).length ≤ K := natL_le (bpowN (Nat.lt_of_lt_of_le h (Nat.pow_le_pow_right (by omega) (by omega))))
  exact ⟨h1, (natL_is n).valid (by omega)⟩
theorem natL_pos_len {n : Nat} (h : 0 < n) : 0 < (natL n).length := List.length_pos_iff.2 (natL_ne h)

/-- MagnitudeGrows, in plain words. -/
theorem grows32_plain (s : Sca) (l : List Stg) (a b : Nat) (x y : Int) (hs : s.ok = true) (ha1 : 1 ≤ a) (hab : a ≤ b) (hb : b ≤ 100000) (hx : 0 ≤ x) (hxy : x ≤ y) (hy : y ≤ reachS s.step s.ls) :
    stnE s l a (x * x) (x * x) = stnE s l b (y * y) (y * y) ∧ stnE s l 1 0 0 = stnE s l a (x * x) (x * x) ∧
    (stnE s l a (x * x) (x * x) = 0 →
      stnL s l a (x * x) (x * x) ≤ stnH s l a (x * x) (x * x) ∧ stnL s l b (y * y) (y * y) ≤ stnH s l b (y * y) (y * y) ∧
      stnL s l a (x * x) (x * x) ≤ stnL s l b (y * y) (y * y) ∧ stnH s l a (x * x) (x * x) ≤ stnH s l b (y * y) (y * y)) := by
  have hok := hs
  simp only [Sca.ok, Bool.and_eq_true, decide_eq_true_eq] at hok
  have ht : tOk s.step s.ls s.hs := by
    have := hok.1.1; unfold tE at this
    by_cases h : tOk s.step s.ls s.hs
    · exact h
    · rw [if_neg h] at this; omega
  have bq : ∀ z : Int, 0 ≤ z → z ≤ reachS s.step s.ls → btwE s.step s.ls s.hs (z * z) (z * z) = 0 := fun z h0 h1 => btwE_ok ht (sq_nonneg h0) (Int.le_refl _) (by rw [ceilI_sq (by omega)]; exact h1)
  have bv : ∀ z : Int, 0 ≤ z → z ≤ reachS s.step s.ls → btwA s.step s.ls s.hs (z * z) (z * z) = loA s.step s.ls z ∧ btwB s.step s.ls s.hs (z * z) (z * z) = hiA s.step s.hs z := fun z h0 h1 => by
    unfold btwA btwB loA hiA
    rw [bq z h0 h1, if_pos rfl, if_pos rfl, floorI_sq h0, ceilI_sq (by omega)]
    exact ⟨rfl, rfl⟩
  have G := grows_plain ht hx hxy hy
  have bx := bq x hx (by omega); have by_ := bq y (by omega) hy; have b0 := bq 0 (Int.le_refl 0) (by omega)
  rw [Int.mul_zero] at b0
  have bi : ∀ n : Nat, 1 ≤ n → n ≤ 100000 → inB n 1 1073741823 = true := fun n h1 h2 => by simp [inB]; omega
  have eE : ∀ (n : Nat) (u : Int), 1 ≤ n → n ≤ 100000 → btwE s.step s.ls s.hs u u = 0 → stnE s l n u u = if (gainE l s.num s.den).1 ≠ 0 then (gainE l s.num s.den).1 else if (gainE l s.num s.den).2.1 = 0 then 24 else 0 := fun n u h1 h2 h => by
    unfold stnE
    rw [if_neg (by rw [hs]; decide), if_neg (by rw [bi n h1 h2]; decide), h]
  have e1 := eE a _ ha1 (by omega) bx; have e2 := eE b _ (by omega) hb by_; have e3 := eE 1 _ (by omega) (by omega) b0
  refine ⟨by rw [e1, e2], by rw [e1]; exact e3, fun h => ?_⟩
  have h' : stnE s l b (y * y) (y * y) = 0 := by rw [e2, ← e1]; exact h
  obtain ⟨n1, n2, n3⟩ := gainE_in (M := 881) rfl (l := l) (num := s.num) (den := s.den)
  rw [e1] at h
  have hg0 : (gainE l s.num s.den).1 = 0 := by
    by_cases hh : (gainE l s.num s.den).1 = 0
    · exact hh
    · rw [if_pos hh] at h; exact absurd h hh
  rw [if_neg (by rw [hg0]; simp)] at h
  have hN : (gainE l s.num s.den).2.1 ≠ 0 := fun hh => by rw [if_pos hh] at h; omega
  have hD := n3 hg0
  unfold stnL stnH
  rw [if_pos (show stnE s l a (x * x) (x * x) = 0 by rw [e2] at h'; rw [e1]; exact h'), if_pos (show stnE s l a (x * x) (x * x) = 0 by rw [e2] at h'; rw [e1]; exact h'), if_pos h', if_pos h', (bv x hx (by omega)).1, (bv x hx (by omega)).2, (bv y (by omega) hy).1, (bv y (by omega) hy).2]
  unfold stnG grd
  simp only [Int.toNat_natCast]
  have i1 := logNatS_in (natL_ok rfl n1).2 (natL_pos_len (by omega)); have i2 := logNatS_in (natL_ok rfl n2).2 (natL_pos_len (by omega))
  have m := logS_mono ha1 hab (by omega)
  have ja := logS_in a (by omega); have jb := logS_in b (by omega)
  generalize logNatS (natL (gainE l s.num s.den).2.1) = u at *
  generalize logNatS (natL (gainE l s.num s.den).2.2) = v at *
  generalize logS a = p at *
  generalize logS b = q at *
  have k1 := floorS_cross (x := (2 * p + v - u - 2) / 2) (y := (-(2 * p + v - u) - 6) / 2) (by omega) (by omega) (by omega) (by omega) (by omega)
  have k2 := floorS_cross (x := (2 * q + v - u - 2) / 2) (y := (-(2 * q + v - u) - 6) / 2) (by omega) (by omega) (by omega) (by omega) (by omega)
  have k3 := floorS_mono (x := (2 * p + v - u - 2) / 2) (y := (2 * q + v - u - 2) / 2) (by omega) (by omega) (by omega)
  have k4 := floorS_mono (x := (-(2 * q + v - u) - 6) / 2) (y := (-(2 * p + v - u) - 6) / 2) (by omega) (by omega) (by omega)
  obtain ⟨g1, g2, g3, g4⟩ := G
  refine ⟨?_, ?_, ?_, ?_⟩ <;> omega
end Go.Proofs.YtmgfdfbhfhmekaaGreat
