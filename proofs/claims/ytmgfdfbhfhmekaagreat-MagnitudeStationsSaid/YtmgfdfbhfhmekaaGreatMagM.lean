/- Of no program: gains of responses, as numbers. -/
import Derived.Test.YtmgfdfbhfhmekaaGreatNatV
namespace Go.Proofs.YtmgfdfbhfhmekaaGreat
set_option linter.all false

/-- The limbs of a natural number. -/
def natL (n : Nat) : List Int := if h : n = 0 then [] else ((n % 1073741824 : Nat) : Int) :: natL (n / 1073741824)
termination_by n
decreasing_by omega
theorem natL_zero : natL 0 = [] := by rw [natL]; simp
theorem natL_pos {n : Nat} (h : 0 < n) : natL n = ((n % 1073741824 : Nat) : Int) :: natL (n / 1073741824) := by
  rw [natL, dif_neg (by omega)]
theorem natL_ne {n : Nat} (h : 0 < n) : natL n ≠ [] := by rw [natL_pos h]; simp
theorem natL_len {n : Nat} : (natL n).length = 0 ↔ n = 0 := by
  by_cases h : n = 0
  · subst h; simp [natL_zero]
  · rw [natL_pos (by omega)]; simp; omega
theorem natL_is (n : Nat) : IsNat (natL n) n := by
  induction n using Nat.strongRecOn with
  | _ n ih =>
    by_cases h : n = 0
    · subst h; rw [natL_zero]; exact ⟨by simp [Dig], by simp, rfl⟩
    · have ih' := ih (n / 1073741824) (by omega)
      rw [natL_pos (by omega)]
      refine ⟨?_, fun _ => ?_, ?_⟩
      · intro x hx
        rcases List.mem_cons.1 hx with rfl | hx
        · omega
        · exact ih'.dig x hx
      · by_cases h2 : n / 1073741824 = 0
        · rw [h2, natL_zero]; simp; omega
        · have := ih'.top (natL_ne (by omega))
          have hl : 0 < (natL (n / 1073741824)).length := List.length_pos_iff.2 (natL_ne (by omega))
          rw [List.length_cons, Nat.add_sub_cancel, show (natL (n / 1073741824)).length = (natL (n / 1073741824)).length - 1 + 1 by omega, List.getElem?_cons_succ]
          exact this
      · simp only [valL]; rw [ih'.val]; omega
theorem Dig.val_inj : ∀ {xs ys : List Int}, Dig xs → Dig ys → (xs ≠ [] → xs[xs.length - 1]?.getD 0 ≠ 0) → (ys ≠ [] → ys[ys.length - 1]?.getD 0 ≠ 0) → valL xs = valL ys → xs = ys
  | [], [], _, _, _, _, _ => rfl
  | [], y :: ys, _, hy, _, ty, e => by
    have h : IsNat (y :: ys) (valL (y :: ys)) := ⟨hy, ty, rfl⟩
    have g := h.ge (by simp); have := bpow_pos ((y :: ys).length - 1)
    simp only [valL] at e g; omega
  | x :: xs, [], hx, _, tx, _, e => by
    have h : IsNat (x :: xs) (valL (x :: xs)) := ⟨hx, tx, rfl⟩
    have g := h.ge (by simp); have := bpow_pos ((x :: xs).length - 1)
    simp only [valL] at e g; omega
  | x :: xs, y :: ys, hx, hy, tx, ty, e => by
    simp only [valL] at e
    have h1 := hx.head; have h2 := hy.head
    have e1 : x = y := by omega
    have e2 : valL xs = valL ys := by omega
    have t : ∀ {z : Int} {zs : List Int}, ((z :: zs) ≠ [] → (z :: zs)[(z :: zs).length - 1]?.getD 0 ≠ 0) → (zs ≠ [] → zs[zs.length - 1]?.getD 0 ≠ 0) := by
      intro z zs h h0
      have hl : 0 < zs.length := List.length_pos_iff.2 h0
      have := h (by simp)
      rw [List.length_cons, Nat.add_sub_cancel, show zs.length = zs.length - 1 + 1 by omega, List.getElem?_cons_succ] at this
      exact this
    rw [e1, Dig.val_inj hx.tail hy.tail (t tx) (t ty) e2]
theorem IsNat.eq {xs : List Int} {n : Nat} (h : IsNat xs n) : xs = natL n :=
  Dig.val_inj h.dig (natL_is n).dig h.top (natL_is n).top (h.val.trans (natL_is n).val.symm)
theorem natL_le {n k : Nat} (h : (n : Int) < bpow k) : (natL n).length ≤ k := (natL_is n).length_le h

/-- A stage. -/
structure Stg where
  kind : Int
  n0 : Int
  n1 : Int
  n2 : Int
  d0 : Int
  d1 : Int
  d2 : Int
  taps : List Int
  factor : Int
  shift : Int
def inB (n lo hi : Int) : Bool := decide (lo ≤ n) && decide (n ≤ hi)
def termsOk (l : List Int) : Bool := l.all fun x => inB x (-1048576) 1048576
def sumL : List Int → Int
  | [] => 0
  | x :: l => x + sumL l
theorem sumL_snoc (l : List Int) (x : Int) : sumL (l ++ [x]) = sumL l + x := by
  induction l with
  | nil => simp [sumL]
  | cons a l ih => rw [List.cons_append]; simp only [sumL]; omega
theorem sumL_in : ∀ {l : List Int}, termsOk l = true → -(1048576 * (l.length : Int)) ≤ sumL l ∧ sumL l ≤ 1048576 * (l.length : Int)
  | [], _ => by simp [sumL]
  | x :: l, h => by
    simp only [termsOk, List.all_cons, Bool.and_eq_true] at h
    have ih := sumL_in (l := l) h.2
    have : inB x (-1048576) 1048576 = true := h.1
    simp only [inB, Bool.and_eq_true, decide_eq_true_eq] at this
    simp only [sumL, List.length_cons]; omega
def Stg.plain (s : Stg) : Bool := decide (s.taps.length = 0) && decide (s.factor = 0) && decide (s.shift = 0)
def Stg.ok (s : Stg) : Bool :=
  if s.kind = 0 then s.plain && decide (s.n1 = 0) && decide (s.n2 = 0) && decide (s.d1 = 0) && decide (s.d2 = 0) && inB s.n0 1 1048576 && inB s.d0 1 1048576
  else if s.kind = 1 then s.plain && termsOk [s.n0, s.n1, s.n2] && termsOk [s.d0, s.d1, s.d2] && !decide (s.d0 = 0)
  else if s.kind = 2 then decide (s.n0 = 0) && decide (s.n1 = 0) && decide (s.n2 = 0) && decide (s.d0 = 0) && decide (s.d1 = 0) && decide (s.d2 = 0) && inB s.taps.length 1 128 && termsOk s.taps && !decide (sumL s.taps = 0) && inB s.factor 1 64 && inB s.shift 0 40
  else false
/-- The product of the filters' factors stays at most 64. -/
def facOk : Int → List Stg → Bool
  | _, [] => true
  | n, s :: l => if s.kind = 2 then (if 64 < n * s.factor then false else facOk (n * s.factor) l) else facOk n l
def rspOk (l : List Stg) : Bool := decide (l.length ≤ 8) && l.all Stg.ok && facOk 1 l
/-- The same, stage by stage. -/
def rspR : Int → List Stg → Bool
  | _, [] => true
  | n, s :: l => if s.ok then (if s.kind = 2 then (if 64 < n * s.factor then false else rspR (n * s.factor) l) else rspR n l) else false
theorem rspR_eq : ∀ (l : List Stg) (n : Int), rspR n l = (l.all Stg.ok && facOk n l)
  | [], n => rfl
  | s :: l, n => by
    simp only [rspR, facOk, List.all_cons]
    by_cases h : s.ok
    · rw [if_pos h]
      by_cases hk : s.kind = 2
      · rw [if_pos hk, if_pos hk]
        by_cases hf : 64 < n * s.factor
        · rw [if_pos hf, if_pos hf]; simp
        · rw [if_neg hf, if_neg hf, rspR_eq l]; simp [h]
      · rw [if_neg hk, if_neg hk, rspR_eq l]; simp [h]
    · rw [if_neg h]; simp [h]
/-- A square. -/
def sqN (x : Int) : Nat := x.natAbs * x.natAbs
def polN (a b c num den : Int) : Nat := sqN (a * den * den - c * num * num) + sqN (b * num * den)
def Stg.gn (s : Stg) (num den : Int) : Nat := if s.kind = 0 then sqN s.n0 else if s.kind = 1 then polN s.n0 s.n1 s.n2 num den else sqN (sumL s.taps)
def Stg.gd (s : Stg) (num den : Int) : Nat := if s.kind = 0 then sqN s.d0 else if s.kind = 1 then polN s.d0 s.d1 s.d2 num den else sqN (2 ^ s.shift.toNat)
/-- The gain of stages, behind the one so far. -/
def gnL (num den : Int) : List Stg → Nat → Nat → Int × Nat × Nat
  | [], n, d => (0, n, d)
  | s :: l, n, d => if s.gd num den = 0 then (11, 0, 0) else gnL num den l (n * s.gn num den) (d * s.gd num den)
def gainE (l : List Stg) (num den : Int) : Int × Nat × Nat :=
  if rspOk l = false then (1, 0, 0) else if (inB num 0 65536 && inB den 1 65536) = false then (2, 0, 0) else gnL num den l 1 1
theorem abs_mul_le {a b x y : Nat} {m n : Int} (h1 : m.natAbs ≤ a) (h2 : n.natAbs ≤ b) (h : a * b = x) (hy : x ≤ y) : (m * n).natAbs ≤ y := by
  rw [Int.natAbs_mul]
  have := Nat.mul_le_mul h1 h2
  omega
theorem pol_in {a b c num den : Int} (ha : a.natAbs ≤ 1048576) (hb : b.natAbs ≤ 1048576) (hc : c.natAbs ≤ 1048576) (hn : num.natAbs ≤ 65536) (hd : den.natAbs ≤ 65536) :
    (a * den).natAbs ≤ 68719476736 ∧ (a * den * den).natAbs ≤ 4503599627370496 ∧ (c * num).natAbs ≤ 68719476736 ∧ (c * num * num).natAbs ≤ 4503599627370496 ∧ (b * num).natAbs ≤ 68719476736 ∧ (b * num * den).natAbs ≤ 4503599627370496 ∧ (a * den * den - c * num * num).natAbs ≤ 9007199254740992 := by
  have h1 : (a * den).natAbs ≤ 68719476736 := abs_mul_le ha hd rfl (by omega)
  have h2 : (a * den * den).natAbs ≤ 4503599627370496 := abs_mul_le h1 hd rfl (by omega)
  have h3 : (c * num).natAbs ≤ 68719476736 := abs_mul_le hc hn rfl (by omega)
  have h4 : (c * num * num).natAbs ≤ 4503599627370496 := abs_mul_le h3 hn rfl (by omega)
  have h5 : (b * num).natAbs ≤ 68719476736 := abs_mul_le hb hn rfl (by omega)
  have h6 : (b * num * den).natAbs ≤ 4503599627370496 := abs_mul_le h5 hd rfl (by omega)
  exact ⟨h1, h2, h3, h4, h5, h6, by omega⟩
theorem sqN_le {x : Int} {b : Nat} (h : x.natAbs ≤ b) : sqN x ≤ b * b := Nat.mul_le_mul h h
theorem polN_le {a b c num den : Int} (ha : a.natAbs ≤ 1048576) (hb : b.natAbs ≤ 1048576) (hc : c.natAbs ≤ 1048576) (hn : num.natAbs ≤ 65536) (hd : den.natAbs ≤ 65536) : polN a b c num den < 2 ^ 110 := by
  obtain ⟨-, -, -, -, -, h6, h7⟩ := pol_in ha hb hc hn hd
  have h1 := sqN_le h7; have h2 := sqN_le h6
  unfold polN
  have : (9007199254740992 * 9007199254740992 + 4503599627370496 * 4503599627370496 : Nat) < 2 ^ 110 := by decide
  omega
theorem inB_iff {n lo hi : Int} : inB n lo hi = true ↔ lo ≤ n ∧ n ≤ hi := by simp [inB]
theorem termsOk3 {a b c : Int} (h : termsOk [a, b, c] = true) : a.natAbs ≤ 1048576 ∧ b.natAbs ≤ 1048576 ∧ c.natAbs ≤ 1048576 := by
  simp only [termsOk, List.all_cons, List.all_nil, Bool.and_eq_true, inB_iff] at h
  omega
theorem Stg.gn_lt {s : Stg} {num den : Int} (h : s.ok = true) (hn : num.natAbs ≤ 65536) (hd : den.natAbs ≤ 65536) : s.gn num den < 2 ^ 110 ∧ s.gd num den < 2 ^ 110 := by
  unfold Stg.ok at h
  unfold Stg.gn Stg.gd
  by_cases h0 : s.kind = 0
  · rw [if_pos h0] at h ⊢
    rw [if_pos h0]
    simp only [Bool.and_eq_true, inB_iff] at h
    have h1 := sqN_le (x := s.n0) (b := 1048576) (by omega); have h2 := sqN_le (x := s.d0) (b := 1048576) (by omega)
    have : (1048576 * 1048576 : Nat) < 2 ^ 110 := by decide
    omega
  rw [if_neg h0] at h ⊢
  rw [if_neg h0]
  by_cases h1 : s.kind = 1
  · rw [if_pos h1] at h ⊢
    rw [if_pos h1]
    simp only [Bool.and_eq_true] at h
    obtain ⟨a1, a2, a3⟩ := termsOk3 h.1.1.2; obtain ⟨b1, b2, b3⟩ := termsOk3 h.1.2
    exact ⟨polN_le a1 a2 a3 hn hd, polN_le b1 b2 b3 hn hd⟩
  rw [if_neg h1] at h ⊢
  rw [if_neg h1]
  by_cases h2 : s.kind = 2
  · rw [if_pos h2] at h
    simp only [Bool.and_eq_true, inB_iff] at h
    have hs := sumL_in h.1.1.1.2
    have hl := h.1.1.1.1.2
    have a1 := sqN_le (x := sumL s.taps) (b := 134217728) (by omega)
    have hp : (2 : Nat) ^ s.shift.toNat ≤ 2 ^ 40 := Nat.pow_le_pow_right (by omega) (by omega)
    have a2 := sqN_le (x := (2 : Int) ^ s.shift.toNat) (b := 2 ^ 40) (by
      rw [Int.natAbs_pow]; exact hp)
    have : (134217728 * 134217728 : Nat) < 2 ^ 110 := by decide
    have : (2 ^ 40 * 2 ^ 40 : Nat) < 2 ^ 110 := by decide
    omega
  · rw [if_neg h2] at h; cases h
theorem mul_lt_pow {a b k : Nat} (ha : a < 2 ^ k) (hb : b < 2 ^ 110) : a * b < 2 ^ (k + 110) := by
  rw [Nat.pow_add]; exact Nat.mul_lt_mul'' ha hb
theorem bpowN {n k : Nat} (h : n < 2 ^ (30 * k)) : (n : Int) < bpow k := by
  have e : bpow k = ((1073741824 ^ k : Nat) : Int) := by unfold bpow; rw [Int.natCast_pow]; rfl
  rw [Nat.pow_mul] at h
  rw [e]; exact Int.ofNat_lt.2 h
end Go.Proofs.YtmgfdfbhfhmekaaGreat
