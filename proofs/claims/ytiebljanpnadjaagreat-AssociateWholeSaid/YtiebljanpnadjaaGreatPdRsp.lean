/- Nat NatW MagM Rsp Rsp2 NatT NatG Mag Med Net -/
import Derived.ChangeKeysEq
import Derived.BigRegion
import Derived.Sort.OwnSortedInts
import Derived.Test.YtiebljanpnadjaaGreatPdShelf
import Derived.Test.YtiebljanpnadjaaGreatPdTrv
import Derived.Test.YtiebljanpnadjaaGreatPdRgMade
import Derived.Test.YtiebljanpnadjaaGreatPdRefC
import Derived.Test.YtiebljanpnadjaaGreatPdMis
import Derived.Test.YtiebljanpnadjaaGreatPdBase
namespace Go.Proofs.YtiebljanpnadjaaGreat
set_option linter.all false
open Go.RowKit
def bad (x : Int) : Bool := decide (x < 0) || decide (1073741824 ≤ x)
end Go.Proofs.YtiebljanpnadjaaGreat
namespace Go.Proofs.YtiebljanpnadjaaGreat
set_option linter.all false
open Go.RowKit
def slLen : Value → Nat
  | .slice _ n _ => n
  | _ => 0
end Go.Proofs.YtiebljanpnadjaaGreat
namespace Go.Proofs.YtiebljanpnadjaaGreat
set_option linter.all false
/-- A stage. -/
structure Stg where
  kind : Int
  n0 : Int
  n1 : Int
  n2 : Int
  d0 : Int
  d1 : Int
  d2 : Int
  taps : List Int
  factor : Int
  shift : Int
def inB (n lo hi : Int) : Bool := decide (lo ≤ n) && decide (n ≤ hi)
def termsOk (l : List Int) : Bool := l.all fun x => inB x (-1048576) 1048576
def sumL : List Int → Int
  | [] => 0
  | x :: l => x + sumL l
def Stg.plain (s : Stg) : Bool := decide (s.taps.length = 0) && decide (s.factor = 0) && decide (s.shift = 0)
def Stg.ok (s : Stg) : Bool :=
  if s.kind = 0 then s.plain && decide (s.n1 = 0) && decide (s.n2 = 0) && decide (s.d1 = 0) && decide (s.d2 = 0) && inB s.n0 1 1048576 && inB s.d0 1 1048576
  else if s.kind = 1 then s.plain && termsOk [s.n0, s.n1, s.n2] && termsOk [s.d0, s.d1, s.d2] && !decide (s.d0 = 0)
  else if s.kind = 2 then decide (s.n0 = 0) && decide (s.n1 = 0) && decide (s.n2 = 0) && decide (s.d0 = 0) && decide (s.d1 = 0) && decide (s.d2 = 0) && inB s.taps.length 1 128 && termsOk s.taps && !decide (sumL s.taps = 0) && inB s.factor 1 64 && inB s.shift 0 40
  else false
/-- A square. -/
def sqN (x : Int) : Nat := x.natAbs * x.natAbs
def polN (a b c num den : Int) : Nat := sqN (a * den * den - c * num * num) + sqN (b * num * den)
def Stg.gn (s : Stg) (num den : Int) : Nat := if s.kind = 0 then sqN s.n0 else if s.kind = 1 then polN s.n0 s.n1 s.n2 num den else sqN (sumL s.taps)
end Go.Proofs.YtiebljanpnadjaaGreat
namespace Go.Proofs.YtiebljanpnadjaaGreat
set_option linter.all false
open Go.RowKit
/-- A stage, and the value of its taps. -/
structure Stv where
  s : Stg
  tv : Value
def Stv.cells (x : Stv) : List Value := [.int .i64 x.s.kind, .int .i64 x.s.n0, .int .i64 x.s.n1, .int .i64 x.s.n2, .int .i64 x.s.d0, .int .i64 x.s.d1, .int .i64 x.s.d2, x.tv, .int .i64 x.s.factor, .int .i64 x.s.shift]
def flatS (L : List Stv) : List Value := L.flatMap Stv.cells
theorem flatS_at : ∀ (l : List Stv) (i : Nat) (h : i < l.length) (j : Nat), j < 10 → (flatS l)[i * 10 + j]? = (l[i]).cells[j]?
  | a :: l, 0, _, j, hj => by
    have e : flatS (a :: l) = a.cells ++ flatS l := by simp [flatS]
    rw [e, Nat.zero_mul, Nat.zero_add, List.getElem?_append_left (by simp [Stv.cells]; omega)]; rfl
  | a :: l, i + 1, h, j, hj => by
    have e : flatS (a :: l) = a.cells ++ flatS l := by simp [flatS]
    have hl : a.cells.length = 10 := rfl
    rw [e, List.getElem?_append_right (by rw [hl]; omega), hl, show (i + 1) * 10 + j - 10 = i * 10 + j by omega, flatS_at l i (by simpa using h) j hj]; rfl
theorem SlC.st {w : World} {b off : Nat} {l : List Stv} (h : ∀ j u, (flatS l)[j]? = some u → w.cell? ⟨b, off + j, none⟩ = some u) (i : Nat) (hi : i < l.length) :
    w.cell? ⟨b, off + i * 10, none⟩ = some (.int .i64 l[i].s.kind) ∧ w.cell? ⟨b, off + i * 10 + 1, none⟩ = some (.int .i64 l[i].s.n0) ∧ w.cell? ⟨b, off + i * 10 + 2, none⟩ = some (.int .i64 l[i].s.n1) ∧ w.cell? ⟨b, off + i * 10 + 3, none⟩ = some (.int .i64 l[i].s.n2) ∧
    w.cell? ⟨b, off + i * 10 + 4, none⟩ = some (.int .i64 l[i].s.d0) ∧ w.cell? ⟨b, off + i * 10 + 5, none⟩ = some (.int .i64 l[i].s.d1) ∧ w.cell? ⟨b, off + i * 10 + 6, none⟩ = some (.int .i64 l[i].s.d2) ∧ w.cell? ⟨b, off + i * 10 + 7, none⟩ = some l[i].tv ∧ w.cell? ⟨b, off + i * 10 + 8, none⟩ = some (.int .i64 l[i].s.factor) ∧ w.cell? ⟨b, off + i * 10 + 9, none⟩ = some (.int .i64 l[i].s.shift) :=
  ⟨h (i * 10) _ (flatS_at l i hi 0 (by omega)), by rw [Nat.add_assoc]; exact h _ _ (flatS_at l i hi 1 (by omega)), by rw [Nat.add_assoc]; exact h _ _ (flatS_at l i hi 2 (by omega)), by rw [Nat.add_assoc]; exact h _ _ (flatS_at l i hi 3 (by omega)), by rw [Nat.add_assoc]; exact h _ _ (flatS_at l i hi 4 (by omega)), by rw [Nat.add_assoc]; exact h _ _ (flatS_at l i hi 5 (by omega)), by rw [Nat.add_assoc]; exact h _ _ (flatS_at l i hi 6 (by omega)), by rw [Nat.add_assoc]; exact h _ _ (flatS_at l i hi 7 (by omega)), by rw [Nat.add_assoc]; exact h _ _ (flatS_at l i hi 8 (by omega)), by rw [Nat.add_assoc]; exact h _ _ (flatS_at l i hi 9 (by omega))⟩
theorem Tryz.infoIntR : (Tryz.prog.info? 3).map (fun i => (i.zero, i.size, i.bytes)) = some (some (.int .i64 0), 1, 8) := by kernel_rfl
/-- Two arrays of three are equal. -/
def eqA (a b c x y z : Int) : Bool := a == x && b == y && c == z
theorem run_eqA (a b c x y z : Int) (w : World) :
    (binOp .eql 129 (.agg #[.int .i64 a, .int .i64 b, .int .i64 c]) (.agg #[.int .i64 x, .int .i64 y, .int .i64 z])).run Tryz.prog w = .ok (.bool (eqA a b c x y z)) w := by
  have hu : Tryz.prog.underlying 129 = some (.array 3 3) := Tryz.underlying129
  obtain ⟨i, hi, -⟩ := info_parts Tryz.infoIntR
  have hc : Tryz.prog.cellsOf 3 = 1 := by kernel_rfl
  rw [run_eql_struct, show (10000 : Nat) = 9999 + 1 from rfl, run_equalIn_array w 9999 _ _ hu hi, hc, show List.range 3 = [0, 1, 2] from rfl]
  unfold eqA
  by_cases h0 : a = x <;> by_cases h1 : b = y <;> by_cases h2 : c = z <;> simp [Op.eqItems, part, go_sem, h0, h1, h2]
attribute [go_sem high] run_eqA
def Stg.val (s : Stg) (tv : Value) : Value := .agg #[.int .i64 s.kind, .int .i64 s.n0, .int .i64 s.n1, .int .i64 s.n2, .int .i64 s.d0, .int .i64 s.d1, .int .i64 s.d2, tv, .int .i64 s.factor, .int .i64 s.shift]
end Go.Proofs.YtiebljanpnadjaaGreat
namespace Go.Proofs.YtiebljanpnadjaaGreat
set_option linter.all false
open Go.RowKit
theorem SlC.some {k n : Nat} {w : World} {v : Value} {ys : List Value} (h : SlC k w v n ys) (hn : 0 < n) : ∃ b off cap, v = .slice (some ⟨b, off, none⟩) n cap := by
  obtain ⟨b, off, cap, e, -⟩ := h.block hn
  exact ⟨b, off, cap, e⟩
end Go.Proofs.YtiebljanpnadjaaGreat
namespace Go.Proofs.YtiebljanpnadjaaGreat
set_option linter.all false
open Go.RowKit
theorem Sl.setCell {w : World} {v x : Value} {xs : List Int} {r k : Nat} (h : Sl w v xs) (hr : ∀ b off len cap, v = .slice (some ⟨b, off, none⟩) len cap → 0 < len → b ≠ r) : Sl (w.setCell ⟨r, k, none⟩ x) v xs :=
  h.later (row := some r) (gb_setCell (gb_refl _ _) (.inr rfl) _) (fun b off len cap e hl => by simpa using hr b off len cap e hl)
end Go.Proofs.YtiebljanpnadjaaGreat
namespace Go.Proofs.YtiebljanpnadjaaGreat
set_option linter.all false
open Go.RowKit Rg
section
end
theorem Makes.none (k : Nat) (u u' : World) (hg : u.grownBy u' none) : Makes k u u' := hg
end Go.Proofs.YtiebljanpnadjaaGreat
namespace Go.Proofs.YtiebljanpnadjaaGreat
set_option linter.all false
open Go.RowKit Rg
theorem cells5 {w : World} {b : Nat} {x0 x1 x2 x3 x4 : Value} {t : TypeId} {fr : Nat × Nat} (h : w.heap[b]? = some (.cells #[x0, x1, x2, x3, x4] t fr)) :
    w.cell? ⟨b, 0, none⟩ = some x0 ∧ w.cell? ⟨b, 1, none⟩ = some x1 ∧ w.cell? ⟨b, 2, none⟩ = some x2 ∧ w.cell? ⟨b, 3, none⟩ = some x3 ∧ w.cell? ⟨b, 4, none⟩ = some x4 := by simp [World.cell?, h]
end Go.Proofs.YtiebljanpnadjaaGreat
namespace Go.Proofs.YtiebljanpnadjaaGreat
set_option linter.all false
/-- In ascending order. -/
def srt (l : List Int) : List Int := l.mergeSort fun x y => decide (x ≤ y)
theorem srt_perm (l : List Int) : (srt l).Perm l := List.mergeSort_perm _ _
theorem srt_len (l : List Int) : (srt l).length = l.length := (srt_perm l).length_eq
theorem srt_sorted (l : List Int) : (srt l).Pairwise (fun x y => x ≤ y) := by
  have := List.pairwise_mergeSort (le := fun x y : Int => decide (x ≤ y)) (fun a b c h1 h2 => by simp at *; omega) (fun a b => by simp; omega) l
  exact this.imp (fun h => by simpa using h)
/-- Two rows in ascending order of the same numbers are equal. -/
theorem sorted_eq : ∀ {l m : List Int}, l.Pairwise (fun x y => x ≤ y) → m.Pairwise (fun x y => x ≤ y) → l.Perm m → l = m
  | [], m, _, _, h => by simpa using h.symm.eq_nil
  | a :: l, [], _, _, h => by simpa using h.eq_nil
  | a :: l, b :: m, h1, h2, h => by
    rw [List.pairwise_cons] at h1 h2
    have e1 : a ∈ b :: m := h.subset (by simp)
    have e2 : b ∈ a :: l := h.symm.subset (by simp)
    have e : a = b := by
      rcases List.mem_cons.1 e1 with e | e
      · exact e
      rcases List.mem_cons.1 e2 with f | f
      · exact f.symm
      have := h1.1 b f; have := h2.1 a e; omega
    subst e
    rw [sorted_eq h1.2 h2.2 ((List.perm_cons a).1 h)]
theorem srt_of {l m : List Int} (h : m.Pairwise (fun x y => x ≤ y)) (hp : m.Perm l) : srt l = m := sorted_eq (srt_sorted _) h ((srt_perm l).trans hp.symm)
end Go.Proofs.YtiebljanpnadjaaGreat
namespace Go.Proofs.YtiebljanpnadjaaGreat
set_option linter.all false
open Go.RowKit Rg Go.Sort
/-- slices.Sort on a row of the call's own. -/
theorem sort_own (xs : List Int) (B : Nat) (v : Value) (w : World) (hown : w.ownsRow B 3 1 v xs.length (xs.map (Value.int .i64))) (h0 : xs.length ≤ 1000000) :
    Calls Tryz.prog 48 #[v] w fun e w' => e = .returned (.tuple #[]) ∧ w'.ownsRow B 3 1 v xs.length ((srt xs).map (Value.int .i64)) ∧ w.grownBy w' v.ownBlock := by
  have hl : (srt xs).length = xs.length := srt_len xs
  have hown0 := hown
  rcases hown.2 with ⟨rfl, hn⟩ | ⟨g, cap, cur, rfl, hb, hg, h1, h2, h3, h4⟩
  · have e0 : xs = [] := List.length_eq_zero_iff.1 hn
    subst e0
    have := Tryz.slices_Sort_int_none none 0 w
    refine this.mono ?_
    rintro e w' ⟨rfl, rfl⟩
    refine ⟨rfl, ?_, gb_refl _ _⟩
    have e : srt [] = [] := List.length_eq_zero_iff.1 hl
    rw [e]; exact hown0
  · have hH : Holds (Value.int .i64) w g 0 xs.toArray := holds_of_blockI hg (by simpa using h4)
    refine (Tryz.slices_Sort_int g 0 cap xs w hH (Array.getElem?_eq_some_iff.1 hg).1 (by omega)).mono ?_
    rintro e w' ⟨rfl, nn, os, rfl⟩
    exact ⟨rfl, ownsRow_sortedI hl hb hg h1 h2 h3, grownBy_sortedI _⟩
end Go.Proofs.YtiebljanpnadjaaGreat
