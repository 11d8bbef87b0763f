import Derived.ChangeKeysEq
import Derived.Sort.OwnSortedInts
import Derived.Laws.CopyOwn
import Derived.Test.YtiebljanpnadjaaGreatPgRefC
namespace Go.Proofs.YtiebljanpnadjaaGreat
set_option linter.all false
open Go.RowKit
def bad (x : Int) : Bool := decide (x < 0) || decide (1073741824 ≤ x)
def slLen : Value → Nat
 | .slice _ n _ => n
 | _ => 0
structure Stg where
 kind : Int
 n0 : Int
 n1 : Int
 n2 : Int
 d0 : Int
 d1 : Int
 d2 : Int
 taps : List Int
 factor : Int
 shift : Int
def inB (n lo hi : Int) : Bool := decide (lo ≤ n) && decide (n ≤ hi)
def termsOk (l : List Int) : Bool := l.all fun x => inB x (-1048576) 1048576
def sumL : List Int → Int
 | [] => 0
 | x :: l => x + sumL l
def Stg.plain (s : Stg) : Bool := decide (s.taps.length = 0) && decide (s.factor = 0) && decide (s.shift = 0)
def Stg.ok (s : Stg) : Bool :=
 if s.kind = 0 then s.plain && decide (s.n1 = 0) && decide (s.n2 = 0) && decide (s.d1 = 0) && decide (s.d2 = 0) && inB s.n0 1 1048576 && inB s.d0 1 1048576
 else if s.kind = 1 then s.plain && termsOk [s.n0, s.n1, s.n2] && termsOk [s.d0, s.d1, s.d2] && !decide (s.d0 = 0)
 else if s.kind = 2 then decide (s.n0 = 0) && decide (s.n1 = 0) && decide (s.n2 = 0) && decide (s.d0 = 0) && decide (s.d1 = 0) && decide (s.d2 = 0) && inB s.taps.length 1 128 && termsOk s.taps && !decide (sumL s.taps = 0) && inB s.factor 1 64 && inB s.shift 0 40
 else false
def sqN (x : Int) : Nat := x.natAbs * x.natAbs
def polN (a b c num den : Int) : Nat := sqN (a * den * den - c * num * num) + sqN (b * num * den)
def Stg.gn (s : Stg) (num den : Int) : Nat := if s.kind = 0 then sqN s.n0 else if s.kind = 1 then polN s.n0 s.n1 s.n2 num den else sqN (sumL s.taps)
structure Stv where
 s : Stg
 tv : Value
def Stv.cells (x : Stv) : List Value := [.int .i64 x.s.kind, .int .i64 x.s.n0, .int .i64 x.s.n1, .int .i64 x.s.n2, .int .i64 x.s.d0, .int .i64 x.s.d1, .int .i64 x.s.d2, x.tv, .int .i64 x.s.factor, .int .i64 x.s.shift]
def flatS (L : List Stv) : List Value := L.flatMap Stv.cells
theorem flatS_at : ∀ (l : List Stv) (i : Nat) (h : i < l.length) (j : Nat), j < 10 → (flatS l)[i * 10 + j]? = (l[i]).cells[j]?
 | a :: l, 0, _, j, hj => by
  have e : flatS (a :: l) = a.cells ++ flatS l := by simp [flatS]
  rw [e, Nat.zero_mul, Nat.zero_add, List.getElem?_append_left (by simp [Stv.cells]; omega)]; rfl
 | a :: l, i + 1, h, j, hj => by
  have e : flatS (a :: l) = a.cells ++ flatS l := by simp [flatS]
  have hl : a.cells.length = 10 := rfl
  rw [e, List.getElem?_append_right (by rw [hl]; omega), hl, show (i + 1) * 10 + j - 10 = i * 10 + j by omega, flatS_at l i (by simpa using h) j hj]; rfl
theorem SlC.st {w : World} {b off : Nat} {l : List Stv} (h : ∀ j u, (flatS l)[j]? = some u → w.cell? ⟨b, off + j, none⟩ = some u) (i : Nat) (hi : i < l.length) :
  w.cell? ⟨b, off + i * 10, none⟩ = some (.int .i64 l[i].s.kind) ∧ w.cell? ⟨b, off + i * 10 + 1, none⟩ = some (.int .i64 l[i].s.n0) ∧ w.cell? ⟨b, off + i * 10 + 2, none⟩ = some (.int .i64 l[i].s.n1) ∧ w.cell? ⟨b, off + i * 10 + 3, none⟩ = some (.int .i64 l[i].s.n2) ∧
  w.cell? ⟨b, off + i * 10 + 4, none⟩ = some (.int .i64 l[i].s.d0) ∧ w.cell? ⟨b, off + i * 10 + 5, none⟩ = some (.int .i64 l[i].s.d1) ∧ w.cell? ⟨b, off + i * 10 + 6, none⟩ = some (.int .i64 l[i].s.d2) ∧ w.cell? ⟨b, off + i * 10 + 7, none⟩ = some l[i].tv ∧ w.cell? ⟨b, off + i * 10 + 8, none⟩ = some (.int .i64 l[i].s.factor) ∧ w.cell? ⟨b, off + i * 10 + 9, none⟩ = some (.int .i64 l[i].s.shift) :=
 ⟨h (i * 10) _ (flatS_at l i hi 0 (by omega)), by rw [Nat.add_assoc]; exact h _ _ (flatS_at l i hi 1 (by omega)), by rw [Nat.add_assoc]; exact h _ _ (flatS_at l i hi 2 (by omega)), by rw [Nat.add_assoc]; exact h _ _ (flatS_at l i hi 3 (by omega)), by rw [Nat.add_assoc]; exact h _ _ (flatS_at l i hi 4 (by omega)), by rw [Nat.add_assoc]; exact h _ _ (flatS_at l i hi 5 (by omega)), by rw [Nat.add_assoc]; exact h _ _ (flatS_at l i hi 6 (by omega)), by rw [Nat.add_assoc]; exact h _ _ (flatS_at l i hi 7 (by omega)), by rw [Nat.add_assoc]; exact h _ _ (flatS_at l i hi 8 (by omega)), by rw [Nat.add_assoc]; exact h _ _ (flatS_at l i hi 9 (by omega))⟩
theorem Tryz.infoIntR : (Tryz.prog.info? 3).map (fun i => (i.zero, i.size, i.bytes)) = some (some (.int .i64 0), 1, 8) := by kernel_rfl
def eqA (a b c x y z : Int) : Bool := a == x && b == y && c == z
theorem run_eqA (a b c x y z : Int) (w : World) :
  (binOp .eql 129 (.agg #[a, b, c]) (.agg #[x, y, z])).run Tryz.prog w = .ok (.bool (eqA a b c x y z)) w := by
 have hu : Tryz.prog.underlying 129 = some (.array 3 3) := Tryz.underlying129
 obtain ⟨i, hi, -⟩ := info_parts Tryz.infoIntR
 have hc : Tryz.prog.cellsOf 3 = 1 := by kernel_rfl
 rw [run_eql_struct, show (10000 : Nat) = 9999 + 1 from rfl, run_equalIn_array w 9999 _ _ hu hi, hc, show List.range 3 = [0, 1, 2] from rfl]
 unfold eqA
 by_cases h0 : a = x <;> by_cases h1 : b = y <;> by_cases h2 : c = z <;> simp [Op.eqItems, part, go_sem, h0, h1, h2]
attribute [go_sem high] run_eqA
def Stg.val (s : Stg) (tv : Value) : Value := .agg #[.int .i64 s.kind, .int .i64 s.n0, .int .i64 s.n1, .int .i64 s.n2, .int .i64 s.d0, .int .i64 s.d1, .int .i64 s.d2, tv, .int .i64 s.factor, .int .i64 s.shift]
theorem SlC.some {k n : Nat} {w : World} {v : Value} {ys : List Value} (h : SlC k w v n ys) (hn : 0 < n) : ∃ b off cap, v = .slice (some ⟨b, off, none⟩) n cap := by
 obtain ⟨b, off, cap, e, -⟩ := h.block hn
 exact ⟨b, off, cap, e⟩
theorem Sl.setCell {w : World} {v x : Value} {xs : List Int} {r k : Nat} (h : Sl w v xs) (hr : ∀ b off len cap, v = .slice (some ⟨b, off, none⟩) len cap → 0 < len → b ≠ r) : Sl (w.setCell ⟨r, k, none⟩ x) v xs :=
 h.later (row := some r) (gb_setCell (gb_refl _ _) (.inr rfl) _) (fun b off len cap e hl => by simpa using hr b off len cap e hl)
open Go.RowKit Rg
section
end
theorem Makes.none (k : Nat) (u u' : World) (hg : u.grownBy u' none) : Makes k u u' := hg
theorem cells5 {w : World} {b : Nat} {x0 x1 x2 x3 x4 : Value} {t : TypeId} {fr : Nat × Nat} (h : w.heap[b]? = some (.cells #[x0, x1, x2, x3, x4] t fr)) :
  w.cell? ⟨b, 0, none⟩ = some x0 ∧ w.cell? ⟨b, 1, none⟩ = some x1 ∧ w.cell? ⟨b, 2, none⟩ = some x2 ∧ w.cell? ⟨b, 3, none⟩ = some x3 ∧ w.cell? ⟨b, 4, none⟩ = some x4 := by simp [World.cell?, h]
def srt (l : List Int) : List Int := l.mergeSort fun x y => decide (x ≤ y)
theorem srt_perm (l : List Int) : (srt l).Perm l := List.mergeSort_perm _ _
theorem srt_len (l : List Int) : (srt l).length = l.length := (srt_perm l).length_eq
theorem srt_sorted (l : List Int) : (srt l).Pairwise (fun x y => x ≤ y) := by
 have := List.pairwise_mergeSort (le := fun x y : Int => decide (x ≤ y)) (fun a b c h1 h2 => by simp at *; omega) (fun a b => by simp; omega) l
 exact this.imp (fun h => by simpa using h)
theorem sorted_eq : ∀ {l m : List Int}, l.Pairwise (fun x y => x ≤ y) → m.Pairwise (fun x y => x ≤ y) → l.Perm m → l = m
 | [], m, _, _, h => by simpa using h.symm.eq_nil
 | a :: l, [], _, _, h => by simpa using h.eq_nil
 | a :: l, b :: m, h1, h2, h => by
  rw [List.pairwise_cons] at h1 h2
  have e1 : a ∈ b :: m := h.subset (by simp)
  have e2 : b ∈ a :: l := h.symm.subset (by simp)
  have e : a = b := by
   rcases List.mem_cons.1 e1 with e | e
   ·exact e
   rcases List.mem_cons.1 e2 with f | f
   ·exact f.symm
   have := h1.1 b f; have := h2.1 a e; omega
  subst e
  rw [sorted_eq h1.2 h2.2 ((List.perm_cons a).1 h)]
theorem srt_of {l m : List Int} (h : m.Pairwise (fun x y => x ≤ y)) (hp : m.Perm l) : srt l = m := sorted_eq (srt_sorted _) h ((srt_perm l).trans hp.symm)
def insAt (out : List Int) (x : Int) : List Int := out.takeWhile (fun y => decide (y < x)) ++ x :: out.dropWhile (fun y => decide (y < x))
theorem insAt_perm (out : List Int) (x : Int) : (insAt out x).Perm (out ++ [x]) := by
 unfold insAt
 have h : (out ++ [x]).Perm (x :: out) := List.perm_append_comm
 refine List.Perm.trans ?_ h.symm
 refine List.perm_middle.trans ?_
 rw [List.takeWhile_append_dropWhile]
theorem insAt_sorted : ∀ {out : List Int} {x : Int}, out.Pairwise (fun x y => x ≤ y) → (insAt out x).Pairwise (fun x y => x ≤ y)
 | [], x, _ => by simp [insAt]
 | a :: out, x, h => by
  rw [List.pairwise_cons] at h
  unfold insAt
  by_cases ha : a < x
  ·rw [List.takeWhile_cons_of_pos (by simpa using ha), List.dropWhile_cons_of_pos (by simpa using ha), List.cons_append, List.pairwise_cons]
   refine ⟨fun y hy => ?_, insAt_sorted h.2⟩
   have : y ∈ out ++ [x] := (insAt_perm out x).subset hy
   rcases List.mem_append.1 this with hy | hy
   ·exact h.1 y hy
   ·simp at hy; omega
  ·rw [List.takeWhile_cons_of_neg (by simpa using ha), List.dropWhile_cons_of_neg (by simpa using ha), List.nil_append, List.pairwise_cons, List.pairwise_cons]
   refine ⟨fun y hy => ?_, h⟩
   rcases List.mem_cons.1 hy with rfl | hy
   ·omega
   ·have := h.1 y hy; omega
theorem srt_snoc (l : List Int) (x : Int) : srt (l ++ [x]) = insAt (srt l) x :=
 srt_of (insAt_sorted (srt_sorted l)) ((insAt_perm _ _).trans ((srt_perm l).append_right [x]))
open Go.RowKit Rg Go.Sort
theorem sort_own (xs : List Int) (B : Nat) (v : Value) (w : World) (hown : w.ownsRow B 3 1 v xs.length (xs.map (Value.int .i64))) (h0 : xs.length ≤ 1000000) :
  Calls Tryz.prog 48 #[v] w fun e w' => e = .returned (.tuple #[]) ∧ w'.ownsRow B 3 1 v xs.length ((srt xs).map (Value.int .i64)) ∧ w.grownBy w' v.ownBlock := by
 have hl : (srt xs).length = xs.length := srt_len xs
 have hown0 := hown
 rcases hown.2 with ⟨rfl, hn⟩ | ⟨g, cap, cur, rfl, hb, hg, h1, h2, h3, h4⟩
 ·have e0 : xs = [] := List.length_eq_zero_iff.1 hn
  subst e0
  have := Tryz.slices_Sort_int_none none 0 w
  refine this.mono ?_
  rintro e w' ⟨rfl, rfl⟩
  refine ⟨rfl, ?_, gb_refl _ _⟩
  have e : srt [] = [] := List.length_eq_zero_iff.1 hl
  rw [e]; exact hown0
 ·have hH : Holds (Value.int .i64) w g 0 xs.toArray := holds_of_blockI hg (by simpa using h4)
  refine (Tryz.slices_Sort_int g 0 cap xs w hH (Array.getElem?_eq_some_iff.1 hg).1 (by omega)).mono ?_
  rintro e w' ⟨rfl, nn, os, rfl⟩
  exact ⟨rfl, ownsRow_sortedI hl hb hg h1 h2 h3, grownBy_sortedI _⟩
theorem app3 {α : Type} (a b c : List α) (j : Nat) : (a ++ (b ++ c))[j]? = if j < a.length then a[j]? else if j - a.length < b.length then b[j - a.length]? else c[j - a.length - b.length]? := by
 rw [List.getElem?_append, List.getElem?_append]
theorem owns_splice {w : World} {B e g n cap off : Nat} {ys cs : List Value} {cur : Array Value} (hg : w.heap[g]? = some (.cells cur e (0, 0))) (h : w.ownsRow B e 1 (.slice (some ⟨g, 0, none⟩) n cap) n ys) (hf : off + cs.length ≤ n) :
  (w.setRow g (cur.toList.take off ++ (cs ++ cur.toList.drop (off + cs.length))).toArray).ownsRow B e 1 (.slice (some ⟨g, 0, none⟩) n cap) n (ys.take off ++ (cs ++ ys.drop (off + cs.length))) := by
 have hyl := h.1
 rcases h.2 with ⟨e0, -⟩ | ⟨g', cap', cur', e0, hb, hg', hnc, hcm, hcs, ht⟩
 ·cases e0
 simp only [Value.slice.injEq, Option.some.injEq, Addr.mk.injEq, true_and, and_true] at e0
 obtain ⟨rfl, rfl⟩ := e0
 rw [hg] at hg'
 simp only [Option.some.injEq, Obj.cells.injEq, and_true, true_and] at hg'
 subst hg'
 refine ⟨by simp; omega, .inr ⟨g, cap, _, rfl, hb, setRow_heap w g cur _ e _ hg, hnc, hcm, by simp; omega, ?_⟩⟩
 rw [← ht]
 apply List.ext_getElem?
 intro j
 show ((cur.toList.take off ++ (cs ++ cur.toList.drop (off + cs.length))).take (n * 1))[j]? = ((cur.toList.take (n * 1)).take off ++ (cs ++ (cur.toList.take (n * 1)).drop (off + cs.length)))[j]?
 simp only [Nat.mul_one]
 have hl : (cur.toList.take off).length = off := by simp; omega
 have hl2 : ((cur.toList.take n).take off).length = off := by simp; omega
 by_cases hj : j < n
 ·rw [List.getElem?_take_of_lt hj]
  rw [app3, app3, hl, hl2]
  by_cases h1 : j < off
  ·rw [if_pos h1, if_pos h1, List.getElem?_take_of_lt h1, List.getElem?_take_of_lt h1, List.getElem?_take_of_lt hj]
  ·rw [if_neg h1, if_neg h1]
   by_cases h2 : j - off < cs.length
   ·rw [if_pos h2, if_pos h2]
   ·rw [if_neg h2, if_neg h2, List.getElem?_drop, List.getElem?_drop, List.getElem?_take_of_lt (by omega)]
 ·rw [List.getElem?_take_eq_none (by omega), List.getElem?_eq_none (by simp; omega)]
theorem wpList_copyIn {P : Program} {w : World} {ops : Array Oper} {rest : List Oper} {o : Oper} {a : Act} {Q : Exit → Act → World → Prop} (hgd : o.guard = none) (d s : Operand) (dT sT : TypeId)
  (ho : o.op = .call { callee := .builtin .copy, args := #[d, s], argTypes := #[dT, sT] }) (e : TypeId) (hu : P.underlying dT = some (.slice e)) (hsz : (P.info? e).map (·.size) = some 1)
  (B g n cap off so : Nat) (ys : List Value) (hown : w.ownsRow B e 1 (.slice (some ⟨g, 0, none⟩) n cap) n ys) (h1 : ∀ v ∈ ys, v.oneCell' = true)
  (dLen sLen : Nat) (hdl : dLen = n - off) (hsl : sLen = n - so) (dp sp : Option Addr) (dCap sCap : Nat) (hd : a.eval d = .slice dp dLen dCap) (hs : a.eval s = .slice sp sLen sCap) (hdp : off < n → dp = some ⟨g, off, none⟩) (hsp : so < n → sp = some ⟨g, so, none⟩) (hof : so ≤ off) (hon : off ≤ n)
  (h : ∀ w', w'.ownsRow B e 1 (.slice (some ⟨g, 0, none⟩) n cap) n (ys.take off ++ (ys.drop so).take (n - off)) → w.grownBy w' (some g) → wpList P ops Q rest (a.put o.dst (goInt ((n - off : Nat) : Int))) w') : wpList P ops Q (o :: rest) a w := by
 subst hdl; subst hsl
 have hyl : ys.length = n := by have := hown.1; omega
 by_cases h0 : n - off = 0
 ·refine wpList_copy_nothing hgd d s dT sT ho e hu hsz dp sp (n - off) dCap (n - so) sCap hd hs (by rw [h0]; exact Nat.min_zero _) ?_
  have := h w (by rw [h0, List.take_zero, List.append_nil, List.take_of_length_le (by omega)]; exact hown) (gb_refl _ _)
  rw [h0] at this
  exact this
 ·obtain rfl := hdp (by omega)
  obtain rfl := hsp (by omega)
  have hcl : ((ys.drop so).take (n - off)).length = n - off := by simp; omega
  rcases hown.2 with ⟨e0, -⟩ | ⟨g', cap', cur, e0, hb, hg, hnc, hcm, hcs, ht⟩
  ·cases e0
  simp only [Value.slice.injEq, Option.some.injEq, Addr.mk.injEq, true_and, and_true] at e0
  obtain ⟨rfl, rfl⟩ := e0
  refine wpList_copy_own hgd d s dT sT ho e hu hsz g off (n - off) dCap ⟨g, so, none⟩ (n - so) sCap hd hs cur e hg ((ys.drop so).take (n - off)) (by rw [hcl]; exact (Nat.min_eq_right (by omega)).symm) (fun j v hj => ?_) (by omega) (fun v hv => h1 v (List.mem_of_mem_drop (List.mem_of_mem_take hv))) ?_
  ·have hj2 : j < n - off := by have := (List.getElem?_eq_some_iff.1 hj).1; omega
   rw [List.getElem?_take_of_lt hj2, List.getElem?_drop] at hj
   have := hown.cells (g := g) rfl (so + j) v hj
   have e1 : (⟨g, so, none⟩ : Addr).add j = (⟨g, 0, none⟩ : Addr).add (so + j) := by rw [Addr.add_lit, Addr.add_lit, Nat.zero_add]
   rw [e1]; exact this
  ·have := owns_splice (cs := (ys.drop so).take (n - off)) (off := off) hg hown (by omega)
   rw [hcl, show off + (n - off) = n by omega, List.drop_of_length_le (by omega : ys.length ≤ n), List.append_nil] at this
   rw [hcl, show off + (n - off) = n by omega]
   refine h _ ?_ ⟨rfl, rfl, rfl, by simp [World.setRow], fun i hi hr => setRow_other w g i _ (fun e => hr (by rw [e]))⟩
   simpa using this
theorem ins_row (R : List Int) (x : Int) (k : Nat) (hk : k ≤ R.length) : (((R ++ [0]).take (k + 1)) ++ ((R ++ [0]).drop k).take (R.length - k)).set k x = R.take k ++ x :: R.drop k := by
 have h1 : (R ++ [0]).drop k = R.drop k ++ [0] := List.drop_append_of_le_length hk
 have h2 : (R.drop k ++ [0]).take (R.length - k) = R.drop k := List.take_left' (by simp)
 have hlt : k < (R ++ [0]).length := by simp; omega
 have h3 : (R ++ [0]).take (k + 1) = R.take k ++ [(R ++ [0])[k]] := by
  rw [List.take_succ_eq_append_getElem hlt, List.take_append_of_le_length hk]
 rw [h1, h2, h3, List.append_assoc, List.set_append_right _ _ (by simp; omega)]
 have h4 : (R.take k).length = k := by simp; omega
 rw [h4, Nat.sub_self]
 rfl
theorem ins_cells (R : List Int) (x : Int) (k : Nat) (hk : k ≤ R.length) :
  ((((R ++ [0]).map (Value.int .i64)).take (k + 1) ++ (((R ++ [0]).map (Value.int .i64)).drop k).take (R.length + 1 - (k + 1))).set k (Value.int .i64 x)) = ((R.take k ++ x :: R.drop k).map (Value.int .i64)) := by
 have h := ins_row R x k hk
 generalize R ++ [0] = S at *
 rw [← h, show R.length + 1 - (k + 1) = R.length - k by omega, ← List.map_take, ← List.map_drop, ← List.map_take, ← List.map_append, ← List.map_set]
theorem takeWhile_at {p : Int → Bool} : ∀ {l : List Int} {k : Nat}, k ≤ (l.takeWhile p).length → ∀ (hk : k < l.length), (k < (l.takeWhile p).length ↔ p l[k] = true)
 | a :: l, 0, _, _ => by
  by_cases h : p a <;> simp [List.takeWhile_cons, h]
 | a :: l, k + 1, hle, hk => by
  by_cases h : p a
  ·rw [List.takeWhile_cons_of_pos h] at hle ⊢
   simp only [List.length_cons, List.getElem_cons_succ] at hle ⊢
   rw [← takeWhile_at (l := l) (by omega) (by simpa using hk)]
   omega
  ·rw [List.takeWhile_cons_of_neg h] at hle; simp at hle
theorem insAt_split (l : List Int) (x : Int) (k : Nat) (hk : k = (l.takeWhile (fun y => decide (y < x))).length) : insAt l x = l.take k ++ x :: l.drop k := by
 subst hk
 unfold insAt
 have e : l.take (l.takeWhile (fun y => decide (y < x))).length = l.takeWhile (fun y => decide (y < x)) ∧ l.drop (l.takeWhile (fun y => decide (y < x))).length = l.dropWhile (fun y => decide (y < x)) := by
  have h := List.takeWhile_append_dropWhile (p := fun y => decide (y < x)) (l := l)
  constructor
  ·conv => lhs; rw [← h]
   rw [List.takeWhile_append_dropWhile, ]
   conv => lhs; arg 2; rw [← h]
   rw [List.take_left]
  ·conv => lhs; arg 2; rw [← h]
   rw [List.drop_left]
 rw [e.1, e.2]
def Sorted32 (xs : List Int) (w : World) (e : Ending) (w' : World) : Prop := ∃ v, e = .returned v ∧ w'.ownsRow w.heap.size 3 1 v xs.length ((srt xs).map (Value.int .i64)) ∧ w.grownBy w' none
theorem Tryz.infoIntC : (Tryz.prog.info? 3).map (fun i => (i.zero, i.size, i.bytes)) = some (some (.int .i64 0), 1, 8) := by kernel_rfl
theorem Tryz.infoIntS : (Tryz.prog.info? 3).map (·.size) = some 1 := by kernel_rfl
end Go.Proofs.YtiebljanpnadjaaGreat
