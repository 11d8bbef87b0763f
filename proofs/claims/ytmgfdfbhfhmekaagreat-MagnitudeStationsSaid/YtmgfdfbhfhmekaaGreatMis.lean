/- Layer 27: problems in memory; Residual, Cost. -/
import Derived.Test.YtmgfdfbhfhmekaaGreatBnd
import Derived.Test.YtmgfdfbhfhmekaaGreatBase
import Derived.Test.YtmgfdfbhfhmekaaGreatMem
import Derived.OwnWalk
namespace Go.Proofs.YtmgfdfbhfhmekaaGreat
set_option linter.all false
section LMisA
section LMisA
open Go.RowKit Rg

structure Ph where
  x : Int
  y : Int
  z : Int
  e : Int
  l : Int
  n : Int
deriving Inhabited
structure Zn where
  f : Int
  t : Int
deriving Inhabited
def Ph.cells (a : Ph) : List Value := [.int .i64 a.x, .int .i64 a.y, .int .i64 a.z, .int .i64 a.e, .int .i64 a.l, .int .i64 a.n]
def Zn.cells (z : Zn) : List Value := [.int .i64 z.f, .int .i64 z.t]
def flatP (l : List Ph) : List Value := l.flatMap Ph.cells
def flatZ (l : List Zn) : List Value := l.flatMap Zn.cells

/-- v reads as a row of n elements of k cells each, whose cells are ys. -/
def SlC (k : Nat) (w : World) (v : Value) (n : Nat) (ys : List Value) : Prop :=
  ys.length = n * k ∧ ((n = 0 ∧ ∃ a cap, v = .slice a 0 cap) ∨
  ∃ b off cap, v = .slice (some ⟨b, off, none⟩) n cap ∧ b < w.heap.size ∧ n ≤ cap ∧ cap ≤ 9223372036854775807 ∧ ∀ j u, ys[j]? = some u → w.cell? ⟨b, off + j, none⟩ = some u)
theorem SlC.after {k n : Nat} {w w' : World} {v : Value} {ys : List Value} (h : SlC k w v n ys) (hg : w.grownBy w' none) : SlC k w' v n ys := by
  refine ⟨h.1, h.2.imp id ?_⟩
  rintro ⟨b, off, cap, e, hb, h1, h2, h3⟩
  exact ⟨b, off, cap, e, Nat.lt_of_lt_of_le hb hg.size, h1, h2, fun j u hj => (gb_cell hg hb (by simp)).trans (h3 j u hj)⟩
theorem SlC.draw {k n p : Nat} {w w' : World} {v : Value} {ys : List Value} (h : SlC k w v n ys) (hg : w.grownBy w' (some p)) (hp : ∀ b off len cap, v = .slice (some ⟨b, off, none⟩) len cap → 0 < len → b ≠ p) : SlC k w' v n ys := by
  refine ⟨h.1, ?_⟩
  rcases h.2 with h0 | ⟨b, off, cap, e, hb, h1, h2, h3⟩
  · exact .inl h0
  · by_cases hn : 0 < n
    · exact .inr ⟨b, off, cap, e, Nat.lt_of_lt_of_le hb hg.size, h1, h2, fun j u hj => (gb_cell hg hb (by simpa using hp _ _ _ _ e hn)).trans (h3 j u hj)⟩
    · exact .inl ⟨by omega, _, _, by rw [e, show n = 0 by omega]⟩
theorem SlC.slice {k n : Nat} {w : World} {v : Value} {ys : List Value} (h : SlC k w v n ys) : ∃ a c, v = .slice a n c := by
  rcases h.2 with ⟨rfl, a, c, rfl⟩ | ⟨b, off, cap, rfl, _⟩ <;> exact ⟨_, _, rfl⟩
theorem SlC.block {k n : Nat} {w : World} {v : Value} {ys : List Value} (h : SlC k w v n ys) (hn : 0 < n) : ∃ b off cap, v = .slice (some ⟨b, off, none⟩) n cap ∧ b < w.heap.size ∧ n ≤ cap ∧ cap ≤ 9223372036854775807 ∧ ∀ j u, ys[j]? = some u → w.cell? ⟨b, off + j, none⟩ = some u := by
  rcases h.2 with ⟨rfl, _⟩ | h
  · omega
  · exact h
theorem SlC.of_owns {w : World} {base : Nat} {E : TypeId} {k n : Nat} {v : Value} {ys : List Value} (h : w.ownsRow base E k v n ys) : SlC k w v n ys := by
  refine ⟨h.1, ?_⟩
  rcases h.2 with ⟨rfl, rfl⟩ | ⟨g, cap, cur, rfl, hb, hg, hle, hcap, _, _⟩
  · exact .inl ⟨rfl, _, _, rfl⟩
  · refine .inr ⟨g, 0, cap, rfl, (Array.getElem?_eq_some_iff.1 hg).1, hle, by unfold maxLen at hcap; exact hcap, fun j u hj => ?_⟩
    have := h.cells (g := g) rfl j u hj
    rw [← this]; congr 1
    unfold Addr.add; split <;> simp_all
theorem flatP_length (l : List Ph) : (flatP l).length = l.length * 6 := by
  induction l with
  | nil => rfl
  | cons a l ih => simp only [flatP, List.flatMap_cons, List.length_append] at *; rw [ih]; simp [Ph.cells]; omega
theorem flatZ_length (l : List Zn) : (flatZ l).length = l.length * 2 := by
  induction l with
  | nil => rfl
  | cons a l ih => simp only [flatZ, List.flatMap_cons, List.length_append] at *; rw [ih]; simp [Zn.cells]; omega
theorem flatP_at : ∀ (l : List Ph) (i : Nat) (h : i < l.length) (j : Nat), j < 6 → (flatP l)[i * 6 + j]? = (l[i]).cells[j]?
  | a :: l, 0, _, j, hj => by
    have e : flatP (a :: l) = a.cells ++ flatP l := by simp [flatP]
    rw [e, Nat.zero_mul, Nat.zero_add, List.getElem?_append_left (by simp [Ph.cells]; omega)]; rfl
  | a :: l, i + 1, h, j, hj => by
    have e : flatP (a :: l) = a.cells ++ flatP l := by simp [flatP]
    have hl : a.cells.length = 6 := rfl
    rw [e, List.getElem?_append_right (by rw [hl]; omega), hl, show (i + 1) * 6 + j - 6 = i * 6 + j by omega, flatP_at l i (by simpa using h) j hj]; rfl
theorem flatZ_at : ∀ (l : List Zn) (i : Nat) (h : i < l.length) (j : Nat), j < 2 → (flatZ l)[i * 2 + j]? = (l[i]).cells[j]?
  | a :: l, 0, _, j, hj => by
    have e : flatZ (a :: l) = a.cells ++ flatZ l := by simp [flatZ]
    rw [e, Nat.zero_mul, Nat.zero_add, List.getElem?_append_left (by simp [Zn.cells]; omega)]; rfl
  | a :: l, i + 1, h, j, hj => by
    have e : flatZ (a :: l) = a.cells ++ flatZ l := by simp [flatZ]
    have hl : a.cells.length = 2 := rfl
    rw [e, List.getElem?_append_right (by rw [hl]; omega), hl, show (i + 1) * 2 + j - 2 = i * 2 + j by omega, flatZ_at l i (by simpa using h) j hj]; rfl
/-- The cells of an element. -/
theorem SlC.ph {w : World} {b off : Nat} {l : List Ph} (h : ∀ j u, (flatP l)[j]? = some u → w.cell? ⟨b, off + j, none⟩ = some u) (i : Nat) (hi : i < l.length) :
    w.cell? ⟨b, off + i * 6, none⟩ = some (.int .i64 l[i].x) ∧ w.cell? ⟨b, off + i * 6 + 1, none⟩ = some (.int .i64 l[i].y) ∧ w.cell? ⟨b, off + i * 6 + 2, none⟩ = some (.int .i64 l[i].z) ∧ w.cell? ⟨b, off + i * 6 + 3, none⟩ = some (.int .i64 l[i].e) ∧ w.cell? ⟨b, off + i * 6 + 4, none⟩ = some (.int .i64 l[i].l) ∧ w.cell? ⟨b, off + i * 6 + 5, none⟩ = some (.int .i64 l[i].n) :=
  ⟨h (i * 6) _ (flatP_at l i hi 0 (by omega)), by rw [Nat.add_assoc]; exact h _ _ (flatP_at l i hi 1 (by omega)), by rw [Nat.add_assoc]; exact h _ _ (flatP_at l i hi 2 (by omega)), by rw [Nat.add_assoc]; exact h _ _ (flatP_at l i hi 3 (by omega)), by rw [Nat.add_assoc]; exact h _ _ (flatP_at l i hi 4 (by omega)), by rw [Nat.add_assoc]; exact h _ _ (flatP_at l i hi 5 (by omega))⟩
theorem SlC.zn {w : World} {b off : Nat} {l : List Zn} (h : ∀ j u, (flatZ l)[j]? = some u → w.cell? ⟨b, off + j, none⟩ = some u) (i : Nat) (hi : i < l.length) :
    w.cell? ⟨b, off + i * 2, none⟩ = some (.int .i64 l[i].f) ∧ w.cell? ⟨b, off + i * 2 + 1, none⟩ = some (.int .i64 l[i].t) :=
  ⟨h (i * 2) _ (flatZ_at l i hi 0 (by omega)), by rw [Nat.add_assoc]; exact h _ _ (flatZ_at l i hi 1 (by omega))⟩

/-- A problem: its region, its table, its phases, its cap. -/
structure Prob where
  x0 : Int
  y0 : Int
  z0 : Int
  x1 : Int
  y1 : Int
  z1 : Int
  step : Int
  ls : List Int
  hs : List Int
  phs : List Ph
  cap : Int
def Prob.val (P : Prob) (vl vh vp : Value) : Array Value := #[.int .i64 P.x0, .int .i64 P.y0, .int .i64 P.z0, .int .i64 P.x1, .int .i64 P.y1, .int .i64 P.z1, .int .i64 P.step, vl, vh, vp, .int .i64 P.cap]
/-- What a problem's value points at. -/
structure ProbIn (P : Prob) (vl vh vp : Value) (w : World) : Prop where
  l : Sl w vl P.ls
  h : Sl w vh P.hs
  p : SlC 6 w vp P.phs.length (flatP P.phs)
theorem ProbIn.after {P : Prob} {vl vh vp : Value} {w w' : World} (h : ProbIn P vl vh vp w) (hg : w.grownBy w' none) : ProbIn P vl vh vp w' := ⟨h.l.after hg, h.h.after hg, h.p.after hg⟩

/-- The distance of a time to a zone. -/
def resid (z : Zn) (t : Int) : Int := max (max (z.f - t) (t - z.t)) 0
/-- One phase's part of the cost. -/
def term (cap : Int) (phs : List Ph) (zs : List Zn) (t : Int) (i : Nat) : Int := if i < zs.length then (phs[i]?.getD default).n * min cap (resid (zs[i]?.getD default) t) else 0
def costN (cap : Int) (phs : List Ph) (zs : List Zn) (t : Int) : Nat → Int
  | 0 => 0
  | k + 1 => costN cap phs zs t k + term cap phs zs t k
def cost (cap : Int) (phs : List Ph) (zs : List Zn) (t : Int) : Int := costN cap phs zs t phs.length
/-- Bounds under which no sum overflows. -/
def Tame (z : Zn) : Prop := (-72057594037927936 ≤ z.f ∧ z.f ≤ 72057594037927936) ∧ (-72057594037927936 ≤ z.t ∧ z.t ≤ 72057594037927936)
structure Fair (cap : Int) (phs : List Ph) (zs : List Zn) : Prop where
  cap : 0 ≤ cap ∧ cap ≤ 1099511627776
  few : phs.length ≤ 70
  wt : ∀ i, i < phs.length → 0 ≤ (phs[i]?.getD default).n ∧ (phs[i]?.getD default).n ≤ 100
  tame : ∀ i, i < zs.length → Tame (zs[i]?.getD default)
theorem resid_nn (z : Zn) (t : Int) : 0 ≤ resid z t := by unfold resid; omega
theorem Fair.term_in {cap : Int} {phs : List Ph} {zs : List Zn} (h : Fair cap phs zs) (t : Int) {i : Nat} (hi : i < phs.length) : 0 ≤ term cap phs zs t i ∧ term cap phs zs t i ≤ 109951162777600 := by
  unfold term; split
  · obtain ⟨w1, w2⟩ := h.wt i hi
    have r := resid_nn (zs[i]?.getD default) t
    have c := h.cap
    generalize (phs[i]?.getD default).n = n at *
    generalize resid (zs[i]?.getD default) t = q at *
    have m1 : 0 ≤ min cap q := by omega
    have m2 : min cap q ≤ 1099511627776 := by omega
    generalize min cap q = m at *
    have a := Int.mul_nonneg w1 m1
    have b := Int.mul_le_mul w2 m2 m1 (by omega)
    exact ⟨a, by omega⟩
  · omega
theorem Fair.costN_in {cap : Int} {phs : List Ph} {zs : List Zn} (h : Fair cap phs zs) (t : Int) : ∀ k, k ≤ phs.length → 0 ≤ costN cap phs zs t k ∧ costN cap phs zs t k ≤ 109951162777600 * k
  | 0, _ => by simp [costN]
  | k + 1, hk => by
    have a := Fair.costN_in h t k (by omega); have b := h.term_in t (i := k) (by omega)
    simp only [costN]
    push_cast
    omega
end LMisA
section LMisB
open Go.RowKit Rg

/-- The times of a list of zones, in order. -/
def timesOf (zs : List Zn) : List Int := zs.flatMap fun z => [z.f, z.t]
/-- The better one of two times. -/
def better (cap : Int) (phs : List Ph) (zs : List Zn) (b : Int × Int) (t : Int) : Int × Int :=
  if cost cap phs zs t < b.2 ∨ (cost cap phs zs t = b.2 ∧ t < b.1) then (t, cost cap phs zs t) else b
def bestOf (cap : Int) (phs : List Ph) (zs : List Zn) : List Int → Int × Int
  | [] => (0, 0)
  | t :: ts => ts.foldl (better cap phs zs) (t, cost cap phs zs t)
def best (cap : Int) (phs : List Ph) (zs : List Zn) : Int × Int := bestOf cap phs zs (timesOf zs)
theorem timesOf_length (zs : List Zn) : (timesOf zs).length = 2 * zs.length := by
  induction zs with
  | nil => rfl
  | cons z zs ih => simp only [timesOf, List.flatMap_cons, List.length_append, List.length_cons] at *; rw [ih]; simp; omega
theorem timesOf_take (zs : List Zn) (k : Nat) (h : k < zs.length) : timesOf (zs.take (k + 1)) = timesOf (zs.take k) ++ [zs[k].f, zs[k].t] := by
  unfold timesOf
  rw [List.take_succ_eq_append_getElem h, List.flatMap_append]; rfl
theorem mem_timesOf {zs : List Zn} {t : Int} : t ∈ timesOf zs ↔ ∃ z ∈ zs, t = z.f ∨ t = z.t := by
  simp [timesOf]
end LMisB
section LMisC
open Go.RowKit Rg

/-- append(s, x1, .., xm), the new elements in a block of their own. -/
theorem wpList_pushes {P : Program} {w : World} {ops : Array Oper} {rest : List Oper} {o : Oper} {a : Act} {Q : Exit → Act → World → Prop} (hgd : o.guard = none) (s x : Operand) (t : TypeId)
    (ho : o.op = .call { callee := .builtin .append, args := #[s, x], argTypes := #[t, t] })
    (base : Nat) (e : TypeId) (z : Value) (size bytes : Nat) (ht : P.underlying t = some (.slice e)) (hinfo : (P.info? e).map (fun i => (i.zero, i.size, i.bytes)) = some (some z, size, bytes)) (hzs : z.cells.size = size) (hsz : 0 < size) (hby : 0 < bytes)
    (v : Value) (n : Nat) (xs : List Value) (hs : a.eval s = v) (hown : w.ownsRow base e size v n xs)
    (b m c : Nat) (news : List Value) (e' : TypeId) (hx : a.eval x = .slice (some ⟨b, 0, none⟩) m c) (hblk : w.heap[b]? = some (.cells news.toArray e' (0, 0))) (hl : news.length = m * size) (h1 : ∀ u ∈ news, u.oneCell' = true)
    (hbytes : (n + m) * bytes ≤ 140737488355328) (hbase : base ≤ w.heap.size)
    (h : ∀ v' w', w'.ownsRow base e size v' (n + m) (xs ++ news) → w.grownBy w' v.ownBlock → wpList P ops Q rest (a.put o.dst v') w') : wpList P ops Q (o :: rest) a w := by
  obtain ⟨i0, hi, hz0, hz1, hz2⟩ := info_parts hinfo
  refine wpList_append_own w hgd s x t ho base e i0 z size bytes ht hi hz0 hz1 hz2 hzs hsz v n xs hs hown ⟨b, 0, none⟩ m c news hx hl ?_ h1 ?_ hbytes hbase (fun v' w' h2 h3 _ => h v' w' h2 h3)
  · intro j u hj
    have hadd : (⟨b, 0, none⟩ : Addr).add j = ⟨b, j, none⟩ := by unfold Addr.add; split <;> simp_all
    rw [hadd]
    simp [World.cell?, hblk]
    exact hj
  · have := Nat.le_mul_of_pos_right (n + m) hby
    unfold maxLen; omega
/-- make([]T, 0, n). -/
theorem wpList_makes {P : Program} {w : World} {ops : Array Oper} {rest : List Oper} {o : Oper} {a : Act} {Q : Exit → Act → World → Prop} (hg : o.guard = none) (l c : Operand) (t : TypeId) (hop : o.op = Op.makeSlice t l c)
    (base : Nat) (e : TypeId) (z : Value) (size bytes : Nat) (h1 : P.underlying t = some (.slice e)) (hinfo : (P.info? e).map (fun i => (i.zero, i.size, i.bytes)) = some (some z, size, bytes))
    (C : Int) (n : Nat) (hl : a.eval l = .int .i64 0) (hc : a.eval c = .int .i64 C) (hC : C = (n : Int)) (b2 : bytes * n ≤ 140737488355328) (b3 : n ≤ 1000000) (b4 : base ≤ w.heap.size)
    (hK : ∀ w', w'.ownsRow base e size (.slice (some ⟨w.heap.size, 0, none⟩) 0 n) 0 [] → w.grownBy w' none → wpList P ops Q rest (a.put o.dst (.slice (some ⟨w.heap.size, 0, none⟩) 0 n)) w') :
    wpList P ops Q (o :: rest) a w := by
  obtain ⟨i0, hi, hz0, hz1, hz2⟩ := info_parts hinfo
  subst hz2
  exact wpList_make_own w hg l c t hop base e i0 z size h1 hi hz0 hz1 .i64 .i64 C n hl hc hC (by omega) (by unfold maxLen; omega) b4 hK

theorem owns_ints {w : World} {base : Nat} {E : TypeId} {g n cap : Nat} {xs : List Int} (h : w.ownsRow base E 1 (.slice (some ⟨g, 0, none⟩) n cap) n (xs.map (Value.int .i64))) (j : Nat) (hj : j < xs.length) : w.cell? ⟨g, j, none⟩ = some (.int .i64 (xs[j]?.getD 0)) := by
  have := h.cells (g := g) rfl j (.int .i64 (xs[j]?.getD 0)) (by simp [List.getElem?_map, List.getElem?_eq_getElem hj])
  rw [← this]; congr 1
  unfold Addr.add; split <;> simp_all
/-- Times of zones that are tame. -/
theorem timesOf_at {zs : List Zn} (h : ∀ i, i < zs.length → Tame (zs[i]?.getD default)) {t : Int} (ht : t ∈ timesOf zs) : -72057594037927936 ≤ t ∧ t ≤ 72057594037927936 := by
  obtain ⟨z, hz, e⟩ := mem_timesOf.1 ht
  obtain ⟨i, hi, rfl⟩ := List.getElem_of_mem hz
  have hh := h i hi
  rw [show zs[i]?.getD default = zs[i] by simp [hi]] at hh
  rcases e with rfl | rfl
  · exact hh.1
  · exact hh.2

end LMisC
end LMisA
section LMisD
section LMisD
open Go.RowKit Rg

theorem cell_of {u : World} {b : Nat} {cs : Array Value} {T : TypeId} {fr : Nat × Nat} (h : u.heap[b]? = some (.cells cs T fr)) (k : Nat) (v : Value) (hk : cs[k]? = some v) : u.cell? ⟨b, k, none⟩ = some v := by simpa [World.cell?, h] using hk
/-- The first error of a list of phases. -/
def errOf (g : Ph → Int) : List Ph → Int
  | [] => 0
  | a :: l => if g a = 0 then errOf g l else g a
theorem errOf_zero {g : Ph → Int} : ∀ {l : List Ph}, errOf g l = 0 ↔ ∀ a ∈ l, g a = 0
  | [] => by simp [errOf]
  | a :: l => by
    unfold errOf
    split
    · rename_i h; rw [errOf_zero (l := l)]; simp [h]
    · rename_i h; simp [h]
theorem errOf_first {g : Ph → Int} : ∀ (l : List Ph) (k : Nat) (hk : k < l.length), (∀ a ∈ l.take k, g a = 0) → g l[k] ≠ 0 → errOf g l = g l[k]
  | a :: l, 0, _, _, h => by unfold errOf; exact if_neg h
  | a :: l, k + 1, hk, h0, h => by
    unfold errOf
    rw [if_pos (h0 a (by simp))]
    exact errOf_first l k (by simpa using hk) (fun b hb => h0 b (by simp [hb])) h
def zoneOf (step : Int) (ls hs : List Int) (b0 b1 b2 b3 b4 b5 : Int) (a : Ph) : Zn := ⟨znF step ls hs b0 b1 b2 b3 b4 b5 a.x a.y a.z a.e a.l a.n, znT step ls hs b0 b1 b2 b3 b4 b5 a.x a.y a.z a.e a.l a.n⟩
def zoneE (step : Int) (ls hs : List Int) (b0 b1 b2 b3 b4 b5 : Int) (a : Ph) : Int := znE step ls hs b0 b1 b2 b3 b4 b5 a.x a.y a.z a.e a.l a.n
theorem znV_is (step : Int) (ls hs : List Int) (b0 b1 b2 b3 b4 b5 : Int) (a : Ph) : znV step ls hs b0 b1 b2 b3 b4 b5 a.x a.y a.z a.e a.l a.n = .tuple #[.agg #[.int .i64 (zoneOf step ls hs b0 b1 b2 b3 b4 b5 a).f, .int .i64 (zoneOf step ls hs b0 b1 b2 b3 b4 b5 a).t], .int .i64 (zoneE step ls hs b0 b1 b2 b3 b4 b5 a)] := rfl

/-- What zones returns. -/
def Zoned (w : World) (E : Int) (zs : List Zn) (e : Ending) (w' : World) : Prop :=
  (E = 0 ∧ ∃ v, e = .returned (.tuple #[v, .int .i64 0]) ∧ SlC 2 w' v zs.length (flatZ zs) ∧ (∀ b off len cap, v = .slice (some ⟨b, off, none⟩) len cap → w.heap.size ≤ b) ∧ w.grownBy w' none) ∨
  (E ≠ 0 ∧ e = .returned (.tuple #[.slice none 0 0, .int .i64 E]) ∧ w.grownBy w' none)
end LMisD
section LMisE
open Go.RowKit Rg

def valE (P : Prob) : Int :=
  if bP P.x0 P.y0 P.z0 P.x1 P.y1 P.z1 then (if tOk P.step P.ls P.hs then (if P.phs.length = 0 then 24 else if 64 < P.phs.length then 8 else if P.cap < 1 ∨ 1099511627776 < P.cap then 2 else errOf (zoneE P.step P.ls P.hs P.x0 P.y0 P.z0 P.x1 P.y1 P.z1) P.phs) else 21) else 20
structure Sound (P : Prob) : Prop where
  vb : bP P.x0 P.y0 P.z0 P.x1 P.y1 P.z1 = true
  ok : tOk P.step P.ls P.hs
  some : 0 < P.phs.length ∧ P.phs.length ≤ 64
  cap : 1 ≤ P.cap ∧ P.cap ≤ 1099511627776
  ph : ∀ a ∈ P.phs, zoneE P.step P.ls P.hs P.x0 P.y0 P.z0 P.x1 P.y1 P.z1 a = 0
theorem tE_ne {step : Int} {ls hs : List Int} (h : ¬ tOk step ls hs) : tE step ls hs = 21 := (tE_bad h).symm
theorem errOf_nn {g : Ph → Int} {l : List Ph} (h : errOf g l ≠ 0) : ∃ a ∈ l, errOf g l = g a := by
  induction l with
  | nil => simp [errOf] at h
  | cons a l ih =>
    unfold errOf at h ⊢
    by_cases e : g a = 0
    · rw [if_pos e] at h ⊢
      obtain ⟨b, hb, h2⟩ := ih h
      exact ⟨b, by simp [hb], h2⟩
    · rw [if_neg e]; exact ⟨a, by simp, rfl⟩
theorem sound_iff {P : Prob} : valE P = 0 ↔ Sound P := by
  constructor
  · intro h
    unfold valE at h
    split at h
    · rename_i h1
      split at h
      · rename_i h2
        split at h
        · omega
        · split at h
          · omega
          · split at h
            · omega
            · exact ⟨h1, h2, by omega, by omega, errOf_zero.1 h⟩
      · omega
    · omega
  · rintro ⟨h1, h2, h3, h4, h5⟩
    unfold valE
    rw [if_pos h1, if_pos h2, if_neg (by omega), if_neg (by omega), if_neg (by omega)]
    exact errOf_zero.2 h5

end LMisE
section LMisF
open Go.RowKit Rg

def zonesE (P : Prob) (b0 b1 b2 b3 b4 b5 : Int) : Int := if valE P = 0 then (if wiP b0 b1 b2 b3 b4 b5 P.x0 P.y0 P.z0 P.x1 P.y1 P.z1 then errOf (zoneE P.step P.ls P.hs b0 b1 b2 b3 b4 b5) P.phs else 20) else valE P
def zonesL (P : Prob) (b0 b1 b2 b3 b4 b5 : Int) : List Zn := P.phs.map (zoneOf P.step P.ls P.hs b0 b1 b2 b3 b4 b5)

/-- What is fair of a sound problem's zones. -/
theorem Sound.phase {P : Prob} (h : Sound P) {a : Ph} (ha : a ∈ P.phs) : phP a.x a.y a.z a.e a.l a.n = true := by
  have hz := h.ph a ha
  unfold zoneE znE at hz
  rw [if_pos h.ok, if_pos h.vb] at hz
  cases hp : phP a.x a.y a.z a.e a.l a.n
  · rw [hp] at hz; simp at hz
  · rfl
theorem Sound.fair {P : Prob} (h : Sound P) (b0 b1 b2 b3 b4 b5 : Int) : Fair P.cap P.phs (zonesL P b0 b1 b2 b3 b4 b5) := by
  refine ⟨by have := h.cap; omega, by have := h.some; omega, fun i hi => ?_, fun i hi => ?_⟩
  · have := phP_iff.1 (h.phase (List.getElem_mem hi))
    rw [show P.phs[i]?.getD default = P.phs[i] by simp [hi]]; omega
  · have hi' : i < P.phs.length := by simpa [zonesL] using hi
    have hp := phP_iff.1 (h.phase (List.getElem_mem hi'))
    rw [show (zonesL P b0 b1 b2 b3 b4 b5)[i]?.getD default = zoneOf P.step P.ls P.hs b0 b1 b2 b3 b4 b5 P.phs[i] by simp [zonesL, hi']]
    generalize P.phs[i] = a at *
    have bb := bnd_bounds P.step P.ls P.hs b0 b1 b2 b3 b4 b5 a.x a.y a.z
    unfold Tame zoneOf znF znT
    simp only []
    refine ⟨?_, ?_⟩ <;> split <;> omega

/-- What At returns, what Bound returns. -/
def atV (P : Prob) (x y z : Int) : Value := if zonesE P x y z x y z = 0 then .tuple #[.int .i64 (best P.cap P.phs (zonesL P x y z x y z)).1, .int .i64 (best P.cap P.phs (zonesL P x y z x y z)).2, .int .i64 0] else .tuple #[.int .i64 0, .int .i64 0, .int .i64 (zonesE P x y z x y z)]
def bdV (P : Prob) (b0 b1 b2 b3 b4 b5 : Int) : Value := if zonesE P b0 b1 b2 b3 b4 b5 = 0 then .tuple #[.int .i64 (best P.cap P.phs (zonesL P b0 b1 b2 b3 b4 b5)).2, .int .i64 0] else .tuple #[.int .i64 0, .int .i64 (zonesE P b0 b1 b2 b3 b4 b5)]
theorem zonesE_sound {P : Prob} {b0 b1 b2 b3 b4 b5 : Int} (h : zonesE P b0 b1 b2 b3 b4 b5 = 0) : Sound P := by
  unfold zonesE at h
  split at h
  · rename_i h1; exact sound_iff.1 h1
  · rename_i h1; exact absurd h h1

end LMisF
end LMisD
end Go.Proofs.YtmgfdfbhfhmekaaGreat
