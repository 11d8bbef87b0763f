/- Rows of numbers in memory, apart from the reader's block; copies of them, and one number more. -/
import Derived.Test.YtdkckhihleffeaaGreatLoL
import Derived.Test.YtdkckhihleffeaaGreatRgA
import Derived.Test.YtdkckhihleffeaaGreatR29m
namespace Go.Proofs.YtdkckhihleffeaaGreat
set_option linter.all false
open Go.RowKit Rg

theorem mkR_len {P : Prob} {x : Loc} {tol : Int} : (mkR P x tol).2.length ≤ 6001 := by
  unfold mkR
  split
  · simp
  split
  · simp
  · exact (wrR_len _ _ _ _ (by simp)).1
/-- A row of its own lies in new memory. -/
theorem owns_newA {u : World} {B : Nat} {E : TypeId} {k n : Nat} {v : Value} {ys : List Value} (h : u.ownsRow B E k v n ys) {b off len cap : Nat} (e : v = .slice (some ⟨b, off, none⟩) len cap) (h0 : 0 < len) : B ≤ b := by
  subst e
  rcases h.2 with ⟨h1, h2⟩ | ⟨g, cap', cur, e, hb, _⟩
  · simp at h1
  · simp at e; omega
/-- A slice of numbers in memory, apart from block q. -/
def SlA (q : Nat) (u : World) (v : Value) (xs : List Int) : Prop := Sl u v xs ∧ Apart q v
theorem SlA.draw {q : Nat} {u u' : World} {v : Value} {xs : List Int} (h : SlA q u v xs) (hg : u.grownBy u' (some q)) : SlA q u' v xs := ⟨h.1.later hg (fun b off len cap e hl => by have := h.2 _ _ _ _ e hl; simp; omega), h.2⟩
theorem SlA.own {q B : Nat} {E : TypeId} {u : World} {v : Value} {n : Nat} {xs : List Int} (ho : u.ownsRow B E 1 v n (xs.map (Value.int .i64))) (hn : n = xs.length) (hB : q < B) : SlA q u v xs :=
  ⟨Sl_of_owns ho hn, fun b off len cap e h0 => by have := owns_newA ho e h0; omega⟩
theorem run_append_empty {P : Program} (w : World) (t ty e : TypeId) (i : TypeInfo) (ht : P.underlying t = some (.slice e)) (hi : P.info? e = some i) (c : Nat) (xa : Option Addr) (xc : Nat) :
    (Builtin.append_ #[t, t] ty #[.slice (some ⟨c, 0, none⟩) 0 0, .slice xa 0 xc]).run P w = .ok (.slice (some ⟨c, 0, none⟩) 0 0) w := by
  have h1 : (Builtin.firstCells i.size 0 (.slice xa 0 xc)).run P w = .ok #[] w := by
    cases xa <;> simp [Builtin.firstCells, go_sem] <;> rfl
  have h2 : ∀ a : Addr, (storeCells a []).run P w = .ok () w := fun a => rfl
  simp [Builtin.append_, run_underlying ht, sizeOf, typeInfo, hi, Builtin.lenOf, h1, h2]
/-- append([]T{}, x...), x empty. -/
theorem wpList_appEmpty {P : Program} {w : World} {ops : Array Oper} {rest : List Oper} {o : Oper} {a : Act} {Q : Exit → Act → World → Prop} (hgd : o.guard = none) (s x : Operand) (t : TypeId)
    (ho : o.op = .call { callee := .builtin .append, args := #[s, x], argTypes := #[t, t] })
    (e : TypeId) (z : Value) (size bytes : Nat) (ht : P.underlying t = some (.slice e)) (hinfo : (P.info? e).map (fun i => (i.zero, i.size, i.bytes)) = some (some z, size, bytes))
    (c : Nat) (hs : a.eval s = .slice (some ⟨c, 0, none⟩) 0 0) (xa : Option Addr) (xc : Nat) (hx : a.eval x = .slice xa 0 xc)
    (h : wpList P ops Q rest (a.put o.dst (.slice (some ⟨c, 0, none⟩) 0 0)) w) : wpList P ops Q (o :: rest) a w := by
  obtain ⟨i0, hi, hz0, hz1, hz2⟩ := info_parts hinfo
  have hr := run_append_empty (P := P) w t o.type e i0 ht hi c xa xc
  refine wpList_plain hgd fun K hK => ?_
  unfold Oper.wp execOp
  simp only [ho, resolve, invoke, builtin, Sem.run_bind, Sem.run_pure, Result.andThen_ok, List.map_toArray, List.map_cons, List.map_nil, hs, hx, hr]
  exact hK _ _ h
/-- append([]T{}, x...): a new row, or the empty one that was given. -/
theorem wpList_copyAny {P : Program} {w : World} {ops : Array Oper} {rest : List Oper} {o : Oper} {a : Act} {Q : Exit → Act → World → Prop} (hgd : o.guard = none) (s x : Operand) (t : TypeId)
    (ho : o.op = .call { callee := .builtin .append, args := #[s, x], argTypes := #[t, t] })
    (e : TypeId) (ht : P.underlying t = some (.slice e)) (hinfo : (P.info? e).map (fun i => (i.zero, i.size, i.bytes)) = some (some (.int .i64 0), 1, 8))
    (c : Nat) (hs : a.eval s = .slice (some ⟨c, 0, none⟩) 0 0) (hcb : w.heap[c]? = some (.cells #[] e (0, 0))) (xa : Option Addr) (xc : Nat) (xs : List Int) (hx : a.eval x = .slice xa xs.length xc) (hsl : Sl w (.slice xa xs.length xc) xs) (hl : xs.length ≤ 100000)
    (h : ∀ g gc w', w'.ownsRow c e 1 (.slice (some ⟨g, 0, none⟩) xs.length gc) xs.length (xs.map (Value.int .i64)) → w.grownBy w' none → wpList P ops Q rest (a.put o.dst (.slice (some ⟨g, 0, none⟩) xs.length gc)) w') : wpList P ops Q (o :: rest) a w := by
  by_cases h0 : xs = []
  · subst h0
    exact wpList_appEmpty hgd s x t ho e (.int .i64 0) 1 8 ht hinfo c hs xa xc hx (h c 0 w ⟨rfl, .inr ⟨c, 0, #[], rfl, Nat.le_refl _, hcb, Nat.le_refl _, Nat.zero_le _, rfl, rfl⟩⟩ (gb_refl _ _))
  obtain ⟨i0, hi, hz0, hz1, hz2⟩ := info_parts hinfo
  have hp : 0 < xs.length := by cases xs <;> simp at h0 ⊢
  obtain ⟨b, off, cap, e1, -, -, -, hc⟩ := hsl.block hp
  simp only [Value.slice.injEq, true_and] at e1
  obtain ⟨rfl, rfl⟩ := e1
  have hcl := (Array.getElem?_eq_some_iff.1 hcb).1
  refine wpList_append_grows w hgd s x t ho e i0 (.int .i64 0) 1 8 ht hi hz0 hz1 hz2 rfl (by decide) (some ⟨c, 0, none⟩) 0 0 [] hs (fun h => by cases h) (by simp) (fun b _ j u hj => by simp at hj) ⟨b, off, none⟩ xs.length xc (xs.map (Value.int .i64)) hx (by simp) (fun j u hj => ?_) (fun u hu => by obtain ⟨k, -, rfl⟩ := List.mem_map.1 hu; rfl) (by omega) (by unfold maxLen; omega) (by omega) (fun v' w' h2 h3 => ?_)
  · have hj' : j < xs.length := by
      have := (List.getElem?_eq_some_iff.1 hj).1; simpa using this
    rw [Addr.add_lit, hc j hj', ← hj, List.getElem?_map, List.getElem?_eq_getElem hj']
    show some (Value.int .i64 (xs[j]?.getD 0)) = some (Value.int .i64 xs[j])
    rw [List.getElem?_eq_getElem hj']; rfl
  · rw [Nat.zero_add, List.nil_append] at h2
    obtain ⟨g, gc, rfl, -, -⟩ := h2.form hp
    refine h g gc w' ⟨h2.1, ?_⟩ h3
    rcases h2.2 with ⟨q1, q2⟩ | ⟨g1, cap1, cur1, q1, q2, q3⟩
    · exact absurd q2 (by omega)
    · exact .inr ⟨g1, cap1, cur1, q1, Nat.le_trans (Nat.le_of_lt hcl) q2, q3⟩
/-- append(x[:len(x):len(x)], z): a new row. -/
theorem wpList_capPush {P : Program} {w : World} {ops : Array Oper} {rest : List Oper} {o : Oper} {a : Act} {Q : Exit → Act → World → Prop} (hgd : o.guard = none) (s x : Operand) (t : TypeId)
    (ho : o.op = .call { callee := .builtin .append, args := #[s, x], argTypes := #[t, t] })
    (e : TypeId) (ht : P.underlying t = some (.slice e)) (hinfo : (P.info? e).map (fun i => (i.zero, i.size, i.bytes)) = some (some (.int .i64 0), 1, 8))
    (ao : Option Addr) (cc : Nat) (xs : List Int) (hs : a.eval s = .slice ao xs.length xs.length) (hsl : Sl w (.slice ao xs.length cc) xs) (hl : xs.length ≤ 100000)
    (b c : Nat) (z : Int) (e' : TypeId) (hx : a.eval x = .slice (some ⟨b, 0, none⟩) 1 c) (hblk : w.heap[b]? = some (.cells #[.int .i64 z] e' (0, 0)))
    (h : ∀ g gc w', w'.ownsRow w.heap.size e 1 (.slice (some ⟨g, 0, none⟩) (xs ++ [z]).length gc) (xs ++ [z]).length ((xs ++ [z]).map (Value.int .i64)) → w.grownBy w' none → wpList P ops Q rest (a.put o.dst (.slice (some ⟨g, 0, none⟩) (xs ++ [z]).length gc)) w') : wpList P ops Q (o :: rest) a w := by
  obtain ⟨i0, hi, hz0, hz1, hz2⟩ := info_parts hinfo
  have hnews : ∀ j u, [Value.int .i64 z][j]? = some u → w.cell? ((⟨b, 0, none⟩ : Addr).add j) = some u := by
    intro j u hj
    rw [addr_at]
    simp [World.cell?, hblk]
    simpa using hj
  refine wpList_append_grows w hgd s x t ho e i0 (.int .i64 0) 1 8 ht hi hz0 hz1 hz2 rfl (by decide) ao xs.length xs.length (xs.map (Value.int .i64)) hs (fun hn => ?_) (by simp) (fun ad had j u hj => ?_) ⟨b, 0, none⟩ 1 c [.int .i64 z] hx (by simp) hnews (by simp [Value.oneCell']) (by omega) (by unfold maxLen; omega) (by omega) (fun v' w' h2 h3 => ?_)
  · rcases hsl with ⟨rfl, -⟩ | ⟨b', off, cap, e1, -⟩
    · exact ⟨rfl, rfl⟩
    · subst hn; simp at e1
  · have hj' : j < xs.length := by
      have := (List.getElem?_eq_some_iff.1 hj).1; simpa using this
    obtain ⟨b', off, cap, e1, -, -, -, hc⟩ := hsl.block (by omega)
    subst had
    simp only [Value.slice.injEq, Option.some.injEq, true_and] at e1
    obtain ⟨rfl, -⟩ := e1
    rw [Addr.add_lit, hc j hj', ← hj, List.getElem?_map, List.getElem?_eq_getElem hj']
    show some (Value.int .i64 (xs[j]?.getD 0)) = some (Value.int .i64 xs[j])
    rw [List.getElem?_eq_getElem hj']; rfl
  · have h4 : (xs ++ [z]).length = xs.length + 1 := by simp
    have h2' : w'.ownsRow w.heap.size e 1 v' (xs ++ [z]).length ((xs ++ [z]).map (Value.int .i64)) := by
      rw [h4]; simpa using h2
    obtain ⟨g, gc, rfl, -, -⟩ := h2'.form (by omega)
    exact h g gc w' h2' h3
theorem Sl.capLe {w : World} {a : Option Addr} {n c : Nat} {xs : List Int} (h : Sl w (.slice a n c) xs) : n ≤ c := by
  rcases h with ⟨-, a', c', e⟩ | ⟨b, off, cap, e, -, h1, -⟩
  · simp only [Value.slice.injEq] at e; omega
  · simp only [Value.slice.injEq] at e; omega
theorem Sl.addr0 {w : World} {a : Option Addr} {n c : Nat} {xs : List Int} (h : Sl w (.slice a n c) xs) : (if n = 0 then a else Option.map (fun x : Addr => x.add 0) a) = a := by
  by_cases h0 : n = 0
  · rw [if_pos h0]
  · rw [if_neg h0]
    rcases h with ⟨-, a', c', e⟩ | ⟨b, off, cap, e, -⟩
    · simp only [Value.slice.injEq] at e; omega
    · simp only [Value.slice.injEq] at e
      rw [e.1]
      show some (Addr.add ⟨b, off, none⟩ 0) = _
      rw [Addr.add_lit]; rfl
end Go.Proofs.YtdkckhihleffeaaGreat
