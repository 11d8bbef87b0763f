/- A row of whole numbers that a variable in memory holds, and that grows across calls. -/
import Derived.Test.YtdkckhihleffeaaGreatPrf
import Derived.Maps.AppendAt
namespace Go.Proofs.YtdkckhihleffeaaGreat
set_option linter.all false
open Go.RowKit Rg

theorem wpList_pushAt {P : Program} {w : World} {ops : Array Oper} {rest : List Oper} {o : Oper} {a : Act} {Q : Exit → Act → World → Prop} (hgd : o.guard = none) (s x : Operand) (t : TypeId)
    (ho : o.op = .call { callee := .builtin .append, args := #[s, x], argTypes := #[t, t] })
    (base : Nat) (e : TypeId) (z : Value) (size bytes : Nat) (ht : P.underlying t = some (.slice e)) (hinfo : (P.info? e).map (fun i => (i.zero, i.size, i.bytes)) = some (some z, size, bytes)) (hzs : z.cells.size = size) (hsz : 0 < size) (hby : 0 < bytes)
    (v : Value) (n : Nat) (xs : List Value) (hs : a.eval s = v) (hown : w.ownsRow base e size v n xs)
    (b c : Nat) (news : List Value) (e' : TypeId) (hx : a.eval x = .slice (some ⟨b, 0, none⟩) 1 c) (hblk : w.heap[b]? = some (.cells news.toArray e' (0, 0))) (hl : news.length = size) (h1 : ∀ u ∈ news, u.oneCell' = true)
    (hbytes : (n + 1) * bytes ≤ 140737488355328) (hbase : base ≤ w.heap.size)
    (h : ∀ v' w', w'.ownsRow base e size v' (n + 1) (xs ++ news) → w.grownBy w' v.ownBlock → (v'.ownBlock = v.ownBlock ∨ v'.ownBlock = some w.heap.size) → wpList P ops Q rest (a.put o.dst v') w') : wpList P ops Q (o :: rest) a w := by
  obtain ⟨i0, hi, hz0, hz1, hz2⟩ := info_parts hinfo
  refine wpList_append_own_at w hgd s x t ho base e i0 z size bytes ht hi hz0 hz1 hz2 hzs hsz v n xs hs hown ⟨b, 0, none⟩ 1 c news hx (by omega) ?_ h1 ?_ hbytes hbase (fun v' w' h2 h3 _ h4 => h v' w' h2 h3 h4)
  · intro j u hj
    have hadd : (⟨b, 0, none⟩ : Addr).add j = ⟨b, j, none⟩ := by unfold Addr.add; split <;> simp_all
    rw [hadd]
    simp [World.cell?, hblk]
    exact hj
  · have := Nat.le_mul_of_pos_right (n + 1) hby
    simp only [maxLen]; omega

theorem wpList_pushesAt {P : Program} {w : World} {ops : Array Oper} {rest : List Oper} {o : Oper} {a : Act} {Q : Exit → Act → World → Prop} (hgd : o.guard = none) (s x : Operand) (t : TypeId)
    (ho : o.op = .call { callee := .builtin .append, args := #[s, x], argTypes := #[t, t] })
    (base : Nat) (e : TypeId) (z : Value) (size bytes : Nat) (ht : P.underlying t = some (.slice e)) (hinfo : (P.info? e).map (fun i => (i.zero, i.size, i.bytes)) = some (some z, size, bytes)) (hzs : z.cells.size = size) (hsz : 0 < size) (hby : 0 < bytes)
    (v : Value) (n : Nat) (xs : List Value) (hs : a.eval s = v) (hown : w.ownsRow base e size v n xs)
    (b m c : Nat) (news : List Value) (e' : TypeId) (hx : a.eval x = .slice (some ⟨b, 0, none⟩) m c) (hblk : w.heap[b]? = some (.cells news.toArray e' (0, 0))) (hl : news.length = m * size) (h1 : ∀ u ∈ news, u.oneCell' = true)
    (hbytes : (n + m) * bytes ≤ 140737488355328) (hbase : base ≤ w.heap.size)
    (h : ∀ v' w', w'.ownsRow base e size v' (n + m) (xs ++ news) → w.grownBy w' v.ownBlock → (v'.ownBlock = v.ownBlock ∨ v'.ownBlock = some w.heap.size) → wpList P ops Q rest (a.put o.dst v') w') : wpList P ops Q (o :: rest) a w := by
  obtain ⟨i0, hi, hz0, hz1, hz2⟩ := info_parts hinfo
  refine wpList_append_own_at w hgd s x t ho base e i0 z size bytes ht hi hz0 hz1 hz2 hzs hsz v n xs hs hown ⟨b, 0, none⟩ m c news hx hl ?_ h1 ?_ hbytes hbase (fun v' w' h2 h3 _ h4 => h v' w' h2 h3 h4)
  · intro j u hj
    have hadd : (⟨b, 0, none⟩ : Addr).add j = ⟨b, j, none⟩ := by unfold Addr.add; split <;> simp_all
    rw [hadd]
    simp [World.cell?, hblk]
    exact hj
  · have := Nat.le_mul_of_pos_right (n + m) hby
    simp only [maxLen]; omega

/-- What else has turned: only the variable O, its own row, and new memory. -/
structure Fr (O : Nat) (v v' : Value) (u u' : World) : Prop where
  os : u'.os = u.os
  tape : u'.tape = u.tape
  output : u'.output = u.output
  size : u.heap.size ≤ u'.heap.size
  block : ∀ k, k < u.heap.size → k ≠ O → some k ≠ v.ownBlock → u'.heap[k]? = u.heap[k]?
  own : ∀ k, v'.ownBlock = some k → v.ownBlock = some k ∨ u.heap.size ≤ k
theorem Fr.gb {O : Nat} {v : Value} {u u' : World} (h : u.grownBy u' none) : Fr O v v u u' := ⟨h.os, h.tape, h.output, h.size, fun k hk _ _ => h.block k hk (by simp), fun _ e => .inl e⟩
theorem Fr.trans {O : Nat} {v v' v'' : Value} {u u' u'' : World} (h : Fr O v v' u u') (k : Fr O v' v'' u' u'') : Fr O v v'' u u'' := by
  refine ⟨k.os.trans h.os, k.tape.trans h.tape, k.output.trans h.output, Nat.le_trans h.size k.size, fun b hb hO ho => ?_, fun b e => ?_⟩
  · rw [k.block b (Nat.lt_of_lt_of_le hb h.size) hO (fun e => ?_), h.block b hb hO ho]
    rcases h.own b e.symm with h1 | h1
    · exact ho h1.symm
    · omega
  · have hs := h.size
    rcases k.own b e with h1 | h1
    · exact h.own b h1
    · exact .inr (by omega)
/-- The row, in the variable O. -/
structure OutAt (O B : Nat) (u : World) (v : Value) (l : List Int) : Prop where
  o : u.heap[O]? = some (.cells #[v] 28 (0, 0))
  own : u.ownsRow B 3 1 v l.length (l.map (Value.int .i64))
  lt : O < B
  le : B ≤ u.heap.size
theorem OutAt.keep {O B : Nat} {u u' : World} {v : Value} {l : List Int} (h : OutAt O B u v l) (hg : u.grownBy u' none) : OutAt O B u' v l := ⟨block_kept hg h.o rfl, owns_keep h.own hg, h.lt, Nat.le_trans h.le hg.size⟩
theorem OutAt.ne {O B : Nat} {u : World} {v : Value} {l : List Int} (h : OutAt O B u v l) {k : Nat} (hk : k < B) : some k ≠ v.ownBlock := fun e => by have := (h.own.lt k e.symm).1; omega
theorem Fr.all {O B : Nat} {v v' : Value} {u u' w0 : World} {l : List Int} (h : Fr O v v' u u') (ho : OutAt O B u v l) (hg : w0.grownBy u none) (hO : w0.heap.size ≤ O) : w0.grownBy u' none :=
  ⟨h.os.trans hg.os, h.tape.trans hg.tape, h.output.trans hg.output, Nat.le_trans hg.size h.size, fun k hk _ => by
    have := ho.lt
    have hs := hg.size
    rw [h.block k (by omega) (by omega) (ho.ne (by omega)), hg.block k hk (by simp)]⟩
theorem Fr.kept {O B : Nat} {v v' : Value} {u u' : World} {l : List Int} (h : Fr O v v' u u') (ho : OutAt O B u v l) {b : Nat} {x : Obj} (hb : u.heap[b]? = some x) (hO : b ≠ O) (hB : b < B) : u'.heap[b]? = some x :=
  (h.block b (block_lt' hb) hO (ho.ne hB)).trans hb
/-- A push, and its store. -/
theorem push_out {O B : Nat} {w u6 : World} {v v' : Value} {l : List Int} {c : Int} {t : TypeId} (h : OutAt O B w v l) (h1 : u6.ownsRow B 3 1 v' (l.length + 1) (l.map (Value.int .i64) ++ [.int .i64 c]))
    (hg : (w.alloc (.cells #[.int .i64 c] t)).grownBy u6 v.ownBlock) (hb : v'.ownBlock = v.ownBlock ∨ v'.ownBlock = some (w.alloc (.cells #[.int .i64 c] t)).heap.size) :
    u6.heap[O]? = some (.cells #[v] 28 (0, 0)) ∧ OutAt O B (u6.setCell ⟨O, 0, none⟩ v') v' (l ++ [c]) ∧ Fr O v v' w (u6.setCell ⟨O, 0, none⟩ v') := by
  have hO := block_lt' h.o
  have hsz : (w.alloc (.cells #[.int .i64 c] t)).heap.size = w.heap.size + 1 := by simp
  have hs6 := hg.size
  have ho6 : u6.heap[O]? = some (.cells #[v] 28 (0, 0)) := by rw [hg.block O (by omega) (h.ne h.lt), heap_alloc_old _ _ hO]; exact h.o
  have hset : u6.grownBy (u6.setCell ⟨O, 0, none⟩ v') (some O) := gb_setCell (gb_refl _ _) (.inr rfl) _
  refine ⟨ho6, ⟨?_, ?_, h.lt, ?_⟩, hset.os.trans hg.os, hset.tape.trans hg.tape, hset.output.trans hg.output, ?_, ?_, ?_⟩
  · exact set_block ho6 0 v'
  · rw [List.length_append, List.map_append]; exact owns_keepp h1 hset h.lt
  · have := hset.size; have := h.le; omega
  · have := hset.size; omega
  · intro k hk hkO hko
    rw [hset.block k (by omega) (by simpa using hkO), hg.block k (by omega) hko, heap_alloc_old _ _ hk]
  · intro k e
    rcases hb with hb | hb
    · exact .inl (hb ▸ e)
    · right; rw [hb] at e; cases e; omega
end Go.Proofs.YtdkckhihleffeaaGreat
