/- ref29.write in plain words; what an append to a row leaves of every block; a drawn region that appends one number to a row and hands the row to a call. -/
import Derived.Test.YtdkckhihleffeaaGreatMem
import Derived.Test.YtdkckhihleffeaaGreatFr
import Derived.Test.YtdkckhihleffeaaGreatBx
import Derived.Maps.AppendAt
namespace Go.Proofs.YtdkckhihleffeaaGreat
set_option linter.all false
open Go.RowKit Rg

/-- What ref29.write does. -/
def wrR (V : Bx → Bool) : Nat → Bx → List Int → Int × List Int
  | 0, _, _ => (8, [])
  | f + 1, b, l => if V b = false ∧ b.ok = false then (26, []) else if l.length = 6001 then (8, []) else if V b then (0, l ++ [0]) else if (wrR V f b.fst (l ++ [1])).1 = 0 then wrR V f b.snd (wrR V f b.fst (l ++ [1])).2 else ((wrR V f b.fst (l ++ [1])).1, [])
theorem wrR_len (V : Bx → Bool) : ∀ (n : Nat) (b : Bx) (l : List Int), l.length ≤ 6001 → (wrR V n b l).2.length ≤ 6001 ∧ ((wrR V n b l).1 = 0 → l.length < (wrR V n b l).2.length)
  | 0, b, l, h => ⟨by simp [wrR], fun h => by simp [wrR] at h⟩
  | n + 1, b, l, h => by
    unfold wrR
    split
    · exact ⟨by simp, fun h => by simp at h⟩
    split
    · exact ⟨by simp, fun h => by simp at h⟩
    split
    · exact ⟨by simp; omega, fun _ => by simp⟩
    split
    · rename_i h1
      have a := wrR_len V n b.fst (l ++ [1]) (by simp; omega)
      have b' := wrR_len V n b.snd (wrR V n b.fst (l ++ [1])).2 a.1
      refine ⟨b'.1, fun h2 => ?_⟩
      have c := a.2 h1
      have d := b'.2 h2
      simp at c; omega
    · rename_i h1
      exact ⟨by simp, fun h2 => absurd h2 h1⟩
/-- What else has turned: only the row v, and new memory. -/
structure FrN (v v' : Value) (u u' : World) : Prop where
  os : u'.os = u.os
  tape : u'.tape = u.tape
  output : u'.output = u.output
  size : u.heap.size ≤ u'.heap.size
  block : ∀ k, k < u.heap.size → some k ≠ v.ownBlock → u'.heap[k]? = u.heap[k]?
  own : ∀ b, v'.ownBlock = some b → v.ownBlock = some b ∨ u.heap.size ≤ b
theorem FrN.gb {v : Value} {u u' : World} (h : u.grownBy u' none) : FrN v v u u' := ⟨h.os, h.tape, h.output, h.size, fun k hk _ => h.block k hk (by simp), fun _ e => .inl e⟩
theorem FrN.nil {v : Value} {u u' : World} {v' : Value} (h : FrN v v' u u') : FrN v (.slice none 0 0) u u' := ⟨h.os, h.tape, h.output, h.size, h.block, fun b e => by simp [Value.ownBlock] at e⟩
theorem FrN.trans {v v' v'' : Value} {u u' u'' : World} (h : FrN v v' u u') (k : FrN v' v'' u' u'') : FrN v v'' u u'' := by
  refine ⟨k.os.trans h.os, k.tape.trans h.tape, k.output.trans h.output, Nat.le_trans h.size k.size, fun j hj hne => ?_, fun b e => ?_⟩
  · rw [k.block j (Nat.lt_of_lt_of_le hj h.size) (fun e => by
      rcases h.own j e.symm with e2 | e2
      · exact hne e2.symm
      · omega)]
    exact h.block j hj hne
  · rcases k.own b e with e2 | e2
    · exact h.own b e2
    · exact .inr (Nat.le_trans h.size e2)
theorem FrN.push {v v' : Value} {u u' : World} (hg : u.grownBy u' v.ownBlock) (hb : ∀ b, v'.ownBlock = some b → v.ownBlock = some b ∨ u.heap.size ≤ b) : FrN v v' u u' :=
  ⟨hg.os, hg.tape, hg.output, hg.size, fun k hk hne => hg.block k hk hne, hb⟩
theorem FrN.all {v v' : Value} {u u' w0 : World} (h : FrN v v' u u') (hv : ∀ b, v.ownBlock = some b → w0.heap.size ≤ b) (hg : w0.grownBy u none) : w0.grownBy u' none :=
  ⟨h.os.trans hg.os, h.tape.trans hg.tape, h.output.trans hg.output, Nat.le_trans hg.size h.size, fun k hk _ => by
    rw [h.block k (Nat.lt_of_lt_of_le hk hg.size) (fun e => by have := hv k e.symm; omega)]
    exact hg.block k hk (by simp)⟩
theorem FrN.kept {v v' : Value} {u u' : World} (h : FrN v v' u u') {k : Nat} {x : Obj} (hb : u.heap[k]? = some x) (hne : some k ≠ v.ownBlock) : u'.heap[k]? = some x := (h.block k (block_lt' hb) hne).trans hb

def Pre (n : Nat) (w w' : World) : Prop := ∀ (g : Nat) (cs : Array Value) (T : TypeId) (fr : Nat × Nat), w.heap[g]? = some (.cells cs T fr) → ∃ cs' : Array Value, w'.heap[g]? = some (.cells cs' T fr) ∧ cs'.size = cs.size ∧ cs'.toList.take n = cs.toList.take n
theorem Pre.gb {n : Nat} {w w' : World} (h : w.grownBy w' none) : Pre n w w' := fun g cs T fr hg => ⟨cs, by rw [h.block g (Array.getElem?_eq_some_iff.1 hg).1 (by simp)]; exact hg, rfl, rfl⟩
theorem Pre.trans {n : Nat} {u v w : World} (h : Pre n u v) (k : Pre n v w) : Pre n u w := fun g cs T fr hg => by
  obtain ⟨c1, h1, h2, h3⟩ := h g cs T fr hg
  obtain ⟨c2, k1, k2, k3⟩ := k g c1 T fr h1
  exact ⟨c2, k1, k2.trans h2, k3.trans h3⟩
theorem Pre.mono {n m : Nat} {w w' : World} (h : Pre m w w') (hn : n ≤ m) : Pre n w w' := fun g cs T fr hg => by
  obtain ⟨c1, h1, h2, h3⟩ := h g cs T fr hg
  refine ⟨c1, h1, h2, ?_⟩
  have := congrArg (List.take n) h3
  rwa [List.take_take, List.take_take, Nat.min_eq_left hn] at this
theorem Pre.own {n k B : Nat} {T : TypeId} {v : Value} {xs : List Value} {w w' : World} (h : Pre n w w') (hk : k ≤ n) (ho : w.ownsRow B T 1 v k xs) : w'.ownsRow B T 1 v k xs := by
  refine ⟨ho.1, ho.2.imp id ?_⟩
  rintro ⟨g, cap, cur, e1, e2, e3, e4, e5, e6, e7⟩
  obtain ⟨c1, h1, h2, h3⟩ := (h.mono hk) g cur T (0, 0) e3
  exact ⟨g, cap, c1, e1, e2, h1, e4, e5, h2.trans e6, by rw [Nat.mul_one] at e7 ⊢; exact h3.trans e7⟩
theorem Pre.lit {n g : Nat} {cs : Array Value} {T : TypeId} {fr : Nat × Nat} {w w' : World} (h : Pre n w w') (hg : w.heap[g]? = some (.cells cs T fr)) (hs : cs.size ≤ n) : w'.heap[g]? = some (.cells cs T fr) := by
  obtain ⟨c1, h1, h2, h3⟩ := h g cs T fr hg
  rw [List.take_of_length_le (by rw [Array.length_toList, h2]; exact hs), List.take_of_length_le (by simpa using hs)] at h3
  rw [h1, Array.ext' h3]
theorem Pre.push {n B : Nat} {T : TypeId} {v : Value} {xs : List Value} {w w' : World} (ho : w.ownsRow B T 1 v n xs) (ho' : w'.ownsRow B T 1 v n xs) (hg : w.grownBy w' v.ownBlock) : Pre n w w' := fun g cs T' fr hgc => by
  by_cases hv : some g = v.ownBlock
  · rcases ho.2 with ⟨rfl, -⟩ | ⟨g1, cap, cur, rfl, -, e3, -, -, e6, e7⟩
    · simp [Value.ownBlock] at hv
    · simp [Value.ownBlock] at hv
      subst hv
      rcases ho'.2 with ⟨e, -⟩ | ⟨g2, cap2, cur2, e, -, k3, -, -, k6, k7⟩
      · simp at e
      · simp only [Value.slice.injEq, Option.some.injEq, Addr.mk.injEq, and_true, true_and] at e
        obtain ⟨rfl, rfl⟩ := e
        rw [e3] at hgc
        simp only [Option.some.injEq, Obj.cells.injEq] at hgc
        obtain ⟨rfl, rfl, rfl⟩ := hgc
        refine ⟨cur2, k3, k6.trans e6.symm, ?_⟩
        rw [Nat.mul_one] at e7 k7
        exact k7.trans e7.symm
  · exact ⟨cs, by rw [hg.block g (Array.getElem?_eq_some_iff.1 hgc).1 hv]; exact hgc, rfl, rfl⟩
/-- append(s, x), x one number in a block of its own: the old view of the row is kept. -/
theorem wpList_pushK {P : Program} {w : World} {ops : Array Oper} {rest : List Oper} {o : Oper} {a : Act} {Q : Exit → Act → World → Prop} (hgd : o.guard = none) (s x : Operand) (t : TypeId)
    (ho : o.op = .call { callee := .builtin .append, args := #[s, x], argTypes := #[t, t] })
    (base : Nat) (e : TypeId) (z : Value) (bytes : Nat) (ht : P.underlying t = some (.slice e)) (hinfo : (P.info? e).map (fun i => (i.zero, i.size, i.bytes)) = some (some z, 1, bytes)) (hzs : z.cells.size = 1)
    (v : Value) (n : Nat) (xs : List Value) (hs : a.eval s = v) (hown : w.ownsRow base e 1 v n xs)
    (b c : Nat) (u0 : Value) (e' : TypeId) (hx : a.eval x = .slice (some ⟨b, 0, none⟩) 1 c) (hblk : w.heap[b]? = some (.cells #[u0] e' (0, 0))) (h1 : u0.oneCell' = true)
    (h63 : n + 1 ≤ 1000000) (hbytes : (n + 1) * bytes ≤ 140737488355328) (hbase : base ≤ w.heap.size)
    (h : ∀ v' w', w'.ownsRow base e 1 v' (n + 1) (xs ++ [u0]) → w.grownBy w' v.ownBlock → (v'.ownBlock = v.ownBlock ∨ v'.ownBlock = some w.heap.size) → Pre n w w' → wpList P ops Q rest (a.put o.dst v') w') : wpList P ops Q (o :: rest) a w := by
  obtain ⟨i0, hi, hz0, hz1, hz2⟩ := info_parts hinfo
  have hnews : ∀ j u, [u0][j]? = some u → w.cell? ((⟨b, 0, none⟩ : Addr).add j) = some u := by
    intro j u hj
    have hadd : (⟨b, 0, none⟩ : Addr).add j = ⟨b, j, none⟩ := by unfold Addr.add; split <;> simp_all
    rw [hadd]
    simp [World.cell?, hblk]
    simpa using hj
  obtain ⟨v', w', hr, h2, h3, _, h5⟩ := run_append_own_at (P := P) w base t o.type e i0 z 1 bytes ht hi hz0 hz1 hz2 hzs (by decide) v n xs hown ⟨b, 0, none⟩ 1 c [u0] rfl hnews (by simpa using h1) (by unfold maxLen; omega) hbytes hbase
  have hk := own_keeps (w' := w') ht hi hz0 hz1 hz2 hown rfl hnews (by simpa using h1) (by unfold maxLen; omega) hbytes hr
  refine wpList_plain hgd fun K hK => ?_
  unfold Oper.wp execOp
  simp only [ho, resolve, invoke, builtin, Sem.run_bind, Sem.run_pure, Result.andThen_ok, List.map_toArray, List.map_cons, List.map_nil, hs, hx, hr]
  exact hK _ _ (h v' w' h2 h3 h5 (Pre.push hown hk h3))
def GX (w0 : World) (B : Nat) (v : Value) (n : Nat) (xs : List Value) (u : World) : Prop := w0.grownBy u v.ownBlock ∧ u.ownsRow B 3 1 v n xs
/-- Operation k6 appends, operation k7 calls. -/
def MakesX (v : Value) (n k6 k7 : Nat) : Nat → World → World → Prop := fun k w w' => if k = k6 then w.grownBy w' v.ownBlock else if k = k7 then Pre (n + 1) w w' ∧ w.heap.size ≤ w'.heap.size else w.grownBy w' none
theorem MakesX.size {v : Value} {n k6 k7 : Nat} (i : Nat) (w w' : World) (h : MakesX v n k6 k7 i w w') : w.heap.size ≤ w'.heap.size := by
  unfold MakesX at h; split at h
  · exact World.grownBy.size h
  · split at h
    · exact h.2
    · exact World.grownBy.size h
theorem GX.start {w0 : World} {B : Nat} {v : Value} {n : Nat} {xs : List Value} (h : w0.ownsRow B 3 1 v n xs) : GX w0 B v n xs w0.drew := ⟨gb_drew (gb_refl _ _), owns_keep h (gb_drew (gb_refl _ none))⟩
theorem GX.cell {w0 : World} {B : Nat} {v : Value} {n : Nat} {xs : List Value} {b o : Nat} {x : Option Value} (hc : w0.cell? ⟨b, o, none⟩ = x) (hb : b < w0.heap.size) (hne : some b ≠ v.ownBlock) (u : Cls (GX w0 B v n xs)) : (evr u).cell? ⟨b, o, none⟩ = x :=
  (gb_cell (evr_h u).1 hb hne).trans hc
theorem gb_row {a b c : World} {row : Option Nat} (h : a.grownBy b row) (k : b.grownBy c none) : a.grownBy c row := gb_trans h (by cases row with | none => exact k | some q => exact gb_none k)
abbrev isLitX (w : World) (c : Value) : List Value → Value → World → Prop := fun _ v u => ∃ b, v = .slice (some ⟨b, 0, none⟩) 1 1 ∧ w.heap.size ≤ b ∧ u.heap[b]? = some (.cells #[c] 3 (0, 0))
abbrev isPushX (w : World) (B : Nat) (v : Value) (n : Nat) (xs : List Value) : List Value → Value → World → Prop := fun _ v' u => u.ownsRow B 3 1 v' n xs ∧ ∀ b, v'.ownBlock = some b → v.ownBlock = some b ∨ w.heap.size ≤ b
/-- What the call says: a pair, and the row in it. -/
def isCallX (w : World) (B : Nat) (v : Value) (c : Int) (l : List Int) (r : Value) (u : World) : Prop := ∃ v7, r = .tuple #[v7, .int .i64 c] ∧ u.ownsRow B 3 1 v7 l.length (l.map (Value.int .i64)) ∧ ∀ b, v7.ownBlock = some b → v.ownBlock = some b ∨ w.heap.size ≤ b
theorem isCallX.keep {w : World} {B : Nat} {v : Value} {c : Int} {l : List Int} {r : Value} {u u' : World} (h : isCallX w B v c l r u) (hg : u.grownBy u' none) : isCallX w B v c l r u' := by
  obtain ⟨v7, e, o, b⟩ := h
  exact ⟨v7, e, owns_keep o hg, b⟩
theorem GX.call {w0 : World} {B : Nat} {v v6 : Value} {n : Nat} {xs : List Value} {u u' : World} (h : GX w0 B v n xs u) (hp : Pre (n + 1) u u') (h1 : u'.os = u.os) (h2 : u'.tape = u.tape) (h3 : u'.output = u.output) (h4 : u.heap.size ≤ u'.heap.size)
    (h5 : ∀ k, k < u.heap.size → some k ≠ v6.ownBlock → u'.heap[k]? = u.heap[k]?) (h6 : ∀ b, v6.ownBlock = some b → v.ownBlock = some b ∨ w0.heap.size ≤ b) : GX w0 B v n xs u' := by
  refine ⟨⟨h1.trans h.1.os, h2.trans h.1.tape, h3.trans h.1.output, Nat.le_trans h.1.size h4, fun k hk hne => ?_⟩, hp.own (Nat.le_succ n) h.2⟩
  rw [h5 k (Nat.lt_of_lt_of_le hk h.1.size) (fun e => ?_)]
  · exact h.1.block k hk hne
  · rcases h6 k e.symm with e2 | e2
    · exact hne e2.symm
    · omega
section
variable {ops : Array Oper} {md : Region.Mode} {w0 : World} {B n0 k6 k7 : Nat} {v0 : Value} {x0 : List Value} {sp : Nat → Option (List Value → Value → World → Prop)} {N : Nat} {Q : List Oper → Act → Facts → Prop} {n k : Nat} {o : Oper} {l : List Oper} {a : Act} {f : Facts}
theorem rgX_lit (hlt : ∀ b, v0.ownBlock = some b → b < w0.heap.size) (c : Value) (hk : k ≠ k6 ∧ k ≠ k7) (hs : sp k = some (isLitX w0 c)) (hw : Region.wanted o (yielded ops a.tmps) = true)
    (hrun : ∀ w, (execOp a.eval o).run Tryz.prog w = .ok (.value (.slice (some ⟨w.heap.size, 0, none⟩) 1 1)) (w.alloc (.cells #[c] 3)))
    (h : ∀ b, w0.heap.size ≤ b → rLexL Tryz.prog md ops ⟨In (GX w0 B v0 n0 x0), MakesX v0 n0 k6 k7, sp, fun _ => false, N⟩ Q n l (k + 1) (a.put o.dst (.slice (some ⟨b, 0, none⟩) 1 1)) (upd f k (isLitX w0 c [] (.slice (some ⟨b, 0, none⟩) 1 1)))) :
    rLexL Tryz.prog md ops ⟨In (GX w0 B v0 n0 x0), MakesX v0 n0 k6 k7, sp, fun _ => false, N⟩ Q (n + 1) (o :: l) k a f := by
  refine rLexL_spec (isLitX w0 c) hs hw ?_ (fun w hC hd => stepTo_run (hrun w) ?_) ?_
  · rintro v j w w' _ _ _ hR ⟨b, e, hb, hh⟩
    refine ⟨b, e, hb, ?_⟩
    unfold MakesX at hR; split at hR
    · rw [hR.block b (block_lt' hh) (fun e => by have := hlt b e.symm; omega)]; exact hh
    · split at hR
      · exact hR.1.lit hh (by simp)
      · exact block_kept hR hh rfl
  · have hsz := hC.out.1.size
    have hg : w.grownBy (w.alloc (.cells #[c] 3)) none := gb_alloc (gb_refl _ _) _
    exact ⟨In.mk ⟨gb_row hC.out.1 hg, owns_keep hC.out.2 hg⟩, by unfold MakesX; rw [if_neg hk.1, if_neg hk.2]; exact hg, ⟨_, rfl, hsz, heap_alloc_new w _⟩, fun e => by cases e⟩
  · rintro v w hC ⟨b, rfl, hb, -⟩
    exact h b hb
theorem rgX_push (hB : B ≤ w0.heap.size) (s x : Operand) (t : TypeId) (ht : Tryz.prog.underlying t = some (.slice 3)) (hinfo : (Tryz.prog.info? 3).map (fun i => (i.zero, i.size, i.bytes)) = some (some (.int .i64 0), 1, 8)) (hk : k = k6) (kb b : Nat) (c : Value) (hc1 : c.oneCell' = true)
    (hs : sp k = some (isPushX w0 B v0 (n0 + 1) (x0 ++ [c]))) (hw : Region.wanted o (yielded ops a.tmps) = true)
    (ho : o.op = .call { callee := .builtin .append, args := #[s, x], argTypes := #[t, t] })
    (hsv : a.eval s = v0) (hxv : a.eval x = .slice (some ⟨b, 0, none⟩) 1 1)
    (hb : ∃ e ∈ o.after, Region.binds md e = true ∧ e.on = kb) (hfb : f kb = isLitX w0 c [] (.slice (some ⟨b, 0, none⟩) 1 1)) (h63 : n0 ≤ 900000)
    (h : ∀ v', rLexL Tryz.prog md ops ⟨In (GX w0 B v0 n0 x0), MakesX v0 n0 k6 k7, sp, fun _ => false, N⟩ Q n l (k + 1) (a.put o.dst v') (upd f k (isPushX w0 B v0 (n0 + 1) (x0 ++ [c]) [] v'))) :
    rLexL Tryz.prog md ops ⟨In (GX w0 B v0 n0 x0), MakesX v0 n0 k6 k7, sp, fun _ => false, N⟩ Q (n + 1) (o :: l) k a f := by
  subst hk
  refine rLexL_spec (isPushX w0 B v0 (n0 + 1) (x0 ++ [c])) hs hw ?_ (fun w hC hd => ?_) (fun v' w _ _ => h v')
  · rintro v j w w' hj _ _ hR ⟨h1, h2⟩
    unfold MakesX at hR; rw [if_neg hj] at hR; split at hR
    · exact ⟨hR.1.own (Nat.le_refl _) h1, h2⟩
    · exact ⟨owns_keep h1 hR, h2⟩
  · obtain ⟨eb, heb, hbb, rfl⟩ := hb
    have hdb := hd eb heb hbb
    rw [hfb] at hdb
    obtain ⟨b', e2, -, hblk⟩ := hdb
    simp only [Value.slice.injEq, Option.some.injEq, Addr.mk.injEq, and_true] at e2
    subst e2
    have hsz := hC.out.1.size
    refine stepTo_push s x t ho B 3 (.int .i64 0) 1 8 ht hinfo rfl (by decide) v0 n0 x0 hsv hC.out.2 b 1 [c] 3 hxv hblk rfl (by simpa using hc1) (by omega) (by omega) (by omega) (fun v' w' h2 h3 h4 h5 => ?_)
    refine ⟨In.mk ⟨gb_trans hC.out.1 h4, h3⟩, by unfold MakesX; rw [if_pos rfl]; exact h4, ⟨h2, fun bb e => ?_⟩, fun e => by cases e⟩
    rcases h5 with h5 | h5
    · exact .inl (h5 ▸ e)
    · rw [h5] at e; simp at e; exact .inr (by omega)
/-- The call that the row is handed to. -/
theorem rgX_call (F : Value → World → Prop) (fid : FuncId) (args : Array Value) (hk : k = k7) (h67 : k7 ≠ k6) (hs : sp k = some (fun _ v u => F v u)) (hw : Region.wanted o (yielded ops a.tmps) = true) (hw6 : waits md ops k k6 = true)
    (hst : ∀ v u u', F v u → u.grownBy u' none → F v u') (hrun : ∀ w, (execOp a.eval o).run Tryz.prog w = .ok (.enter fid args) w)
    (hc : ∀ w, GX w0 B v0 n0 x0 w → (∀ e ∈ o.after, Region.binds md e = true → f e.on w) → Calls Tryz.prog fid args w fun e w' => ∃ v', e = .returned v' ∧ F v' w' ∧ GX w0 B v0 n0 x0 w' ∧ Pre (n0 + 1) w w' ∧ w.heap.size ≤ w'.heap.size)
    (h : ∀ v u, F v u → rLexL Tryz.prog md ops ⟨In (GX w0 B v0 n0 x0), MakesX v0 n0 k6 k7, sp, fun _ => false, N⟩ Q n l (k + 1) (a.put o.dst v) (upd f k (F v))) :
    rLexL Tryz.prog md ops ⟨In (GX w0 B v0 n0 x0), MakesX v0 n0 k6 k7, sp, fun _ => false, N⟩ Q (n + 1) (o :: l) k a f := by
  subst hk
  refine rLexL_specD (fun _ v u => F v u) hs hw ?_ (fun w hC hd => stepTo_call (hrun w) ?_) (fun v w _ h' => h v w h')
  · intro v j w w' hj hwt _ _ hR hF
    unfold MakesX at hR; split at hR
    · rename_i e; subst e; rw [hw6] at hwt; cases hwt
    · first | exact hst v w w' hF hR | (rw [if_neg hj] at hR; exact hst v w w' hF hR)
  · refine (hc w hC.out hd).mono ?_
    rintro e w' ⟨v', rfl, hF, hG, hP, hz⟩
    exact ⟨_, rfl, In.mk hG, by unfold MakesX; rw [if_neg h67, if_pos rfl]; exact ⟨hP, hz⟩, hF, fun e => by cases e⟩
end
end Go.Proofs.YtdkckhihleffeaaGreat
