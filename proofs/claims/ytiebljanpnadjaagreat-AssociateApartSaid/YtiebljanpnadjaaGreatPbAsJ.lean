/- AsJ -/
import Derived.ArgAppend
import Derived.Deep.Upon
import Derived.BigRegion
import Derived.Deep.AppendLies
import Derived.Laws.OwnMore
import Derived.Test.YtiebljanpnadjaaGreatPbRgMade
import Derived.Test.YtiebljanpnadjaaGreatPbRgPos
import Derived.Test.YtiebljanpnadjaaGreatPbMem
import Derived.Test.YtiebljanpnadjaaGreatPbMis
import Derived.Test.YtiebljanpnadjaaGreatPbAsY
import Derived.Test.YtiebljanpnadjaaGreatPbAsH
namespace Go.Proofs.YtiebljanpnadjaaGreat
set_option linter.all false
open Go.RowKit Rg
section
variable {b0 : Nat} {u u' : World} {L : List Grv} {gv lv : Value} {LF : List Int}
theorem GsOwn.gin (h : GsOwn b0 u L gv lv LF) : GrIn u gv L := ⟨SlC.of_owns h.gr, fun x hx => (h.ms x hx).1⟩
/-- One more group. -/
theorem GsOwn.push {x : Grv} {gv' : Value} (h : GsOwn b0 u L gv lv LF) (hown : u'.ownsRow b0 53 5 gv' (L.length + 1) (flatG L ++ x.cells)) (hg : u.grownBy u' gv.ownBlock) (hv : gv'.ownBlock = gv.ownBlock ∨ gv'.ownBlock = some u.heap.size)
    (hm : Sl u x.mv x.g.ms) (hmb : ∀ b off len cap, x.mv = .slice (some ⟨b, off, none⟩) len cap → b0 ≤ b ∧ b < u.heap.size ∧ gv.ownBlock ≠ some b ∧ lv.ownBlock ≠ some b) : GsOwn b0 u' (L ++ [x]) gv' lv LF := by
  have tap : ∀ y : Grv, (Sl u y.mv y.g.ms ∧ ∀ b off len cap, y.mv = .slice (some ⟨b, off, none⟩) len cap → b0 ≤ b ∧ b < u.heap.size ∧ gv.ownBlock ≠ some b ∧ lv.ownBlock ≠ some b) → (Sl u' y.mv y.g.ms ∧ ∀ b off len cap, y.mv = .slice (some ⟨b, off, none⟩) len cap → b0 ≤ b ∧ b < u'.heap.size ∧ gv'.ownBlock ≠ some b ∧ lv.ownBlock ≠ some b) := by
    rintro y ⟨t1, t2⟩
    refine ⟨t1.later hg (fun b off len cap e _ e2 => (t2 b off len cap e).2.2.1 e2.symm), fun b off len cap e => ?_⟩
    obtain ⟨a1, a2, a3, a4⟩ := t2 b off len cap e
    refine ⟨a1, Nat.lt_of_lt_of_le a2 hg.size, fun e2 => ?_, a4⟩
    rcases hv with hv | hv
    · exact a3 (hv ▸ e2)
    · rw [hv] at e2; simp at e2; omega
  refine ⟨by rw [flatG_snoc, List.length_append, List.length_singleton]; exact hown, ?_, fun y hy => ?_, fun g e e2 => ?_⟩
  · refine h.lr.kept hg ?_
    cases hb : lv.ownBlock with
    | none => exact .inl rfl
    | some g => exact .inr (fun e => h.ap g e.symm hb)
  · rcases List.mem_append.1 hy with hy | hy
    · exact tap y (h.ms y hy)
    · simp only [List.mem_singleton] at hy; subst hy; exact tap y ⟨hm, hmb⟩
  · rcases hv with hv | hv
    · exact h.ap g (hv ▸ e) e2
    · rw [hv] at e; simp at e; have := (h.lr.lt g e2).2; omega
/-- One more is left out. -/
theorem GsOwn.left {x : Int} {lv' : Value} (h : GsOwn b0 u L gv lv LF) (hown : u'.ownsRow b0 3 1 lv' (LF.length + 1) (LF.map (Value.int .i64) ++ [.int .i64 x])) (hg : u.grownBy u' lv.ownBlock) (hv : lv'.ownBlock = lv.ownBlock ∨ lv'.ownBlock = some u.heap.size) : GsOwn b0 u' L gv lv' (LF ++ [x]) := by
  refine ⟨?_, by rw [List.length_append, List.length_singleton, List.map_append]; exact hown, fun y hy => ?_, fun g e e2 => ?_⟩
  · refine h.gr.kept hg ?_
    cases hb : gv.ownBlock with
    | none => exact .inl rfl
    | some g => exact .inr (fun e => h.ap g hb e.symm)
  · obtain ⟨t1, t2⟩ := h.ms y hy
    refine ⟨t1.later hg (fun b off len cap e _ e2 => (t2 b off len cap e).2.2.2 e2.symm), fun b off len cap e => ?_⟩
    obtain ⟨a1, a2, a3, a4⟩ := t2 b off len cap e
    refine ⟨a1, Nat.lt_of_lt_of_le a2 hg.size, a3, fun e2 => ?_⟩
    rcases hv with hv | hv
    · exact a4 (hv ▸ e2)
    · rw [hv] at e2; simp at e2; omega
  · rcases hv with hv | hv
    · exact h.ap g e (hv ▸ e2)
    · rw [hv] at e2; simp at e2; have := (h.gr.lt g e).2; omega
theorem GsOwn.far {row : Option Nat} (h : GsOwn b0 u L gv lv LF) (hg : u.grownBy u' row) (hr : ∀ q, row = some q → q < b0) : GsOwn b0 u' L gv lv LF := by
  have ne : ∀ v : Value, (∀ b, v.ownBlock = some b → b0 ≤ b) → v.ownBlock = none ∨ v.ownBlock ≠ row := fun v hv => by
    cases e : v.ownBlock with
    | none => exact .inl rfl
    | some b => exact .inr (fun e2 => by have := hv b e; have := hr b e2.symm; omega)
  refine ⟨h.gr.kept hg (ne gv fun b e => (h.gr.lt b e).1), h.lr.kept hg (ne lv fun b e => (h.lr.lt b e).1), fun x hx => ?_, h.ap⟩
  obtain ⟨t1, t2⟩ := h.ms x hx
  refine ⟨t1.later hg (fun b off len cap e _ e2 => by have := (t2 b off len cap e).1; have := hr b e2.symm; omega), fun b off len cap e => ?_⟩
  obtain ⟨a1, a2, a3, a4⟩ := t2 b off len cap e
  exact ⟨a1, Nat.lt_of_lt_of_le a2 hg.size, a3, a4⟩
end
theorem gb_row {w u u' : World} {r r' : Option Nat} (h : w.grownBy u r) (hg : u.grownBy u' r') (hr : ∀ q, r' = some q → some q = r ∨ w.heap.size ≤ q) : w.grownBy u' r :=
  ⟨hg.os.trans h.os, hg.tape.trans h.tape, hg.output.trans h.output, Nat.le_trans h.size hg.size, fun i hi hne => (hg.block i (Nat.lt_of_lt_of_le hi h.size) (fun e => by rcases hr i e.symm with h1 | h1; exact hne h1; omega)).trans (h.block i hi hne)⟩
/-- A value's row is the one that it was, or new. -/
def Cur (w : World) (v0 v : Value) : Prop := ∀ b, v.ownBlock = some b → some b = v0.ownBlock ∨ w.heap.size ≤ b
theorem Cur.refl (w : World) (v : Value) : Cur w v v := fun _ e => .inl e.symm
theorem Cur.push {w u : World} {v0 v v' : Value} {r : Option Nat} (h : Cur w v0 v) (hg : w.grownBy u r) (hv : v'.ownBlock = v.ownBlock ∨ v'.ownBlock = some u.heap.size) : Cur w v0 v' := fun b e => by
  rcases hv with hv | hv
  · exact h b (hv ▸ e)
  · rw [hv] at e; simp at e; have := hg.size; exact .inr (by omega)
/-- What the walk keeps while one of two rows grows. -/
structure GrowAt (w8 : World) (b0 : Nat) (v0 : Value) (L : List Grv) (LF : List Int) (gv lv v : Value) (u : World) : Prop where
  own : GsOwn b0 u L gv lv LF
  fr : w8.grownBy u v0.ownBlock
  cur : Cur w8 v0 v
theorem GrowAt.later {w8 u u' : World} {b0 : Nat} {v0 : Value} {L : List Grv} {LF : List Int} {gv lv v : Value} (h : GrowAt w8 b0 v0 L LF gv lv v u) (hg : u.grownBy u' none) : GrowAt w8 b0 v0 L LF gv lv v u' :=
  ⟨h.own.later hg, gb_trans h.fr (gb_none hg), h.cur⟩
theorem GrowAt.group {w8 u u' : World} {b0 : Nat} {v0 : Value} {L : List Grv} {LF : List Int} {gv lv : Value} {x : Grv} {gv' : Value} (h : GrowAt w8 b0 v0 L LF gv lv gv u) (hown : u'.ownsRow b0 53 5 gv' (L.length + 1) (flatG L ++ x.cells)) (hg : u.grownBy u' gv.ownBlock) (hv : gv'.ownBlock = gv.ownBlock ∨ gv'.ownBlock = some u.heap.size)
    (hm : Sl u x.mv x.g.ms) (hmb : ∀ b off len cap, x.mv = .slice (some ⟨b, off, none⟩) len cap → b0 ≤ b ∧ b < u.heap.size ∧ gv.ownBlock ≠ some b ∧ lv.ownBlock ≠ some b) : GrowAt w8 b0 v0 (L ++ [x]) LF gv' lv gv' u' :=
  ⟨h.own.push hown hg hv hm hmb, gb_row h.fr hg h.cur, h.cur.push h.fr hv⟩
theorem GrowAt.left {w8 u u' : World} {b0 : Nat} {v0 : Value} {L : List Grv} {LF : List Int} {gv lv : Value} {x : Int} {lv' : Value} (h : GrowAt w8 b0 v0 L LF gv lv lv u) (hown : u'.ownsRow b0 3 1 lv' (LF.length + 1) (LF.map (Value.int .i64) ++ [.int .i64 x])) (hg : u.grownBy u' lv.ownBlock) (hv : lv'.ownBlock = lv.ownBlock ∨ lv'.ownBlock = some u.heap.size) : GrowAt w8 b0 v0 L (LF ++ [x]) gv lv' lv' u' :=
  ⟨h.own.left hown hg hv, gb_row h.fr hg h.cur, h.cur.push h.fr hv⟩
/-- What Associate gives, in memory of its own. -/
def AsFO (b0 : Nat) (E : Int) (G : List Grp) (LF : List Int) (n m : Nat) (v : Value) (u : World) : Prop := ∃ (ga : Option Addr) (gc : Nat) (lf : Option Addr) (lo : Nat) (L : List Grv), v = .tuple #[.slice ga n gc, .slice lf m lo, .int .i64 E] ∧ GsOwn b0 u L (.slice ga n gc) (.slice lf m lo) LF ∧ L.map Grv.g = G ∧ L.length = n
theorem AsFO.after {b0 : Nat} {E : Int} {G : List Grp} {LF : List Int} {n m : Nat} (v : Value) (u u' : World) (h : AsFO b0 E G LF n m v u) (hg : u.grownBy u' none) : AsFO b0 E G LF n m v u' := by
  obtain ⟨ga, gc, lf, lo, L, rfl, h1, h2, h3⟩ := h
  exact ⟨ga, gc, lf, lo, L, rfl, h1.later hg, h2, h3⟩
theorem GsOwn.mono {b0 b1 : Nat} {u : World} {L : List Grv} {gv lv : Value} {LF : List Int} (h : GsOwn b0 u L gv lv LF) (hb : b1 ≤ b0) : GsOwn b1 u L gv lv LF :=
  ⟨owns_mono h.gr hb, owns_mono h.lr hb, fun x hx => ⟨(h.ms x hx).1, fun b off len cap e => by obtain ⟨a1, a2⟩ := (h.ms x hx).2 b off len cap e; exact ⟨by omega, a2⟩⟩, h.ap⟩
theorem asFO_of {A : Asc} {P : List Ph} {E : Int} {G : List Grp} {LF : List Int} (hR : assocR A P = (E, G, LF)) (b0 n m : Nat) (hn : G.length = n) (hm : LF.length = m) (vl vh pv : Value) (cs : Array Value) (u : World) (hb : b0 ≤ u.heap.size) (hA : AscIn A vl vh u) (hp : SlC 6 u pv P.length (flatP P)) (h20 : P.length < 20) (hcs : cs = A.val vl vh := by rfl) :
    Calls Tryz.prog 15 #[.agg cs, pv] u fun e w' => ∃ v, e = .returned v ∧ AsFO b0 E G LF n m v w' ∧ u.grownBy w' none := by
  subst hcs
  refine (associate_own A P vl vh pv u hA hp h20).mono ?_
  rintro e w' ⟨L, gv, lv, rfl, h1, h2, h4⟩
  rw [hR] at h1 h2 ⊢
  dsimp only at h1 h2 ⊢
  have hl : L.length = n := by rw [← hn, ← h2, List.length_map]
  obtain ⟨ga, gc, rfl⟩ := owns_slice h1.gr
  obtain ⟨lf, lo, rfl⟩ := owns_slice h1.lr
  rw [hl, hm] at h1 ⊢
  exact ⟨_, rfl, ⟨ga, gc, lf, lo, L, rfl, h1.mono hb, h2, hl⟩, h4⟩
theorem AsFO.parts {b0 : Nat} {E : Int} {G : List Grp} {LF : List Int} {n m : Nat} {ga : Option Addr} {gc : Nat} {lf : Option Addr} {lo : Nat} {u : World} (h : AsFO b0 E G LF n m (.tuple #[.slice ga n gc, .slice lf m lo, .int .i64 E]) u) : ∃ L, GsOwn b0 u L (.slice ga n gc) (.slice lf m lo) LF ∧ L.map Grv.g = G ∧ L.length = n := by
  obtain ⟨ga', gc', lf', lo', L', e, h1, h2, h3⟩ := h
  simp only [Value.tuple.injEq, Array.mk.injEq, List.cons.injEq, Value.slice.injEq, true_and, and_true] at e
  obtain ⟨⟨rfl, rfl⟩, rfl, rfl⟩ := e
  exact ⟨L', h1, h2, h3⟩
theorem ms_sub {g : Grp} : ∀ {G : List Grp}, g ∈ G → g.ms.Sublist (G.flatMap Grp.ms)
  | a :: G, h => by
    rw [List.flatMap_cons]
    rcases List.mem_cons.1 h with rfl | h
    · exact List.sublist_append_left _ _
    · exact (ms_sub h).trans (List.sublist_append_right _ _)
/-- Phases that are drawn, in memory of their own. -/
def PhV (base : Nat) (most : Int) (v : Value) (u : World) : Prop := ∃ (l : List Ph) (va : Option Addr) (vc : Nat), v = .slice va l.length vc ∧ (l.length : Int) ≤ most ∧ (∀ a ∈ l, soonPh a) ∧ u.ownsRow base 51 6 (.slice va l.length vc) l.length (flatP l)
theorem PhV.draw {p base : Nat} {most : Int} {v : Value} {u u' : World} (hb : p < base) (h : PhV base most v u) (hg : u.grownBy u' (some p)) : PhV base most v u' := by
  obtain ⟨l, va, vc, rfl, h1, h2, h3⟩ := h
  exact ⟨l, va, vc, rfl, h1, h2, owns_keepp h3 hg hb⟩
section
variable {ops : Array Oper} {md : Region.Mode} {w0 : World} {B p : Nat} {sp : Nat → Option (List Value → Value → World → Prop)} {al : Nat → Bool} {N : Nat} {Q : List Oper → Act → Facts → Prop} {n k : Nat} {o : Oper} {l : List Oper} {a : Act} {f : Facts}
theorem rg_drawPh (most : Int) (fid : FuncId) (args : Array Value) (hp : p < w0.heap.size) (hs : sp k = some (fun _ v u => PhV w0.heap.size most v u)) (hw : Region.wanted o (yielded ops a.tmps) = true)
    (hrun : ∀ w, (execOp a.eval o).run Tryz.prog w = .ok (.enter fid args) w)
    (hc : ∀ w, Pulled w0 B p w → Calls Tryz.prog fid args w (NewPhs B p most w))
    (h : ∀ v u, PhV w0.heap.size most v u → rLexL Tryz.prog md ops ⟨In (Pulled w0 B p), Pull p, sp, al, N⟩ Q n l (k + 1) (a.put o.dst v) (upd f k (PhV w0.heap.size most v))) :
    rLexL Tryz.prog md ops ⟨In (Pulled w0 B p), Pull p, sp, al, N⟩ Q (n + 1) (o :: l) k a f := by
  refine rLexL_spec (fun _ v u => PhV w0.heap.size most v u) hs hw (fun v j w w' _ _ _ hR h => h.draw hp hR) (fun w hC hd => stepTo_call (hrun w) ?_) (fun v w _ h' => h v w h')
  refine (hc w hC.out).mono ?_
  rintro e w' ⟨l, va, vc, rfl, h1, h2, h3, -, hS, hg⟩
  have hsz := hC.out.1.size
  refine ⟨_, rfl, In.mk ⟨gb_trans hC.out.1 hg, hS⟩, hg, ⟨l, va, vc, rfl, h1, h2, owns_mono h3 hsz⟩, fun _ b hb _ => ?_⟩
  have hb : (Value.slice va l.length vc).ownBlock = some b := by
    cases va with
    | none => cases hb
    | some ad => obtain ⟨b', off, sp⟩ := ad; simpa [blk, Value.ownBlock] using hb
  exact h3.lt b hb
theorem rg_load14P (x : Operand) (b : Nat) (cs : Array Value) (T : TypeId) (hb : w0.heap[b]? = some (.cells cs T (0, 0))) (hbp : b ≠ p) (hsz : cs.size = 14) (hs : sp k = some (isV (.agg cs))) (hw : Region.wanted o (yielded ops a.tmps) = true) (hal : al k = false) (ho : o.op = .load 30 x) (hx : a.eval x = .pointer (some ⟨b, 0, none⟩))
    (h : rLexL Tryz.prog md ops ⟨In (Pulled w0 B p), Pull p, sp, al, N⟩ Q n l (k + 1) (a.put o.dst (.agg cs)) (upd f k fun _ => Value.agg cs = Value.agg cs)) : rLexL Tryz.prog md ops ⟨In (Pulled w0 B p), Pull p, sp, al, N⟩ Q (n + 1) (o :: l) k a f := by
  obtain ⟨d, h1, h2⟩ := asDesc
  have hrun : ∀ w, Pulled w0 B p w → (execOp a.eval o).run Tryz.prog w = .ok (.value (.agg cs)) w := fun w hw' => by
    unfold execOp
    simp only [ho, hx, Instr.loadAt, Instr.sureAddr, Sem.run_bind, Sem.run_pure, Result.andThen_ok, run_loadVar_mid w b 0 30 cs.toList d (range14 (block_keptp hw'.1 hb hbp)) h1 h2 (by rw [asInfo, Array.length_toList, hsz]), Array.toArray_toList]
  refine rLexL_spec (isV (.agg cs)) hs hw (fun v j w w' _ _ _ _ h => h) (fun w hC hd => stepTo_run (hrun w hC.out) ?_) ?_
  · exact ⟨hC, gb_refl _ _, rfl, fun e => by rw [hal] at e; cases e⟩
  · rintro v w hC rfl
    exact h
end
theorem SlC.full {k n c : Nat} {w : World} {a : Option Addr} {ys : List Value} (h : SlC k w (.slice a n c) n ys) : SlC k w (.slice a n n) n ys := by
  refine ⟨h.1, ?_⟩
  rcases h.2 with ⟨rfl, -⟩ | ⟨b, off, cap, e, h1, h2, h3, h4⟩
  · exact .inl ⟨rfl, _, _, rfl⟩
  · simp only [Value.slice.injEq, true_and] at e
    obtain ⟨rfl, rfl⟩ := e
    exact .inr ⟨b, off, n, rfl, h1, Nat.le_refl _, by omega, h4⟩
/-- Two lists of phases, one behind the other: the first one is full. -/
def JnP (xs ys : List Ph) (n m : Nat) (v : Value) (u : World) : Prop := ∃ va vc, v = .slice va (n + m) vc ∧ SlC 6 u v (xs ++ ys).length (flatP (xs ++ ys))
theorem flatP_append (xs ys : List Ph) : flatP (xs ++ ys) = flatP xs ++ flatP ys := by simp [flatP]
theorem run_joinP {w : World} (t ty : TypeId) (ht : Tryz.prog.underlying t = some (.slice 51)) (xs ys : List Ph) (n m c : Nat) (oa ob : Option Addr) (hn : xs.length = n) (hm : ys.length = m) (hx : SlC 6 w (.slice oa n n) n (flatP xs)) (hy : SlC 6 w (.slice ob m c) m (flatP ys)) (hlen : n + m ≤ 1000000) :
    ∃ v w', (Builtin.append_ #[t, t] ty #[.slice oa n n, .slice ob m c]).run Tryz.prog w = .ok v w' ∧ JnP xs ys n m v w' ∧ w.grownBy w' none := by
  obtain ⟨i0, hi, hz0, hz1, hz2⟩ := info_parts Tryz.infoPhaseT
  have hl : (xs ++ ys).length = n + m := by rw [List.length_append, hn, hm]
  rcases Nat.eq_zero_or_pos m with h0 | h0
  · subst h0
    obtain rfl : ys = [] := List.length_eq_zero_iff.1 hm
    refine ⟨_, w, run_append_nothing w t t ty 51 i0 ht hi oa n n (Nat.le_refl _) _ ?_, ⟨oa, n, rfl, ?_⟩, gb_refl _ _⟩
    · cases ob with
      | none => exact Src.ofNil w ht c
      | some ad => exact Src.ofSlice w ht ad 0 c [] (by simp) (by simp) (by simp)
    · rw [hl, Nat.add_zero, List.append_nil]; exact hx
  · obtain ⟨b, off, cap, e, hb, h1, h2, hc⟩ := hy.block h0
    simp only [Value.slice.injEq, true_and] at e
    obtain ⟨rfl, rfl⟩ := e
    have had : ∀ (b off j : Nat), (⟨b, off, none⟩ : Addr).add j = ⟨b, off + j, none⟩ := fun b off j => by unfold Addr.add; split <;> simp_all
    have h1c : ∀ u ∈ flatP ys, u.oneCell' = true := fun u hu => by
      obtain ⟨a, _, ha⟩ := List.mem_flatMap.1 hu
      simp only [Ph.cells, List.mem_cons, List.not_mem_nil, or_false] at ha
      rcases ha with rfl | rfl | rfl | rfl | rfl | rfl <;> rfl
    have fin : ∀ v' w', w'.ownsRow w.heap.size 51 6 v' (n + m) (flatP xs ++ flatP ys) → w.grownBy w' none → JnP xs ys n m v' w' := fun v' w' ho hg => by
      obtain ⟨g, cap, rfl, -, -⟩ := ho.form (by omega)
      exact ⟨_, _, rfl, by rw [hl, flatP_append]; exact SlC.of_owns ho⟩
    cases oa with
    | none =>
      obtain rfl : n = 0 := by
        rcases hx.2 with ⟨h, -⟩ | ⟨_, _, _, h, -⟩
        · exact h
        · simp at h
      obtain rfl : xs = [] := List.length_eq_zero_iff.1 hn
      obtain ⟨v', w', hr, h2, h3, _, -⟩ := run_append_own_at (P := Tryz.prog) w w.heap.size t ty 51 i0 _ 6 48 ht hi hz0 hz1 hz2 rfl (by decide) (.slice none 0 0) 0 [] (World.ownsRow_nil _ _ _ _) ⟨b, off, none⟩ m c (flatP ys) (by rw [flatP_length, hm]) (fun j u hj => by rw [had]; exact hc j u hj) h1c (by unfold maxLen; omega) (by omega) (Nat.le_refl _)
      exact ⟨v', w', hr, fin v' w' h2 h3, h3⟩
    | some ad =>
      obtain ⟨v', w', hr, h2, h3⟩ := run_append_arg_grows (P := Tryz.prog) w t ty 51 i0 _ 6 48 ht hi hz0 hz1 hz2 rfl (by decide) ad n n (flatP xs) (by rw [flatP_length, hn]) (fun j u hj => by
        rcases Nat.eq_zero_or_pos n with hn0 | hn0
        · exfalso
          have : xs = [] := List.length_eq_zero_iff.1 (by omega)
          subst this
          simp [flatP] at hj
        · obtain ⟨b', off', cap', e', -, -, -, hc'⟩ := hx.block hn0
          simp only [Value.slice.injEq, Option.some.injEq, true_and] at e'
          obtain ⟨rfl, -⟩ := e'
          rw [had]; exact hc' j u hj) ⟨b, off, none⟩ m c (flatP ys) (by rw [flatP_length, hm]) (fun j u hj => by rw [had]; exact hc j u hj) (by omega) (by unfold maxLen; omega) (by omega)
      exact ⟨v', w', hr, fin v' w' h2 h3, h3⟩
theorem JnP.after {xs ys : List Ph} {n m : Nat} (v : Value) (u u' : World) (h : JnP xs ys n m v u) (hg : u.grownBy u' none) : JnP xs ys n m v u' := by
  obtain ⟨va, vc, rfl, h⟩ := h
  exact ⟨va, vc, rfl, h.after hg⟩
section
variable {ops : Array Oper} {md : Region.Mode} {w0 : World} {sp : Nat → Option (List Value → Value → World → Prop)} {al : Nat → Bool} {N : Nat} {Q : List Oper → Act → Facts → Prop} {n k : Nat} {o : Oper} {l : List Oper} {a : Act} {f : Facts}
theorem rg_joinP (s x : Operand) (t : TypeId) (ht : Tryz.prog.underlying t = some (.slice 51)) (xs ys : List Ph) (n1 m c : Nat) (oa ob : Option Addr) (hn : xs.length = n1) (hm : ys.length = m) (hx : SlC 6 w0 (.slice oa n1 n1) n1 (flatP xs)) (hy : SlC 6 w0 (.slice ob m c) m (flatP ys)) (hlen : n1 + m ≤ 1000000)
    (hs : sp k = some (isF (JnP xs ys n1 m))) (hw : Region.wanted o (yielded ops a.tmps) = true) (hal : al k = false)
    (ho : o.op = .call { callee := .builtin .append, args := #[s, x], argTypes := #[t, t] }) (hsv : a.eval s = .slice oa n1 n1) (hxv : a.eval x = .slice ob m c)
    (h : ∀ v u, JnP xs ys n1 m v u → rLexL Tryz.prog md ops ⟨In (Made w0), Makes, sp, al, N⟩ Q n l (k + 1) (a.put o.dst v) (upd f k (JnP xs ys n1 m v))) :
    rLexL Tryz.prog md ops ⟨In (Made w0), Makes, sp, al, N⟩ Q (n + 1) (o :: l) k a f := by
  refine rLexL_spec (isF (JnP xs ys n1 m)) hs hw (fun v j w w' _ _ _ hR h => JnP.after v w w' h hR) (fun w hC hd => ?_) (fun v w _ h' => h v w h')
  obtain ⟨v, w', hr, h1, h2⟩ := run_joinP (w := w) t o.type ht xs ys n1 m c oa ob hn hm (hx.after hC.out) (hy.after hC.out) hlen
  unfold stepTo execOp
  simp only [ho, resolve, invoke, builtin, Sem.run_bind, Sem.run_pure, Result.andThen_ok, List.map_toArray, List.map_cons, List.map_nil, hsv, hxv, hr]
  exact ⟨In.mk (gb_trans hC.out h2), h2, h1, fun e => by rw [hal] at e; cases e⟩
end
/-- One cell of one phase. -/
theorem flatP_put (v : Value) (j : Nat) (hj : j < 6) : ∀ (L : List Ph) (k : Nat) (hk : k < L.length) (a : Ph), a.cells = (L[k].cells).set j v → (flatP L).set (k * 6 + j) v = flatP (L.set k a)
  | b :: L, 0, _, a, h => by
    have e : flatP (b :: L) = b.cells ++ flatP L := by simp [flatP]
    have e2 : flatP ((b :: L).set 0 a) = a.cells ++ flatP L := by simp [flatP]
    rw [e, e2, Nat.zero_mul, Nat.zero_add, List.set_append_left _ _ (by simp [Ph.cells]; omega)]
    rw [h]; rfl
  | b :: L, k + 1, hk, a, h => by
    have e : flatP (b :: L) = b.cells ++ flatP L := by simp [flatP]
    have e2 : flatP ((b :: L).set (k + 1) a) = b.cells ++ flatP (L.set k a) := by simp [flatP]
    have hl : b.cells.length = 6 := rfl
    rw [e, e2, List.set_append_right _ _ (by rw [hl]; omega), hl, show (k + 1) * 6 + j - 6 = k * 6 + j by omega, flatP_put v j hj L k (by simpa using hk) a (by simpa using h)]
/-- The first k phases come later. -/
def Ph.late (a : Ph) : Ph := ⟨a.x, a.y, a.z, a.e + 100000, a.l + 100000, a.n⟩
def shlP (k : Nat) (Q : List Ph) : List Ph := (Q.take k).map Ph.late ++ Q.drop k
theorem shlP_length (k : Nat) (Q : List Ph) : (shlP k Q).length = Q.length := by simp [shlP]; omega
theorem shlP_at {k : Nat} {Q : List Ph} (h : k < Q.length) : (shlP k Q)[k]'(by rw [shlP_length]; exact h) = Q[k] := by
  unfold shlP
  rw [List.getElem_append_right (by simp; omega)]
  simp [Nat.min_eq_left (Nat.le_of_lt h)]
theorem shlP_step {k : Nat} {Q : List Ph} (h : k < Q.length) : (shlP k Q).set k (Q[k].late) = shlP (k + 1) Q := by
  unfold shlP
  have hl : ((Q.take k).map Ph.late).length = k := by simp; omega
  rw [List.set_append_right _ _ (by omega), List.take_succ_eq_append_getElem h, List.drop_eq_getElem_cons h, hl, Nat.sub_self, List.map_append]
  simp only [List.set_cons_zero, List.append_assoc, List.map_cons, List.map_nil, List.cons_append, List.nil_append]
theorem shlP_all (Q : List Ph) : shlP Q.length Q = Q.map Ph.late := by simp [shlP]
theorem shlP_zero (Q : List Ph) : shlP 0 Q = Q := by simp [shlP]
end Go.Proofs.YtiebljanpnadjaaGreat
