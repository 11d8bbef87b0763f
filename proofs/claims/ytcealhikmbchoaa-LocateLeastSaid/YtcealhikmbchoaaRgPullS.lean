/- A drawn region that draws numbers, calls, makes a variable and stores into it while other operations still run. -/
import Derived.Test.YtcealhikmbchoaaLit
namespace Go.Proofs.Ytcealhikmbchoaa
set_option linter.all false
open Go.RowKit Rg

/-- Operation k0 stores into a new variable; the others may draw. -/
def PullS (p k0 : Nat) : Nat → World → World → Prop := fun k w w' => if k = k0 then Wr w w' else w.grownBy w' (some p)
theorem PullS.size {p k0 : Nat} (i : Nat) (w w' : World) (h : PullS p k0 i w w') : w.heap.size ≤ w'.heap.size := by
  unfold PullS at h; split at h
  · exact h.1
  · exact World.grownBy.size h
theorem PullS.draw {p k0 k : Nat} (h : k ≠ k0) (u u' : World) (hg : u.grownBy u' (some p)) : PullS p k0 k u u' := by unfold PullS; rw [if_neg h]; exact hg
theorem PullS.none {p k0 k : Nat} (h : k ≠ k0) (u u' : World) (hg : u.grownBy u' none) : PullS p k0 k u u' := PullS.draw h u u' (gb_none hg)
abbrev isRowAny (T : TypeId) : List Value → Value → World → Prop := fun vs _ u => ∃ (b : Nat) (cs : Array Value), vs[0]? = some (.pointer (some ⟨b, 0, none⟩)) ∧ vs[1]? = some (.agg cs) ∧ u.heap[b]? = some (.cells cs T (0, 0))
theorem Pulled.made' {w : World} {B p : Nat} (u u' : World) (h : Pulled w B p u) (hg : u.grownBy u' none) : Pulled w B p u' := ⟨gb_trans h.1 (gb_none hg), h.2.later (row := none) hg (by simp)⟩
section
variable {ops : Array Oper} {md : Region.Mode} {w0 : World} {B p : Nat} {sp : Nat → Option (List Value → Value → World → Prop)} {N : Nat} {Q : List Oper → Act → Facts → Prop} {n k k0 : Nat} {o : Oper} {l : List Oper} {a : Act} {f : Facts}
theorem rg_drawS (hk : k ≠ k0) (Pd : Int → Prop) (fid : FuncId) (args : Array Value) (hs : sp k = some (isInt Pd)) (hw : Region.wanted o (yielded ops a.tmps) = true)
    (hrun : ∀ w, (execOp a.eval o).run Try.prog w = .ok (.enter fid args) w)
    (hc : ∀ w, Pulled w0 B p w → Calls Try.prog fid args w (Drawn B p Pd w))
    (h : ∀ x, Pd x → rLexL Try.prog md ops ⟨In (Pulled w0 B p), PullS p k0, sp, fun _ => false, N⟩ Q n l (k + 1) (a.put o.dst (.int .i64 x)) (upd f k fun _ => ∃ y, Value.int .i64 x = .int .i64 y ∧ Pd y)) :
    rLexL Try.prog md ops ⟨In (Pulled w0 B p), PullS p k0, sp, fun _ => false, N⟩ Q (n + 1) (o :: l) k a f := by
  refine rLexL_spec (isInt Pd) hs hw (fun v j w w' _ _ _ _ h => h) (fun w hC hd => stepTo_call (hrun w) ?_) ?_
  · refine (hc w hC.out).mono ?_
    rintro e w' ⟨x, rfl, hx, hs, hg⟩
    exact ⟨_, rfl, In.mk ⟨gb_trans hC.out.1 hg, hs⟩, PullS.draw hk _ _ hg, ⟨x, rfl, hx⟩, fun e => by cases e⟩
  · rintro v w hC ⟨x, rfl, hx⟩
    exact h x hx
theorem rg_varS (hp : p < w0.heap.size) (zs : Array Value) (T : TypeId) (hk : k ≠ k0) (hs : sp k = some (isVar w0 zs.size T)) (hw : Region.wanted o (yielded ops a.tmps) = true)
    (hrun : ∀ w, (execOp a.eval o).run Try.prog w = .ok (.value (.pointer (some ⟨w.heap.size, 0, none⟩))) (w.alloc (.cells zs T)))
    (h : ∀ b, w0.heap.size ≤ b → rLexL Try.prog md ops ⟨In (Pulled w0 B p), PullS p k0, sp, fun _ => false, N⟩ Q n l (k + 1) (a.put o.dst (.pointer (some ⟨b, 0, none⟩))) (upd f k (isVar w0 zs.size T [] (.pointer (some ⟨b, 0, none⟩))))) :
    rLexL Try.prog md ops ⟨In (Pulled w0 B p), PullS p k0, sp, fun _ => false, N⟩ Q (n + 1) (o :: l) k a f := by
  refine rLexL_spec (isVar w0 zs.size T) hs hw ?_ (fun w hC hd => stepTo_run (hrun w) ?_) ?_
  · rintro v j w w' _ _ _ hR ⟨b, e, hb, cs, hcs, hh⟩
    refine ⟨b, e, hb, ?_⟩
    unfold PullS at hR; split at hR
    · obtain ⟨cs', h1, h2⟩ := hR.2 b cs T hh
      exact ⟨cs', h1.trans hcs, h2⟩
    · exact ⟨cs, hcs, block_keptp hR hh (by omega)⟩
  · have hg : w.grownBy (w.alloc (.cells zs T)) none := gb_alloc (gb_refl _ _) _
    have hsz := hC.out.1.size
    exact ⟨In.mk (Pulled.made' _ _ hC.out hg), PullS.none hk _ _ hg, ⟨_, rfl, hsz, zs, rfl, heap_alloc_new w _⟩, fun e => by cases e⟩
  · rintro v w hC ⟨b, rfl, hb, -⟩
    exact h b hb
/-- A call whose value is of a kind. -/
theorem rg_kindS (hk : k ≠ k0) (F : Value → Prop) (fid : FuncId) (args : Array Value) (hs : sp k = some (fun _ v _ => F v)) (hw : Region.wanted o (yielded ops a.tmps) = true)
    (hrun : ∀ w, (execOp a.eval o).run Try.prog w = .ok (.enter fid args) w)
    (hc : ∀ w, Pulled w0 B p w → Calls Try.prog fid args w fun e w' => ∃ v, e = .returned v ∧ F v ∧ w.grownBy w' none)
    (h : ∀ v, F v → rLexL Try.prog md ops ⟨In (Pulled w0 B p), PullS p k0, sp, fun _ => false, N⟩ Q n l (k + 1) (a.put o.dst v) (upd f k fun _ => F v)) :
    rLexL Try.prog md ops ⟨In (Pulled w0 B p), PullS p k0, sp, fun _ => false, N⟩ Q (n + 1) (o :: l) k a f := by
  refine rLexL_spec (fun _ v _ => F v) hs hw (fun v j w w' _ _ _ _ h => h) (fun w hC hd => stepTo_call (hrun w) ?_) (fun v w _ h' => h v h')
  refine (hc w hC.out).mono ?_
  rintro e w' ⟨v, rfl, hF, hg⟩
  exact ⟨_, rfl, In.mk (Pulled.made' _ _ hC.out hg), PullS.none hk _ _ hg, hF, fun e => by cases e⟩
theorem rg_storeRowS (hp : p < w0.heap.size) (hB : B ≤ p) (b : Nat) (cells : Array Value) (T ty : TypeId) (x y : Operand) (kb : Nat) (hafter : ∃ e ∈ o.after, Region.binds md e = true ∧ e.on = kb) (hf : f kb = isVar w0 cells.size T [] (.pointer (some ⟨b, 0, none⟩)))
    (ho : o.op = .store ty x y) (hx : a.eval x = .pointer (some ⟨b, 0, none⟩)) (hy : a.eval y = .agg cells) (hi : (Try.prog.info? ty).map (·.size) = some cells.size) (h1 : cells.all (·.oneCell') = true) (hb : w0.heap.size ≤ b)
    (hs : sp k = some (isRow cells T)) (hw : Region.wanted o (yielded ops a.tmps) = true)
    (h : rLexL Try.prog md ops ⟨In (Pulled w0 B p), PullS p k, sp, fun _ => false, N⟩ Q n l (k + 1) (a.put o.dst undef) (upd f k fun u => ∃ b', [Value.pointer (some ⟨b, 0, none⟩), .agg cells][0]? = some (.pointer (some ⟨b', 0, none⟩)) ∧ u.heap[b']? = some (.cells cells T (0, 0)))) (hdst : o.dst = none) :
    rLexL Try.prog md ops ⟨In (Pulled w0 B p), PullS p k, sp, fun _ => false, N⟩ Q (n + 1) (o :: l) k a f := by
  have hvals : vals a o = [.pointer (some ⟨b, 0, none⟩), .agg cells] := by simp [vals, ho, Op.operands, hx, hy]
  refine rLexL_spec (isRow cells T) hs hw ?_ (fun w hC hd => ?_) ?_
  · rintro v j w w' hj hCw _ hR ⟨b', hb', hh⟩
    unfold PullS at hR; rw [if_neg hj] at hR
    rw [hvals] at hb'
    simp at hb'
    subst hb'
    exact ⟨b, by rw [hvals]; rfl, block_keptp hR hh (by omega)⟩
  · obtain ⟨e, he, hbd, rfl⟩ := hafter
    have hdep := hd e he hbd
    rw [hf] at hdep
    obtain ⟨cs, hcs, hh⟩ := isVar.out hdep
    unfold stepTo execOp
    simp only [ho, hx, hy, Instr.storeAt, Instr.sureAddr, Sem.run_bind, Sem.run_pure, Result.andThen_ok, run_storeVar_row (P := Try.prog) w b T ty cs cells hh hi hcs h1]
    refine ⟨In.mk ⟨gb_setRow hC.out.1 (.inl hb), hC.out.2.later (gb_setRow (gb_refl w (some b)) (.inr rfl)) (fun q hq => by simp at hq; omega)⟩, ?_, ⟨b, by rw [hvals]; rfl, setRow_heap w b cs cells T _ hh⟩, fun e => by cases e⟩
    unfold PullS; rw [if_pos rfl]
    refine ⟨by simp [World.setRow], fun b' cs' T' hb' => ?_⟩
    by_cases e : b' = b
    · subst e
      rw [hh] at hb'; cases hb'
      exact ⟨cells, hcs.symm, setRow_heap w b' cs cells T _ hh⟩
    · exact ⟨cs', rfl, (setRow_other w b b' cells e).trans hb'⟩
  · intro v w hC _
    rw [hvals]
    rw [hdst] at h ⊢
    exact h
theorem rg_storeAnyS (hp : p < w0.heap.size) (hB : B ≤ p) (b : Nat) (cells : Array Value) (T ty : TypeId) (x y : Operand) (kb : Nat) (hafter : ∃ e ∈ o.after, Region.binds md e = true ∧ e.on = kb) (hf : f kb = isVar w0 cells.size T [] (.pointer (some ⟨b, 0, none⟩)))
    (ho : o.op = .store ty x y) (hx : a.eval x = .pointer (some ⟨b, 0, none⟩)) (hy : a.eval y = .agg cells) (hi : (Try.prog.info? ty).map (·.size) = some cells.size) (h1 : cells.all (·.oneCell') = true) (hb : w0.heap.size ≤ b)
    (hs : sp k = some (isRowAny T)) (hw : Region.wanted o (yielded ops a.tmps) = true)
    (h : rLexL Try.prog md ops ⟨In (Pulled w0 B p), PullS p k, sp, fun _ => false, N⟩ Q n l (k + 1) (a.put o.dst undef) (upd f k (isRowAny T [Value.pointer (some ⟨b, 0, none⟩), .agg cells] undef))) (hdst : o.dst = none) :
    rLexL Try.prog md ops ⟨In (Pulled w0 B p), PullS p k, sp, fun _ => false, N⟩ Q (n + 1) (o :: l) k a f := by
  have hvals : vals a o = [.pointer (some ⟨b, 0, none⟩), .agg cells] := by simp [vals, ho, Op.operands, hx, hy]
  refine rLexL_spec (isRowAny T) hs hw ?_ (fun w hC hd => ?_) ?_
  · rintro v j w w' hj hCw _ hR ⟨b', cs', hb', hc', hh⟩
    unfold PullS at hR; rw [if_neg hj] at hR
    rw [hvals] at hb' hc'
    simp at hb' hc'
    subst hb'; subst hc'
    exact ⟨b, cells, by rw [hvals]; rfl, by rw [hvals]; rfl, block_keptp hR hh (by omega)⟩
  · obtain ⟨e, he, hbd, rfl⟩ := hafter
    have hdep := hd e he hbd
    rw [hf] at hdep
    obtain ⟨cs, hcs, hh⟩ := isVar.out hdep
    unfold stepTo execOp
    simp only [ho, hx, hy, Instr.storeAt, Instr.sureAddr, Sem.run_bind, Sem.run_pure, Result.andThen_ok, run_storeVar_row (P := Try.prog) w b T ty cs cells hh hi hcs h1]
    refine ⟨In.mk ⟨gb_setRow hC.out.1 (.inl hb), hC.out.2.later (gb_setRow (gb_refl w (some b)) (.inr rfl)) (fun q hq => by simp at hq; omega)⟩, ?_, ⟨b, cells, by rw [hvals]; rfl, by rw [hvals]; rfl, setRow_heap w b cs cells T _ hh⟩, fun e => by cases e⟩
    unfold PullS; rw [if_pos rfl]
    refine ⟨by simp [World.setRow], fun b' cs' T' hb' => ?_⟩
    by_cases e : b' = b
    · subst e
      rw [hh] at hb'; cases hb'
      exact ⟨cells, hcs.symm, setRow_heap w b' cs cells T _ hh⟩
    · exact ⟨cs', rfl, (setRow_other w b b' cells e).trans hb'⟩
  · intro v w hC _
    rw [hvals]
    rw [hdst] at h ⊢
    exact h
end
end Go.Proofs.Ytcealhikmbchoaa
