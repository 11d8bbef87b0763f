/- RgMade -/
import Derived.Test.YtgaglgopbdfemaaGreatDoorTmRg
import Derived.Test.YtgaglgopbdfemaaGreatDoorTmBase
namespace Go.Proofs.YtgaglgopbdfemaaGreatDoor
set_option linter.all false
section LRgMade
open Go.RowKit Rg
def Made (w : World) (u : World) : Prop := w.grownBy u none
def Makes : Nat → World → World → Prop := fun _ w w' => w.grownBy w' none
theorem Makes.size (i : Nat) (w w' : World) (h : Makes i w w') : w.heap.size ≤ w'.heap.size := World.grownBy.size h
theorem Made.start (w : World) : Made w w.drew := gb_drew (gb_refl _ _)
theorem Made.cell {w : World} {b o : Nat} {x : Option Value} (hc : w.cell? ⟨b, o, none⟩ = x) (hb : b < w.heap.size) (u : Cls (Made w)) : (evr u).cell? ⟨b, o, none⟩ = x :=
  (gb_cell (evr_h u) hb (by simp)).trans hc
theorem Made.cells {w : World} {b : Nat} (hb : b < w.heap.size) (u : Cls (Made w)) (o : Nat) : (evr u).cell? ⟨b, o, none⟩ = w.cell? ⟨b, o, none⟩ := gb_cell (evr_h u) hb (by simp)
abbrev isV (v0 : Value) : List Value → Value → World → Prop := fun _ v _ => v = v0
abbrev isNew (w : World) (zs : Array Value) (T : TypeId) : List Value → Value → World → Prop := fun _ v u => ∃ b, v = .pointer (some ⟨b, 0, none⟩) ∧ w.heap.size ≤ b ∧ u.heap[b]? = some (.cells zs T (0, 0))
theorem isNew.out {w : World} {zs : Array Value} {T : TypeId} {b : Nat} {u : World} (h : isNew w zs T [] (.pointer (some ⟨b, 0, none⟩)) u) : u.heap[b]? = some (.cells zs T (0, 0)) := by
  obtain ⟨b', e, -, h⟩ := h
  simp at e; subst e; exact h
section
variable {P : Program} {ops : Array Oper} {md : Region.Mode} {w0 : World} {sp : Nat → Option (List Value → Value → World → Prop)} {al : Nat → Bool} {N : Nat} {Q : List Oper → Act → Facts → Prop} {n k : Nat} {o : Oper} {l : List Oper} {a : Act} {f : Facts}
/-- A call whose value is fixed. -/
theorem rg_fix (v0 : Value) (fid : FuncId) (args : Array Value) (hs : sp k = some (isV v0)) (hw : Region.wanted o (yielded ops a.tmps) = true) (hal : al k = false)
    (hrun : ∀ w, (execOp a.eval o).run P w = .ok (.enter fid args) w)
    (hc : ∀ u, w0.grownBy u none → Calls P fid args u fun e w' => e = .returned v0 ∧ u.grownBy w' none)
    (h : rLexL P md ops ⟨In (Made w0), Makes, sp, al, N⟩ Q n l (k + 1) (a.put o.dst v0) (upd f k fun _ => v0 = v0)) :
    rLexL P md ops ⟨In (Made w0), Makes, sp, al, N⟩ Q (n + 1) (o :: l) k a f := by
  refine rLexL_spec (isV v0) hs hw (fun v j w w' _ _ _ _ h => h) (fun w hC hd => stepTo_call (hrun w) ?_) ?_
  · refine (hc w hC.out).mono ?_
    rintro e w' ⟨rfl, hg⟩
    exact ⟨_, rfl, In.mk (gb_trans hC.out hg), hg, rfl, fun e => by rw [hal] at e; cases e⟩
  · rintro v w hC rfl
    exact h
/-- A new variable. -/
theorem rg_new (zs : Array Value) (T : TypeId) (hs : sp k = some (isNew w0 zs T)) (hw : Region.wanted o (yielded ops a.tmps) = true)
    (hrun : ∀ w, (execOp a.eval o).run P w = .ok (.value (.pointer (some ⟨w.heap.size, 0, none⟩))) (w.alloc (.cells zs T)))
    (h : ∀ b, w0.heap.size ≤ b → rLexL P md ops ⟨In (Made w0), Makes, sp, al, N⟩ Q n l (k + 1) (a.put o.dst (.pointer (some ⟨b, 0, none⟩))) (upd f k (isNew w0 zs T [] (.pointer (some ⟨b, 0, none⟩))))) :
    rLexL P md ops ⟨In (Made w0), Makes, sp, al, N⟩ Q (n + 1) (o :: l) k a f := by
  refine rLexL_spec (isNew w0 zs T) hs hw ?_ (fun w hC hd => stepTo_run (hrun w) ?_) ?_
  · rintro v j w w' _ _ _ hR ⟨b, e, hb, hh⟩
    exact ⟨b, e, hb, (World.grownBy.block hR b (Array.getElem?_eq_some_iff.1 hh).1 (by simp)).trans hh⟩
  · have hg : w.grownBy (w.alloc (.cells zs T)) none := gb_alloc (gb_refl _ _) _
    refine ⟨In.mk (gb_trans hC.out hg), hg, ⟨_, rfl, hC.out.size, heap_alloc_new w _⟩, fun _ b hb _ => ?_⟩
    simp [blk] at hb; subst hb; simp
  · rintro v w hC ⟨b, rfl, hb, -⟩
    exact h b hb
end
theorem gb_setRow' {w0 w : World} {g : Nat} {cs : Array Value} (h : w0.grownBy w none) (hg : w0.heap.size ≤ g) : w0.grownBy (w.setRow g cs) none :=
  ⟨h.os, h.tape, h.output, by have := h.size; simpa [World.setRow] using this, fun i hi hr => by
    rw [setRow_other w g i cs (by omega)]; exact h.block i hi hr⟩
/-- One operation, number k0, writes into new memory while the others still run. -/
def Wr (w w' : World) : Prop := w.heap.size ≤ w'.heap.size ∧ ∀ (b : Nat) (cs : Array Value) (T : TypeId), w.heap[b]? = some (.cells cs T (0, 0)) → ∃ cs' : Array Value, cs'.size = cs.size ∧ w'.heap[b]? = some (.cells cs' T (0, 0))
def MakesS (k0 : Nat) : Nat → World → World → Prop := fun k w w' => if k = k0 then Wr w w' else w.grownBy w' none
theorem MakesS.size (k0 i : Nat) (w w' : World) (h : MakesS k0 i w w') : w.heap.size ≤ w'.heap.size := by
  unfold MakesS at h; split at h
  · exact h.1
  · exact World.grownBy.size h
abbrev isVar (w : World) (n : Nat) (T : TypeId) : List Value → Value → World → Prop := fun _ v u => ∃ b, v = .pointer (some ⟨b, 0, none⟩) ∧ w.heap.size ≤ b ∧ ∃ cs : Array Value, cs.size = n ∧ u.heap[b]? = some (.cells cs T (0, 0))
theorem isVar.out {w : World} {n : Nat} {T : TypeId} {b : Nat} {u : World} (h : isVar w n T [] (.pointer (some ⟨b, 0, none⟩)) u) : ∃ cs : Array Value, cs.size = n ∧ u.heap[b]? = some (.cells cs T (0, 0)) := by
  obtain ⟨b', e, -, h⟩ := h
  simp at e; subst e; exact h
abbrev isRow (cs : Array Value) (T : TypeId) : List Value → Value → World → Prop := fun vs _ u => ∃ b, vs[0]? = some (.pointer (some ⟨b, 0, none⟩)) ∧ u.heap[b]? = some (.cells cs T (0, 0))
section
variable {P : Program} {ops : Array Oper} {md : Region.Mode} {w0 : World} {sp : Nat → Option (List Value → Value → World → Prop)} {al : Nat → Bool} {N : Nat} {Q : List Oper → Act → Facts → Prop} {n k : Nat} {o : Oper} {l : List Oper} {a : Act} {f : Facts}
theorem rg_var {k0 : Nat} (zs : Array Value) (T : TypeId) (hk : k ≠ k0) (hs : sp k = some (isVar w0 zs.size T)) (hw : Region.wanted o (yielded ops a.tmps) = true)
    (hrun : ∀ w, (execOp a.eval o).run P w = .ok (.value (.pointer (some ⟨w.heap.size, 0, none⟩))) (w.alloc (.cells zs T)))
    (h : ∀ b, w0.heap.size ≤ b → rLexL P md ops ⟨In (Made w0), MakesS k0, sp, al, N⟩ Q n l (k + 1) (a.put o.dst (.pointer (some ⟨b, 0, none⟩))) (upd f k (isVar w0 zs.size T [] (.pointer (some ⟨b, 0, none⟩))))) :
    rLexL P md ops ⟨In (Made w0), MakesS k0, sp, al, N⟩ Q (n + 1) (o :: l) k a f := by
  refine rLexL_spec (isVar w0 zs.size T) hs hw ?_ (fun w hC hd => stepTo_run (hrun w) ?_) ?_
  · rintro v j w w' _ _ _ hR ⟨b, e, hb, cs, hcs, hh⟩
    refine ⟨b, e, hb, ?_⟩
    unfold MakesS at hR; split at hR
    · obtain ⟨cs', h1, h2⟩ := hR.2 b cs T hh
      exact ⟨cs', h1.trans hcs, h2⟩
    · exact ⟨cs, hcs, (World.grownBy.block hR b (Array.getElem?_eq_some_iff.1 hh).1 (by simp)).trans hh⟩
  · have hg : w.grownBy (w.alloc (.cells zs T)) none := gb_alloc (gb_refl _ _) _
    refine ⟨In.mk (gb_trans hC.out hg), by unfold MakesS; rw [if_neg hk]; exact hg, ⟨_, rfl, hC.out.size, zs, rfl, heap_alloc_new w _⟩, fun _ b hb _ => ?_⟩
    simp [blk] at hb; subst hb; simp
  · rintro v w hC ⟨b, rfl, hb, -⟩
    exact h b hb
/-- A whole new variable is written while other operations may still run. -/
theorem rg_storeRow (b : Nat) (cells : Array Value) (T ty : TypeId) (x y : Operand) (kb : Nat) (hafter : ∃ e ∈ o.after, Region.binds md e = true ∧ e.on = kb) (hf : f kb = isVar w0 cells.size T [] (.pointer (some ⟨b, 0, none⟩)))
    (ho : o.op = .store ty x y) (hx : a.eval x = .pointer (some ⟨b, 0, none⟩)) (hy : a.eval y = .agg cells) (hi : (P.info? ty).map (·.size) = some cells.size) (h1 : cells.all (·.oneCell') = true) (hb : w0.heap.size ≤ b)
    (hs : sp k = some (isRow cells T)) (hw : Region.wanted o (yielded ops a.tmps) = true) (hal : al k = false)
    (h : rLexL P md ops ⟨In (Made w0), MakesS k, sp, al, N⟩ Q n l (k + 1) (a.put o.dst undef) (upd f k fun u => ∃ b', [Value.pointer (some ⟨b, 0, none⟩), .agg cells][0]? = some (.pointer (some ⟨b', 0, none⟩)) ∧ u.heap[b']? = some (.cells cells T (0, 0)))) (hdst : o.dst = none) :
    rLexL P md ops ⟨In (Made w0), MakesS k, sp, al, N⟩ Q (n + 1) (o :: l) k a f := by
  have hvals : vals a o = [.pointer (some ⟨b, 0, none⟩), .agg cells] := by simp [vals, ho, Op.operands, hx, hy]
  refine rLexL_spec (isRow cells T) hs hw ?_ (fun w hC hd => ?_) ?_
  · rintro v j w w' hj _ _ hR ⟨b', hb', hh⟩
    unfold MakesS at hR; rw [if_neg hj] at hR
    exact ⟨b', hb', (World.grownBy.block hR b' (Array.getElem?_eq_some_iff.1 hh).1 (by simp)).trans hh⟩
  · obtain ⟨e, he, hbd, rfl⟩ := hafter
    have hdep := hd e he hbd
    rw [hf] at hdep
    obtain ⟨cs, hcs, hh⟩ := isVar.out hdep
    unfold stepTo execOp
    simp only [ho, hx, hy, Instr.storeAt, Instr.sureAddr, Sem.run_bind, Sem.run_pure, Result.andThen_ok, run_storeVar_row (P := P) w b T ty cs cells hh hi hcs h1]
    refine ⟨In.mk (gb_setRow' hC.out hb), ?_, ⟨b, by rw [hvals]; rfl, setRow_heap w b cs cells T _ hh⟩, fun e => by rw [hal] at e; cases e⟩
    unfold MakesS; rw [if_pos rfl]
    refine ⟨by simp [World.setRow], fun b' cs' T' hb' => ?_⟩
    by_cases e : b' = b
    · subst e
      rw [hh] at hb'; cases hb'
      exact ⟨cells, hcs.symm, setRow_heap w b' cs cells T _ hh⟩
    · exact ⟨cs', rfl, (setRow_other w b b' cells e).trans hb'⟩
  · intro v w hC _
    rw [hvals]
    rw [hdst] at h ⊢
    exact h
theorem isRow.out {cs : Array Value} {T : TypeId} {b : Nat} {v x : Value} {u : World} (h : isRow cs T [.pointer (some ⟨b, 0, none⟩), x] v u) : u.heap[b]? = some (.cells cs T (0, 0)) := by
  obtain ⟨b', e, h⟩ := h
  simp at e; subst e; exact h
end
/-- An old block r is written by operation k0 while the others still run. -/
def MadeB (w : World) (r n : Nat) (T : TypeId) (u : World) : Prop := w.grownBy u (some r) ∧ ∃ cs : Array Value, cs.size = n ∧ u.heap[r]? = some (.cells cs T (0, 0))
def MakesB (k0 r : Nat) : Nat → World → World → Prop := fun k w w' => if k = k0 then w.grownBy w' (some r) else w.grownBy w' none
theorem MakesB.size (k0 r i : Nat) (w w' : World) (h : MakesB k0 r i w w') : w.heap.size ≤ w'.heap.size := by
  unfold MakesB at h; split at h <;> exact World.grownBy.size h
theorem MadeB.start {w : World} {r n : Nat} {T : TypeId} {cs : Array Value} (h : w.heap[r]? = some (.cells cs T (0, 0))) (hn : cs.size = n) : MadeB w r n T w.drew := ⟨gb_drew (gb_refl _ _), cs, hn, h⟩
theorem MadeB.cells {w : World} {r n b : Nat} {T : TypeId} (hb : b < w.heap.size) (hr : b ≠ r) (u : Cls (MadeB w r n T)) (o : Nat) : (evr u).cell? ⟨b, o, none⟩ = w.cell? ⟨b, o, none⟩ := gb_cell (evr_h u).1 hb (by simpa using hr)
theorem MadeB.grown {w : World} {r n : Nat} {T : TypeId} (u u' : World) (h : MadeB w r n T u) (hg : u.grownBy u' none) : MadeB w r n T u' := by
  obtain ⟨h1, cs, h2, h3⟩ := h
  exact ⟨gb_trans h1 (gb_none hg), cs, h2, (hg.block r (Array.getElem?_eq_some_iff.1 h3).1 (by simp)).trans h3⟩
theorem MakesB.none {k0 r k : Nat} (h : k ≠ k0) (u u' : World) (hg : u.grownBy u' none) : MakesB k0 r k u u' := by unfold MakesB; rw [if_neg h]; exact hg
abbrev isAt (r : Nat) (cs : Array Value) (T : TypeId) : List Value → Value → World → Prop := fun _ _ u => u.heap[r]? = some (.cells cs T (0, 0))
section
variable {P : Program} {ops : Array Oper} {md : Region.Mode} {w0 : World} {sp : Nat → Option (List Value → Value → World → Prop)} {al : Nat → Bool} {N : Nat} {Q : List Oper → Act → Facts → Prop} {n k : Nat} {o : Oper} {l : List Oper} {a : Act} {f : Facts}
/-- A call whose value is fixed, in any class that what is made leaves. -/
theorem rg_fixG {G : World → Prop} {R : Nat → World → World → Prop} (hG : ∀ u u', G u → u.grownBy u' none → G u') (hR : ∀ u u', u.grownBy u' none → R k u u') (v0 : Value) (fid : FuncId) (args : Array Value) (hs : sp k = some (isV v0)) (hw : Region.wanted o (yielded ops a.tmps) = true) (hal : al k = false)
    (hrun : ∀ w, (execOp a.eval o).run P w = .ok (.enter fid args) w)
    (hc : ∀ u, G u → Calls P fid args u fun e w' => e = .returned v0 ∧ u.grownBy w' none)
    (h : rLexL P md ops ⟨In G, R, sp, al, N⟩ Q n l (k + 1) (a.put o.dst v0) (upd f k fun _ => v0 = v0)) :
    rLexL P md ops ⟨In G, R, sp, al, N⟩ Q (n + 1) (o :: l) k a f := by
  refine rLexL_spec (isV v0) hs hw (fun v j w w' _ _ _ _ h => h) (fun w hC hd => stepTo_call (hrun w) ?_) ?_
  · refine (hc w hC.out).mono ?_
    rintro e w' ⟨rfl, hg⟩
    exact ⟨_, rfl, In.mk (hG _ _ hC.out hg), hR _ _ hg, rfl, fun e => by rw [hal] at e; cases e⟩
  · rintro v w hC rfl
    exact h
theorem rg_storeB (r : Nat) (cells : Array Value) (T ty : TypeId) (x y : Operand) (ho : o.op = .store ty x y) (hx : a.eval x = .pointer (some ⟨r, 0, none⟩)) (hy : a.eval y = .agg cells) (hi : (P.info? ty).map (·.size) = some cells.size) (h1 : cells.all (·.oneCell') = true)
    (hs : sp k = some (isAt r cells T)) (hw : Region.wanted o (yielded ops a.tmps) = true) (hal : al k = false) (hdst : o.dst = none)
    (h : rLexL P md ops ⟨In (MadeB w0 r cells.size T), MakesB k r, sp, al, N⟩ Q n l (k + 1) (a.put o.dst undef) (upd f k fun u => u.heap[r]? = some (.cells cells T (0, 0)))) :
    rLexL P md ops ⟨In (MadeB w0 r cells.size T), MakesB k r, sp, al, N⟩ Q (n + 1) (o :: l) k a f := by
  refine rLexL_spec (isAt r cells T) hs hw ?_ (fun w hC hd => ?_) ?_
  · intro v j w w' hj _ _ hR hh
    unfold MakesB at hR; rw [if_neg hj] at hR
    exact (World.grownBy.block hR r (Array.getElem?_eq_some_iff.1 hh).1 (by simp)).trans hh
  · obtain ⟨hg, cs, hcs, hh⟩ := hC.out
    unfold stepTo execOp
    simp only [ho, hx, hy, Instr.storeAt, Instr.sureAddr, Sem.run_bind, Sem.run_pure, Result.andThen_ok, run_storeVar_row (P := P) w r T ty cs cells hh hi hcs h1]
    have hg2 : w.grownBy (w.setRow r cells) (some r) := ⟨rfl, rfl, rfl, by simp [World.setRow], fun i hi hr => setRow_other w r i cells (fun e => hr (by rw [e]))⟩
    refine ⟨In.mk ⟨gb_trans hg hg2, cells, rfl, setRow_heap w r cs cells T _ hh⟩, ?_, setRow_heap w r cs cells T _ hh, fun e => by rw [hal] at e; cases e⟩
    unfold MakesB; rw [if_pos rfl]; exact hg2
  · intro v w hC _
    rw [hdst] at h ⊢
    exact h
end
/-- A whole row is written: what is known of the world behind it. -/
theorem setRow_at {w : World} {g : Nat} {old cs : Array Value} {t : TypeId} {fr : Nat × Nat} (h : w.heap[g]? = some (.cells old t fr)) : (w.setRow g cs).heap[g]? = some (.cells cs t fr) := setRow_heap w g old cs t fr h
theorem setRow_far {w : World} {g b : Nat} {cs : Array Value} (h : b ≠ g) : (w.setRow g cs).heap[b]? = w.heap[b]? := setRow_other w g b cs h
theorem gb_setRow {w0 w : World} {row : Option Nat} {g : Nat} {cs : Array Value} (h : w0.grownBy w row) (hg : w0.heap.size ≤ g ∨ row = some g) : w0.grownBy (w.setRow g cs) row :=
  ⟨h.os, h.tape, h.output, by have := h.size; simpa [World.setRow] using this, fun i hi hr => by
    rw [setRow_far (by rcases hg with hg | hg; (omega); exact fun e => hr (by rw [hg, e]))]; exact h.block i hi hr⟩
theorem setCell_far {w : World} {b : Nat} {a : Addr} {u : Value} (h : b ≠ a.block) : (w.setCell a u).heap[b]? = w.heap[b]? := Below.heap_setCell _ _ _ _ h
theorem set_block {w : World} {b : Nat} {cs : Array Value} {t : TypeId} {fr : Nat × Nat} (h : w.heap[b]? = some (.cells cs t fr)) (k : Nat) (u : Value) : (w.setCell ⟨b, k, none⟩ u).heap[b]? = some (.cells (cs.set! k u) t fr) := by
  simp only [World.setCell, Array.getElem?_modify, if_true, h]; rfl
/-- Three cells of a block. -/
theorem cells3 {w : World} {b : Nat} {x y z : Value} {t : TypeId} {fr : Nat × Nat} (h : w.heap[b]? = some (.cells #[x, y, z] t fr)) :
    w.cell? ⟨b, 0, none⟩ = some x ∧ w.cell? ⟨b, 1, none⟩ = some y ∧ w.cell? ⟨b, 2, none⟩ = some z := by simp [World.cell?, h]
end LRgMade
section LRgSrc
open Go.RowKit Rg
/-- The class: grown out of w but for the reader's block; the reader goes on. -/
def Pulled (w : World) (B p : Nat) (u : World) : Prop := w.grownBy u (some p) ∧ Src B u p
/-- What each operation may do. -/
def Pull (p : Nat) : Nat → World → World → Prop := fun _ w w' => w.grownBy w' (some p)
theorem Pull.size {p : Nat} (i : Nat) (w w' : World) (h : Pull p i w w') : w.heap.size ≤ w'.heap.size := World.grownBy.size h
theorem Pulled.start {w : World} {B p : Nat} (h : Src B w p) : Pulled w B p w.drew := ⟨gb_drew (gb_refl _ _), h.later (row := none) (gb_drew (gb_refl w none)) (by simp)⟩
theorem Pulled.cell {w : World} {B p b o : Nat} {x : Option Value} (hc : w.cell? ⟨b, o, none⟩ = x) (hb : b < w.heap.size) (hp : ¬ b = p) (u : Cls (Pulled w B p)) : (evr u).cell? ⟨b, o, none⟩ = x :=
  (gb_cell (evr_h u).1 hb (by simpa using hp)).trans hc
abbrev isInt (Pd : Int → Prop) : List Value → Value → World → Prop := fun _ v _ => ∃ x : Int, v = .int .i64 x ∧ Pd x
abbrev isLit (w : World) (xs : List Int) : List Value → Value → World → Prop := fun _ v u => Sl u v xs ∧ ∀ b off len cap, v = .slice (some ⟨b, off, none⟩) len cap → w.heap.size ≤ b ∧ b < u.heap.size
section
variable {ops : Array Oper} {md : Region.Mode} {w0 : World} {B p : Nat} {sp : Nat → Option (List Value → Value → World → Prop)} {N : Nat} {Q : List Oper → Act → Facts → Prop} {n k : Nat} {o : Oper} {l : List Oper} {a : Act} {f : Facts}
/-- A call that draws a number. -/
theorem rg_draw (Pd : Int → Prop) (fid : FuncId) (args : Array Value) (hs : sp k = some (isInt Pd)) (hw : Region.wanted o (yielded ops a.tmps) = true)
    (hrun : ∀ w, (execOp a.eval o).run Tryz.prog w = .ok (.enter fid args) w)
    (hc : ∀ w, Pulled w0 B p w → (∀ e ∈ o.after, Region.binds md e = true → f e.on w) → Calls Tryz.prog fid args w (Drawn B p Pd w))
    (h : ∀ x, Pd x → rLexL Tryz.prog md ops ⟨In (Pulled w0 B p), Pull p, sp, fun _ => false, N⟩ Q n l (k + 1) (a.put o.dst (.int .i64 x)) (upd f k fun _ => ∃ y, Value.int .i64 x = .int .i64 y ∧ Pd y)) :
    rLexL Tryz.prog md ops ⟨In (Pulled w0 B p), Pull p, sp, fun _ => false, N⟩ Q (n + 1) (o :: l) k a f := by
  refine rLexL_spec (isInt Pd) hs hw (fun v j w w' _ _ _ _ h => h) (fun w hC hd => stepTo_call (hrun w) ?_) ?_
  · refine (hc w hC.out hd).mono ?_
    rintro e w' ⟨x, rfl, hx, hs, hg⟩
    exact ⟨_, rfl, In.mk ⟨gb_trans hC.out.1 hg, hs⟩, hg, ⟨x, rfl, hx⟩, fun e => by cases e⟩
  · rintro v w hC ⟨x, rfl, hx⟩
    exact h x hx
/-- A literal slice of numbers. -/
theorem rg_lit (xs : List Int) (e : TypeId) (hs : sp k = some (isLit w0 xs)) (hw : Region.wanted o (yielded ops a.tmps) = true)
    (hrun : ∀ w, (execOp a.eval o).run Tryz.prog w = .ok (.value (.slice (some ⟨w.heap.size, 0, none⟩) xs.length xs.length)) (w.alloc (.cells ((xs.map (Value.int .i64)).toArray) e)))
    (hlen : decide (xs.length ≤ 1000) = true) (hp : p < w0.heap.size)
    (h : ∀ v, rLexL Tryz.prog md ops ⟨In (Pulled w0 B p), Pull p, sp, fun _ => false, N⟩ Q n l (k + 1) (a.put o.dst v) (upd f k (isLit w0 xs [] v))) :
    rLexL Tryz.prog md ops ⟨In (Pulled w0 B p), Pull p, sp, fun _ => false, N⟩ Q (n + 1) (o :: l) k a f := by
  have hlen := of_decide_eq_true hlen
  refine rLexL_spec (isLit w0 xs) hs hw (fun v j w w' _ hC _ hR ⟨h1, h2⟩ => ⟨h1.later hR ?_, fun b off len cap e => ?_⟩) (fun w hC hd => stepTo_run (hrun w) ?_) ?_
  · intro b off len cap e _
    have := (h2 b off len cap e).1
    simp; omega
  · have := h2 b off len cap e
    exact ⟨this.1, Nat.lt_of_lt_of_le this.2 (World.grownBy.size hR)⟩
  · have hsz := hC.out.1.size
    refine ⟨In.mk ⟨gb_alloc hC.out.1 _, hC.out.2.later (gb_alloc (gb_refl w none) _) (by simp)⟩, gb_alloc (gb_refl w _) _, ⟨?_, ?_⟩, fun e => by cases e⟩
    · refine .inr ⟨w.heap.size, 0, xs.length, rfl, by simp, Nat.le_refl _, by omega, fun i hi => ?_⟩
      rw [cell_new]
      simp [hi]
    · rintro b off len cap e
      simp at e
      simp; omega
  · exact fun v w _ _ => h v
end
/-- One of the numbers of a literal. -/
theorem pick_lit (w0 : World) (B p : Nat) (w : World) (xs : List Int) (v : Value) (hP : Pulled w0 B p w) (hd : isLit w0 xs [] v w) (hp : p < w0.heap.size) (h0 : 0 < xs.length) (hl : xs.length ≤ 1000) :
    Calls Tryz.prog 9 #[.pointer (some ⟨p, 0, none⟩), v] w (Drawn B p (fun x => x ∈ xs) w) :=
  pick_any B w p v xs hP.2 hd.1 h0 hl (fun b off len cap e => by have := (hd.2 b off len cap e).1; omega)
end LRgSrc
section LRgMore
open Go.RowKit Rg
section
variable {P : Program} {ops : Array Oper} {md : Region.Mode} {w0 : World} {sp : Nat → Option (List Value → Value → World → Prop)} {al : Nat → Bool} {N : Nat} {Q : List Oper → Act → Facts → Prop} {n k : Nat} {o : Oper} {l : List Oper} {a : Act} {f : Facts}
/-- A literal slice of numbers. -/
theorem rg_litM (xs : List Int) (e : TypeId) (hs : sp k = some (isLit w0 xs)) (hw : Region.wanted o (yielded ops a.tmps) = true) (hal : al k = false)
    (hrun : ∀ w, (execOp a.eval o).run P w = .ok (.value (.slice (some ⟨w.heap.size, 0, none⟩) xs.length xs.length)) (w.alloc (.cells ((xs.map (Value.int .i64)).toArray) e)))
    (hlen : decide (xs.length ≤ 1000) = true)
    (h : ∀ v, rLexL P md ops ⟨In (Made w0), Makes, sp, al, N⟩ Q n l (k + 1) (a.put o.dst v) (upd f k (isLit w0 xs [] v))) :
    rLexL P md ops ⟨In (Made w0), Makes, sp, al, N⟩ Q (n + 1) (o :: l) k a f := by
  have hlen := of_decide_eq_true hlen
  refine rLexL_spec (isLit w0 xs) hs hw (fun v j w w' _ hC _ hR ⟨h1, h2⟩ => ⟨h1.later (row := none) hR (by simp), fun b off len cap e => ?_⟩) (fun w hC hd => stepTo_run (hrun w) ?_) ?_
  · have := h2 b off len cap e
    exact ⟨this.1, Nat.lt_of_lt_of_le this.2 (World.grownBy.size hR)⟩
  · have hsz := hC.out.size
    refine ⟨In.mk (gb_alloc hC.out _), gb_alloc (gb_refl w _) _, ⟨?_, ?_⟩, fun e => by rw [hal] at e; cases e⟩
    · refine .inr ⟨w.heap.size, 0, xs.length, rfl, by simp, Nat.le_refl _, by omega, fun i hi => ?_⟩
      rw [cell_new]
      simp [hi]
    · rintro b off len cap e
      simp at e
      simp; omega
  · exact fun v w _ _ => h v
/-- A call whose value is fixed, that looks at what the operations that it waits for have left. -/
theorem rg_fixD (v0 : Value) (fid : FuncId) (args : Array Value) (hs : sp k = some (isV v0)) (hw : Region.wanted o (yielded ops a.tmps) = true) (hal : al k = false)
    (hrun : ∀ w, (execOp a.eval o).run P w = .ok (.enter fid args) w)
    (hc : ∀ u, w0.grownBy u none → (∀ e ∈ o.after, Region.binds md e = true → f e.on u) → Calls P fid args u fun e w' => e = .returned v0 ∧ u.grownBy w' none)
    (h : rLexL P md ops ⟨In (Made w0), Makes, sp, al, N⟩ Q n l (k + 1) (a.put o.dst v0) (upd f k fun _ => v0 = v0)) :
    rLexL P md ops ⟨In (Made w0), Makes, sp, al, N⟩ Q (n + 1) (o :: l) k a f := by
  refine rLexL_spec (isV v0) hs hw (fun v j w w' _ _ _ _ h => h) (fun w hC hd => stepTo_call (hrun w) ?_) ?_
  · refine (hc w hC.out hd).mono ?_
    rintro e w' ⟨rfl, hg⟩
    exact ⟨_, rfl, In.mk (gb_trans hC.out hg), hg, rfl, fun e => by rw [hal] at e; cases e⟩
  · rintro v w hC rfl
    exact h
end
theorem MakesS.none {k0 k : Nat} (h : k ≠ k0) (u u' : World) (hg : u.grownBy u' none) : MakesS k0 k u u' := by unfold MakesS; rw [if_neg h]; exact hg
theorem Made.grown {w : World} (u u' : World) (h : Made w u) (hg : u.grownBy u' none) : Made w u' := gb_trans h hg
theorem same_grown {P : Program} {f : FuncId} {args : Array Value} {u : World} {v : Value} (h : Calls P f args u fun e w' => e = .returned v ∧ u = w') : Calls P f args u fun e w' => e = .returned v ∧ u.grownBy w' none :=
  h.mono fun _ _ ⟨h, e⟩ => ⟨h, e ▸ gb_refl _ _⟩
end LRgMore
end Go.Proofs.YtgaglgopbdfemaaGreatDoor
