/- Drawn regions beside a reader of numbers: draws of structs, literals of structs. -/
import Derived.Test.YtkckcaijfedijaaRgPos
import Derived.Test.YtkckcaijfedijaaPts
namespace Go.Proofs.Ytkckcaijfedijaa
set_option linter.all false
open Go.RowKit Rg

/-- What is said of a value alone. -/
abbrev isSome' (F : Value → Prop) : List Value → Value → World → Prop := fun _ v _ => F v
/-- A literal slice: a block of its own, with the operands' cells. -/
abbrev isBlk (w : World) (n : Nat) (T : TypeId) : List Value → Value → World → Prop := fun vs v u => ∃ b, v = .slice (some ⟨b, 0, none⟩) n n ∧ w.heap.size ≤ b ∧ u.heap[b]? = some (.cells (vs.flatMap (fun v => v.cells.toList)).toArray T (0, 0))

section
variable {ops : Array Oper} {md : Region.Mode} {w0 : World} {B p : Nat} {sp : Nat → Option (List Value → Value → World → Prop)} {N : Nat} {Q : List Oper → Act → Facts → Prop} {n k : Nat} {o : Oper} {l : List Oper} {a : Act} {f : Facts}

/-- A call that draws a value of which F is said. -/
theorem rg_drawF (F : Value → Prop) (fid : FuncId) (args : Array Value) (hs : sp k = some (isSome' F)) (hw : Region.wanted o (yielded ops a.tmps) = true)
    (hrun : ∀ w, (execOp a.eval o).run Try.prog w = .ok (.enter fid args) w)
    (hc : ∀ w, Pulled w0 B p w → (∀ e ∈ o.after, Region.binds md e = true → f e.on w) → Calls Try.prog fid args w fun e w' => ∃ v, e = .returned v ∧ F v ∧ Src B w' p ∧ w.grownBy w' (some p))
    (h : ∀ v, F v → rLexL Try.prog md ops ⟨In (Pulled w0 B p), Pull p, sp, fun _ => false, N⟩ Q n l (k + 1) (a.put o.dst v) (upd f k fun _ => F v)) :
    rLexL Try.prog md ops ⟨In (Pulled w0 B p), Pull p, sp, fun _ => false, N⟩ Q (n + 1) (o :: l) k a f := by
  refine rLexL_spec (isSome' F) hs hw (fun v j w w' _ _ _ _ h => h) (fun w hC hd => stepTo_call (hrun w) ?_) ?_
  · refine (hc w hC.out hd).mono ?_
    rintro e w' ⟨v, rfl, hx, hs, hg⟩
    exact ⟨_, rfl, In.mk ⟨gb_trans hC.out.1 hg, hs⟩, hg, hx, fun e => by cases e⟩
  · intro v w hC hv
    exact h v hv

/-- A literal slice of structs. -/
theorem rg_litB (m : Nat) (cs : Array Value) (T : TypeId) (hs : sp k = some (isBlk w0 m T)) (hw : Region.wanted o (yielded ops a.tmps) = true) (hcs : ((vals a o).flatMap (fun v => v.cells.toList)).toArray = cs)
    (hrun : ∀ w, (execOp a.eval o).run Try.prog w = .ok (.value (.slice (some ⟨w.heap.size, 0, none⟩) m m)) (w.alloc (.cells cs T))) (hp : p < w0.heap.size)
    (h : ∀ b, w0.heap.size ≤ b → rLexL Try.prog md ops ⟨In (Pulled w0 B p), Pull p, sp, fun _ => false, N⟩ Q n l (k + 1) (a.put o.dst (.slice (some ⟨b, 0, none⟩) m m)) (upd f k fun u => u.heap[b]? = some (.cells cs T (0, 0)))) :
    rLexL Try.prog md ops ⟨In (Pulled w0 B p), Pull p, sp, fun _ => false, N⟩ Q (n + 1) (o :: l) k a f := by
  refine rLexL_spec (isBlk w0 m T) hs hw ?_ (fun w hC hd => stepTo_run (hrun w) ?_) ?_
  · rintro v j w w' _ _ _ hR ⟨b, e, hb, hh⟩
    exact ⟨b, e, hb, (World.grownBy.block hR b (Array.getElem?_eq_some_iff.1 hh).1 (by simp; omega)).trans hh⟩
  · have hsz := hC.out.1.size
    exact ⟨In.mk ⟨gb_alloc hC.out.1 _, hC.out.2.later (gb_alloc (gb_refl w none) _) (by simp)⟩, gb_alloc (gb_refl w _) _, ⟨_, rfl, hsz, by rw [hcs]; exact heap_alloc_new w _⟩, fun e => by cases e⟩
  · rintro v w hC ⟨b, rfl, hb, -⟩
    have e : (isBlk w0 m T (vals a o) (.slice (some ⟨b, 0, none⟩) m m)) = fun u => u.heap[b]? = some (.cells cs T (0, 0)) := by
      funext u
      refine propext ⟨?_, fun h => ⟨b, rfl, hb, by rw [hcs]; exact h⟩⟩
      rintro ⟨b', e, -, h⟩
      simp at e; subst e; rw [hcs] at h; exact h
    rw [e]
    exact h b hb
end
theorem At3.draw {B p : Nat} {Pd : Int → Int → Int → Prop} {w : World} {e : Ending} {w' : World} (h : At3 B p Pd w e w') : ∃ v, e = .returned v ∧ (∃ x y z, v = .agg #[.int .i64 x, .int .i64 y, .int .i64 z] ∧ Pd x y z) ∧ Src B w' p ∧ w.grownBy w' (some p) := by
  obtain ⟨x, y, z, rfl, h1, h2, h3⟩ := h
  exact ⟨_, rfl, ⟨x, y, z, rfl, h1⟩, h2, h3⟩
theorem At6.draw {B p : Nat} {Pd : Int → Int → Int → Int → Int → Int → Prop} {w : World} {e : Ending} {w' : World} (h : At6 B p Pd w e w') : ∃ v, e = .returned v ∧ (∃ x y z a b c, v = .agg #[.int .i64 x, .int .i64 y, .int .i64 z, .int .i64 a, .int .i64 b, .int .i64 c] ∧ Pd x y z a b c) ∧ Src B w' p ∧ w.grownBy w' (some p) := by
  obtain ⟨x, y, z, a, b, c, rfl, h1, h2, h3⟩ := h
  exact ⟨_, rfl, ⟨x, y, z, a, b, c, rfl, h1⟩, h2, h3⟩

/-- The world of a call gets a name. -/
theorem calls_name {P : Program} {f : FuncId} {args : Array Value} {W : World} {Q : Ending → World → Prop} (h : ∀ w1, w1 = W → Calls P f args w1 Q) : Calls P f args W Q := h W rfl
/-- The cells of a row of positions. -/
theorem row3 {u : World} {b : Nat} {L : List (Int × Int × Int)} {T : TypeId} {fr : Nat × Nat} (h : u.heap[b]? = some (.cells (flat3 L).toArray T fr)) (i : Nat) (hi : i < L.length) :
    u.cell? ⟨b, i * 3, none⟩ = some (.int .i64 L[i].1) ∧ u.cell? ⟨b, i * 3 + 1, none⟩ = some (.int .i64 L[i].2.1) ∧ u.cell? ⟨b, i * 3 + 2, none⟩ = some (.int .i64 L[i].2.2) := by
  obtain ⟨f1, f2, f3⟩ := flat3_at L i hi
  simp [World.cell?, h, f1, f2, f3]
/-- The cells of a row of ints. -/
theorem row1 {u : World} {b : Nat} {L : List Int} {T : TypeId} {fr : Nat × Nat} (h : u.heap[b]? = some (.cells (L.map (Value.int .i64)).toArray T fr)) (i : Nat) (hi : i < L.length) : u.cell? ⟨b, i, none⟩ = some (.int .i64 (L[i]?.getD 0)) := by
  simp [World.cell?, h, hi]
end Go.Proofs.Ytkckcaijfedijaa
