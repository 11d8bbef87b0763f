/- Drawn regions that only make memory: literals, and calls that look at what others have made. -/
import Derived.Test.YtkckcaijfedijaaRgMade
import Derived.Test.YtkckcaijfedijaaRgSrc
namespace Go.Proofs.Ytkckcaijfedijaa
set_option linter.all false
open Go.RowKit Rg

section
variable {P : Program} {ops : Array Oper} {md : Region.Mode} {w0 : World} {sp : Nat → Option (List Value → Value → World → Prop)} {al : Nat → Bool} {N : Nat} {Q : List Oper → Act → Facts → Prop} {n k : Nat} {o : Oper} {l : List Oper} {a : Act} {f : Facts}

/-- A literal slice of numbers. -/
theorem rg_litM (xs : List Int) (e : TypeId) (hs : sp k = some (isLit w0 xs)) (hw : Region.wanted o (yielded ops a.tmps) = true) (hal : al k = false)
    (hrun : ∀ w, (execOp a.eval o).run P w = .ok (.value (.slice (some ⟨w.heap.size, 0, none⟩) xs.length xs.length)) (w.alloc (.cells ((xs.map (Value.int .i64)).toArray) e)))
    (hlen : decide (xs.length ≤ 1000) = true)
    (h : ∀ v, rLexL P md ops ⟨In (Made w0), Makes, sp, al, N⟩ Q n l (k + 1) (a.put o.dst v) (upd f k (isLit w0 xs [] v))) :
    rLexL P md ops ⟨In (Made w0), Makes, sp, al, N⟩ Q (n + 1) (o :: l) k a f := by
  have hlen := of_decide_eq_true hlen
  refine rLexL_spec (isLit w0 xs) hs hw (fun v j w w' _ hC _ hR ⟨h1, h2⟩ => ⟨h1.later (row := none) hR (by simp), fun b off len cap e => ?_⟩) (fun w hC hd => stepTo_run (hrun w) ?_) ?_
  · have := h2 b off len cap e
    exact ⟨this.1, Nat.lt_of_lt_of_le this.2 (World.grownBy.size hR)⟩
  · have hsz := hC.out.size
    refine ⟨In.mk (gb_alloc hC.out _), gb_alloc (gb_refl w _) _, ⟨?_, ?_⟩, fun e => by rw [hal] at e; cases e⟩
    · refine .inr ⟨w.heap.size, 0, xs.length, rfl, by simp, Nat.le_refl _, by omega, fun i hi => ?_⟩
      rw [cell_new]
      simp [hi]
    · rintro b off len cap e
      simp at e
      simp; omega
  · exact fun v w _ _ => h v

/-- A call whose value is fixed, that looks at what the operations that it waits for have left. -/
theorem rg_fixD (v0 : Value) (fid : FuncId) (args : Array Value) (hs : sp k = some (isV v0)) (hw : Region.wanted o (yielded ops a.tmps) = true) (hal : al k = false)
    (hrun : ∀ w, (execOp a.eval o).run P w = .ok (.enter fid args) w)
    (hc : ∀ u, w0.grownBy u none → (∀ e ∈ o.after, Region.binds md e = true → f e.on u) → Calls P fid args u fun e w' => e = .returned v0 ∧ u.grownBy w' none)
    (h : rLexL P md ops ⟨In (Made w0), Makes, sp, al, N⟩ Q n l (k + 1) (a.put o.dst v0) (upd f k fun _ => v0 = v0)) :
    rLexL P md ops ⟨In (Made w0), Makes, sp, al, N⟩ Q (n + 1) (o :: l) k a f := by
  refine rLexL_spec (isV v0) hs hw (fun v j w w' _ _ _ _ h => h) (fun w hC hd => stepTo_call (hrun w) ?_) ?_
  · refine (hc w hC.out hd).mono ?_
    rintro e w' ⟨rfl, hg⟩
    exact ⟨_, rfl, In.mk (gb_trans hC.out hg), hg, rfl, fun e => by rw [hal] at e; cases e⟩
  · rintro v w hC rfl
    exact h
end

theorem MakesS.none {k0 k : Nat} (h : k ≠ k0) (u u' : World) (hg : u.grownBy u' none) : MakesS k0 k u u' := by unfold MakesS; rw [if_neg h]; exact hg
theorem Made.grown {w : World} (u u' : World) (h : Made w u) (hg : u.grownBy u' none) : Made w u' := gb_trans h hg
theorem same_grown {P : Program} {f : FuncId} {args : Array Value} {u : World} {v : Value} (h : Calls P f args u fun e w' => e = .returned v ∧ u = w') : Calls P f args u fun e w' => e = .returned v ∧ u.grownBy w' none :=
  h.mono fun _ _ ⟨h, e⟩ => ⟨h, e ▸ gb_refl _ _⟩
end Go.Proofs.Ytkckcaijfedijaa
