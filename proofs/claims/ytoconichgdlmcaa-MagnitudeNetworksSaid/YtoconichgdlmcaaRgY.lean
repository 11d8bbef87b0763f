/- A drawn region that appends one number to a row of the call's own. -/
import Derived.Test.YtoconichgdlmcaaRgMade
import Derived.Test.YtoconichgdlmcaaRgApp
import Derived.Maps.AppendAt
namespace Go.Proofs.Ytoconichgdlmcaa
set_option linter.all false
open Go.RowKit Rg

/-! a drawn region that appends one number to a row -/
def GW (w0 : World) (B : Nat) (v : Value) (n : Nat) (xs : List Value) (u : World) : Prop := w0.grownBy u v.ownBlock ∧ u.ownsRow B 3 1 v n xs
def MakesW (v : Value) (k0 : Nat) : Nat → World → World → Prop := fun k w w' => if k = k0 then w.grownBy w' v.ownBlock else w.grownBy w' none
theorem MakesW.size {v : Value} {k0 : Nat} (i : Nat) (w w' : World) (h : MakesW v k0 i w w') : w.heap.size ≤ w'.heap.size := by
  unfold MakesW at h; split at h <;> exact World.grownBy.size h
theorem GW.start {w0 : World} {B : Nat} {v : Value} {n : Nat} {xs : List Value} (h : w0.ownsRow B 3 1 v n xs) : GW w0 B v n xs w0.drew := ⟨gb_drew (gb_refl _ _), owns_keep h (gb_drew (gb_refl _ none))⟩
theorem GW.cell {w0 : World} {B : Nat} {v : Value} {n : Nat} {xs : List Value} {b o : Nat} {x : Option Value} (hc : w0.cell? ⟨b, o, none⟩ = x) (hb : b < w0.heap.size) (hne : some b ≠ v.ownBlock) (u : Cls (GW w0 B v n xs)) : (evr u).cell? ⟨b, o, none⟩ = x :=
  (gb_cell (evr_h u).1 hb hne).trans hc
abbrev isLitW (w : World) (cs : Array Value) (m : Nat) : List Value → Value → World → Prop := fun _ v u => ∃ b, v = .slice (some ⟨b, 0, none⟩) m m ∧ w.heap.size ≤ b ∧ u.heap[b]? = some (.cells cs 3 (0, 0))
abbrev isPushW (w : World) (B : Nat) (v : Value) (n : Nat) (xs : List Value) : List Value → Value → World → Prop := fun _ v' u => u.ownsRow B 3 1 v' n xs ∧ ∀ b, v'.ownBlock = some b → v.ownBlock = some b ∨ w.heap.size ≤ b
section
variable {ops : Array Oper} {md : Region.Mode} {w0 : World} {B n0 k0 : Nat} {v0 : Value} {x0 : List Value} {sp : Nat → Option (List Value → Value → World → Prop)} {N : Nat} {Q : List Oper → Act → Facts → Prop} {n k : Nat} {o : Oper} {l : List Oper} {a : Act} {f : Facts}
theorem rgW_lit (hlt : ∀ b, v0.ownBlock = some b → b < w0.heap.size) (cs : Array Value) (m : Nat) (hk : k ≠ k0) (hs : sp k = some (isLitW w0 cs m)) (hw : Region.wanted o (yielded ops a.tmps) = true)
    (hrun : ∀ w, (execOp a.eval o).run Try.prog w = .ok (.value (.slice (some ⟨w.heap.size, 0, none⟩) m m)) (w.alloc (.cells cs 3)))
    (h : ∀ b, w0.heap.size ≤ b → rLexL Try.prog md ops ⟨In (GW w0 B v0 n0 x0), MakesW v0 k0, sp, fun _ => false, N⟩ Q n l (k + 1) (a.put o.dst (.slice (some ⟨b, 0, none⟩) m m)) (upd f k (isLitW w0 cs m [] (.slice (some ⟨b, 0, none⟩) m m)))) :
    rLexL Try.prog md ops ⟨In (GW w0 B v0 n0 x0), MakesW v0 k0, sp, fun _ => false, N⟩ Q (n + 1) (o :: l) k a f := by
  refine rLexL_spec (isLitW w0 cs m) hs hw ?_ (fun w hC hd => stepTo_run (hrun w) ?_) ?_
  · rintro v j w w' _ _ _ hR ⟨b, e, hb, hh⟩
    refine ⟨b, e, hb, ?_⟩
    unfold MakesW at hR; split at hR
    · rw [hR.block b (block_lt' hh) (fun e => by have := hlt b e.symm; omega)]; exact hh
    · exact block_kept hR hh rfl
  · have hsz := hC.out.1.size
    have hg : w.grownBy (w.alloc (.cells cs 3)) none := gb_alloc (gb_refl _ _) _
    exact ⟨In.mk ⟨gb_trans hC.out.1 (by cases v0.ownBlock with | none => exact hg | some q => exact gb_none hg), owns_keep hC.out.2 hg⟩, by unfold MakesW; rw [if_neg hk]; exact hg, ⟨_, rfl, hsz, heap_alloc_new w _⟩, fun e => by cases e⟩
  · rintro v w hC ⟨b, rfl, hb, -⟩
    exact h b hb
theorem rgW_push (hB : B ≤ w0.heap.size) (s x : Operand) (t : TypeId) (ht : Try.prog.underlying t = some (.slice 3)) (hinfo : (Try.prog.info? 3).map (fun i => (i.zero, i.size, i.bytes)) = some (some (.int .i64 0), 1, 8)) (hk : k = k0) (kb b : Nat) (c : Value) (hc1 : c.oneCell' = true)
    (hs : sp k = some (isPushW w0 B v0 (n0 + 1) (x0 ++ [c]))) (hw : Region.wanted o (yielded ops a.tmps) = true)
    (ho : o.op = .call { callee := .builtin .append, args := #[s, x], argTypes := #[t, t] })
    (hsv : a.eval s = v0) (hxv : a.eval x = .slice (some ⟨b, 0, none⟩) 1 1)
    (hb : ∃ e ∈ o.after, Region.binds md e = true ∧ e.on = kb) (hfb : f kb = isLitW w0 #[c] 1 [] (.slice (some ⟨b, 0, none⟩) 1 1)) (h63 : n0 ≤ 900000)
    (h : ∀ v', rLexL Try.prog md ops ⟨In (GW w0 B v0 n0 x0), MakesW v0 k0, sp, fun _ => false, N⟩ Q n l (k + 1) (a.put o.dst v') (upd f k (isPushW w0 B v0 (n0 + 1) (x0 ++ [c]) [] v'))) :
    rLexL Try.prog md ops ⟨In (GW w0 B v0 n0 x0), MakesW v0 k0, sp, fun _ => false, N⟩ Q (n + 1) (o :: l) k a f := by
  subst hk
  refine rLexL_spec (isPushW w0 B v0 (n0 + 1) (x0 ++ [c])) hs hw ?_ (fun w hC hd => ?_) (fun v' w _ _ => h v')
  · rintro v j w w' hj _ _ hR ⟨h1, h2⟩
    unfold MakesW at hR; rw [if_neg hj] at hR
    exact ⟨owns_keep h1 hR, h2⟩
  · obtain ⟨eb, heb, hbb, rfl⟩ := hb
    have hdb := hd eb heb hbb
    rw [hfb] at hdb
    obtain ⟨b', e2, -, hblk⟩ := hdb
    simp only [Value.slice.injEq, Option.some.injEq, Addr.mk.injEq, and_true] at e2
    subst e2
    have hsz := hC.out.1.size
    refine stepTo_push s x t ho B 3 (.int .i64 0) 1 8 ht hinfo rfl (by decide) v0 n0 x0 hsv hC.out.2 b 1 [c] 3 hxv hblk rfl (by simpa using hc1) (by omega) (by omega) (by omega) (fun v' w' h2 h3 h4 h5 => ?_)
    refine ⟨In.mk ⟨gb_trans hC.out.1 h4, h3⟩, by unfold MakesW; rw [if_pos rfl]; exact h4, ⟨h2, fun bb e => ?_⟩, fun e => by cases e⟩
    rcases h5 with h5 | h5
    · exact .inl (h5 ▸ e)
    · rw [h5] at e; simp at e; exact .inr (by omega)
end
end Go.Proofs.Ytoconichgdlmcaa
