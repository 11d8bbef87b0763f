/- RgMade RgOwn -/
import Derived.Test.YtlddgafbgaaiiaaGreatDoorTsRg
import Derived.Test.YtlddgafbgaaiiaaGreatDoorTsBase
namespace Go.Proofs.YtlddgafbgaaiiaaGreatDoor
set_option linter.all false
section LRgMade
open Go.RowKit Rg
def Made (w : World) (u : World) : Prop := w.grownBy u none
def Makes : Nat → World → World → Prop := fun _ w w' => w.grownBy w' none
theorem Makes.size (i : Nat) (w w' : World) (h : Makes i w w') : w.heap.size ≤ w'.heap.size := World.grownBy.size h
theorem Made.start (w : World) : Made w w.drew := gb_drew (gb_refl _ _)
theorem Made.cell {w : World} {b o : Nat} {x : Option Value} (hc : w.cell? ⟨b, o, none⟩ = x) (hb : b < w.heap.size) (u : Cls (Made w)) : (evr u).cell? ⟨b, o, none⟩ = x :=
  (gb_cell (evr_h u) hb (by simp)).trans hc
theorem Made.cells {w : World} {b : Nat} (hb : b < w.heap.size) (u : Cls (Made w)) (o : Nat) : (evr u).cell? ⟨b, o, none⟩ = w.cell? ⟨b, o, none⟩ := gb_cell (evr_h u) hb (by simp)
abbrev isV (v0 : Value) : List Value → Value → World → Prop := fun _ v _ => v = v0
section
variable {P : Program} {ops : Array Oper} {md : Region.Mode} {w0 : World} {sp : Nat → Option (List Value → Value → World → Prop)} {al : Nat → Bool} {N : Nat} {Q : List Oper → Act → Facts → Prop} {n k : Nat} {o : Oper} {l : List Oper} {a : Act} {f : Facts}
/-- A call whose value is fixed. -/
theorem rg_fix (v0 : Value) (fid : FuncId) (args : Array Value) (hs : sp k = some (isV v0)) (hw : Region.wanted o (yielded ops a.tmps) = true) (hal : al k = false)
    (hrun : ∀ w, (execOp a.eval o).run P w = .ok (.enter fid args) w)
    (hc : ∀ u, w0.grownBy u none → Calls P fid args u fun e w' => e = .returned v0 ∧ u.grownBy w' none)
    (h : rLexL P md ops ⟨In (Made w0), Makes, sp, al, N⟩ Q n l (k + 1) (a.put o.dst v0) (upd f k fun _ => v0 = v0)) :
    rLexL P md ops ⟨In (Made w0), Makes, sp, al, N⟩ Q (n + 1) (o :: l) k a f := by
  refine rLexL_spec (isV v0) hs hw (fun v j w w' _ _ _ _ h => h) (fun w hC hd => stepTo_call (hrun w) ?_) ?_
  · refine (hc w hC.out).mono ?_
    rintro e w' ⟨rfl, hg⟩
    exact ⟨_, rfl, In.mk (gb_trans hC.out hg), hg, rfl, fun e => by rw [hal] at e; cases e⟩
  · rintro v w hC rfl
    exact h
end
theorem gb_setRow' {w0 w : World} {g : Nat} {cs : Array Value} (h : w0.grownBy w none) (hg : w0.heap.size ≤ g) : w0.grownBy (w.setRow g cs) none :=
  ⟨h.os, h.tape, h.output, by have := h.size; simpa [World.setRow] using this, fun i hi hr => by
    rw [setRow_other w g i cs (by omega)]; exact h.block i hi hr⟩
abbrev isVar (w : World) (n : Nat) (T : TypeId) : List Value → Value → World → Prop := fun _ v u => ∃ b, v = .pointer (some ⟨b, 0, none⟩) ∧ w.heap.size ≤ b ∧ ∃ cs : Array Value, cs.size = n ∧ u.heap[b]? = some (.cells cs T (0, 0))
theorem isVar.out {w : World} {n : Nat} {T : TypeId} {b : Nat} {u : World} (h : isVar w n T [] (.pointer (some ⟨b, 0, none⟩)) u) : ∃ cs : Array Value, cs.size = n ∧ u.heap[b]? = some (.cells cs T (0, 0)) := by
  obtain ⟨b', e, -, h⟩ := h
  simp at e; subst e; exact h
section
end
section
end
theorem set_block {w : World} {b : Nat} {cs : Array Value} {t : TypeId} {fr : Nat × Nat} (h : w.heap[b]? = some (.cells cs t fr)) (k : Nat) (u : Value) : (w.setCell ⟨b, k, none⟩ u).heap[b]? = some (.cells (cs.set! k u) t fr) := by
  simp only [World.setCell, Array.getElem?_modify, if_true, h]; rfl
end LRgMade
section LRgSrc
open Go.RowKit Rg
section
end
end LRgSrc
section LRgMore
open Go.RowKit Rg
section
end
theorem Made.grown {w : World} (u u' : World) (h : Made w u) (hg : u.grownBy u' none) : Made w u' := gb_trans h hg
end LRgMore
end Go.Proofs.YtlddgafbgaaiiaaGreatDoor
namespace Go.Proofs.YtlddgafbgaaiiaaGreatDoor
set_option linter.all false
open Go.RowKit Rg
/-- The class: grown out of w but for the row that v owns; the row is as it was. -/
def OwG (v : Value) (B : Nat) (e : TypeId) (size n : Nat) (xs : List Value) (w u : World) : Prop := w.grownBy u v.ownBlock ∧ u.ownsRow B e size v n xs
def OwR (v : Value) (k0 : Nat) : Nat → World → World → Prop := fun k u u' => if k = k0 then u.grownBy u' v.ownBlock else u.grownBy u' none
theorem OwR.size {v : Value} {k0 : Nat} (i : Nat) (w w' : World) (h : OwR v k0 i w w') : w.heap.size ≤ w'.heap.size := by
  unfold OwR at h; split at h <;> exact World.grownBy.size h
theorem OwG.start {v : Value} {B : Nat} {e : TypeId} {size n : Nat} {xs : List Value} {w : World} (h : w.ownsRow B e size v n xs) : OwG v B e size n xs w w.drew := ⟨gb_drew (gb_refl _ _), owns_keep h (gb_drew (gb_refl _ _))⟩
theorem OwG.cell {v : Value} {B : Nat} {e : TypeId} {size n : Nat} {xs : List Value} {w : World} {b : Nat} (hb : b < w.heap.size) (hr : some b ≠ v.ownBlock) (o : Nat) (u : Cls (OwG v B e size n xs w)) : (evr u).cell? ⟨b, o, none⟩ = w.cell? ⟨b, o, none⟩ := gb_cell (evr_h u).1 hb hr
abbrev isOneO (w : World) (cs : Array Value) (T : TypeId) : List Value → Value → World → Prop := fun _ v u => ∃ b, v = .slice (some ⟨b, 0, none⟩) 1 1 ∧ w.heap.size ≤ b ∧ u.heap[b]? = some (.cells cs T (0, 0))
abbrev isGrownO (w : World) (B : Nat) (e : TypeId) (size n : Nat) (xs ys : List Value) (v : Value) : List Value → Value → World → Prop := fun _ v' u => u.ownsRow B e size v' (n + 1) (xs ++ ys) ∧ (v'.ownBlock = v.ownBlock ∨ ∀ g, v'.ownBlock = some g → w.heap.size ≤ g)
section
variable {P : Program} {ops : Array Oper} {md : Region.Mode} {w0 : World} {v : Value} {B k0 m size : Nat} {e : TypeId} {xs : List Value} {sp : Nat → Option (List Value → Value → World → Prop)} {N : Nat} {Q : List Oper → Act → Facts → Prop} {n k : Nat} {o : Oper} {l : List Oper} {a : Act} {f : Facts}
theorem rg_litO (hk : k ≠ k0) (hq : ∀ g, v.ownBlock = some g → g < w0.heap.size) (cs : Array Value) (T : TypeId) (hs : sp k = some (isOneO w0 cs T)) (hw : Region.wanted o (yielded ops a.tmps) = true)
    (hrun : ∀ w, (execOp a.eval o).run P w = .ok (.value (.slice (some ⟨w.heap.size, 0, none⟩) 1 1)) (w.alloc (.cells cs T)))
    (h : ∀ b, w0.heap.size ≤ b → rLexL P md ops ⟨In (OwG v B e size m xs w0), OwR v k0, sp, fun _ => false, N⟩ Q n l (k + 1) (a.put o.dst (.slice (some ⟨b, 0, none⟩) 1 1)) (upd f k fun u => u.heap[b]? = some (.cells cs T (0, 0)))) :
    rLexL P md ops ⟨In (OwG v B e size m xs w0), OwR v k0, sp, fun _ => false, N⟩ Q (n + 1) (o :: l) k a f := by
  refine rLexL_spec (isOneO w0 cs T) hs hw ?_ (fun w hC hd => stepTo_run (hrun w) ?_) ?_
  · rintro v' j w w' _ _ _ hR ⟨b, e, hb, hh⟩
    refine ⟨b, e, hb, ?_⟩
    unfold OwR at hR; split at hR
    · rw [World.grownBy.block hR b (Array.getElem?_eq_some_iff.1 hh).1 (fun e => by have := hq b e.symm; omega)]; exact hh
    · rw [World.grownBy.block hR b (Array.getElem?_eq_some_iff.1 hh).1 (by simp)]; exact hh
  · have hsz := hC.out.1.size
    exact ⟨In.mk ⟨gb_alloc hC.out.1 _, owns_keep hC.out.2 (gb_alloc (gb_refl _ _) _)⟩, by unfold OwR; rw [if_neg hk]; exact gb_alloc (gb_refl _ _) _, ⟨_, rfl, hsz, heap_alloc_new w _⟩, fun e => by cases e⟩
  · rintro v' w hC ⟨b, rfl, hb, -⟩
    have e : (isOneO w0 cs T (vals a o) (.slice (some ⟨b, 0, none⟩) 1 1)) = fun u => u.heap[b]? = some (.cells cs T (0, 0)) := by
      funext u
      refine propext ⟨?_, fun h => ⟨b, rfl, hb, h⟩⟩
      rintro ⟨b', e, -, h⟩
      simp at e; subst e; exact h
    rw [e]
    exact h b hb
theorem rg_pushO (hk : k = k0) (hB : B ≤ w0.heap.size) (ys : List Value) (s y : Operand) (t T : TypeId) (z : Value) (bytes : Nat) (ht : P.underlying t = some (.slice e)) (hinfo : (P.info? e).map (fun i => (i.zero, i.size, i.bytes)) = some (some z, size, bytes)) (hzs : z.cells.size = size) (hsz : 0 < size)
    (b : Nat) (kb : Nat) (hs : sp k = some (isGrownO w0 B e size m xs ys v)) (hw : Region.wanted o (yielded ops a.tmps) = true)
    (ho : o.op = .call { callee := .builtin .append, args := #[s, y], argTypes := #[t, t] }) (hsv : a.eval s = v) (hyv : a.eval y = .slice (some ⟨b, 0, none⟩) 1 1)
    (hafter : ∃ e ∈ o.after, Region.binds md e = true ∧ e.on = kb) (hf : f kb = fun u => u.heap[b]? = some (.cells ys.toArray T (0, 0))) (hl : ys.length = size) (h1 : ∀ u ∈ ys, u.oneCell' = true) (hlen : m + 1 ≤ 1000000) (hbytes : (m + 1) * bytes ≤ 140737488355328)
    (h : ∀ v' u, isGrownO w0 B e size m xs ys v [] v' u → rLexL P md ops ⟨In (OwG v B e size m xs w0), OwR v k0, sp, fun _ => false, N⟩ Q n l (k + 1) (a.put o.dst v') (upd f k (isGrownO w0 B e size m xs ys v [] v'))) :
    rLexL P md ops ⟨In (OwG v B e size m xs w0), OwR v k0, sp, fun _ => false, N⟩ Q (n + 1) (o :: l) k a f := by
  refine rLexL_spec (isGrownO w0 B e size m xs ys v) hs hw ?_ (fun w hC hd => ?_) (fun v' w _ h' => h v' w h')
  · rintro v' j w w' hj _ _ hR ⟨h1, h2⟩
    unfold OwR at hR; rw [if_neg (by omega)] at hR
    exact ⟨owns_keep h1 hR, h2⟩
  · obtain ⟨e, he, hbd, rfl⟩ := hafter
    have hdep := hd e he hbd
    rw [hf] at hdep
    have hsz' := hC.out.1.size
    refine stepTo_push s y t ho B _ z size bytes ht hinfo hzs hsz v m _ hsv hC.out.2 b 1 ys T hyv hdep hl h1 hlen hbytes (by omega) ?_
    intro v' u' o1 o2 hg hat
    refine ⟨In.mk ⟨gb_trans hC.out.1 hg, o2⟩, by unfold OwR; rw [if_pos hk]; exact hg, ⟨o1, ?_⟩, fun e => by cases e⟩
    rcases hat with h1 | h1
    · exact .inl h1
    · exact .inr (fun g hg' => by rw [h1] at hg'; cases hg'; exact hsz')
end
end Go.Proofs.YtlddgafbgaaiiaaGreatDoor
