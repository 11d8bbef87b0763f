/- Drawn regions beside a reader of numbers: draws, picks out of a literal, literals. -/
import Derived.Test.YtkckcaijfedijaaRg
import Derived.Test.YtkckcaijfedijaaPick
namespace Go.Proofs.Ytkckcaijfedijaa
set_option linter.all false
open Go.RowKit Rg

/-- The class: grown out of w but for the reader's block; the reader goes on. -/
def Pulled (w : World) (B p : Nat) (u : World) : Prop := w.grownBy u (some p) ∧ Src B u p
/-- What each operation may do. -/
def Pull (p : Nat) : Nat → World → World → Prop := fun _ w w' => w.grownBy w' (some p)
theorem Pull.size {p : Nat} (i : Nat) (w w' : World) (h : Pull p i w w') : w.heap.size ≤ w'.heap.size := World.grownBy.size h
theorem Pulled.start {w : World} {B p : Nat} (h : Src B w p) : Pulled w B p w.drew := ⟨gb_drew (gb_refl _ _), h.later (row := none) (gb_drew (gb_refl w none)) (by simp)⟩
theorem Pulled.cell {w : World} {B p b o : Nat} {x : Option Value} (hc : w.cell? ⟨b, o, none⟩ = x) (hb : b < w.heap.size) (hp : ¬ b = p) (u : Cls (Pulled w B p)) : (evr u).cell? ⟨b, o, none⟩ = x :=
  (gb_cell (evr_h u).1 hb (by simpa using hp)).trans hc

abbrev isInt (Pd : Int → Prop) : List Value → Value → World → Prop := fun _ v _ => ∃ x : Int, v = .int .i64 x ∧ Pd x
abbrev isLit (w : World) (xs : List Int) : List Value → Value → World → Prop := fun _ v u => Sl u v xs ∧ ∀ b off len cap, v = .slice (some ⟨b, off, none⟩) len cap → w.heap.size ≤ b ∧ b < u.heap.size

section
variable {ops : Array Oper} {md : Region.Mode} {w0 : World} {B p : Nat} {sp : Nat → Option (List Value → Value → World → Prop)} {N : Nat} {Q : List Oper → Act → Facts → Prop} {n k : Nat} {o : Oper} {l : List Oper} {a : Act} {f : Facts}

/-- A call that draws a number. -/
theorem rg_draw (Pd : Int → Prop) (fid : FuncId) (args : Array Value) (hs : sp k = some (isInt Pd)) (hw : Region.wanted o (yielded ops a.tmps) = true)
    (hrun : ∀ w, (execOp a.eval o).run Try.prog w = .ok (.enter fid args) w)
    (hc : ∀ w, Pulled w0 B p w → (∀ e ∈ o.after, Region.binds md e = true → f e.on w) → Calls Try.prog fid args w (Drawn B p Pd w))
    (h : ∀ x, Pd x → rLexL Try.prog md ops ⟨In (Pulled w0 B p), Pull p, sp, fun _ => false, N⟩ Q n l (k + 1) (a.put o.dst (.int .i64 x)) (upd f k fun _ => ∃ y, Value.int .i64 x = .int .i64 y ∧ Pd y)) :
    rLexL Try.prog md ops ⟨In (Pulled w0 B p), Pull p, sp, fun _ => false, N⟩ Q (n + 1) (o :: l) k a f := by
  refine rLexL_spec (isInt Pd) hs hw (fun v j w w' _ _ _ _ h => h) (fun w hC hd => stepTo_call (hrun w) ?_) ?_
  · refine (hc w hC.out hd).mono ?_
    rintro e w' ⟨x, rfl, hx, hs, hg⟩
    exact ⟨_, rfl, In.mk ⟨gb_trans hC.out.1 hg, hs⟩, hg, ⟨x, rfl, hx⟩, fun e => by cases e⟩
  · rintro v w hC ⟨x, rfl, hx⟩
    exact h x hx

/-- A literal slice of numbers. -/
theorem rg_lit (xs : List Int) (e : TypeId) (hs : sp k = some (isLit w0 xs)) (hw : Region.wanted o (yielded ops a.tmps) = true)
    (hrun : ∀ w, (execOp a.eval o).run Try.prog w = .ok (.value (.slice (some ⟨w.heap.size, 0, none⟩) xs.length xs.length)) (w.alloc (.cells ((xs.map (Value.int .i64)).toArray) e)))
    (hlen : decide (xs.length ≤ 1000) = true) (hp : p < w0.heap.size)
    (h : ∀ v, rLexL Try.prog md ops ⟨In (Pulled w0 B p), Pull p, sp, fun _ => false, N⟩ Q n l (k + 1) (a.put o.dst v) (upd f k (isLit w0 xs [] v))) :
    rLexL Try.prog md ops ⟨In (Pulled w0 B p), Pull p, sp, fun _ => false, N⟩ Q (n + 1) (o :: l) k a f := by
  have hlen := of_decide_eq_true hlen
  refine rLexL_spec (isLit w0 xs) hs hw (fun v j w w' _ hC _ hR ⟨h1, h2⟩ => ⟨h1.later hR ?_, fun b off len cap e => ?_⟩) (fun w hC hd => stepTo_run (hrun w) ?_) ?_
  · intro b off len cap e _
    have := (h2 b off len cap e).1
    simp; omega
  · have := h2 b off len cap e
    exact ⟨this.1, Nat.lt_of_lt_of_le this.2 (World.grownBy.size hR)⟩
  · have hsz := hC.out.1.size
    refine ⟨In.mk ⟨gb_alloc hC.out.1 _, hC.out.2.later (gb_alloc (gb_refl w none) _) (by simp)⟩, gb_alloc (gb_refl w _) _, ⟨?_, ?_⟩, fun e => by cases e⟩
    · refine .inr ⟨w.heap.size, 0, xs.length, rfl, by simp, Nat.le_refl _, by omega, fun i hi => ?_⟩
      rw [cell_new]
      simp [hi]
    · rintro b off len cap e
      simp at e
      simp; omega
  · exact fun v w _ _ => h v
end

/-- One of the numbers of a literal. -/
theorem pick_lit (w0 : World) (B p : Nat) (w : World) (xs : List Int) (v : Value) (hP : Pulled w0 B p w) (hd : isLit w0 xs [] v w) (hp : p < w0.heap.size) (h0 : 0 < xs.length) (hl : xs.length ≤ 1000) :
    Calls Try.prog 62 #[.pointer (some ⟨p, 0, none⟩), v] w (Drawn B p (fun x => x ∈ xs) w) :=
  pick_any B w p v xs hP.2 hd.1 h0 hl (fun b off len cap e => by have := (hd.2 b off len cap e).1; omega)
end Go.Proofs.Ytkckcaijfedijaa
