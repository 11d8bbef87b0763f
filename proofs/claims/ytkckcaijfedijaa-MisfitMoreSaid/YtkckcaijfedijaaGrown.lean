/- Of no program: a region that draws its order, whose operations only read and whose callees only read or make memory: ONE walk in the text's order. The class of worlds: all that have grown out of this one. -/
import Derived.Test.YtkckcaijfedijaaGen
namespace Go.Proofs.Ytkckcaijfedijaa
set_option linter.all false
open Go.RowKit

/-- A world that has grown out of w. -/
structure Up (w : World) where
  u : World
  h : w.grownBy u none
instance (w : World) : Nonempty (Up w) := ⟨⟨w, gb_refl w none⟩⟩
def ever (w : World) (x : Up w) : World := x.u
theorem ever_up {w : World} (x : Up w) : w.grownBy (ever w x) none := x.h
@[go_sem] theorem ever_cell {w : World} (x : Up w) {b o : Nat} (hb : b < w.heap.size) : (ever w x).cell? ⟨b, o, none⟩ = w.cell? ⟨b, o, none⟩ := gb_cell x.h hb (by simp)
@[go_sem] theorem ever_frozen {w : World} (x : Up w) {b o : Nat} (hb : b < w.heap.size) : (ever w x).frozen? ⟨b, o, none⟩ = w.frozen? ⟨b, o, none⟩ := gb_frozen x.h hb (by simp)

theorem Calls.grown_of {P : Program} {f : FuncId} {args : Array Value} {w : World} {x : Up w} {v : Value}
    (h : Calls P f args (ever w x) fun e w' => e = .returned v ∧ (ever w x).grownBy w' none) : Calls P f args (ever w x) fun e w'' => e = .returned v ∧ ∃ y, w'' = ever w y :=
  h.mono fun _ w' ⟨he, hm⟩ => ⟨he, ⟨w', gb_trans x.h hm⟩, rfl⟩
theorem Calls.grown_same {P : Program} {f : FuncId} {args : Array Value} {w : World} {x : Up w} {v : Value}
    (h : Calls P f args (ever w x) fun e w' => e = .returned v ∧ ever w x = w') : Calls P f args (ever w x) fun e w'' => e = .returned v ∧ ∃ y, w'' = ever w y :=
  h.mono fun _ w' ⟨he, hm⟩ => ⟨he, x, hm.symm⟩

theorem wp_region_grown {P : Program} {id : Nat} {Q : Exit → Act → World → Prop} {a : Act} {w : World} {l : List Oper} (hm : P.follows .mixedOrders = true) (hB : Region.lexB .any l.toArray = true)
    (h : wpQuiet P l.toArray (fun w' => ∃ x, w' = ever w x) (fun a' => ∀ w', w.grownBy w' none → Q .normal a' w') l a) : (Code.region id l.toArray true).wp P Q a w :=
  wp_region_quiet (C := fun w' => ∃ x, w' = ever w x) hm hB ⟨⟨w.drew, gb_drew (gb_refl _ _)⟩, rfl⟩ (by
    have e : (fun a' => ∀ w', (∃ x, w' = ever w x) → Q .normal a' w') = fun a' => ∀ w', w.grownBy w' none → Q .normal a' w' :=
      funext fun a' => propext ⟨fun k w' hw => k w' ⟨⟨w', hw⟩, rfl⟩, fun k w' hw => by obtain ⟨x, rfl⟩ := hw; exact k _ x.h⟩
    rw [e]; exact h)

end Go.Proofs.Ytkckcaijfedijaa
