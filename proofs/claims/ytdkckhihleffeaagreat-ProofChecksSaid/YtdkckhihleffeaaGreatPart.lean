/- A part of a block is overwritten by a struct. -/
import Derived.Test.YtdkckhihleffeaaGreatRgMade
import Derived.Deep.MidRow
namespace Go.Proofs.YtdkckhihleffeaaGreat
set_option linter.all false
open Go.RowKit Rg

def setL (cs : Array Value) (o : Nat) : List Value → Array Value
  | [] => cs
  | v :: vs => setL (cs.set! o v) (o + 1) vs
theorem setCells_block {T : TypeId} {fr : Nat × Nat} {b : Nat} : ∀ (vs : List Value) (w : World) (cs : Array Value) (o : Nat), w.heap[b]? = some (.cells cs T fr) → (w.setCells b o vs).heap[b]? = some (.cells (setL cs o vs) T fr)
  | [], w, cs, o, h => h
  | v :: vs, w, cs, o, h => setCells_block vs (w.setCell ⟨b, o, none⟩ v) (cs.set! o v) (o + 1) (set_block h o v)
theorem setCells_grown {w0 : World} {row : Option Nat} {b : Nat} : ∀ (vs : List Value) (w : World) (o : Nat), w0.grownBy w row → (w0.heap.size ≤ b ∨ row = some b) → w0.grownBy (w.setCells b o vs) row
  | [], w, o, h, _ => h
  | v :: vs, w, o, h, hb => setCells_grown vs (w.setCell ⟨b, o, none⟩ v) (o + 1) (gb_setCell h hb v) hb
theorem setCells_far {b b' : Nat} (hne : b' ≠ b) : ∀ (vs : List Value) (w : World) (o : Nat), (w.setCells b o vs).heap[b']? = w.heap[b']?
  | [], w, o => rfl
  | v :: vs, w, o => (setCells_far hne vs (w.setCell ⟨b, o, none⟩ v) (o + 1)).trans (setCell_far (a := ⟨b, o, none⟩) hne)
theorem there_of {w : World} {b : Nat} {cs : Array Value} {T : TypeId} (h : w.heap[b]? = some (.cells cs T (0, 0))) {o n : Nat} (hn : o + n ≤ cs.size) : w.there b o n := fun j hj => by
  constructor
  · have : o + j < cs.size := by omega
    simp [World.cell?, h, this]
  · simp [World.frozen?, h]
/-- At the list of a plain region's operations: the world behind is a letter. -/
theorem wpList_part {P : Program} {ops : Array Oper} {rest : List Oper} {op : Oper} {a : Act} {w : World} {Q : Exit → Act → World → Prop} (hgd : op.guard = none) (ty : TypeId) (x y : Operand) (ho : op.op = .store ty x y)
    (b o : Nat) (cells : Array Value) (hx : a.eval x = .pointer (some ⟨b, o, none⟩)) (hy : a.eval y = .agg cells) {cs : Array Value} {T : TypeId} (hb : w.heap[b]? = some (.cells cs T (0, 0))) (cs' : Array Value) (hn : decide (o + cells.size ≤ cs.size) = true) (hcs : setL cs o cells.toList = cs')
    (hi : (P.info? ty).map (·.size) = some cells.size) (h1 : cells.all (·.oneCell') = true)
    (h : ∀ w', w'.heap[b]? = some (.cells cs' T (0, 0)) → (∀ b', b' ≠ b → w'.heap[b']? = w.heap[b']?) → w.grownBy w' (some b) → wpList P ops Q rest (a.put op.dst undef) w') : wpList P ops Q (op :: rest) a w :=
  wpList_store_mid hgd ty x y ho b o cells hx hy (there_of hb (of_decide_eq_true hn)) hi h1 (h _ (hcs ▸ setCells_block _ _ _ _ hb) (fun _ hne => setCells_far hne _ _ _) (setCells_grown _ _ _ (gb_refl _ _) (.inr rfl)))
theorem gb_new' {a b c : World} {row : Option Nat} {q : Nat} (h : a.grownBy b row) (k : b.grownBy c (some q)) (hq : a.heap.size ≤ q) : a.grownBy c row :=
  ⟨k.os.trans h.os, k.tape.trans h.tape, k.output.trans h.output, Nat.le_trans h.size k.size,
    fun i hi hr => (k.block i (Nat.lt_of_lt_of_le hi h.size) (fun e => by simp at e; omega)).trans (h.block i hi hr)⟩
/-- A list in which some cells are overwritten. -/
def setLL (xs : List Value) (o : Nat) : List Value → List Value
  | [] => xs
  | v :: vs => setLL (xs.set o v) (o + 1) vs
theorem owns_setCells {base size g n cap : Nat} {e : TypeId} : ∀ (vs : List Value) (w : World) (o : Nat) (xs : List Value), w.ownsRow base e size (.slice (some ⟨g, 0, none⟩) n cap) n xs → (w.setCells g o vs).ownsRow base e size (.slice (some ⟨g, 0, none⟩) n cap) n (setLL xs o vs)
  | [], _, _, _, h => h
  | v :: vs, w, o, xs, h => owns_setCells vs (w.setCell ⟨g, o, none⟩ v) (o + 1) (xs.set o v) (h.stored o v).1
theorem setLL_cons (y : Value) : ∀ (vs r : List Value) (o : Nat), setLL (y :: r) (o + 1) vs = y :: setLL r o vs
  | [], _, _ => rfl
  | v :: vs, r, o => setLL_cons y vs (r.set o v) (o + 1)
theorem setLL_append (vs : List Value) : ∀ (p r : List Value) (o : Nat), setLL (p ++ r) (p.length + o) vs = p ++ setLL r o vs
  | [], r, o => by simp
  | y :: p, r, o => by
    rw [List.cons_append, show (y :: p).length + o = (p.length + o) + 1 by simp; omega, setLL_cons, setLL_append vs p r o]; rfl
/-- An element of a row of its own is overwritten by a struct: at the list of a region's operations. -/
theorem wpList_partO {P : Program} {ops : Array Oper} {rest : List Oper} {op : Oper} {a : Act} {w : World} {Q : Exit → Act → World → Prop} (hgd : op.guard = none) (ty : TypeId) (x y : Operand) (ho : op.op = .store ty x y)
    (g o : Nat) (cells : Array Value) (hx : a.eval x = .pointer (some ⟨g, o, none⟩)) (hy : a.eval y = .agg cells) {base size n cap : Nat} {e : TypeId} {xs : List Value} (hown : w.ownsRow base e size (.slice (some ⟨g, 0, none⟩) n cap) n xs) (hn : o + cells.size ≤ n * size)
    (hi : (P.info? ty).map (·.size) = some cells.size) (h1 : cells.all (·.oneCell') = true)
    (h : ∀ w', w'.ownsRow base e size (.slice (some ⟨g, 0, none⟩) n cap) n (setLL xs o cells.toList) → w.grownBy w' (some g) → wpList P ops Q rest (a.put op.dst undef) w') : wpList P ops Q (op :: rest) a w := by
  refine wpList_store_mid hgd ty x y ho g o cells hx hy (fun j hj => ⟨?_, hown.frozenAt _⟩) hi h1 (h _ (owns_setCells _ _ _ _ hown) (setCells_grown _ _ _ (gb_refl _ _) (.inr rfl)))
  rw [hown.cellAt _ (by omega)]
  have hl : xs.length = n * size := hown.1
  rw [List.getElem?_eq_getElem (by omega)]
  simp
end Go.Proofs.YtdkckhihleffeaaGreat
