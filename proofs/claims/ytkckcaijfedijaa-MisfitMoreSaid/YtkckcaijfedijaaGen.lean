/- General lemmas, of no program: what grows, a row that is pushed to, small facts on numbers. -/
import Derived.WalkKit
import Derived.WalkSpells
import Derived.WalkLawsBesides
import Derived.Handy
import Derived.Lib.Hide
import Derived.Lib.ItoaNum
import Derived.Deep.QuietTactic
import Derived.BigQuiet
import Derived.Deep.Slices
import Derived.Deep.Cut
import Derived.Deep.CutBlock
import Derived.Deep.LoopGhost
import Derived.Deep.RegionHeld3
import Derived.Deep.RegionWith
import Derived.Deep.DeepCutAuto
namespace Go.Proofs.Ytkckcaijfedijaa
set_option linter.all false
open Go.RowKit

theorem tmod_neg_iff (x n : Int) (h1 : 1 ≤ n) (h : x.tmod n < 0) : x.tmod n + n = x % n := by
  have e : x.tmod n = x % n - _ := Int.tmod_eq_emod
  have h2 := Int.emod_nonneg x (by omega : n ≠ 0)
  split at e <;> omega

theorem tmod_nonneg_iff (x n : Int) (h1 : 1 ≤ n) (h : 0 ≤ x.tmod n) : x.tmod n = x % n := by
  have e : x.tmod n = x % n - _ := Int.tmod_eq_emod
  have h2 := Int.emod_lt_of_pos x (by omega : 0 < n)
  split at e <;> omega

theorem ret_int {k : IntKind} {a b : Int} (h : a = b) : Ending.returned (.int k a) = .returned (.int k b) := by rw [h]
theorem ret_bool {a b : Bool} (h : a = b) : Ending.returned (.bool a) = .returned (.bool b) := by rw [h]

theorem wraps_i64 (n : Int) (h₀ : 0 ≤ n) (h₁ : n < 2 ^ 63) : IntKind.i64.wrap n = n := by rw [IntKind.wrap_i64]; omega

/-- What was read of a world is read in a later one. -/
theorem gb_cell {w w' : World} {row : Option Nat} (h : w.grownBy w' row) {b o : Nat} (hb : b < w.heap.size) (hr : some b ≠ row) : w'.cell? ⟨b, o, none⟩ = w.cell? ⟨b, o, none⟩ :=
  World.cell?_of_block (h.block b hb hr)
theorem gb_frozen {w w' : World} {row : Option Nat} (h : w.grownBy w' row) {b o : Nat} (hb : b < w.heap.size) (hr : some b ≠ row) : w'.frozen? ⟨b, o, none⟩ = w.frozen? ⟨b, o, none⟩ :=
  World.frozen?_of_block (h.block b hb hr)
/-- All that was readable is readable: two rules for the walk. -/
theorem gb_all {w w' : World} (h : w.grownBy w' none) : (∀ b o, b < w.heap.size → w'.cell? ⟨b, o, none⟩ = w.cell? ⟨b, o, none⟩) ∧ (∀ b o, b < w.heap.size → w'.frozen? ⟨b, o, none⟩ = w.frozen? ⟨b, o, none⟩) :=
  ⟨fun _ _ hb => gb_cell h hb (by simp), fun _ _ hb => gb_frozen h hb (by simp)⟩
/-- One block behind a call that turns nothing old: its cells read as they did. -/
theorem gb_at {u w' : World} (h : u.grownBy w' none) {b : Nat} (hb : b < u.heap.size) : (∀ o, w'.cell? ⟨b, o, none⟩ = u.cell? ⟨b, o, none⟩) ∧ b < w'.heap.size :=
  ⟨fun _ => gb_cell h hb (by simp), Nat.lt_of_lt_of_le hb h.size⟩
theorem gb_refl (w : World) (row : Option Nat) : w.grownBy w row := ⟨rfl, rfl, rfl, Nat.le_refl _, fun _ _ _ => rfl⟩
theorem gb_trans {a b c : World} {row : Option Nat} (h : a.grownBy b row) (k : b.grownBy c row) : a.grownBy c row :=
  ⟨k.os.trans h.os, k.tape.trans h.tape, k.output.trans h.output, Nat.le_trans h.size k.size, fun i hi hr => (k.block i (Nat.lt_of_lt_of_le hi h.size) hr).trans (h.block i hi hr)⟩
theorem gb_none {a b : World} {row : Option Nat} (h : a.grownBy b none) : a.grownBy b row :=
  ⟨h.os, h.tape, h.output, h.size, fun i hi _ => h.block i hi (by simp)⟩
theorem gb_drewN {w w' : World} {row : Option Nat} (h : w.grownBy w' row) (n : Nat) : w.grownBy (w'.drewN n) row :=
  ⟨h.os, h.tape, h.output, h.size, h.block⟩
theorem gb_drew {w w' : World} {row : Option Nat} (h : w.grownBy w' row) : w.grownBy w'.drew row :=
  ⟨h.os, h.tape, h.output, h.size, h.block⟩
theorem gb_alloc {w w' : World} {row : Option Nat} (h : w.grownBy w' row) (o : Obj) : w.grownBy (w'.alloc o) row :=
  gb_trans h (gb_none (World.grownBy_alloc w' o none))
theorem gb_setCell {w w' : World} {row : Option Nat} (h : w.grownBy w' row) {a : Addr} (ha : w.heap.size ≤ a.block ∨ row = some a.block) (u : Value) : w.grownBy (w'.setCell a u) row :=
  ⟨h.os, h.tape, h.output, by simpa [World.setCell] using h.size, fun i hi hr => by
    rw [Below.heap_setCell _ _ _ _ (by rcases ha with ha | ha; (omega); exact fun e => hr (by rw [e, ha]))]; exact h.block i hi hr⟩
theorem gb_below {B : Nat} {w w' : World} {row : Option Nat} (h : w.grownBy w' row) (hB : B ≤ w.heap.size) (hr : ∀ k, row = some k → B ≤ k) : Below B w w' :=
  (Below.refl B w).grown h hB hr
/-- A write into a block that is new is none. -/
theorem gb_new {a b c : World} {row : Option Nat} (h : a.grownBy b none) (k : b.grownBy c row) (hq : ∀ q, row = some q → a.heap.size ≤ q) : a.grownBy c none :=
  ⟨k.os.trans h.os, k.tape.trans h.tape, k.output.trans h.output, Nat.le_trans h.size k.size,
    fun i hi _ => (k.block i (Nat.lt_of_lt_of_le hi h.size) (fun e => by have := hq i e.symm; omega)).trans (h.block i hi (by simp))⟩

theorem cell_new (w : World) (cs : Array Value) (e : TypeId) (k : Nat) : (w.alloc (.cells cs e)).cell? ⟨w.heap.size, k, none⟩ = cs[k]? := by
  unfold World.cell?; rw [heap_alloc_new]; rfl
theorem cell_old (w : World) (o : Obj) {b : Nat} (k : Nat) (h : b < w.heap.size) : (w.alloc o).cell? ⟨b, k, none⟩ = w.cell? ⟨b, k, none⟩ :=
  World.cell?_of_block (heap_alloc_old w o h)
theorem cell_new' (w : World) (cs : Array Value) (e : TypeId) (k : Nat) {b : Nat} (h : b = w.heap.size) : (w.alloc (.cells cs e)).cell? ⟨b, k, none⟩ = cs[k]? := by
  subst h; exact cell_new w cs e k
theorem gb_end {w w' : World} (h : w.grownBy w' none) : Below w.heap.size w w' := gb_below h (Nat.le_refl _) (by simp)

/-- append(s, x), x one element of 'size' cells that lie in a block of their own. -/
theorem wpList_push {P : Program} {w : World} {ops : Array Oper} {rest : List Oper} {o : Oper} {a : Act} {Q : Exit → Act → World → Prop} (hgd : o.guard = none) (s x : Operand) (t : TypeId)
    (ho : o.op = .call { callee := .builtin .append, args := #[s, x], argTypes := #[t, t] })
    (base : Nat) (e : TypeId) (z : Value) (size bytes : Nat) (ht : P.underlying t = some (.slice e)) (hinfo : (P.info? e).map (fun i => (i.zero, i.size, i.bytes)) = some (some z, size, bytes)) (hzs : z.cells.size = size) (hsz : 0 < size) (hby : 0 < bytes)
    (v : Value) (n : Nat) (xs : List Value) (hs : a.eval s = v) (hown : w.ownsRow base e size v n xs)
    (b c : Nat) (news : List Value) (e' : TypeId) (hx : a.eval x = .slice (some ⟨b, 0, none⟩) 1 c) (hblk : w.heap[b]? = some (.cells news.toArray e' (0, 0))) (hl : news.length = size) (h1 : ∀ u ∈ news, u.oneCell' = true)
    (hbytes : (n + 1) * bytes ≤ 140737488355328) (hbase : base ≤ w.heap.size)
    (h : ∀ v' w', w'.ownsRow base e size v' (n + 1) (xs ++ news) → w.grownBy w' v.ownBlock → wpList P ops Q rest (a.put o.dst v') w') : wpList P ops Q (o :: rest) a w := by
  obtain ⟨i0, hi, hz0, hz1, hz2⟩ := info_parts hinfo
  refine wpList_append_own w hgd s x t ho base e i0 z size bytes ht hi hz0 hz1 hz2 hzs hsz v n xs hs hown ⟨b, 0, none⟩ 1 c news hx (by omega) ?_ h1 ?_ hbytes hbase (fun v' w' h2 h3 _ => h v' w' h2 h3)
  · intro j u hj
    have hadd : (⟨b, 0, none⟩ : Addr).add j = ⟨b, j, none⟩ := by unfold Addr.add; split <;> simp_all
    rw [hadd]
    simp [World.cell?, hblk]
    exact hj
  · have := Nat.le_mul_of_pos_right (n + 1) hby
    unfold maxLen; omega

/-- An own row that is not empty: where it lies. -/
theorem owns_at {w : World} {B e : Nat} {v : Value} {n : Nat} {ys : List Value} (h : w.ownsRow B e 1 v n ys) (hn : 0 < n) :
    ∃ g cap, v = .slice (some ⟨g, 0, none⟩) n cap ∧ B ≤ g ∧ g < w.heap.size ∧ n ≤ cap ∧ cap ≤ 9223372036854775807 ∧ (∀ j u, ys[j]? = some u → w.cell? ((⟨g, 0, none⟩ : Addr).add j) = some u) := by
  rcases h.2 with ⟨_, h0⟩ | ⟨g, cap, cur, rfl, hb, hg, hle, hcap, _, _⟩
  · omega
  · exact ⟨g, cap, rfl, hb, (Array.getElem?_eq_some_iff.1 hg).1, hle, hcap, fun j u hj => h.cells rfl j u hj⟩

theorem owns_slice {w : World} {B e s : Nat} {v : Value} {n : Nat} {ys : List Value} (h : w.ownsRow B e s v n ys) : ∃ a c, v = .slice a n c := by
  rcases h.2 with ⟨rfl, rfl⟩ | ⟨g, cap, cur, rfl, _⟩
  · exact ⟨_, _, rfl⟩
  · exact ⟨_, _, rfl⟩

theorem owns_keep {w w' : World} {B e s : Nat} {v : Value} {n : Nat} {ys : List Value} (h : w.ownsRow B e s v n ys) (hg : w.grownBy w' none) : w'.ownsRow B e s v n ys :=
  h.kept hg (by cases v.ownBlock <;> simp)

theorem owns_keepp {w w' : World} {B e s : Nat} {v : Value} {n : Nat} {ys : List Value} {p : Nat} (h : w.ownsRow B e s v n ys) (hg : w.grownBy w' (some p)) (hp : p < B) : w'.ownsRow B e s v n ys :=
  h.kept hg (by cases e : v.ownBlock with | none => simp | some k => have := (h.lt k e).1; simp; omega)

/-- What a push leaves, behind the block that the new element lay in. -/
theorem push_grown {w wr w1 : World} {B : Nat} {e : TypeId} {size n : Nat} {v : Value} {xs : List Value} {o : Obj} (hgr : w.grownBy wr none) (hown : wr.ownsRow B e size v n xs) (hB : w.heap.size ≤ B) (hg : (wr.alloc o).grownBy w1 v.ownBlock) : w.grownBy w1 none :=
  gb_new (gb_alloc hgr o) hg (fun q hq => by have := (hown.lt q hq).1; omega)
end Go.Proofs.Ytkckcaijfedijaa
