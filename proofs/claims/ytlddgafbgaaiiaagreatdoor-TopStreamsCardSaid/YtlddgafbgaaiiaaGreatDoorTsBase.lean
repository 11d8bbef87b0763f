/- Base Close -/
import Derived.WalkKit
import Derived.WalkSpells
import Derived.WalkLawsBesides
import Derived.Handy
import Derived.Lib.Hide
import Derived.Lib.ItoaNum
import Derived.Deep.QuietTactic
import Derived.BigQuiet
import Derived.Deep.Slices
import Derived.Deep.Cut
import Derived.Deep.CutBlock
import Derived.Deep.LoopGhost
import Derived.Deep.RegionHeld3
import Derived.Deep.RegionWith
import Derived.Deep.DeepCutAuto
import Derived.Test.YtlddgafbgaaiiaaGreatDoorRows
import Derived.ProofKit
import Derived.OpenShut
namespace Go.Proofs.YtlddgafbgaaiiaaGreatDoor
set_option linter.all false
section LGen
open Go.RowKit
theorem tmod_neg_iff (x n : Int) (h1 : 1 ≤ n) (h : x.tmod n < 0) : x.tmod n + n = x % n := by
  have e : x.tmod n = x % n - _ := Int.tmod_eq_emod
  have h2 := Int.emod_nonneg x (by omega : n ≠ 0)
  split at e <;> omega
theorem tmod_nonneg_iff (x n : Int) (h1 : 1 ≤ n) (h : 0 ≤ x.tmod n) : x.tmod n = x % n := by
  have e : x.tmod n = x % n - _ := Int.tmod_eq_emod
  have h2 := Int.emod_lt_of_pos x (by omega : 0 < n)
  split at e <;> omega
theorem ret_int {k : IntKind} {a b : Int} (h : a = b) : Ending.returned (.int k a) = .returned (.int k b) := by rw [h]
theorem ret_bool {a b : Bool} (h : a = b) : Ending.returned (.bool a) = .returned (.bool b) := by rw [h]
/-- What was read of a world is read in a later one. -/
theorem gb_cell {w w' : World} {row : Option Nat} (h : w.grownBy w' row) {b o : Nat} (hb : b < w.heap.size) (hr : some b ≠ row) : w'.cell? ⟨b, o, none⟩ = w.cell? ⟨b, o, none⟩ :=
  World.cell?_of_block (h.block b hb hr)
theorem gb_frozen {w w' : World} {row : Option Nat} (h : w.grownBy w' row) {b o : Nat} (hb : b < w.heap.size) (hr : some b ≠ row) : w'.frozen? ⟨b, o, none⟩ = w.frozen? ⟨b, o, none⟩ :=
  World.frozen?_of_block (h.block b hb hr)
theorem gb_refl (w : World) (row : Option Nat) : w.grownBy w row := ⟨rfl, rfl, rfl, Nat.le_refl _, fun _ _ _ => rfl⟩
theorem gb_trans {a b c : World} {row : Option Nat} (h : a.grownBy b row) (k : b.grownBy c row) : a.grownBy c row :=
  ⟨k.os.trans h.os, k.tape.trans h.tape, k.output.trans h.output, Nat.le_trans h.size k.size, fun i hi hr => (k.block i (Nat.lt_of_lt_of_le hi h.size) hr).trans (h.block i hi hr)⟩
theorem gb_none {a b : World} {row : Option Nat} (h : a.grownBy b none) : a.grownBy b row :=
  ⟨h.os, h.tape, h.output, h.size, fun i hi _ => h.block i hi (by simp)⟩
theorem gb_drewN {w w' : World} {row : Option Nat} (h : w.grownBy w' row) (n : Nat) : w.grownBy (w'.drewN n) row :=
  ⟨h.os, h.tape, h.output, h.size, h.block⟩
theorem gb_drew {w w' : World} {row : Option Nat} (h : w.grownBy w' row) : w.grownBy w'.drew row :=
  ⟨h.os, h.tape, h.output, h.size, h.block⟩
theorem gb_alloc {w w' : World} {row : Option Nat} (h : w.grownBy w' row) (o : Obj) : w.grownBy (w'.alloc o) row :=
  gb_trans h (gb_none (World.grownBy_alloc w' o none))
theorem gb_setCell {w w' : World} {row : Option Nat} (h : w.grownBy w' row) {a : Addr} (ha : w.heap.size ≤ a.block ∨ row = some a.block) (u : Value) : w.grownBy (w'.setCell a u) row :=
  ⟨h.os, h.tape, h.output, by simpa [World.setCell] using h.size, fun i hi hr => by
    rw [Below.heap_setCell _ _ _ _ (by rcases ha with ha | ha; (omega); exact fun e => hr (by rw [e, ha]))]; exact h.block i hi hr⟩
theorem gb_below {B : Nat} {w w' : World} {row : Option Nat} (h : w.grownBy w' row) (hB : B ≤ w.heap.size) (hr : ∀ k, row = some k → B ≤ k) : Below B w w' :=
  (Below.refl B w).grown h hB hr
theorem cell_new (w : World) (cs : Array Value) (e : TypeId) (k : Nat) : (w.alloc (.cells cs e)).cell? ⟨w.heap.size, k, none⟩ = cs[k]? := by
  unfold World.cell?; rw [heap_alloc_new]; rfl
theorem gb_end {w w' : World} (h : w.grownBy w' none) : Below w.heap.size w w' := gb_below h (Nat.le_refl _) (by simp)
/-- An own row that is not empty: where it lies. -/
theorem owns_at {w : World} {B e : Nat} {v : Value} {n : Nat} {ys : List Value} (h : w.ownsRow B e 1 v n ys) (hn : 0 < n) :
    ∃ g cap, v = .slice (some ⟨g, 0, none⟩) n cap ∧ B ≤ g ∧ g < w.heap.size ∧ n ≤ cap ∧ cap ≤ 9223372036854775807 ∧ (∀ j u, ys[j]? = some u → w.cell? ((⟨g, 0, none⟩ : Addr).add j) = some u) := by
  rcases h.2 with ⟨_, h0⟩ | ⟨g, cap, cur, rfl, hb, hg, hle, hcap, _, _⟩
  · omega
  · exact ⟨g, cap, rfl, hb, (Array.getElem?_eq_some_iff.1 hg).1, hle, hcap, fun j u hj => h.cells rfl j u hj⟩
theorem owns_slice {w : World} {B e s : Nat} {v : Value} {n : Nat} {ys : List Value} (h : w.ownsRow B e s v n ys) : ∃ a c, v = .slice a n c := by
  rcases h.2 with ⟨rfl, rfl⟩ | ⟨g, cap, cur, rfl, _⟩
  · exact ⟨_, _, rfl⟩
  · exact ⟨_, _, rfl⟩
theorem owns_keep {w w' : World} {B e s : Nat} {v : Value} {n : Nat} {ys : List Value} (h : w.ownsRow B e s v n ys) (hg : w.grownBy w' none) : w'.ownsRow B e s v n ys :=
  h.kept hg (by cases v.ownBlock <;> simp)
theorem owns_keepp {w w' : World} {B e s : Nat} {v : Value} {n : Nat} {ys : List Value} {p : Nat} (h : w.ownsRow B e s v n ys) (hg : w.grownBy w' (some p)) (hp : p < B) : w'.ownsRow B e s v n ys :=
  h.kept hg (by cases e : v.ownBlock with | none => simp | some k => have := (h.lt k e).1; simp; omega)
end LGen
section LInts
open Go.RowKit
end LInts
section LSl
open Go.RowKit
/-- The slice value v reads as the list xs of ints in the world w. -/
def Sl (w : World) (v : Value) (xs : List Int) : Prop :=
  (xs = [] ∧ ∃ a cap, v = .slice a 0 cap) ∨
  ∃ b off cap, v = .slice (some ⟨b, off, none⟩) xs.length cap ∧ b < w.heap.size ∧ xs.length ≤ cap ∧ cap ≤ 9223372036854775807 ∧ ∀ k, k < xs.length → w.cell? ⟨b, off + k, none⟩ = some (.int .i64 (xs[k]?.getD 0))
theorem Sl.later {w w' : World} {row : Option Nat} {v : Value} {xs : List Int} (h : Sl w v xs) (hg : w.grownBy w' row) (hr : ∀ b off len cap, v = .slice (some ⟨b, off, none⟩) len cap → 0 < len → some b ≠ row) : Sl w' v xs := by
  rcases h with h | ⟨b, off, cap, rfl, hb, h1, h2, h3⟩
  · exact .inl h
  · by_cases h0 : 0 < xs.length
    · exact .inr ⟨b, off, cap, rfl, Nat.lt_of_lt_of_le hb hg.size, h1, h2, fun k hk => (gb_cell hg hb (hr _ _ _ _ rfl h0)).trans (h3 k hk)⟩
    · obtain rfl : xs = [] := List.length_eq_zero_iff.1 (by omega)
      exact .inl ⟨rfl, _, _, rfl⟩
/-- An own row of ints reads as a list. -/
theorem Sl_of_owns {w : World} {base : Nat} {E : TypeId} {v : Value} {n : Nat} {xs : List Int} (h : w.ownsRow base E 1 v n (xs.map (Value.int .i64))) (hn : n = xs.length) : Sl w v xs := by
  subst hn
  rcases h.2 with ⟨rfl, h0⟩ | ⟨g, cap, cur, rfl, hb, hg, hle, hcap, hsz, htk⟩
  · exact .inl ⟨List.length_eq_zero_iff.1 h0, none, 0, by simp⟩
  · refine .inr ⟨g, 0, cap, rfl, (Array.getElem?_eq_some_iff.1 hg).1, hle, by unfold maxLen at hcap; exact hcap, fun k hk => ?_⟩
    have := h.cells (g := g) rfl k (.int .i64 (xs[k]?.getD 0)) (by simp [List.getElem?_map, List.getElem?_eq_getElem hk])
    rw [← this]
    congr 1
    unfold Addr.add; split <;> simp_all
/-- The first m numbers: 's[:m]'. -/
theorem Sl.take {w : World} {b off n cap : Nat} {xs : List Int} (h : Sl w (.slice (some ⟨b, off, none⟩) n cap) xs) {m : Nat} (hm : m ≤ n) : Sl w (.slice (some ⟨b, off, none⟩) m cap) (xs.take m) := by
  rcases h with ⟨rfl, a, c, e⟩ | ⟨b', off', cap', e, hb, h1, h2, h3⟩
  · simp at e; obtain ⟨rfl, rfl, rfl⟩ := e
    obtain rfl : m = 0 := by omega
    exact .inl ⟨rfl, _, _, rfl⟩
  · simp at e; obtain ⟨⟨rfl, rfl⟩, rfl, rfl⟩ := e
    have hl : (xs.take m).length = m := by simp; omega
    refine .inr ⟨_, _, _, by rw [hl], hb, by omega, h2, fun k hk => ?_⟩
    rw [hl] at hk
    rw [h3 k (by omega), List.getElem?_take_of_lt hk]
end LSl
section LSrc
open Go.RowKit
end LSrc
section LPick
open Go.RowKit
end LPick
section LGrown
open Go.RowKit
/-- A world that has grown out of w. -/
structure Up (w : World) where
  u : World
  h : w.grownBy u none
instance (w : World) : Nonempty (Up w) := ⟨⟨w, gb_refl w none⟩⟩
def ever (w : World) (x : Up w) : World := x.u
@[go_sem] theorem ever_cell {w : World} (x : Up w) {b o : Nat} (hb : b < w.heap.size) : (ever w x).cell? ⟨b, o, none⟩ = w.cell? ⟨b, o, none⟩ := gb_cell x.h hb (by simp)
@[go_sem] theorem ever_frozen {w : World} (x : Up w) {b o : Nat} (hb : b < w.heap.size) : (ever w x).frozen? ⟨b, o, none⟩ = w.frozen? ⟨b, o, none⟩ := gb_frozen x.h hb (by simp)
theorem Calls.grown_of {P : Program} {f : FuncId} {args : Array Value} {w : World} {x : Up w} {v : Value}
    (h : Calls P f args (ever w x) fun e w' => e = .returned v ∧ (ever w x).grownBy w' none) : Calls P f args (ever w x) fun e w'' => e = .returned v ∧ ∃ y, w'' = ever w y :=
  h.mono fun _ w' ⟨he, hm⟩ => ⟨he, ⟨w', gb_trans x.h hm⟩, rfl⟩
theorem wp_region_grown {P : Program} {id : Nat} {Q : Exit → Act → World → Prop} {a : Act} {w : World} {l : List Oper} (hm : P.follows .mixedOrders = true) (hB : Region.lexB .any l.toArray = true)
    (h : wpQuiet P l.toArray (fun w' => ∃ x, w' = ever w x) (fun a' => ∀ w', w.grownBy w' none → Q .normal a' w') l a) : (Code.region id l.toArray true).wp P Q a w :=
  wp_region_quiet (C := fun w' => ∃ x, w' = ever w x) hm hB ⟨⟨w.drew, gb_drew (gb_refl _ _)⟩, rfl⟩ (by
    have e : (fun a' => ∀ w', (∃ x, w' = ever w x) → Q .normal a' w') = fun a' => ∀ w', w.grownBy w' none → Q .normal a' w' :=
      funext fun a' => propext ⟨fun k w' hw => k w' ⟨⟨w', hw⟩, rfl⟩, fun k w' hw => by obtain ⟨x, rfl⟩ := hw; exact k _ x.h⟩
    rw [e]; exact h)
end LGrown
end Go.Proofs.YtlddgafbgaaiiaaGreatDoor
namespace Go.Proofs.YtlddgafbgaaiiaaGreatDoor
set_option linter.all false
open Go.ChangeShapes Go.WideShapes Go.ChangeAt Go.RowKit
section
variable {H : Type} {enc : TypeId × Value → H} {P : Program}
/-- An argument that is a slice of ints. -/
theorem open_sl {W : World} {base : Nat} {held : Bool} {r : Reach} {b0 : Nat} {t e : TypeId} {v : Value} {d : DataW H} {ps : List MemPlace} (ht : P.underlying t = some (.slice e)) (he : P.underlying e = some (.int .i64)) (hc : P.cellsOf e = 1)
    (hval : Value.okWide P W r b0 t v) (hd : DataW.Trod enc P W base (fun _ => true) held t v d ps) :
    ∃ xs, Sl W v xs ∧ (∀ x ∈ xs, -9223372036854775808 ≤ x ∧ x ≤ 9223372036854775807) := by
  obtain ⟨a0, len, cap, rfl⟩ := okWide_slice ht hval
  obtain ⟨fuel, hf⟩ := hd
  rcases open_ints ht he hc hf with ⟨hcs, _⟩ | ⟨a, len', cap', zs, hcs, _, hl, hm, hz, _, hcell, hw⟩
  · simp [Value.cells] at hcs
    obtain ⟨rfl, rfl, rfl⟩ := hcs
    exact ⟨[], .inl ⟨rfl, none, 0, rfl⟩, by simp⟩
  · simp [Value.cells] at hcs
    obtain ⟨rfl, rfl, rfl⟩ := hcs
    simp only [if_true] at hz
    refine ⟨zs.take len, ?_, fun x hx => bounds_i64 (hw x (List.mem_of_mem_take hx))⟩
    by_cases h0 : 0 < len
    · obtain ⟨b, off, rfl, hcc⟩ := ints_at hcell (by omega)
      have hlen : (zs.take len).length = len := by simp; omega
      refine .inr ⟨b, off, cap, by rw [hlen], World.block_lt_of_cell? W _ (hcc 0 (by omega)), by omega, by unfold maxLen at hm; omega, fun k hk => ?_⟩
      rw [hlen] at hk
      rw [hcc k (by omega), List.getElem?_take_of_lt hk]; rfl
    · obtain rfl : len = 0 := by omega
      exact .inl ⟨by simp, _, _, rfl⟩
/-- The law's post: true is returned, and below the heap's old size nothing has turned. -/
theorem law_post {f : Func} {s : ChangeSpec} {W W' : World} {args : Array Value} {ds : List (DataW H)} {before : List MemPlace} {tb : TypeId}
    (hW : DataW.Whole enc P f.params.toList s.vars false W args.toList ds [] before) (hvars : s.vars = [])
    (hr : f.resultTypes = #[tb]) (htb : P.underlying tb = some .bool)
    (hfn : s.fn H (ds ++ []) = { results := [.lit (.bool true)], args := ds })
    (hl : laidOutB P = true) (hread : ∀ t ∈ f.params.toList, P.readableRec t = true ∧ t < P.types.size)
    (hb : Below W.heap.size W W') :
    ∃ v, Ending.returned (.bool true) = .returned v ∧ s.post enc P f false true false false W args v W' := by
  have hW' := hW
  obtain ⟨p, q, hA, hV, rfl, hfz, hnd⟩ := hW
  have hlt : ∀ x ∈ p, x.block < W.heap.size := fun x hx => hW'.lt x (List.mem_append_left _ hx)
  have hV0 : q = [] := by rw [hvars] at hV; exact (trodVars_none hV).2
  subst hV0
  refine ⟨_, rfl, ds, [], p ++ [], [], p, [], hW', ?_, ?_, ?_, hb.frame _, fun h => by cases h⟩
  · rw [hfn, hr]
    exact trodAll_mk1 (shut_bool htb _)
  · rw [hfn]
    have key : ∀ (ts : List TypeId) (vs : List Value) (ds : List (DataW H)) (p : List MemPlace), (∀ t ∈ ts, P.readableRec t = true ∧ t < P.types.size) → (∀ x ∈ p, x.block < W.heap.size) →
        DataW.TrodAll enc P W 0 (fun _ => true) true ts vs ds p → DataW.TrodAll enc P W' 0 (fun b => decide (b < W.heap.size)) true ts vs ds p := by
      intro ts
      induction ts with
      | nil => intro vs ds p _ _ h; obtain ⟨rfl, rfl, rfl⟩ := trodAll_nil h; exact trodAll_mk0
      | cons t ts ih =>
        intro vs ds p hts hp h
        obtain ⟨v, vs', d, ds', p1, q1, rfl, rfl, rfl, hd, hrest⟩ := trodAll_cons h
        have ht := hts t (by simp)
        exact trodAll_cons_mk (Below.trod hl ht.1 ht.2 hd hb (fun x hx => hp x (by simp [hx]))) (ih vs' ds' q1 (fun t ht => hts t (by simp [ht])) (fun x hx => hp x (by simp [hx])) hrest)
    exact key _ _ _ _ hread hlt hA
  · rw [hfn, hvars]
    rfl
end
end Go.Proofs.YtlddgafbgaaiiaaGreatDoor
