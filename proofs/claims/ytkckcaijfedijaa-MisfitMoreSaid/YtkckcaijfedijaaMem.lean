/- What a walk knows of memory: blocks, slices of ints, a reader; kept behind each call in one step. -/
import Derived.Test.YtkckcaijfedijaaRgLit
import Derived.Test.YtkckcaijfedijaaTrvA
import Derived.Test.YtkckcaijfedijaaTable
import Derived.Test.YtkckcaijfedijaaGrown
import Derived.Test.YtkckcaijfedijaaGeoF
namespace Go.Proofs.Ytkckcaijfedijaa
set_option linter.all false
open Go.RowKit Rg

/-- Blocks and slices that lie in w, none of them the reader's block p; w has grown out of w0. -/
structure Mem (w0 : World) (p : Nat) (bs : List (Nat × Obj)) (ss : List (Value × List Int)) (w : World) : Prop where
  blk : ∀ x ∈ bs, w.heap[x.1]? = some x.2 ∧ x.1 ≠ p
  sls : ∀ x ∈ ss, Sl w x.1 x.2 ∧ ∀ b off len cap, x.1 = .slice (some ⟨b, off, none⟩) len cap → 0 < len → b ≠ p
  gr : w0.grownBy w none
variable {w0 w w' : World} {p : Nat} {bs : List (Nat × Obj)} {ss : List (Value × List Int)}
theorem Mem.at (h : Mem w0 p bs ss w) (k : Nat) {b : Nat} {o : Obj} (hk : bs[k]? = some (b, o)) : w.heap[b]? = some o := (h.blk _ (List.mem_of_getElem? hk)).1
theorem Mem.sl (h : Mem w0 p bs ss w) (k : Nat) {v : Value} {xs : List Int} (hk : ss[k]? = some (v, xs)) : Sl w v xs := (h.sls _ (List.mem_of_getElem? hk)).1
theorem Mem.lt (h : Mem w0 p bs ss w) (k : Nat) {b : Nat} {o : Obj} (hk : bs[k]? = some (b, o)) : b < w.heap.size := block_lt' (h.at k hk)
theorem Mem.later (h : Mem w0 p bs ss w) (hg : w.grownBy w' none) : Mem w0 p bs ss w' :=
  ⟨fun x hx => ⟨block_kept hg (h.blk x hx).1 rfl, (h.blk x hx).2⟩, fun x hx => ⟨(h.sls x hx).1.after hg, (h.sls x hx).2⟩, gb_trans h.gr hg⟩
theorem Mem.draw (h : Mem w0 p bs ss w) (hg : w.grownBy w' (some p)) (hp : w0.heap.size ≤ p) : Mem w0 p bs ss w' :=
  ⟨fun x hx => ⟨block_keptp hg (h.blk x hx).1 (h.blk x hx).2, (h.blk x hx).2⟩, fun x hx => ⟨(h.sls x hx).1.later hg (fun b off len cap e hl => by simpa using (h.sls x hx).2 b off len cap e hl), (h.sls x hx).2⟩, gb_new h.gr hg (by simpa using hp)⟩
theorem Mem.nil (hg : w0.grownBy w none) : Mem w0 p [] [] w := ⟨by simp, by simp, hg⟩
/-- A block more. -/
theorem Mem.more (h : Mem w0 p bs ss w) {b : Nat} {o : Obj} (hb : w.heap[b]? = some o) (hp : b ≠ p) : Mem w0 p ((b, o) :: bs) ss w :=
  ⟨fun x hx => by rcases List.mem_cons.1 hx with rfl | hx; exact ⟨hb, hp⟩; exact h.blk x hx, h.sls, h.gr⟩
theorem Mem.slice (h : Mem w0 p bs ss w) {v : Value} {xs : List Int} (hv : Sl w v xs) (hp : ∀ b off len cap, v = .slice (some ⟨b, off, none⟩) len cap → 0 < len → b ≠ p) : Mem w0 p bs ((v, xs) :: ss) w :=
  ⟨h.blk, fun x hx => by rcases List.mem_cons.1 hx with rfl | hx; exact ⟨hv, hp⟩; exact h.sls x hx, h.gr⟩
theorem Mem.drop {x : Nat × Obj} (h : Mem w0 p (x :: bs) ss w) : Mem w0 p bs ss w := ⟨fun y hy => h.blk y (List.mem_cons_of_mem _ hy), h.sls, h.gr⟩
/-- A new block. -/
theorem Mem.alloc (h : Mem w0 p bs ss w) (cs : Array Value) (T : TypeId) (hp : p < w.heap.size) : Mem w0 p ((w.heap.size, .cells cs T (0, 0)) :: bs) ss (w.alloc (.cells cs T)) :=
  (h.later (gb_alloc (gb_refl _ _) _)).more (heap_alloc_new w _) (by omega)
theorem Mem.alloc' (h : Mem w0 p bs ss w) (b : Nat) (cs : Array Value) (T : TypeId) (hp : p < w.heap.size) (hb : w.heap.size = b) : Mem w0 p ((b, .cells cs T (0, 0)) :: bs) ss (w.alloc (.cells cs T)) := hb ▸ h.alloc cs T hp
/-- A block that is known is overwritten. -/
theorem Mem.set (h : Mem w0 p bs ss w) {b : Nat} {old cs : Array Value} {T : TypeId} (hb : w.heap[b]? = some (.cells old T (0, 0))) (hw : w0.heap.size ≤ b) (hn : ∀ x ∈ bs, x.1 ≠ b) (hs : ∀ x ∈ ss, ∀ b' off len cap, x.1 = .slice (some ⟨b', off, none⟩) len cap → 0 < len → b' ≠ b) (hp : b ≠ p) : Mem w0 p ((b, .cells cs T (0, 0)) :: bs) ss (w.setRow b cs) := by
  have hg : w.grownBy (w.setRow b cs) (some b) := gb_setRow (gb_refl _ _) (.inr rfl)
  refine ⟨fun x hx => ?_, fun x hx => ?_, gb_setRow h.gr (.inl hw)⟩
  · rcases List.mem_cons.1 hx with rfl | hx
    · exact ⟨setRow_at hb, hp⟩
    · exact ⟨(setRow_far (hn x hx)).trans (h.blk x hx).1, (h.blk x hx).2⟩
  · exact ⟨(h.sls x hx).1.later hg (fun b' off len cap e hl => by simpa using hs x hx b' off len cap e hl), (h.sls x hx).2⟩

/-- The slices of a table that was drawn. -/
theorem owns_sl_apart {u : World} {B p n : Nat} {T : TypeId} {v : Value} {xs : List Int} (h : u.ownsRow B T 1 v n (xs.map (Value.int .i64))) (hp : p < B) : ∀ b off len cap, v = .slice (some ⟨b, off, none⟩) len cap → 0 < len → b ≠ p := by
  intro b off len cap e hl
  subst e
  rcases h.2 with ⟨e, -⟩ | ⟨g, cap', cur, e, hb, -⟩
  · simp at e
  · simp at e; omega
/-- Facts of cells for worlds that have grown out of w. -/
theorem Mem.up (h : Mem w0 p bs ss w) (k : Nat) {b : Nat} {o : Obj} (hk : bs[k]? = some (b, o)) (x : Up w) (c : Nat) : (ever w x).cell? ⟨b, c, none⟩ = w.cell? ⟨b, c, none⟩ := ever_cell x (h.lt k hk)
theorem Mem.made (h : Mem w0 p bs ss w) (k : Nat) {b : Nat} {o : Obj} (hk : bs[k]? = some (b, o)) (u : Cls (Made w)) (c : Nat) : (evr u).cell? ⟨b, c, none⟩ = w.cell? ⟨b, c, none⟩ := Made.cells (h.lt k hk) u c
theorem Mem.pulled (h : Mem w0 p bs ss w) (k : Nat) {B b : Nat} {o : Obj} (hk : bs[k]? = some (b, o)) (u : Cls (Pulled w B p)) (c : Nat) : (evr u).cell? ⟨b, c, none⟩ = w.cell? ⟨b, c, none⟩ :=
  Pulled.cell (x := w.cell? ⟨b, c, none⟩) rfl (h.lt k hk) (h.blk _ (List.mem_of_getElem? hk)).2 u
end Go.Proofs.Ytkckcaijfedijaa
