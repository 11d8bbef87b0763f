/- A problem whose phases are laid anew in a block Q of its own. -/
import Derived.Test.YtkckcaijfedijaaProb
import Derived.Test.YtkckcaijfedijaaMisS
namespace Go.Proofs.Ytkckcaijfedijaa
set_option linter.all false
open Go.RowKit Rg

/-- Block Q holds the problem with the phases l; w has grown into u. -/
structure PrRe (w : World) (Q : Nat) (x0 y0 z0 x1 y1 z1 step : Int) (vl vh : Value) (cap : Int) (l : List Ph) (vq : Value) (u : World) : Prop where
  prob : u.heap[Q]? = some (.cells #[.int .i64 x0, .int .i64 y0, .int .i64 z0, .int .i64 x1, .int .i64 y1, .int .i64 z1, .int .i64 step, vl, vh, vq, .int .i64 cap] 68 (0, 0))
  own : u.ownsRow (Q + 1) 30 6 vq l.length (flatP l)
  gr : w.grownBy u none
  new : w.heap.size ≤ Q
section
variable {w : World} {Q : Nat} {x0 y0 z0 x1 y1 z1 step : Int} {vl vh : Value} {cap : Int} {l : List Ph} {vq : Value} {u u' : World}
theorem PrRe.lt (h : PrRe w Q x0 y0 z0 x1 y1 z1 step vl vh cap l vq u) : Q < u.heap.size := block_lt' h.prob
theorem PrRe.later (h : PrRe w Q x0 y0 z0 x1 y1 z1 step vl vh cap l vq u) (hg : u.grownBy u' none) : PrRe w Q x0 y0 z0 x1 y1 z1 step vl vh cap l vq u' :=
  ⟨block_kept hg h.prob rfl, owns_keep h.own hg, gb_trans h.gr hg, h.new⟩
theorem PrRe.draw {p : Nat} (h : PrRe w Q x0 y0 z0 x1 y1 z1 step vl vh cap l vq u) (hg : u.grownBy u' (some p)) (hp : p < Q) (hw : w.heap.size ≤ p) : PrRe w Q x0 y0 z0 x1 y1 z1 step vl vh cap l vq u' :=
  ⟨block_keptp hg h.prob (by omega), owns_keepp h.own hg (by omega), gb_new h.gr hg (by simpa using hw), h.new⟩
/-- One block a that is none of its own is written. -/
theorem PrRe.other {a : Nat} (h : PrRe w Q x0 y0 z0 x1 y1 z1 step vl vh cap l vq u) (hg : u.grownBy u' (some a)) (ha : Q < a) (hv : vq.ownBlock ≠ some a) : PrRe w Q x0 y0 z0 x1 y1 z1 step vl vh cap l vq u' :=
  ⟨block_keptp hg h.prob (by omega), h.own.kept hg (.inr hv), gb_new h.gr hg (by have := h.new; simp; omega), h.new⟩
theorem PrRe.prob9 (h : PrRe w Q x0 y0 z0 x1 y1 z1 step vl vh cap l vq u) (hg : u.grownBy u' vq.ownBlock) :
    u'.heap[Q]? = some (.cells #[.int .i64 x0, .int .i64 y0, .int .i64 z0, .int .i64 x1, .int .i64 y1, .int .i64 z1, .int .i64 step, vl, vh, vq, .int .i64 cap] 68 (0, 0)) := by
  rw [hg.block Q (Array.getElem?_eq_some_iff.1 h.prob).1 (fun e => by have := (h.own.lt Q e.symm).1; omega)]; exact h.prob
theorem PrRe.push {a : Ph} {vq' : Value} (h : PrRe w Q x0 y0 z0 x1 y1 z1 step vl vh cap l vq u) (hg : u.grownBy u' vq.ownBlock) (ho : u'.ownsRow (Q + 1) 30 6 vq' (l.length + 1) (flatP l ++ a.cells)) :
    PrRe w Q x0 y0 z0 x1 y1 z1 step vl vh cap (l ++ [a]) vq' (u'.setCell ⟨Q, 9, none⟩ vq') := by
  have hn := h.new
  have hne : ∀ b, vq.ownBlock = some b → Q + 1 ≤ b := fun b hb => (h.own.lt b hb).1
  have hQ := h.prob9 hg
  have sgr : u'.grownBy (u'.setCell ⟨Q, 9, none⟩ vq') (some Q) := gb_setCell (gb_refl _ _) (.inr rfl) _
  refine ⟨set_block hQ 9 vq', ?_, gb_setCell (gb_new h.gr hg (fun q hq => by have := hne q hq; omega)) (.inl h.new) _, h.new⟩
  rw [List.length_append, show flatP (l ++ [a]) = flatP l ++ a.cells by simp [flatP]]
  exact ho.kept sgr (.inr (fun e => by have := (ho.lt Q e).1; omega))
theorem PrRe.fro {o : Nat} (h : PrRe w Q x0 y0 z0 x1 y1 z1 step vl vh cap l vq u) (hg : u.grownBy u' vq.ownBlock) : u'.frozen? ⟨Q, o, none⟩ = false := by simp [World.frozen?, h.prob9 hg]
theorem PrRe.nine (h : PrRe w Q x0 y0 z0 x1 y1 z1 step vl vh cap l vq u) (hg : u.grownBy u' vq.ownBlock) : u'.cell? ⟨Q, 9, none⟩ = some vq := by simp [World.cell?, h.prob9 hg]
/-- The problem that it holds. -/
theorem PrRe.inn {P : Prob} {vp : Value} (h : PrRe w Q x0 y0 z0 x1 y1 z1 step vl vh cap P.phs vq u) {u0 : World} {P0 : Prob} (hi : ProbIn P0 vl vh vp u0) (hu : u0.grownBy u none) (h1 : P.ls = P0.ls) (h2 : P.hs = P0.hs) : ProbIn P vl vh vq u :=
  ⟨h1 ▸ hi.l.after hu, h2 ▸ hi.h.after hu, SlC.of_owns h.own⟩
end
/-- At of a problem of sound phases whose zones are known. -/
theorem at_known {P : Prob} {x y z t c : Int} (h0 : zonesE P x y z x y z = 0) (ht : (best P.cap P.phs (zonesL P x y z x y z)).1 = t) (hc : (best P.cap P.phs (zonesL P x y z x y z)).2 = c) (hl : P.phs.length ≤ 64) {vl vh vp : Value} {cs : Array Value} (hcs : cs = P.val vl vh vp) (u : World) (hi : ProbIn P vl vh vp u) :
    Calls Try.prog 49 #[.agg cs, .agg #[.int .i64 x, .int .i64 y, .int .i64 z]] u fun e w' => e = .returned (.tuple #[.int .i64 t, .int .i64 c, .int .i64 0]) ∧ u.grownBy w' none := by
  have hb := at_any P vl vh vp x y z u hi (by omega)
  unfold atV at hb
  rw [if_pos h0, ht, hc] at hb
  rw [hcs]; exact hb
/-- At of the problem whose phases are turned round and moved. -/
theorem Good.atMoved {P : Prob} (h : Good P) {s : Int} (h0 : 0 ≤ s) (h1 : s ≤ 1099511627776) {vl vh vp : Value} {cs : Array Value} (hcs : cs = (P.moved s).val vl vh vp) (x y z : Int) (u : World) (hw : wiP x y z x y z P.x0 P.y0 P.z0 P.x1 P.y1 P.z1 = true) (hi : ProbIn (P.moved s) vl vh vp u) :
    Calls Try.prog 49 #[.agg cs, .agg #[.int .i64 x, .int .i64 y, .int .i64 z]] u fun e w' => e = .returned (.tuple #[.int .i64 (tt P x y z + s), .int .i64 (mm P x y z x y z), .int .i64 0]) ∧ u.grownBy w' none := by
  obtain ⟨z0, zl⟩ := h.movedZones h0 h1 (b0 := x) (b1 := y) (b2 := z) (b3 := x) (b4 := y) (b5 := z) hw
  have hz := zonesL_length P x y z x y z
  obtain ⟨s1, s2⟩ := shift_plain (cap := P.cap) (s := s) (phs := P.phs) (zs := zonesL P x y z x y z) (by rw [hz]; exact h.sound.some.1) hz
  exact at_known z0 (by rw [zl]; exact s1) (by rw [zl]; exact s2) (by have := h.sound.some.2; simp [Prob.moved]; omega) hcs u hi
end Go.Proofs.Ytkckcaijfedijaa
