/- keep.Src.BentProblem. Written by gen_bentp.py. -/
import Derived.Test.YtdkckhihleffeaaGreatLit
import Derived.Test.YtdkckhihleffeaaGreatPart
import Derived.Test.YtdkckhihleffeaaGreatMisP
namespace Go.Proofs.YtdkckhihleffeaaGreat
set_option linter.all false
open Go.RowKit Rg

/-- What BentProblem returns. -/
def BentP (B p : Nat) (w : World) (e : Ending) (w' : World) : Prop :=
  ∃ (P : Prob) (vl vh vp : Value), e = .returned (.agg (P.val vl vh vp)) ∧ ProbIn P vl vh vp w' ∧ Apart p vl ∧ Apart p vh ∧ Apart p vp ∧ P.phs.length ≤ 65 ∧ Src B w' p ∧ w.grownBy w' (some p)
theorem bp_end {w u : World} {B p : Nat} {P' : Prob} {vl vh vp : Value} {cs rs : Array Value} {T : TypeId} (hq0 : B ≤ p) (hp : p < w.heap.size) (hR : u.heap[w.heap.size + 1]? = some (.cells cs T (0, 0))) (hrs : rs = P'.val vl vh vp) (hi : ProbIn P' vl vh vp u) (al : Apart p vl) (ah : Apart p vh) (av : Apart p vp)
    (rl : Apart (w.heap.size + 1) vl) (rh : Apart (w.heap.size + 1) vh) (rv : Apart (w.heap.size + 1) vp) (h65 : P'.phs.length ≤ 65) (hS : Src B u p) (hG : w.grownBy u (some p)) :
    BentP B p w (.returned (.agg rs)) (u.setRow (w.heap.size + 1) rs) := by
  have hg : u.grownBy (u.setRow (w.heap.size + 1) rs) (some (w.heap.size + 1)) := gb_setRow (gb_refl _ _) (.inr rfl)
  refine ⟨P', vl, vh, vp, by rw [hrs], ⟨hi.l.later hg (fun b off len cap e hl => by simpa using rl b off len cap e hl), hi.h.later hg (fun b off len cap e hl => by simpa using rh b off len cap e hl), hi.p.draw hg (fun b off len cap e hl => rv b off len cap e hl)⟩, al, ah, av, h65, hS.later hg (fun q hq => by simp at hq; omega), gb_setRow hG (.inl (by omega))⟩

/-- The blocks of the walk. -/
structure BPC (w : World) (B p tb : Nat) (vl vh vp : Value) : Prop where
  q : B ≤ p ∧ p < w.heap.size ∧ w.heap.size + 1 < tb
  ap : Apart p vl ∧ Apart p vh ∧ Apart p vp
  ar : Apart (w.heap.size + 1) vl ∧ Apart (w.heap.size + 1) vh ∧ Apart (w.heap.size + 1) vp
  at' : Apart tb vl ∧ Apart tb vh ∧ Apart tb vp
structure BPA (w : World) (B p tb : Nat) (vl vh : Value) (ls hs : List Int) (vp : Value) (phs : List Ph) (row : Array Value) (u : World) : Prop where
  T : u.heap[tb]? = some (.cells row 36 (0, 0))
  R : u.heap[w.heap.size + 1]? = some (.cells #[.int .i64 0, .int .i64 0, .int .i64 0, .int .i64 0, .int .i64 0, .int .i64 0, .int .i64 0, .slice none 0 0, .slice none 0 0, .slice none 0 0, .int .i64 0] 36 (0, 0))
  S : Src B u p
  G : w.grownBy u (some p)
  l : Sl u vl ls
  h : Sl u vh hs
  v : SlC 6 u vp phs.length (flatP phs)
section
variable {w u u' : World} {B p tb : Nat} {vl vh vp : Value} {ls hs : List Int} {phs : List Ph} {row row' : Array Value}
theorem BPA.draw (c : BPC w B p tb vl vh vp) (h : BPA w B p tb vl vh ls hs vp phs row u) (hg : u.grownBy u' (some p)) (hS : Src B u' p) : BPA w B p tb vl vh ls hs vp phs row u' := by
  obtain ⟨c0, c1, c2⟩ := c.q
  exact ⟨block_keptp hg h.T (by omega), block_keptp hg h.R (by omega), hS, gb_trans h.G hg, h.l.later hg (fun b off len cap e hl => by have := c.ap.1 b off len cap e hl; simp; omega), h.h.later hg (fun b off len cap e hl => by have := c.ap.2.1 b off len cap e hl; simp; omega), h.v.draw hg (fun b off len cap e hl => c.ap.2.2 b off len cap e hl)⟩
theorem BPA.alloc (h : BPA w B p tb vl vh ls hs vp phs row u) (hg : u.grownBy u' none) : BPA w B p tb vl vh ls hs vp phs row u' :=
  ⟨block_kept hg h.T rfl, block_kept hg h.R rfl, h.S.later (row := none) hg (by simp), gb_trans h.G (gb_none hg), h.l.after hg, h.h.after hg, h.v.after hg⟩
theorem BPA.part (c : BPC w B p tb vl vh vp) (h : BPA w B p tb vl vh ls hs vp phs row u) (ht : u'.heap[tb]? = some (.cells row' 36 (0, 0))) (hg : u.grownBy u' (some tb)) : BPA w B p tb vl vh ls hs vp phs row' u' := by
  obtain ⟨c0, c1, c2⟩ := c.q
  exact ⟨ht, (hg.block _ (block_lt' h.R) (by simp; omega)).trans h.R, h.S.later hg (fun q hq => by simp at hq; omega), gb_new' h.G hg (by omega), h.l.later hg (fun b off len cap e hl => by have := c.at'.1 b off len cap e hl; simp; omega), h.h.later hg (fun b off len cap e hl => by have := c.at'.2.1 b off len cap e hl; simp; omega), h.v.draw hg (fun b off len cap e hl => c.at'.2.2 b off len cap e hl)⟩
theorem BPA.cell (c : BPC w B p tb vl vh vp) (h : BPA w B p tb vl vh ls hs vp phs row u) (k : Nat) (x : Value) : BPA w B p tb vl vh ls hs vp phs (row.set! k x) (u.setCell ⟨tb, k, none⟩ x) :=
  h.part c (set_block h.T k x) (gb_setCell (gb_refl _ _) (.inr rfl) _)
theorem BPA.fin (c : BPC w B p tb vl vh vp) (h : BPA w B p tb vl vh ls hs vp phs row u) {x0 y0 z0 x1 y1 z1 step cap : Int} (hrow : row = Prob.val ⟨x0, y0, z0, x1, y1, z1, step, ls, hs, phs, cap⟩ vl vh vp) (h65 : phs.length ≤ 65) : BentP B p w (.returned (.agg row)) (u.setRow (w.heap.size + 1) row) :=
  bp_end (P' := ⟨x0, y0, z0, x1, y1, z1, step, ls, hs, phs, cap⟩) c.q.1 c.q.2.1 h.R hrow ⟨h.l, h.h, h.v⟩ c.ap.1 c.ap.2.1 c.ap.2.2 c.ar.1 c.ar.2.1 c.ar.2.2 h65 h.S h.G
theorem BPA.inRow {g : Nat} {vp' : Value} {phs' : List Ph} (c : BPC w B p tb vl vh vp) (h : BPA w B p tb vl vh ls hs vp phs row u) (h1 : g ≠ p) (h2 : g ≠ tb) (h3 : g ≠ w.heap.size + 1) (h4 : w.heap.size ≤ g) (hg : u.grownBy u' (some g)) (hv : SlC 6 u' vp' phs'.length (flatP phs')) (al : Apart g vl) (ah : Apart g vh) :
    BPA w B p tb vl vh ls hs vp' phs' row u' :=
  ⟨(hg.block _ (block_lt' h.T) (by simp; omega)).trans h.T, (hg.block _ (block_lt' h.R) (by simp; omega)).trans h.R, h.S.later hg (fun q hq => by simp at hq; have := c.q; omega), gb_new' h.G hg h4, h.l.later hg (fun b off len cap e hl => by have := al b off len cap e hl; simp; omega), h.h.later hg (fun b off len cap e hl => by have := ah b off len cap e hl; simp; omega), hv⟩
end
theorem owns_ph {u : World} {base n g cap : Nat} {e : TypeId} {l : List Ph} (hn : l.length = n) (h : u.ownsRow base e 6 (.slice (some ⟨g, 0, none⟩) n cap) n (flatP l)) {i : Nat} (hi : i < n) :
    ∃ x y z a b c : Int, l[i]? = some ⟨x, y, z, a, b, c⟩ ∧ u.cell? ⟨g, i * 6, none⟩ = some (.int .i64 x) ∧ u.cell? ⟨g, i * 6 + 1, none⟩ = some (.int .i64 y) ∧ u.cell? ⟨g, i * 6 + 2, none⟩ = some (.int .i64 z) ∧ u.cell? ⟨g, i * 6 + 3, none⟩ = some (.int .i64 a) ∧ u.cell? ⟨g, i * 6 + 4, none⟩ = some (.int .i64 b) ∧ u.cell? ⟨g, i * 6 + 5, none⟩ = some (.int .i64 c) := by
  subst hn
  have hc : ∀ j y, (flatP l)[j]? = some y → u.cell? ⟨g, 0 + j, none⟩ = some y := fun j y hj => by
    have : j < l.length * 6 := by rw [← flatP_length]; exact (List.getElem?_eq_some_iff.1 hj).1
    rw [Nat.zero_add, h.cellAt j this]; exact hj
  have := SlC.ph hc i hi
  simp only [Nat.zero_add] at this
  exact ⟨_, _, _, _, _, _, List.getElem?_eq_getElem hi, this⟩
/-- Nothing of a phase but its places. -/
theorem setLL_ph (r : List Value) (a b : Ph) : setLL (b.cells ++ r) 0 a.cells = a.cells ++ r := rfl
theorem flatP_set : ∀ (l : List Ph) (i : Nat) (_ : i < l.length) (a : Ph), setLL (flatP l) (i * 6) a.cells = flatP (l.set i a)
  | b :: l, 0, _, a => by
    show setLL (b.cells ++ flatP l) (0 * 6) a.cells = a.cells ++ flatP l
    rw [Nat.zero_mul]; exact setLL_ph _ _ _
  | b :: l, i + 1, hi, a => by
    show setLL (b.cells ++ flatP l) ((i + 1) * 6) a.cells = b.cells ++ flatP (l.set i a)
    rw [show (i + 1) * 6 = b.cells.length + i * 6 by simp [Ph.cells]; omega, setLL_append, flatP_set l i (by simpa using hi) a]
theorem made_phs (n : Nat) : (madeCells (Value.agg #[.int .i64 0, .int .i64 0, .int .i64 0, .int .i64 0, .int .i64 0, .int .i64 0]).cells (n * 6)).toList = flatP (List.replicate n ⟨0, 0, 0, 0, 0, 0⟩) := by
  refine List.ext_getElem (by rw [flatP_length]; simp [size_madeCells]) fun j h1 h2 => ?_
  have hj : j < n * 6 := by simpa [size_madeCells] using h1
  have hq : j = (j / 6) * 6 + j % 6 := by omega
  have e := flatP_at (List.replicate n ⟨0, 0, 0, 0, 0, 0⟩) (j / 6) (by simp; omega) (j % 6) (by omega)
  rw [← hq] at e
  have e2 : (flatP (List.replicate n ⟨0, 0, 0, 0, 0, 0⟩))[j] = .int .i64 0 := by
    apply Option.some.inj
    rw [← List.getElem?_eq_getElem, e]
    simp only [List.getElem_replicate]
    have : j % 6 < 6 := by omega
    rcases (by omega : j % 6 = 0 ∨ j % 6 = 1 ∨ j % 6 = 2 ∨ j % 6 = 3 ∨ j % 6 = 4 ∨ j % 6 = 5) with h | h | h | h | h | h <;> rw [h] <;> rfl
  rw [e2]
  simp [madeCells, Value.cells]
  have : j % 6 < 6 := by omega
  rcases (by omega : j % 6 = 0 ∨ j % 6 = 1 ∨ j % 6 = 2 ∨ j % 6 = 3 ∨ j % 6 = 4 ∨ j % 6 = 5) with h | h | h | h | h | h <;> simp [h]

set_option maxRecDepth 100000 in
set_option maxHeartbeats 4000000 in
theorem bentProblem_any (B : Nat) (w : World) (p : Nat) (P : Prob) (vl vh vp : Value) (h : Src B w p) (hi : ProbIn P vl vh vp w) (al : Apart p vl) (ah : Apart p vh) (hl0 : 2 ≤ P.ls.length) (hlh : P.ls.length = P.hs.length) (hl3 : P.ls.length ≤ 300) (hp0 : 0 < P.phs.length) (hp6 : P.phs.length ≤ 64) :
    Calls Tryz.prog 11 #[.pointer (some ⟨p, 0, none⟩), .agg (P.val vl vh vp)] w (BentP B p w) := by
  obtain ⟨pb, poff, pc, rfl, hpb, -, -, hpc⟩ := hi.p.block hp0
  obtain ⟨la, ln, lc, rfl⟩ := sl_slice hi.l
  obtain ⟨ha, hn, hc, rfl⟩ := sl_slice hi.h
  have HC1 : Hid (∀ u, w.grownBy u none → ∀ j y, (flatP P.phs)[j]? = some y → u.cell? ((⟨pb, poff, none⟩ : Addr).add j) = some y) := Lib.hid (fun u hu j y hj => by
    rw [show (⟨pb, poff, none⟩ : Addr).add j = ⟨pb, poff + j, none⟩ by unfold Addr.add; split <;> simp_all, gb_cell hu hpb (by simp)]; exact hpc j y hj)
  have HL1 : Hid ((flatP P.phs).length = P.phs.length * 6) := Lib.hid (flatP_length _)
  have HI := Lib.hid hi
  clear hpc hi
  obtain ⟨x0, y0, z0, x1, y1, z1, step, ls, hs, phs, cap⟩ := P
  simp only [Prob.val] at *
  generalize hn' : phs.length = n at *
  have HN1 := Lib.hid hn'; clear hn'
  have hq0 := h.lt.1; have hp := h.lt.2
  have hg0 := gb_alloc (gb_alloc (gb_refl w none) (.cells #[.int .i64 x0, .int .i64 y0, .int .i64 z0, .int .i64 x1, .int .i64 y1, .int .i64 z1, .int .i64 step, .slice la ln lc, .slice ha hn hc, .slice (some ⟨pb, poff, none⟩) n pc, .int .i64 cap] 36)) (.cells #[.int .i64 0, .int .i64 0, .int .i64 0, .int .i64 0, .int .i64 0, .int .i64 0, .int .i64 0, .slice none 0 0, .slice none 0 0, .slice none 0 0, .int .i64 0] 36)
  have X0 : Hid (((w.alloc (.cells #[.int .i64 x0, .int .i64 y0, .int .i64 z0, .int .i64 x1, .int .i64 y1, .int .i64 z1, .int .i64 step, .slice la ln lc, .slice ha hn hc, .slice (some ⟨pb, poff, none⟩) n pc, .int .i64 cap] 36)).alloc (.cells #[.int .i64 0, .int .i64 0, .int .i64 0, .int .i64 0, .int .i64 0, .int .i64 0, .int .i64 0, .slice none 0 0, .slice none 0 0, .slice none 0 0, .int .i64 0] 36)).heap[w.heap.size]? = some (.cells #[.int .i64 x0, .int .i64 y0, .int .i64 z0, .int .i64 x1, .int .i64 y1, .int .i64 z1, .int .i64 step, .slice la ln lc, .slice ha hn hc, .slice (some ⟨pb, poff, none⟩) n pc, .int .i64 cap] 36 (0, 0))) := Lib.hid (by rw [heap_alloc_old _ _ (by simp), heap_alloc_new])
  have R0 : Hid (((w.alloc (.cells #[.int .i64 x0, .int .i64 y0, .int .i64 z0, .int .i64 x1, .int .i64 y1, .int .i64 z1, .int .i64 step, .slice la ln lc, .slice ha hn hc, .slice (some ⟨pb, poff, none⟩) n pc, .int .i64 cap] 36)).alloc (.cells #[.int .i64 0, .int .i64 0, .int .i64 0, .int .i64 0, .int .i64 0, .int .i64 0, .int .i64 0, .slice none 0 0, .slice none 0 0, .slice none 0 0, .int .i64 0] 36)).heap[w.heap.size + 1]? = some (.cells #[.int .i64 0, .int .i64 0, .int .i64 0, .int .i64 0, .int .i64 0, .int .i64 0, .int .i64 0, .slice none 0 0, .slice none 0 0, .slice none 0 0, .int .i64 0] 36 (0, 0))) := Lib.hid (by simpa using heap_alloc_new (w.alloc _) _)
  have Z0 : Hid (((w.alloc (.cells #[.int .i64 x0, .int .i64 y0, .int .i64 z0, .int .i64 x1, .int .i64 y1, .int .i64 z1, .int .i64 step, .slice la ln lc, .slice ha hn hc, .slice (some ⟨pb, poff, none⟩) n pc, .int .i64 cap] 36)).alloc (.cells #[.int .i64 0, .int .i64 0, .int .i64 0, .int .i64 0, .int .i64 0, .int .i64 0, .int .i64 0, .slice none 0 0, .slice none 0 0, .slice none 0 0, .int .i64 0] 36)).heap.size = w.heap.size + 2) := Lib.hid (by simp)
  have S0 := Lib.hid (h.later hg0 (by simp)); have G0 := Lib.hid hg0
  clear h hg0
  go_enter Tryz.func11, Tryz.ntmps11
  go_wp2_with fail
  generalize (w.alloc (.cells #[.int .i64 x0, .int .i64 y0, .int .i64 z0, .int .i64 x1, .int .i64 y1, .int .i64 z1, .int .i64 step, .slice la ln lc, .slice ha hn hc, .slice (some ⟨pb, poff, none⟩) n pc, .int .i64 cap] 36)).alloc (.cells #[.int .i64 0, .int .i64 0, .int .i64 0, .int .i64 0, .int .i64 0, .int .i64 0, .int .i64 0, .slice none 0 0, .slice none 0 0, .slice none 0 0, .int .i64 0] 36) = w1 at *
  have e0_ := cell_of X0.out 0 _ rfl; have e1_ := cell_of X0.out 1 _ rfl; have e2_ := cell_of X0.out 2 _ rfl; have e3_ := cell_of X0.out 3 _ rfl; have e4_ := cell_of X0.out 4 _ rfl; have e5_ := cell_of X0.out 5 _ rfl; have e6_ := cell_of X0.out 6 _ rfl; have e7_ := cell_of X0.out 7 _ rfl; have e8_ := cell_of X0.out 8 _ rfl; have e9_ := cell_of X0.out 9 _ rfl; have e10_ := cell_of X0.out 10 _ rfl
  have ua := Made.cells (block_lt' X0.out)
  have h300 : n ≤ 1000000 := by omega
  have h300b : n * 48 ≤ 140737488355328 := by omega
  refine Rg.region (Made w1) Makes (fun k => if k = 6 then some (isBlk w1 0 61) else if k = 9 then some (isOwn w1.heap.size 61 6 n (flatP phs)) else if k = 11 then some (isNew w1 #[.int .i64 0, .int .i64 0, .int .i64 0, .int .i64 0, .int .i64 0, .int .i64 0, .int .i64 0, .slice none 0 0, .slice none 0 0, .slice none 0 0, .int .i64 0] 36) else none)
    (fun k => k == 9 || k == 11) 0 12 (by kernel_rfl) (by kernel_rfl) (by kernel_rfl) (by kernel_rfl) (by kernel_rfl) (by kernel_rfl) (by kernel_rfl) Makes.size (Made.start w1) (fun hne => ?_)
  (repeat (refine rLexL_quiet (by rfl) (by rfl) (by rfl) (by rfl) ?_; go_big_quiet_step (fail); refine wpQuiet_nil ?_))
  refine rg_litN 0 #[] 61 rfl rfl rfl rfl (fun _ => by go_simp) (fun l1 hl1 => ?_)
  simp only [Act.put, List.setIfInBounds_toArray, List.set_cons_zero, List.set_cons_succ]
  (repeat (refine rLexL_quiet (by rfl) (by rfl) (by rfl) (by rfl) ?_; go_big_quiet_step (fail); refine wpQuiet_nil ?_))
  refine rg_copyN _ _ 34 61 (.agg #[.int .i64 0, .int .i64 0, .int .i64 0, .int .i64 0, .int .i64 0, .int .i64 0]) 6 48 Tryz.underlying34 Tryz.infoPhaseT rfl (by decide) l1 0 ⟨pb, poff, none⟩ n pc (flatP phs) rfl rfl rfl rfl rfl (by omega) HL1.out (fun u hu => HC1.out u (gb_trans G0.out hu)) h300 h300b (fun g1 c1 hg1 => ?_)
  simp only [Act.put, List.setIfInBounds_toArray, List.set_cons_zero, List.set_cons_succ]
  (repeat (refine rLexL_quiet (by rfl) (by rfl) (by rfl) (by rfl) ?_; go_big_quiet_step (fail); refine wpQuiet_nil ?_))
  refine rg_new #[.int .i64 0, .int .i64 0, .int .i64 0, .int .i64 0, .int .i64 0, .int .i64 0, .int .i64 0, .slice none 0 0, .slice none 0 0, .slice none 0 0, .int .i64 0] 36 rfl rfl (fun _ => by go_simp) (fun tb htbs => ?_)
  simp only [Act.put, List.setIfInBounds_toArray, List.set_cons_zero, List.set_cons_succ]
  (repeat (refine rLexL_quiet (by rfl) (by rfl) (by rfl) (by rfl) ?_; go_big_quiet_step (fail); refine wpQuiet_nil ?_))
  rintro wq hq hf hD
  have ho1 : wq.ownsRow w1.heap.size 61 6 (.slice (some ⟨g1, 0, none⟩) n c1) n (flatP phs) := hf 9
  have htb := isNew.out (hf 11)
  have h1t : g1 ≠ tb := (hD 9 _ _ rfl (by kernel_rfl) rfl rfl g1 rfl (Nat.zero_le _)).2 11 _ _ rfl (by decide) (by kernel_rfl) rfl rfl tb rfl (Nat.zero_le _)
  have hz1 := Z0.out
  refine wpList_store_row rfl _ _ _ rfl tb #[.int .i64 x0, .int .i64 y0, .int .i64 z0, .int .i64 x1, .int .i64 y1, .int .i64 z1, .int .i64 step, .slice la ln lc, .slice ha hn hc, .slice (some ⟨g1, 0, none⟩) n c1, .int .i64 cap] rfl rfl _ _ htb (by kernel_rfl) rfl (by simp [Value.oneCell']) ?_
  have hgs : wq.grownBy (wq.setRow tb #[.int .i64 x0, .int .i64 y0, .int .i64 z0, .int .i64 x1, .int .i64 y1, .int .i64 z1, .int .i64 step, .slice la ln lc, .slice ha hn hc, .slice (some ⟨g1, 0, none⟩) n c1, .int .i64 cap]) (some tb) := gb_setRow (gb_refl _ _) (.inr rfl)
  have T5 := Lib.hid (setRow_at (cs := #[.int .i64 x0, .int .i64 y0, .int .i64 z0, .int .i64 x1, .int .i64 y1, .int .i64 z1, .int .i64 step, .slice la ln lc, .slice ha hn hc, .slice (some ⟨g1, 0, none⟩) n c1, .int .i64 cap]) htb)
  have X5 := Lib.hid ((setRow_far (g := tb) (cs := #[.int .i64 x0, .int .i64 y0, .int .i64 z0, .int .i64 x1, .int .i64 y1, .int .i64 z1, .int .i64 step, .slice la ln lc, .slice ha hn hc, .slice (some ⟨g1, 0, none⟩) n c1, .int .i64 cap]) (by omega)).trans (block_kept hq X0.out rfl))
  have O1 := Lib.hid (ho1.kept hgs (.inr (fun e => by simp [Value.ownBlock] at e; omega)))
  have R5 := Lib.hid ((setRow_far (g := tb) (cs := #[.int .i64 x0, .int .i64 y0, .int .i64 z0, .int .i64 x1, .int .i64 y1, .int .i64 z1, .int .i64 step, .slice la ln lc, .slice ha hn hc, .slice (some ⟨g1, 0, none⟩) n c1, .int .i64 cap]) (by omega)).trans (block_kept hq R0.out rfl))
  have S5 := Lib.hid ((S0.out.later (row := none) hq (by simp)).later hgs (fun q hq => by simp at hq; omega))
  have G5 := Lib.hid (gb_setRow (g := tb) (cs := #[.int .i64 x0, .int .i64 y0, .int .i64 z0, .int .i64 x1, .int .i64 y1, .int .i64 z1, .int .i64 step, .slice la ln lc, .slice ha hn hc, .slice (some ⟨g1, 0, none⟩) n c1, .int .i64 cap]) (gb_trans G0.out hq) (.inl (by omega)))
  have ht5 : tb < (wq.setRow tb #[.int .i64 x0, .int .i64 y0, .int .i64 z0, .int .i64 x1, .int .i64 y1, .int .i64 z1, .int .i64 step, .slice la ln lc, .slice ha hn hc, .slice (some ⟨g1, 0, none⟩) n c1, .int .i64 cap]).heap.size := block_lt' T5.out
  generalize wq.setRow tb #[.int .i64 x0, .int .i64 y0, .int .i64 z0, .int .i64 x1, .int .i64 y1, .int .i64 z1, .int .i64 step, .slice la ln lc, .slice ha hn hc, .slice (some ⟨g1, 0, none⟩) n c1, .int .i64 cap] = w5 at *
  clear hf hD ho1 htb hgs hq hne X0 R0 S0 G0 ua HC1 HL1 h300 h300b hl1 Z0
  clear e0_ e1_ e2_ e3_ e4_ e5_ e6_ e7_ e8_ e9_ e10_
  refine wpList_nil ?_
  simp only [Act.put, List.setIfInBounds_toArray, List.set_cons_zero, List.set_cons_succ]
  go_wp2_with fail
  (with_reducible refine (n_any B w5 p 6 S5.out (by omega) (by omega)).mono ?_)
  rintro r w6 ⟨kk, rfl, hkk, hS, hg⟩
  have htp : tb ≠ p := by omega
  have X6 := Lib.hid (block_keptp hg X5.out (by omega))
  have O6 := Lib.hid (owns_keepp O1.out hg (by omega))
  have htb : w.heap.size + 1 < tb := by omega
  have hg1 : w.heap.size + 1 < g1 := by omega
  have h1t' : g1 ≠ tb := h1t
  have CC : Hid (BPC w B p tb (.slice la ln lc) (.slice ha hn hc) (.slice (some ⟨g1, 0, none⟩) n c1)) := Lib.hid ⟨⟨hq0, hp, htb⟩, ⟨al, ah, fun b off len cap e _ => by simp at e; omega⟩,
    ⟨HI.out.l.apart_lt (by omega), HI.out.h.apart_lt (by omega), fun b off len cap e _ => by simp at e; omega⟩, ⟨HI.out.l.apart_lt (by omega), HI.out.h.apart_lt (by omega), fun b off len cap e _ => by simp at e; omega⟩⟩
  have G6 := Lib.hid (gb_trans (gb_none (row := some p) G5.out) hg)
  have A6 : Hid (BPA w B p tb (.slice la ln lc) (.slice ha hn hc) ls hs (.slice (some ⟨g1, 0, none⟩) n c1) phs #[.int .i64 x0, .int .i64 y0, .int .i64 z0, .int .i64 x1, .int .i64 y1, .int .i64 z1, .int .i64 step, .slice la ln lc, .slice ha hn hc, .slice (some ⟨g1, 0, none⟩) n c1, .int .i64 cap] w6) := Lib.hid ⟨block_keptp hg T5.out htp, block_keptp hg R5.out (by omega), hS, G6.out, HI.out.l.later G6.out (fun b off len cap e hl => by have := al b off len cap e hl; simp; omega), HI.out.h.later G6.out (fun b off len cap e hl => by have := ah b off len cap e hl; simp; omega), by rw [HN1.out]; exact SlC.of_owns O6.out⟩
  have h65 : phs.length ≤ 65 := by rw [HN1.out]; omega
  have H65 := Lib.hid h65
  clear hS hg T5 X5 R5 S5 G5 O1 al ah h65 h1t
  rcases (by omega : kk = 0 ∨ kk = 1 ∨ kk = 2 ∨ kk = 3 ∨ kk = 4 ∨ kk = 5) with _ | _ | _ | _ | _ | _
  · obtain rfl : kk = 0 := by omega
    have e0_ := cell_of X6.out 0 _ rfl; have e1_ := cell_of X6.out 1 _ rfl; have e2_ := cell_of X6.out 2 _ rfl; have e3_ := cell_of X6.out 3 _ rfl; have e4_ := cell_of X6.out 4 _ rfl; have e5_ := cell_of X6.out 5 _ rfl; have e6_ := cell_of X6.out 6 _ rfl; have e7_ := cell_of X6.out 7 _ rfl; have e8_ := cell_of X6.out 8 _ rfl; have e9_ := cell_of X6.out 9 _ rfl; have e10_ := cell_of X6.out 10 _ rfl
    go_wp2_with fail
    (with_reducible refine (bent_any B w6 p x0 y0 z0 x1 y1 z1 A6.out.S).mono ?_)
    rintro r w7 ⟨n0, n1, n2, n3, n4, n5, rfl, -, hS, hg⟩
    clear e0_ e1_ e2_ e3_ e4_ e5_ e6_ e7_ e8_ e9_ e10_
    have A7 := Lib.hid (A6.out.draw CC.out hg hS)
    clear hS hg X6 O6 A6
    go_wp2_with (with_reducible refine wpList_part rfl _ _ _ rfl tb 0 #[.int .i64 n0, .int .i64 n1, .int .i64 n2, .int .i64 n3, .int .i64 n4, .int .i64 n5] rfl rfl A7.out.T #[.int .i64 n0, .int .i64 n1, .int .i64 n2, .int .i64 n3, .int .i64 n4, .int .i64 n5, .int .i64 step, .slice la ln lc, .slice ha hn hc, .slice (some ⟨g1, 0, none⟩) n c1, .int .i64 cap] (by kernel_rfl) ?_ (by kernel_rfl) (by simp [Value.oneCell']) ?_; kernel_rfl; refine Hid.out ?_)
    refine Lib.hid ?_
    intro w8 ht8 hf8 hg8
    have A8 := Lib.hid (A7.out.part CC.out ht8 hg8)
    clear ht8 hf8 hg8
    have HR := Lib.hid A8.out.R
    have HN := Lib.hid (setRow_at (cs := #[.int .i64 n0, .int .i64 n1, .int .i64 n2, .int .i64 n3, .int .i64 n4, .int .i64 n5, .int .i64 step, .slice la ln lc, .slice ha hn hc, .slice (some ⟨g1, 0, none⟩) n c1, .int .i64 cap]) HR.out)
    have HE := Lib.hid (A8.out.fin CC.out rfl H65.out)
    have A8_T := Lib.hid A8.out.T
    have e0_ := cell_of A8_T.out 0 _ rfl; have e1_ := cell_of A8_T.out 1 _ rfl; have e2_ := cell_of A8_T.out 2 _ rfl; have e3_ := cell_of A8_T.out 3 _ rfl; have e4_ := cell_of A8_T.out 4 _ rfl; have e5_ := cell_of A8_T.out 5 _ rfl; have e6_ := cell_of A8_T.out 6 _ rfl; have e7_ := cell_of A8_T.out 7 _ rfl; have e8_ := cell_of A8_T.out 8 _ rfl; have e9_ := cell_of A8_T.out 9 _ rfl; have e10_ := cell_of A8_T.out 10 _ rfl
    clear A8 A8_T A7
    go_wp2_with (with_reducible refine wpList_store_row rfl _ _ _ rfl (w.heap.size + 1) #[.int .i64 n0, .int .i64 n1, .int .i64 n2, .int .i64 n3, .int .i64 n4, .int .i64 n5, .int .i64 step, .slice la ln lc, .slice ha hn hc, .slice (some ⟨g1, 0, none⟩) n c1, .int .i64 cap] rfl rfl _ _ HR.out (by kernel_rfl) rfl (by simp [Value.oneCell']) ?_)
    have f0_ := cell_of HN.out 0 _ rfl; have f1_ := cell_of HN.out 1 _ rfl; have f2_ := cell_of HN.out 2 _ rfl; have f3_ := cell_of HN.out 3 _ rfl; have f4_ := cell_of HN.out 4 _ rfl; have f5_ := cell_of HN.out 5 _ rfl; have f6_ := cell_of HN.out 6 _ rfl; have f7_ := cell_of HN.out 7 _ rfl; have f8_ := cell_of HN.out 8 _ rfl; have f9_ := cell_of HN.out 9 _ rfl; have f10_ := cell_of HN.out 10 _ rfl
    exact bodyPost_ret (v := .agg #[.int .i64 n0, .int .i64 n1, .int .i64 n2, .int .i64 n3, .int .i64 n4, .int .i64 n5, .int .i64 step, .slice la ln lc, .slice ha hn hc, .slice (some ⟨g1, 0, none⟩) n c1, .int .i64 cap]) (by simp [results, Tryz.results11, go_sem, f0_, f1_, f2_, f3_, f4_, f5_, f6_, f7_, f8_, f9_, f10_]) rfl HE.out
  · obtain rfl : kk = 1 := by omega
    have e0_ := cell_of X6.out 0 _ rfl; have e1_ := cell_of X6.out 1 _ rfl; have e2_ := cell_of X6.out 2 _ rfl; have e3_ := cell_of X6.out 3 _ rfl; have e4_ := cell_of X6.out 4 _ rfl; have e5_ := cell_of X6.out 5 _ rfl; have e6_ := cell_of X6.out 6 _ rfl; have e7_ := cell_of X6.out 7 _ rfl; have e8_ := cell_of X6.out 8 _ rfl; have e9_ := cell_of X6.out 9 _ rfl; have e10_ := cell_of X6.out 10 _ rfl
    go_wp2_with fail
    (with_reducible refine (bentTable_any B w6 p step (.slice la ln lc) (.slice ha hn hc) ls hs A6.out.S A6.out.l A6.out.h hl0 hlh hl3).mono ?_)
    rintro r w7 ⟨step', vl', vh', ls', hs', rfl, hl', hh', hfr, hS, hg⟩
    obtain ⟨la', ln', lc', rfl⟩ := sl_slice hl'; obtain ⟨ha', hn', hc', rfl⟩ := sl_slice hh'
    clear e0_ e1_ e2_ e3_ e4_ e5_ e6_ e7_ e8_ e9_ e10_
    have A7 := Lib.hid (A6.out.draw CC.out hg hS)
    have z6 := A6.out.G.size; have t6 := block_lt' A6.out.T
    have C7 : Hid (BPC w B p tb (.slice la' ln' lc') (.slice ha' hn' hc') (.slice (some ⟨g1, 0, none⟩) n c1)) := Lib.hid ⟨CC.out.q,
      ⟨fun b off len cap e _ => by have := hfr _ (.inl rfl) b off len cap e; omega, fun b off len cap e _ => by have := hfr _ (.inr rfl) b off len cap e; omega, CC.out.ap.2.2⟩,
      ⟨fun b off len cap e _ => by have := hfr _ (.inl rfl) b off len cap e; omega, fun b off len cap e _ => by have := hfr _ (.inr rfl) b off len cap e; omega, CC.out.ar.2.2⟩,
      ⟨fun b off len cap e _ => by have := hfr _ (.inl rfl) b off len cap e; omega, fun b off len cap e _ => by have := hfr _ (.inr rfl) b off len cap e; omega, CC.out.at'.2.2⟩⟩
    have B7 : Hid (BPA w B p tb (.slice la' ln' lc') (.slice ha' hn' hc') ls' hs' (.slice (some ⟨g1, 0, none⟩) n c1) phs #[.int .i64 x0, .int .i64 y0, .int .i64 z0, .int .i64 x1, .int .i64 y1, .int .i64 z1, .int .i64 step, .slice la ln lc, .slice ha hn hc, .slice (some ⟨g1, 0, none⟩) n c1, .int .i64 cap] w7) := Lib.hid ⟨A7.out.T, A7.out.R, A7.out.S, A7.out.G, hl', hh', A7.out.v⟩
    clear hS hg X6 O6 A6 hl' hh' hfr A7 z6 t6
    go_wp2_with (with_reducible refine wpList_part rfl _ _ _ rfl tb 6 #[.int .i64 step', .slice la' ln' lc', .slice ha' hn' hc'] rfl rfl B7.out.T #[.int .i64 x0, .int .i64 y0, .int .i64 z0, .int .i64 x1, .int .i64 y1, .int .i64 z1, .int .i64 step', .slice la' ln' lc', .slice ha' hn' hc', .slice (some ⟨g1, 0, none⟩) n c1, .int .i64 cap] (by kernel_rfl) ?_ (by kernel_rfl) (by simp [Value.oneCell']) ?_; kernel_rfl; refine Hid.out ?_)
    refine Lib.hid ?_
    intro w8 ht8 hf8 hg8
    have A8 := Lib.hid (B7.out.part C7.out ht8 hg8)
    clear ht8 hf8 hg8
    have HR := Lib.hid A8.out.R
    have HN := Lib.hid (setRow_at (cs := #[.int .i64 x0, .int .i64 y0, .int .i64 z0, .int .i64 x1, .int .i64 y1, .int .i64 z1, .int .i64 step', .slice la' ln' lc', .slice ha' hn' hc', .slice (some ⟨g1, 0, none⟩) n c1, .int .i64 cap]) HR.out)
    have HE := Lib.hid (A8.out.fin C7.out rfl H65.out)
    have A8_T := Lib.hid A8.out.T
    have e0_ := cell_of A8_T.out 0 _ rfl; have e1_ := cell_of A8_T.out 1 _ rfl; have e2_ := cell_of A8_T.out 2 _ rfl; have e3_ := cell_of A8_T.out 3 _ rfl; have e4_ := cell_of A8_T.out 4 _ rfl; have e5_ := cell_of A8_T.out 5 _ rfl; have e6_ := cell_of A8_T.out 6 _ rfl; have e7_ := cell_of A8_T.out 7 _ rfl; have e8_ := cell_of A8_T.out 8 _ rfl; have e9_ := cell_of A8_T.out 9 _ rfl; have e10_ := cell_of A8_T.out 10 _ rfl
    clear A8 A8_T B7
    go_wp2_with (with_reducible refine wpList_store_row rfl _ _ _ rfl (w.heap.size + 1) #[.int .i64 x0, .int .i64 y0, .int .i64 z0, .int .i64 x1, .int .i64 y1, .int .i64 z1, .int .i64 step', .slice la' ln' lc', .slice ha' hn' hc', .slice (some ⟨g1, 0, none⟩) n c1, .int .i64 cap] rfl rfl _ _ HR.out (by kernel_rfl) rfl (by simp [Value.oneCell']) ?_)
    have f0_ := cell_of HN.out 0 _ rfl; have f1_ := cell_of HN.out 1 _ rfl; have f2_ := cell_of HN.out 2 _ rfl; have f3_ := cell_of HN.out 3 _ rfl; have f4_ := cell_of HN.out 4 _ rfl; have f5_ := cell_of HN.out 5 _ rfl; have f6_ := cell_of HN.out 6 _ rfl; have f7_ := cell_of HN.out 7 _ rfl; have f8_ := cell_of HN.out 8 _ rfl; have f9_ := cell_of HN.out 9 _ rfl; have f10_ := cell_of HN.out 10 _ rfl
    exact bodyPost_ret (v := .agg #[.int .i64 x0, .int .i64 y0, .int .i64 z0, .int .i64 x1, .int .i64 y1, .int .i64 z1, .int .i64 step', .slice la' ln' lc', .slice ha' hn' hc', .slice (some ⟨g1, 0, none⟩) n c1, .int .i64 cap]) (by simp [results, Tryz.results11, go_sem, f0_, f1_, f2_, f3_, f4_, f5_, f6_, f7_, f8_, f9_, f10_]) rfl HE.out
  · obtain rfl : kk = 2 := by omega
    go_wp2_with fail
    (with_reducible refine (pickL_any B _ p [-1, 0, 1099511627776, 1099511627777] 4 rfl #[.int .i64 (-1), .int .i64 0, .int .i64 1099511627776, .int .i64 1099511627777] rfl _ A6.out.S _ rfl (by decide) (by decide)).mono ?_)
    rintro r w7 ⟨odd, rfl, -, hS, hg⟩
    have A7 := Lib.hid (A6.out.draw CC.out hg hS)
    clear hS hg X6 O6 A6
    have hF := frozen3 A7.out.T (o := 10)
    have A8 : Hid (BPA w B p tb (.slice la ln lc) (.slice ha hn hc) ls hs (.slice (some ⟨g1, 0, none⟩) n c1) phs #[.int .i64 x0, .int .i64 y0, .int .i64 z0, .int .i64 x1, .int .i64 y1, .int .i64 z1, .int .i64 step, .slice la ln lc, .slice ha hn hc, .slice (some ⟨g1, 0, none⟩) n c1, .int .i64 odd] (w7.setCell ⟨tb, 10, none⟩ (.int .i64 odd))) := Lib.hid (A7.out.cell CC.out 10 (.int .i64 odd))
    have A7_T := Lib.hid A7.out.T
    have u10_ := cell_of A7_T.out 10 _ rfl
    have HR := Lib.hid A8.out.R
    have HN := Lib.hid (setRow_at (cs := #[.int .i64 x0, .int .i64 y0, .int .i64 z0, .int .i64 x1, .int .i64 y1, .int .i64 z1, .int .i64 step, .slice la ln lc, .slice ha hn hc, .slice (some ⟨g1, 0, none⟩) n c1, .int .i64 odd]) HR.out)
    have HE := Lib.hid (A8.out.fin CC.out rfl H65.out)
    have A8_T := Lib.hid A8.out.T
    have e0_ := cell_of A8_T.out 0 _ rfl; have e1_ := cell_of A8_T.out 1 _ rfl; have e2_ := cell_of A8_T.out 2 _ rfl; have e3_ := cell_of A8_T.out 3 _ rfl; have e4_ := cell_of A8_T.out 4 _ rfl; have e5_ := cell_of A8_T.out 5 _ rfl; have e6_ := cell_of A8_T.out 6 _ rfl; have e7_ := cell_of A8_T.out 7 _ rfl; have e8_ := cell_of A8_T.out 8 _ rfl; have e9_ := cell_of A8_T.out 9 _ rfl; have e10_ := cell_of A8_T.out 10 _ rfl
    clear A8 A8_T A7 A7_T
    go_wp2_with (with_reducible refine wpList_store_row rfl _ _ _ rfl (w.heap.size + 1) #[.int .i64 x0, .int .i64 y0, .int .i64 z0, .int .i64 x1, .int .i64 y1, .int .i64 z1, .int .i64 step, .slice la ln lc, .slice ha hn hc, .slice (some ⟨g1, 0, none⟩) n c1, .int .i64 odd] rfl rfl _ _ HR.out (by kernel_rfl) rfl (by simp [Value.oneCell']) ?_)
    have f0_ := cell_of HN.out 0 _ rfl; have f1_ := cell_of HN.out 1 _ rfl; have f2_ := cell_of HN.out 2 _ rfl; have f3_ := cell_of HN.out 3 _ rfl; have f4_ := cell_of HN.out 4 _ rfl; have f5_ := cell_of HN.out 5 _ rfl; have f6_ := cell_of HN.out 6 _ rfl; have f7_ := cell_of HN.out 7 _ rfl; have f8_ := cell_of HN.out 8 _ rfl; have f9_ := cell_of HN.out 9 _ rfl; have f10_ := cell_of HN.out 10 _ rfl
    exact bodyPost_ret (v := .agg #[.int .i64 x0, .int .i64 y0, .int .i64 z0, .int .i64 x1, .int .i64 y1, .int .i64 z1, .int .i64 step, .slice la ln lc, .slice ha hn hc, .slice (some ⟨g1, 0, none⟩) n c1, .int .i64 odd]) (by simp [results, Tryz.results11, go_sem, f0_, f1_, f2_, f3_, f4_, f5_, f6_, f7_, f8_, f9_, f10_]) rfl HE.out
  · obtain rfl : kk = 3 := by omega
    clear X6 O6
    have hF := frozen3 A6.out.T (o := 9)
    have A6_T := Lib.hid A6.out.T
    have u9_ := cell_of A6_T.out 9 _ rfl
    have B8 : Hid (BPA w B p tb (.slice la ln lc) (.slice ha hn hc) ls hs (.slice (some ⟨g1, 0, none⟩) n c1) phs #[.int .i64 x0, .int .i64 y0, .int .i64 z0, .int .i64 x1, .int .i64 y1, .int .i64 z1, .int .i64 step, .slice la ln lc, .slice ha hn hc, .slice none 0 0, .int .i64 cap] (w6.setCell ⟨tb, 9, none⟩ (.slice none 0 0))) := Lib.hid (A6.out.cell CC.out 9 (.slice none 0 0))
    have C8 : Hid (BPC w B p tb (.slice la ln lc) (.slice ha hn hc) (.slice none 0 0)) := Lib.hid ⟨CC.out.q, ⟨CC.out.ap.1, CC.out.ap.2.1, fun b off len cap e _ => by simp at e⟩, ⟨CC.out.ar.1, CC.out.ar.2.1, fun b off len cap e _ => by simp at e⟩, ⟨CC.out.at'.1, CC.out.at'.2.1, fun b off len cap e _ => by simp at e⟩⟩
    have A8 : Hid (BPA w B p tb (.slice la ln lc) (.slice ha hn hc) ls hs (.slice none 0 0) [] #[.int .i64 x0, .int .i64 y0, .int .i64 z0, .int .i64 x1, .int .i64 y1, .int .i64 z1, .int .i64 step, .slice la ln lc, .slice ha hn hc, .slice none 0 0, .int .i64 cap] (w6.setCell ⟨tb, 9, none⟩ (.slice none 0 0))) := Lib.hid ⟨B8.out.T, B8.out.R, B8.out.S, B8.out.G, B8.out.l, B8.out.h, ⟨rfl, .inl ⟨rfl, _, _, rfl⟩⟩⟩
    have HR := Lib.hid A8.out.R
    have HN := Lib.hid (setRow_at (cs := #[.int .i64 x0, .int .i64 y0, .int .i64 z0, .int .i64 x1, .int .i64 y1, .int .i64 z1, .int .i64 step, .slice la ln lc, .slice ha hn hc, .slice none 0 0, .int .i64 cap]) HR.out)
    have HE := Lib.hid (A8.out.fin C8.out rfl (Nat.zero_le _))
    have A8_T := Lib.hid A8.out.T
    have e0_ := cell_of A8_T.out 0 _ rfl; have e1_ := cell_of A8_T.out 1 _ rfl; have e2_ := cell_of A8_T.out 2 _ rfl; have e3_ := cell_of A8_T.out 3 _ rfl; have e4_ := cell_of A8_T.out 4 _ rfl; have e5_ := cell_of A8_T.out 5 _ rfl; have e6_ := cell_of A8_T.out 6 _ rfl; have e7_ := cell_of A8_T.out 7 _ rfl; have e8_ := cell_of A8_T.out 8 _ rfl; have e9_ := cell_of A8_T.out 9 _ rfl; have e10_ := cell_of A8_T.out 10 _ rfl
    clear A8 A8_T A6 A6_T B8
    go_wp2_with (with_reducible refine wpList_store_row rfl _ _ _ rfl (w.heap.size + 1) #[.int .i64 x0, .int .i64 y0, .int .i64 z0, .int .i64 x1, .int .i64 y1, .int .i64 z1, .int .i64 step, .slice la ln lc, .slice ha hn hc, .slice none 0 0, .int .i64 cap] rfl rfl _ _ HR.out (by kernel_rfl) rfl (by simp [Value.oneCell']) ?_)
    have f0_ := cell_of HN.out 0 _ rfl; have f1_ := cell_of HN.out 1 _ rfl; have f2_ := cell_of HN.out 2 _ rfl; have f3_ := cell_of HN.out 3 _ rfl; have f4_ := cell_of HN.out 4 _ rfl; have f5_ := cell_of HN.out 5 _ rfl; have f6_ := cell_of HN.out 6 _ rfl; have f7_ := cell_of HN.out 7 _ rfl; have f8_ := cell_of HN.out 8 _ rfl; have f9_ := cell_of HN.out 9 _ rfl; have f10_ := cell_of HN.out 10 _ rfl
    exact bodyPost_ret (v := .agg #[.int .i64 x0, .int .i64 y0, .int .i64 z0, .int .i64 x1, .int .i64 y1, .int .i64 z1, .int .i64 step, .slice la ln lc, .slice ha hn hc, .slice none 0 0, .int .i64 cap]) (by simp [results, Tryz.results11, go_sem, f0_, f1_, f2_, f3_, f4_, f5_, f6_, f7_, f8_, f9_, f10_]) rfl HE.out
  · obtain rfl : kk = 4 := by omega
    clear X6
    go_wp2_with fail
    (with_reducible refine (n_any B w6 p 2 A6.out.S (by omega) (by omega)).mono ?_)
    rintro r w7 ⟨kx, rfl, hkx, hS, hg⟩
    obtain ⟨m, hm⟩ : ∃ m : Nat, 64 + kx = m := ⟨(64 + kx).toNat, by omega⟩
    have hw : IntKind.i64.wrap (64 + kx) = (m : Int) := by rw [IntKind.wrap_i64]; omega
    have hm64 : 64 ≤ m ∧ m ≤ 65 := by omega
    have A7 := Lib.hid (A6.out.draw CC.out hg hS)
    clear hS hg O6 A6 hm hkx
    obtain ⟨i0, hi0, hz0, hz1, hz2⟩ := info_parts Tryz.infoPhaseT
    have IB : Hid (i0.bytes * m ≤ 281474976710656 ∧ m ≤ maxLen) := Lib.hid ⟨by rw [hz2]; omega, by unfold maxLen; omega⟩
    go_wp2_with (with_reducible refine wpList_make_full _ rfl _ _ 34 rfl w7.heap.size 61 i0 (.agg #[.int .i64 0, .int .i64 0, .int .i64 0, .int .i64 0, .int .i64 0, .int .i64 0]) 6 Tryz.underlying34 hi0 hz0 hz1 .i64 .i64 (m : Int) (m : Int) m rfl rfl rfl rfl IB.out.1 IB.out.2 (Nat.le_refl _) ?_; refine Hid.out ?_)
    refine Lib.hid ?_
    intro w8 ho8 hg8
    replace ho8 : w8.ownsRow w7.heap.size 61 6 (.slice (some ⟨w7.heap.size, 0, none⟩) m m) m (flatP (List.replicate m ⟨0, 0, 0, 0, 0, 0⟩)) := by rw [← made_phs]; exact ho8
    have hfr := A7.out.S.lt.2; have hft := block_lt' A7.out.T; have hsz := A7.out.G.size
    have A8 := Lib.hid (A7.out.alloc hg8)
    have B9 := Lib.hid (A8.out.cell CC.out 9 (.slice (some ⟨w7.heap.size, 0, none⟩) m m))
    have O8 := Lib.hid ho8
    have hF := frozen3 A8.out.T (o := 9)
    have A8_T := Lib.hid A8.out.T
    have u9_ := cell_of A8_T.out 9 _ rfl
    have hg9 : w8.grownBy (w8.setCell ⟨tb, 9, none⟩ (.slice (some ⟨w7.heap.size, 0, none⟩) m m)) (some tb) := gb_setCell (gb_refl _ _) (.inr rfl) _
    have O9 := Lib.hid (O8.out.kept hg9 (.inr (fun e => by simp [Value.ownBlock] at e; omega)))
    have B9' : Hid (BPA w B p tb (.slice la ln lc) (.slice ha hn hc) ls hs (.slice (some ⟨g1, 0, none⟩) n c1) phs #[.int .i64 x0, .int .i64 y0, .int .i64 z0, .int .i64 x1, .int .i64 y1, .int .i64 z1, .int .i64 step, .slice la ln lc, .slice ha hn hc, .slice (some ⟨w7.heap.size, 0, none⟩) m m, .int .i64 cap] (w8.setCell ⟨tb, 9, none⟩ (.slice (some ⟨w7.heap.size, 0, none⟩) m m))) := B9
    have B9_T := Lib.hid B9'.out.T
    have t9_ := cell_of B9_T.out 9 _ rfl
    clear ho8 hg8 A7 O8 hg9 B9 i0 hi0 hz0 hz1 hz2 IB
    go_wp2_with fail
    generalize w8.setCell ⟨tb, 9, none⟩ (.slice (some ⟨w7.heap.size, 0, none⟩) m m) = w9 at *
    clear hF A8_T u9_ A8 t9_
    go_loopw [74] (fun i wr => ∃ (k : Nat) (l : List Ph), k ≤ m ∧ i = .int .i64 k ∧ l.length = m ∧ wr.ownsRow w7.heap.size 61 6 (.slice (some ⟨w7.heap.size, 0, none⟩) m m) m (flatP l) ∧ w9.grownBy wr (some w7.heap.size)) (fun i _ => m - (intOf i).toNat)
    case atStart => exact ⟨0, List.replicate m ⟨0, 0, 0, 0, 0, 0⟩, by omega, rfl, by simp, O9.out, gb_refl _ _⟩
    case round =>
      obtain ⟨k, l, hk, rfl, hl, hown, hgr⟩ := hrel
      have T_ : Hid (wr.heap[tb]? = some (.cells #[.int .i64 x0, .int .i64 y0, .int .i64 z0, .int .i64 x1, .int .i64 y1, .int .i64 z1, .int .i64 step, .slice la ln lc, .slice ha hn hc, .slice (some ⟨w7.heap.size, 0, none⟩) m m, .int .i64 cap] 36 (0, 0))) := Lib.hid ((hgr.block _ (block_lt' B9_T.out) (by simp; omega)).trans B9_T.out)
      have t9_ := cell_of T_.out 9 _ rfl
      have HOW := Lib.hid hown; have HGR := Lib.hid hgr
      clear hown hgr
      by_cases hlt : k < m
      · go_wp2_with (with_reducible refine wpList_partO rfl _ _ _ rfl w7.heap.size (k * 6) #[.int .i64 0, .int .i64 0, .int .i64 0, .int .i64 1000, .int .i64 1000, .int .i64 1] rfl rfl HOW.out ?_ (by kernel_rfl) ?_ ?_; (· simp; omega); (· simp [Value.oneCell']); refine Hid.out ?_)
        refine Lib.hid ?_
        intro w10 ho10 hg10
        have hset : setLL (flatP l) (k * 6) (#[.int .i64 0, .int .i64 0, .int .i64 0, .int .i64 1000, .int .i64 1000, .int .i64 1] : Array Value).toList = flatP (l.set k ⟨0, 0, 0, 1000, 1000, 1⟩) := flatP_set l k (by omega) ⟨0, 0, 0, 1000, 1000, 1⟩
        rw [hset] at ho10
        have HO10 := Lib.hid ho10; have HG10 := Lib.hid (gb_trans HGR.out hg10)
        clear ho10 hg10 hset HOW HGR T_ t9_
        go_wp2_with fail
        go_roundw
        case rel => exact ⟨k + 1, l.set k ⟨0, 0, 0, 1000, 1000, 1⟩, by omega, by go_num, by simpa using hl, HO10.out, HG10.out⟩
        case measure => simp [intOf]; omega
      · have hlt' : decide ((k : Int) < (m : Int)) = false := decide_eq_false (by omega)
        have C9 : Hid (BPC w B p tb (.slice la ln lc) (.slice ha hn hc) (.slice (some ⟨w7.heap.size, 0, none⟩) m m)) := Lib.hid ⟨CC.out.q, ⟨CC.out.ap.1, CC.out.ap.2.1, fun b off len cap e _ => by simp at e; omega⟩, ⟨CC.out.ar.1, CC.out.ar.2.1, fun b off len cap e _ => by simp at e; omega⟩, ⟨CC.out.at'.1, CC.out.at'.2.1, fun b off len cap e _ => by simp at e; omega⟩⟩
        have A9 : Hid (BPA w B p tb (.slice la ln lc) (.slice ha hn hc) ls hs (.slice (some ⟨w7.heap.size, 0, none⟩) m m) l #[.int .i64 x0, .int .i64 y0, .int .i64 z0, .int .i64 x1, .int .i64 y1, .int .i64 z1, .int .i64 step, .slice la ln lc, .slice ha hn hc, .slice (some ⟨w7.heap.size, 0, none⟩) m m, .int .i64 cap] wr) := Lib.hid (B9'.out.inRow CC.out (by omega) (by omega) (by omega) (by omega) HGR.out (by rw [hl]; exact SlC.of_owns HOW.out) (HI.out.l.apart_lt (by omega)) (HI.out.h.apart_lt (by omega)))
        have H9 : Hid (l.length ≤ 65) := Lib.hid (by omega)
        clear HOW HGR T_ t9_ B9' B9_T O9
        have HR := Lib.hid A9.out.R
        have HN := Lib.hid (setRow_at (cs := #[.int .i64 x0, .int .i64 y0, .int .i64 z0, .int .i64 x1, .int .i64 y1, .int .i64 z1, .int .i64 step, .slice la ln lc, .slice ha hn hc, .slice (some ⟨w7.heap.size, 0, none⟩) m m, .int .i64 cap]) HR.out)
        have HE := Lib.hid (A9.out.fin C9.out rfl H9.out)
        have A9_T := Lib.hid A9.out.T
        have e0_ := cell_of A9_T.out 0 _ rfl; have e1_ := cell_of A9_T.out 1 _ rfl; have e2_ := cell_of A9_T.out 2 _ rfl; have e3_ := cell_of A9_T.out 3 _ rfl; have e4_ := cell_of A9_T.out 4 _ rfl; have e5_ := cell_of A9_T.out 5 _ rfl; have e6_ := cell_of A9_T.out 6 _ rfl; have e7_ := cell_of A9_T.out 7 _ rfl; have e8_ := cell_of A9_T.out 8 _ rfl; have e9_ := cell_of A9_T.out 9 _ rfl; have e10_ := cell_of A9_T.out 10 _ rfl
        clear A9 A9_T 
        go_wp2_with (with_reducible refine wpList_store_row rfl _ _ _ rfl (w.heap.size + 1) #[.int .i64 x0, .int .i64 y0, .int .i64 z0, .int .i64 x1, .int .i64 y1, .int .i64 z1, .int .i64 step, .slice la ln lc, .slice ha hn hc, .slice (some ⟨w7.heap.size, 0, none⟩) m m, .int .i64 cap] rfl rfl _ _ HR.out (by kernel_rfl) rfl (by simp [Value.oneCell']) ?_)
        have f0_ := cell_of HN.out 0 _ rfl; have f1_ := cell_of HN.out 1 _ rfl; have f2_ := cell_of HN.out 2 _ rfl; have f3_ := cell_of HN.out 3 _ rfl; have f4_ := cell_of HN.out 4 _ rfl; have f5_ := cell_of HN.out 5 _ rfl; have f6_ := cell_of HN.out 6 _ rfl; have f7_ := cell_of HN.out 7 _ rfl; have f8_ := cell_of HN.out 8 _ rfl; have f9_ := cell_of HN.out 9 _ rfl; have f10_ := cell_of HN.out 10 _ rfl
        exact bodyPost_ret (v := .agg #[.int .i64 x0, .int .i64 y0, .int .i64 z0, .int .i64 x1, .int .i64 y1, .int .i64 z1, .int .i64 step, .slice la ln lc, .slice ha hn hc, .slice (some ⟨w7.heap.size, 0, none⟩) m m, .int .i64 cap]) (by simp [results, Tryz.results11, go_sem, f0_, f1_, f2_, f3_, f4_, f5_, f6_, f7_, f8_, f9_, f10_]) rfl HE.out
  · obtain rfl : kk = 5 := by omega
    clear X6
    have A6_T := Lib.hid A6.out.T
    have e0_ := cell_of A6_T.out 0 _ rfl; have e1_ := cell_of A6_T.out 1 _ rfl; have e2_ := cell_of A6_T.out 2 _ rfl; have e3_ := cell_of A6_T.out 3 _ rfl; have e4_ := cell_of A6_T.out 4 _ rfl; have e5_ := cell_of A6_T.out 5 _ rfl; have e6_ := cell_of A6_T.out 6 _ rfl; have e7_ := cell_of A6_T.out 7 _ rfl; have e8_ := cell_of A6_T.out 8 _ rfl; have e9_ := cell_of A6_T.out 9 _ rfl; have e10_ := cell_of A6_T.out 10 _ rfl
    have hn0 : decide ((n : Int) > 0) = true := decide_eq_true (by omega)
    go_wp2_with fail
    (with_reducible refine (n_any B w6 p n A6.out.S (by omega) (by omega)).mono ?_)
    rintro r w7 ⟨ix, rfl, hix, hS, hg⟩
    clear e0_ e1_ e2_ e3_ e4_ e5_ e6_ e7_ e8_ e9_ e10_
    obtain ⟨i, rfl⟩ : ∃ i : Nat, ix = i := ⟨ix.toNat, by omega⟩
    have hi : i < n := by omega
    have A7 := Lib.hid (A6.out.draw CC.out hg hS)
    have O7 := Lib.hid (owns_keepp O6.out hg (by omega))
    have hpn := A7.out.S.lt.2
    clear hS hg O6 A6 A6_T
    have A7_T := Lib.hid A7.out.T
    have e0_ := cell_of A7_T.out 0 _ rfl; have e1_ := cell_of A7_T.out 1 _ rfl; have e2_ := cell_of A7_T.out 2 _ rfl; have e3_ := cell_of A7_T.out 3 _ rfl; have e4_ := cell_of A7_T.out 4 _ rfl; have e5_ := cell_of A7_T.out 5 _ rfl; have e6_ := cell_of A7_T.out 6 _ rfl; have e7_ := cell_of A7_T.out 7 _ rfl; have e8_ := cell_of A7_T.out 8 _ rfl; have e9_ := cell_of A7_T.out 9 _ rfl; have e10_ := cell_of A7_T.out 10 _ rfl
    have d9 := Pulled.cell (B := B) (p := p) e9_ (block_lt' A7_T.out) htp
    obtain ⟨x_, y_, z_, e_, l_, n_, hgph, hj0, hj1, hj2, hj3, hj4, hj5⟩ := owns_ph HN1.out O7.out hi
    have hgp : ¬ g1 = p := by omega
    have hgl : g1 < w7.heap.size := by obtain ⟨-, h⟩ := O7.out.lt g1 rfl; exact h
    have j0 := Pulled.cell (B := B) (p := p) hj0 hgl hgp; have j1 := Pulled.cell (B := B) (p := p) hj1 hgl hgp; have j2 := Pulled.cell (B := B) (p := p) hj2 hgl hgp; have j3 := Pulled.cell (B := B) (p := p) hj3 hgl hgp; have j4 := Pulled.cell (B := B) (p := p) hj4 hgl hgp; have j5 := Pulled.cell (B := B) (p := p) hj5 hgl hgp
    go_wp2_with fail
    refine Rg.region (Pulled w7 B p) (Pull p) (fun k => if k = 9 then some (isSome' fun v => ∃ x y z e l n : Int, v = .agg #[.int .i64 x, .int .i64 y, .int .i64 z, .int .i64 e, .int .i64 l, .int .i64 n]) else none) (fun _ => false) 0 11 (by kernel_rfl) (by kernel_rfl) (by kernel_rfl) (by kernel_rfl) (by kernel_rfl) (by kernel_rfl) (by kernel_rfl) Pull.size (Pulled.start A7.out.S) (fun hne => ?_)
    (repeat (refine rLexL_quiet (by rfl) (by rfl) (by rfl) (by rfl) ?_; go_big_quiet_step (fail); refine wpQuiet_nil ?_))
    refine rg_drawF (fun v => ∃ x y z e l n : Int, v = .agg #[.int .i64 x, .int .i64 y, .int .i64 z, .int .i64 e, .int .i64 l, .int .i64 n]) 31 #[.pointer (some ⟨p, 0, none⟩), .agg #[.int .i64 x_, .int .i64 y_, .int .i64 z_, .int .i64 e_, .int .i64 l_, .int .i64 n_]] rfl rfl (fun _ => by go_simp) (fun u hu _ => (bentPhase_any B u p _ _ _ _ _ _ hu.2).mono fun r u' ⟨a0, a1, a2, a3, a4, a5, h0, _, h1, h2⟩ => ⟨_, h0, ⟨a0, a1, a2, a3, a4, a5, rfl⟩, h1, h2⟩) (fun v hv => ?_)
    obtain ⟨a0, a1, a2, a3, a4, a5, rfl⟩ := hv
    simp only [Act.put, List.setIfInBounds_toArray, List.set_cons_zero, List.set_cons_succ]
    (repeat (refine rLexL_quiet (by rfl) (by rfl) (by rfl) (by rfl) ?_; go_big_quiet_step (fail); refine wpQuiet_nil ?_))
    rintro w8 ⟨hg, hS⟩ - -
    clear e0_ e1_ e2_ e3_ e4_ e5_ e6_ e7_ e8_ e9_ e10_
    have A8 := Lib.hid (A7.out.draw CC.out hg hS)
    have O8 := Lib.hid (owns_keepp O7.out hg (by omega))
    clear hg hS A7 A7_T O7 d9 j0 j1 j2 j3 j4 j5 hj0 hj1 hj2 hj3 hj4 hj5 hne
    refine wpList_partO rfl _ _ _ rfl g1 (i * 6) #[.int .i64 a0, .int .i64 a1, .int .i64 a2, .int .i64 a3, .int .i64 a4, .int .i64 a5] rfl rfl O8.out (by simp; omega) (by kernel_rfl) (by simp [Value.oneCell']) ?_
    intro w9 ho9 hg9
    have hset : setLL (flatP phs) (i * 6) (#[.int .i64 a0, .int .i64 a1, .int .i64 a2, .int .i64 a3, .int .i64 a4, .int .i64 a5] : Array Value).toList = flatP (phs.set i ⟨a0, a1, a2, a3, a4, a5⟩) := flatP_set phs i (by rw [HN1.out]; exact hi) ⟨a0, a1, a2, a3, a4, a5⟩
    rw [hset] at ho9
    have hlen : (phs.set i ⟨a0, a1, a2, a3, a4, a5⟩).length = n := by rw [List.length_set]; exact HN1.out
    have A9 : Hid (BPA w B p tb (.slice la ln lc) (.slice ha hn hc) ls hs (.slice (some ⟨g1, 0, none⟩) n c1) (phs.set i ⟨a0, a1, a2, a3, a4, a5⟩) #[.int .i64 x0, .int .i64 y0, .int .i64 z0, .int .i64 x1, .int .i64 y1, .int .i64 z1, .int .i64 step, .slice la ln lc, .slice ha hn hc, .slice (some ⟨g1, 0, none⟩) n c1, .int .i64 cap] w9) := Lib.hid (A8.out.inRow CC.out (by omega) (by omega) (by omega) (by omega) hg9 (by rw [hlen]; exact SlC.of_owns ho9) (HI.out.l.apart_lt (by omega)) (HI.out.h.apart_lt (by omega)))
    have H9 : Hid ((phs.set i ⟨a0, a1, a2, a3, a4, a5⟩).length ≤ 65) := Lib.hid (by omega)
    clear ho9 hg9 hset hlen A8 O8
    refine wpList_nil ?_
    simp only [Act.put, List.setIfInBounds_toArray, List.set_cons_zero, List.set_cons_succ]
    have HR := Lib.hid A9.out.R
    have HN := Lib.hid (setRow_at (cs := #[.int .i64 x0, .int .i64 y0, .int .i64 z0, .int .i64 x1, .int .i64 y1, .int .i64 z1, .int .i64 step, .slice la ln lc, .slice ha hn hc, .slice (some ⟨g1, 0, none⟩) n c1, .int .i64 cap]) HR.out)
    have HE := Lib.hid (A9.out.fin CC.out rfl H9.out)
    have A9_T := Lib.hid A9.out.T
    have e0_ := cell_of A9_T.out 0 _ rfl; have e1_ := cell_of A9_T.out 1 _ rfl; have e2_ := cell_of A9_T.out 2 _ rfl; have e3_ := cell_of A9_T.out 3 _ rfl; have e4_ := cell_of A9_T.out 4 _ rfl; have e5_ := cell_of A9_T.out 5 _ rfl; have e6_ := cell_of A9_T.out 6 _ rfl; have e7_ := cell_of A9_T.out 7 _ rfl; have e8_ := cell_of A9_T.out 8 _ rfl; have e9_ := cell_of A9_T.out 9 _ rfl; have e10_ := cell_of A9_T.out 10 _ rfl
    clear A9 A9_T 
    go_wp2_with (with_reducible refine wpList_store_row rfl _ _ _ rfl (w.heap.size + 1) #[.int .i64 x0, .int .i64 y0, .int .i64 z0, .int .i64 x1, .int .i64 y1, .int .i64 z1, .int .i64 step, .slice la ln lc, .slice ha hn hc, .slice (some ⟨g1, 0, none⟩) n c1, .int .i64 cap] rfl rfl _ _ HR.out (by kernel_rfl) rfl (by simp [Value.oneCell']) ?_)
    have f0_ := cell_of HN.out 0 _ rfl; have f1_ := cell_of HN.out 1 _ rfl; have f2_ := cell_of HN.out 2 _ rfl; have f3_ := cell_of HN.out 3 _ rfl; have f4_ := cell_of HN.out 4 _ rfl; have f5_ := cell_of HN.out 5 _ rfl; have f6_ := cell_of HN.out 6 _ rfl; have f7_ := cell_of HN.out 7 _ rfl; have f8_ := cell_of HN.out 8 _ rfl; have f9_ := cell_of HN.out 9 _ rfl; have f10_ := cell_of HN.out 10 _ rfl
    exact bodyPost_ret (v := .agg #[.int .i64 x0, .int .i64 y0, .int .i64 z0, .int .i64 x1, .int .i64 y1, .int .i64 z1, .int .i64 step, .slice la ln lc, .slice ha hn hc, .slice (some ⟨g1, 0, none⟩) n c1, .int .i64 cap]) (by simp [results, Tryz.results11, go_sem, f0_, f1_, f2_, f3_, f4_, f5_, f6_, f7_, f8_, f9_, f10_]) rfl HE.out
end Go.Proofs.YtdkckhihleffeaaGreat
