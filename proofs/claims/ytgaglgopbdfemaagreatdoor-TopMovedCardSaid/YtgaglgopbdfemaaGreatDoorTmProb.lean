/- Prob -/
import Derived.Test.YtgaglgopbdfemaaGreatDoorTmGeo
import Derived.Test.YtgaglgopbdfemaaGreatDoorTmRgPos
import Derived.Test.YtgaglgopbdfemaaGreatDoorTmMis
import Derived.Test.YtgaglgopbdfemaaGreatDoorTmBndP
namespace Go.Proofs.YtgaglgopbdfemaaGreatDoor
set_option linter.all false
section LPhase
open Go.RowKit Rg
def phaseIn (x y z e l n : Int) : Prop := placeIn 60 x y z ∧ 1000 ≤ e ∧ e ≤ 2999 ∧ e ≤ l ∧ l ≤ e + 40 ∧ 1 ≤ n ∧ n ≤ 4
set_option maxRecDepth 100000 in
set_option maxHeartbeats 1000000 in
theorem phase_any (B : Nat) (w : World) (p : Nat) (h : Src B w p) :
    Calls Tryz.prog 16 #[.pointer (some ⟨p, 0, none⟩)] w (At6 B p phaseIn w) := by
  have hp := h.lt
  have hg0 := gb_alloc (gb_refl w none) (.cells #[.int .i64 0, .int .i64 0, .int .i64 0, .int .i64 0, .int .i64 0, .int .i64 0] 39)
  have HS0 := Lib.hid (h.later hg0 (by simp))
  have HG0 := Lib.hid (gb_none (row := some p) hg0)
  have HR0 := Lib.hid (heap_alloc_new w (.cells #[.int .i64 0, .int .i64 0, .int .i64 0, .int .i64 0, .int .i64 0, .int .i64 0] 39))
  clear h hg0
  go_enter Tryz.func16, Tryz.ntmps16
  go_wp2_with fail
  (with_reducible refine (place_any B _ p 60 HS0.out (by omega) (by omega)).mono ?_)
  rintro e w1 ⟨x, y, z, rfl, hx, hs1, hg1⟩
  have HS1 := Lib.hid hs1; have HR1 := Lib.hid (block_keptp hg1 HR0.out (by omega)); have HG1 := Lib.hid (gb_trans HG0.out hg1)
  clear hs1 hg1 HS0 HR0 HG0
  go_wp2_with fail
  (with_reducible refine (n_any B _ p _ HS1.out (by omega) (by omega)).mono ?_)
  rintro e w2 ⟨t, rfl, ht, hs2, hg2⟩
  have HS2 := Lib.hid hs2; have HR2 := Lib.hid (block_keptp hg2 HR1.out (by omega)); have HG2 := Lib.hid (gb_trans HG1.out hg2)
  clear hs2 hg2 HS1 HR1 HG1
  go_wp2_with fail
  (with_reducible refine (n_any B _ p _ HS2.out (by omega) (by omega)).mono ?_)
  rintro e w3 ⟨n, rfl, hn, hs3, hg3⟩
  have hR3 := block_keptp hg3 HR2.out (by omega)
  have hg4 := gb_alloc (gb_refl w3 none) (.cells #[.int .i64 x, .int .i64 y, .int .i64 z, .int .i64 (1000 + t), .int .i64 0, .int .i64 (1 + n)] 39)
  have HS4 := Lib.hid (hs3.later hg4 (by simp)); have HR4 := Lib.hid (block_kept hg4 hR3 rfl); have HG4 := Lib.hid (gb_trans (gb_trans HG2.out hg3) (gb_none (row := some p) hg4))
  have HB4 := Lib.hid (heap_alloc_new w3 (.cells #[.int .i64 x, .int .i64 y, .int .i64 z, .int .i64 (1000 + t), .int .i64 0, .int .i64 (1 + n)] 39))
  have hz : w3.heap.size ≠ p := by have := hs3.lt; omega
  have hwb : w.heap.size < w3.heap.size := block_lt' hR3
  clear hs3 hg3 HS2 HR2 HG2 hR3 hg4
  go_wp2_with fail
  generalize w3.alloc (.cells #[.int .i64 x, .int .i64 y, .int .i64 z, .int .i64 (1000 + t), .int .i64 0, .int .i64 (1 + n)] 39) = w4 at *
  generalize w3.heap.size = q at *
  have hp4 := HS4.out.lt.2
  obtain ⟨c0, c1, c2, c3, c4, c5⟩ := six HB4.out
  have d3 := Pulled.cell (B := B) (p := p) c3 (block_lt' HB4.out) hz
  refine Rg.region (Pulled w4 B p) (Pull p) (fun k => if k = 3 then some (isLit w4 [0, 0, 3, 10, 40]) else if k = 4 then some (isInt fun x => x ∈ [0, 0, 3, 10, 40]) else none) (fun _ => false) 0 6 (by kernel_rfl) (by kernel_rfl) (by kernel_rfl) (by kernel_rfl) (by kernel_rfl) (by kernel_rfl) (by kernel_rfl) Pull.size (Pulled.start HS4.out) (fun hne => ?_)
  (repeat (refine rLexL_quiet (by rfl) (by rfl) (by rfl) (by rfl) ?_; go_big_quiet_step (fail); refine wpQuiet_nil ?_))
  refine rg_lit [0, 0, 3, 10, 40] 3 rfl rfl (fun _ => by go_simp) rfl hp4 (fun v2 => ?_)
  simp only [Act.put, List.setIfInBounds_toArray, List.set_cons_zero, List.set_cons_succ]
  refine rg_draw (fun x => x ∈ [0, 0, 3, 10, 40]) 9 #[.pointer (some ⟨p, 0, none⟩), v2] rfl rfl (fun _ => by go_simp) (fun u hu hd => pick_lit w4 B p u [0, 0, 3, 10, 40] v2 hu (hd ⟨3, .data⟩ (by simp) rfl) hp4 (by decide) (by decide)) (fun d hd => ?_)
  simp only [Act.put, List.setIfInBounds_toArray, List.set_cons_zero, List.set_cons_succ]
  have hd' : 0 ≤ d ∧ d ≤ 40 := by simp at hd; omega
  have wd : IntKind.i64.wrap (1000 + t + d) = 1000 + t + d := by rw [IntKind.wrap_i64]; omega
  (repeat (refine rLexL_quiet (by rfl) (by rfl) (by rfl) (by rfl) ?_; go_big_quiet_step (fail); refine wpQuiet_nil ?_))
  rintro w5 ⟨hg5, hs5⟩ - -
  have hB5 := block_keptp hg5 HB4.out hz
  have hR5 := block_keptp hg5 HR4.out (by omega)
  have hF5 := frozen3 hB5
  obtain ⟨b0, b1, b2, b3, b4, b5⟩ := six hB5
  have hS6 := set_block hB5 4 (.int .i64 (1000 + t + d))
  have hR6 := (setCell_far (a := ⟨q, 4, none⟩) (u := .int .i64 (1000 + t + d)) (by show w.heap.size ≠ q; omega)).trans hR5
  have HR6 := Lib.hid hR6
  obtain ⟨s0, s1, s2, s3, s4, s5⟩ := six hS6
  have hgA : w4.grownBy (w5.setCell ⟨q, 4, none⟩ (.int .i64 (1000 + t + d))) (some p) → True := fun _ => trivial
  clear hgA
  have HGE := Lib.hid (gb_setRow (cs := #[.int .i64 x, .int .i64 y, .int .i64 z, .int .i64 (1000 + t), .int .i64 (1000 + t + d), .int .i64 (1 + n)]) (gb_setCell (gb_trans HG4.out hg5) (a := ⟨q, 4, none⟩) (.inl (by show w.heap.size ≤ q; omega)) (.int .i64 (1000 + t + d))) (g := w.heap.size) (.inl (Nat.le_refl _)))
  have hS5 : Src B (w5.setCell ⟨q, 4, none⟩ (.int .i64 (1000 + t + d))) p := hs5.later (row := some q) (gb_setCell (gb_refl _ _) (.inr rfl) _) (fun k hk => by simp at hk; omega)
  have HSE : Hid (Src B ((w5.setCell ⟨q, 4, none⟩ (.int .i64 (1000 + t + d))).setRow w.heap.size #[.int .i64 x, .int .i64 y, .int .i64 z, .int .i64 (1000 + t), .int .i64 (1000 + t + d), .int .i64 (1 + n)]) p) := Lib.hid (hS5.later (row := some w.heap.size) ⟨rfl, rfl, rfl, by simp [World.setRow], fun i _ hr => setRow_far (fun e => hr (by rw [e]))⟩ (fun q hq => by simp at hq; omega))
  have HN := Lib.hid (setRow_at (cs := #[.int .i64 x, .int .i64 y, .int .i64 z, .int .i64 (1000 + t), .int .i64 (1000 + t + d), .int .i64 (1 + n)]) hR6)
  clear hd hg5 hs5 hB5 hR5 hS6 hR6 hS5 d3 c0 c1 c2 c3 c4 c5 wd
  go_wp2_with (with_reducible refine wpList_store_row rfl _ _ _ rfl w.heap.size #[.int .i64 x, .int .i64 y, .int .i64 z, .int .i64 (1000 + t), .int .i64 (1000 + t + d), .int .i64 (1 + n)] rfl rfl _ _ HR6.out (by kernel_rfl) rfl (by simp [Value.oneCell']) ?_)
  obtain ⟨e0, e1, e2, e3, e4, e5⟩ := six HN.out
  exact bodyPost_ret (v := .agg #[.int .i64 x, .int .i64 y, .int .i64 z, .int .i64 (1000 + t), .int .i64 (1000 + t + d), .int .i64 (1 + n)]) (by simp [results, Tryz.results16, go_sem, e0, e1, e2, e3, e4, e5]) rfl
    ⟨_, _, _, _, _, _, rfl, ⟨hx, by omega, by omega, by omega, by omega, by omega, by omega⟩, HSE.out, HGE.out⟩
end LPhase
section LProbA
open Go.RowKit Rg
/-- A phase of a problem that was drawn. -/
def goodPh (a : Ph) : Prop := placeIn 60 a.x a.y a.z ∧ 0 ≤ a.e ∧ a.e ≤ a.l ∧ a.l ≤ 2000000000000 ∧ 1 ≤ a.n ∧ a.n ≤ 4
/-- Where Problem's own blocks lie, and what they hold. -/
structure PrAt (w : World) (B p Q X : Nat) (x0 y0 z0 x1 y1 z1 step : Int) (ls hs : List Int) (vl vh : Value) (cap px py pz : Int) (l : List Ph) (vp : Value) (u : World) : Prop where
  res : u.heap[w.heap.size]? = some (.cells #[.int .i64 0, .int .i64 0, .int .i64 0, .int .i64 0, .int .i64 0, .int .i64 0, .int .i64 0, .slice none 0 0, .slice none 0 0, .slice none 0 0, .int .i64 0] 33 (0, 0))
  prob : u.heap[Q]? = some (.cells #[.int .i64 x0, .int .i64 y0, .int .i64 z0, .int .i64 x1, .int .i64 y1, .int .i64 z1, .int .i64 step, vl, vh, vp, .int .i64 cap] 33 (0, 0))
  pos : u.heap[X]? = some (.cells #[.int .i64 px, .int .i64 py, .int .i64 pz] 26 (0, 0))
  own : u.ownsRow (X + 1) 39 6 vp l.length (flatP l)
  low : Sl u vl ls
  high : Sl u vh hs
  lowAt : ∀ b off len cap, vl = .slice (some ⟨b, off, none⟩) len cap → w.heap.size < b ∧ b < Q
  highAt : ∀ b off len cap, vh = .slice (some ⟨b, off, none⟩) len cap → w.heap.size < b ∧ b < Q
  order : p < w.heap.size ∧ w.heap.size < Q ∧ Q < X
  src : Src B u p
  grown : w.grownBy u (some p)
section
variable {w : World} {B p Q X : Nat} {x0 y0 z0 x1 y1 z1 step : Int} {ls hs : List Int} {vl vh : Value} {cap px py pz : Int} {l : List Ph} {vp : Value} {u u' : World}
/-- One block a that is none of its own is written. -/
theorem PrAt.other {a : Nat} (h : PrAt w B p Q X x0 y0 z0 x1 y1 z1 step ls hs vl vh cap px py pz l vp u) (hg : u.grownBy u' (some a)) (ha : X < a) (hv : vp.ownBlock ≠ some a) : PrAt w B p Q X x0 y0 z0 x1 y1 z1 step ls hs vl vh cap px py pz l vp u' := by
  obtain ⟨o1, o2, o3⟩ := h.order
  refine ⟨block_keptp hg h.res (by omega), block_keptp hg h.prob (by omega), block_keptp hg h.pos (by omega), h.own.kept hg (.inr hv), h.low.later hg (fun b off len cap e _ => by have := (h.lowAt b off len cap e).2; simp; omega), h.high.later hg (fun b off len cap e _ => by have := (h.highAt b off len cap e).2; simp; omega), h.lowAt, h.highAt, h.order, h.src.later hg (fun q hq => by simp at hq; have := h.src.lt; omega), ?_⟩
  exact ⟨hg.os.trans h.grown.os, hg.tape.trans h.grown.tape, hg.output.trans h.grown.output, Nat.le_trans h.grown.size hg.size, fun i hi hr => (hg.block i (Nat.lt_of_lt_of_le hi h.grown.size) (by simp; omega)).trans (h.grown.block i hi hr)⟩
theorem PrAt.later (h : PrAt w B p Q X x0 y0 z0 x1 y1 z1 step ls hs vl vh cap px py pz l vp u) (hg : u.grownBy u' none) : PrAt w B p Q X x0 y0 z0 x1 y1 z1 step ls hs vl vh cap px py pz l vp u' :=
  ⟨block_kept hg h.res rfl, block_kept hg h.prob rfl, block_kept hg h.pos rfl, owns_keep h.own hg, h.low.after hg, h.high.after hg, h.lowAt, h.highAt, h.order, h.src.later hg (by simp), gb_trans h.grown (gb_none hg)⟩
theorem PrAt.draw (h : PrAt w B p Q X x0 y0 z0 x1 y1 z1 step ls hs vl vh cap px py pz l vp u) (hg : u.grownBy u' (some p)) (hs' : Src B u' p) : PrAt w B p Q X x0 y0 z0 x1 y1 z1 step ls hs vl vh cap px py pz l vp u' := by
  obtain ⟨o1, o2, o3⟩ := h.order
  exact ⟨block_keptp hg h.res (by omega), block_keptp hg h.prob (by omega), block_keptp hg h.pos (by omega), owns_keepp h.own hg (by omega), h.low.later hg (fun b off len cap e _ => by have := (h.lowAt b off len cap e).1; simp; omega), h.high.later hg (fun b off len cap e _ => by have := (h.highAt b off len cap e).1; simp; omega), h.lowAt, h.highAt, h.order, hs', gb_trans h.grown hg⟩
/-- The row of phases has grown, and its new value is stored. -/
theorem PrAt.push {a : Ph} {vp' : Value} (h : PrAt w B p Q X x0 y0 z0 x1 y1 z1 step ls hs vl vh cap px py pz l vp u) (hg : u.grownBy u' vp.ownBlock) (ho : u'.ownsRow (X + 1) 39 6 vp' (l.length + 1) (flatP l ++ a.cells)) :
    PrAt w B p Q X x0 y0 z0 x1 y1 z1 step ls hs vl vh cap px py pz (l ++ [a]) vp' (u'.setCell ⟨Q, 9, none⟩ vp') := by
  obtain ⟨o1, o2, o3⟩ := h.order
  have hne : ∀ b, vp.ownBlock = some b → X + 1 ≤ b := fun b hb => (h.own.lt b hb).1
  have far : ∀ {b : Nat} {o : Obj}, u.heap[b]? = some o → b ≤ X → u'.heap[b]? = some o := fun {b} {o} hb hX => by
    rw [hg.block b (Array.getElem?_eq_some_iff.1 hb).1 (fun e => by have := hne b e.symm; omega)]; exact hb
  have sgr : u'.grownBy (u'.setCell ⟨Q, 9, none⟩ vp') (some Q) := gb_setCell (gb_refl _ _) (.inr rfl) _
  refine ⟨(setCell_far (by show w.heap.size ≠ Q; omega)).trans (far h.res (by omega)), set_block (far h.prob (by omega)) 9 vp', (setCell_far (by show X ≠ Q; omega)).trans (far h.pos (by omega)), ?_, ?_, ?_, h.lowAt, h.highAt, h.order, ?_, ?_⟩
  · rw [List.length_append, show flatP (l ++ [a]) = flatP l ++ a.cells by simp [flatP]]
    exact ho.kept sgr (.inr (fun e => by have := (ho.lt Q e).1; omega))
  · exact (h.low.later hg (fun b off len cap e _ he => by have := hne b he.symm; have := (h.lowAt b off len cap e).2; omega)).later sgr (fun b off len cap e _ => by have := (h.lowAt b off len cap e).2; simp; omega)
  · exact (h.high.later hg (fun b off len cap e _ he => by have := hne b he.symm; have := (h.highAt b off len cap e).2; omega)).later sgr (fun b off len cap e _ => by have := (h.highAt b off len cap e).2; simp; omega)
  · exact (h.src.later hg (fun q hq => by have := hne q hq; have := h.src.lt; omega)).later sgr (fun q hq => by simp at hq; have := h.src.lt; omega)
  · exact ⟨hg.os.trans h.grown.os, hg.tape.trans h.grown.tape, hg.output.trans h.grown.output, Nat.le_trans h.grown.size (by simpa [World.setCell] using hg.size), fun i hi hr => by
      rw [setCell_far (by show i ≠ Q; omega), hg.block i (Nat.lt_of_lt_of_le hi h.grown.size) (fun e => by have := hne i e.symm; omega)]; exact h.grown.block i hi hr⟩
end
theorem Tryz.infoPhaseT : (Tryz.prog.info? 39).map (fun i => (i.zero, i.size, i.bytes)) = some (some (.agg #[.int .i64 0, .int .i64 0, .int .i64 0, .int .i64 0, .int .i64 0, .int .i64 0]), 6, 48) := by kernel_rfl
/-- What Problem returns. -/
def NewProb (B p : Nat) (side most : Int) (w : World) (e : Ending) (w' : World) : Prop :=
  ∃ (P : Prob) (vl vh vp : Value), e = .returned (.agg (P.val vl vh vp)) ∧ boxIn 20 side P.x0 P.y0 P.z0 P.x1 P.y1 P.z1 ∧ tOk P.step P.ls P.hs ∧ (400 ≤ reachS P.step P.ls ∧ reachS P.step P.ls ≤ 2200) ∧ P.ls.length ≤ 23 ∧ P.cap ∈ ([10, 50, 200, 1000] : List Int) ∧ (0 < P.phs.length ∧ (P.phs.length : Int) ≤ most) ∧ (∀ a ∈ P.phs, goodPh a) ∧
    ProbIn P vl vh vp w' ∧ (∀ v, v = vl ∨ v = vh ∨ v = vp → ∀ b off len cap, v = .slice (some ⟨b, off, none⟩) len cap → w.heap.size ≤ b) ∧ Src B w' p ∧ w.grownBy w' (some p)
theorem sqk_any (n : Int) (w : World) (h1 : -4194304 ≤ n) (h2 : n ≤ 4194304) :
    Calls Tryz.prog 17 #[.int .i64 n] w fun e w' => e = .returned (.int .i64 (n * n)) ∧ w = w' := by
  obtain ⟨s0, s1, s2⟩ := sq_small (d := n) h1 h2
  generalize hq : n * n = q at *
  go_enter Tryz.func17, Tryz.ntmps17
  go_wp2
  go_ret
  exact ⟨rfl, rfl⟩
end LProbA
section LProb
open Go.RowKit Rg
theorem PrAt.prob9 {w : World} {B p Q X : Nat} {x0 y0 z0 x1 y1 z1 step : Int} {ls hs : List Int} {vl vh : Value} {cap px py pz : Int} {l : List Ph} {vp : Value} {u u' : World} (h : PrAt w B p Q X x0 y0 z0 x1 y1 z1 step ls hs vl vh cap px py pz l vp u) (hg : u.grownBy u' vp.ownBlock) :
    u'.heap[Q]? = some (.cells #[.int .i64 x0, .int .i64 y0, .int .i64 z0, .int .i64 x1, .int .i64 y1, .int .i64 z1, .int .i64 step, vl, vh, vp, .int .i64 cap] 33 (0, 0)) := by
  rw [hg.block Q (Array.getElem?_eq_some_iff.1 h.prob).1 (fun e => by have := (h.own.lt Q e.symm).1; have := h.order; omega)]; exact h.prob
theorem PrAt.fro {w : World} {B p Q X o : Nat} {x0 y0 z0 x1 y1 z1 step : Int} {ls hs : List Int} {vl vh : Value} {cap px py pz : Int} {l : List Ph} {vp : Value} {u u' : World} (h : PrAt w B p Q X x0 y0 z0 x1 y1 z1 step ls hs vl vh cap px py pz l vp u) (hg : u.grownBy u' vp.ownBlock) :
    u'.frozen? ⟨Q, o, none⟩ = false := by simp [World.frozen?, h.prob9 hg]
theorem PrAt.nine {w : World} {B p Q X : Nat} {x0 y0 z0 x1 y1 z1 step : Int} {ls hs : List Int} {vl vh : Value} {cap px py pz : Int} {l : List Ph} {vp : Value} {u u' : World} (h : PrAt w B p Q X x0 y0 z0 x1 y1 z1 step ls hs vl vh cap px py pz l vp u) (hg : u.grownBy u' vp.ownBlock) :
    u'.cell? ⟨Q, 9, none⟩ = some vp := by simp [World.cell?, h.prob9 hg]
set_option maxRecDepth 100000 in
set_option maxHeartbeats 4000000 in
theorem problem_any (B : Nat) (w : World) (p : Nat) (side most : Int) (h : Src B w p) (hs0 : 0 ≤ side) (hs1 : side ≤ 40) (hm0 : 1 ≤ most) (hm1 : most ≤ 30) :
    Calls Tryz.prog 5 #[.pointer (some ⟨p, 0, none⟩), .int .i64 side, .int .i64 most] w (NewProb B p side most w) := by
  have hp := h.lt
  have hg0 := gb_alloc (gb_refl w none) (.cells #[.int .i64 0, .int .i64 0, .int .i64 0, .int .i64 0, .int .i64 0, .int .i64 0, .int .i64 0, .slice none 0 0, .slice none 0 0, .slice none 0 0, .int .i64 0] 33)
  have S0 := Lib.hid (h.later hg0 (by simp))
  have G0 := Lib.hid (gb_none (row := some p) hg0)
  have R0 := Lib.hid (heap_alloc_new w (.cells #[.int .i64 0, .int .i64 0, .int .i64 0, .int .i64 0, .int .i64 0, .int .i64 0, .int .i64 0, .slice none 0 0, .slice none 0 0, .slice none 0 0, .int .i64 0] 33))
  clear h hg0
  go_enter Tryz.func5, Tryz.ntmps5
  go_wp2_with fail
  (with_reducible refine (box_any B _ p 20 side S0.out (by omega) (by omega) (by omega) (by omega)).mono ?_)
  rintro e w1 ⟨x0, y0, z0, x1, y1, z1, rfl, hB, hS, hg⟩
  have HB := Lib.hid hB; have S1 := Lib.hid hS; have R1 := Lib.hid (block_keptp hg R0.out (by omega)); have G1 := Lib.hid (gb_trans G0.out hg)
  clear hS hg hB S0 R0 G0
  go_wp2_with fail
  (with_reducible refine (table_any B w1 p S1.out).mono ?_)
  rintro e w2 ⟨step, vl, vh, ls, hs, rfl, hT, hst, hre, hln, ol, oh, -, hS, hg⟩
  have hsz1 : w.heap.size < w1.heap.size := block_lt' R1.out
  have S2 := Lib.hid hS; have R2 := Lib.hid (block_keptp hg R1.out (by omega)); have G2 := Lib.hid (gb_trans G1.out hg)
  have LA := Lib.hid (fun (v : Value) (xs : List Int) (ho : w2.ownsRow w1.heap.size 3 1 v xs.length (xs.map (Value.int .i64))) => (show ∀ b off len cap, v = .slice (some ⟨b, off, none⟩) len cap → w.heap.size < b ∧ b < w2.heap.size from fun b off len cap e => by
    subst e
    rcases ho.2 with ⟨e, -⟩ | ⟨gg, cap', cur, e, hb, hgg, -⟩
    · simp at e
    · simp at e; have := block_lt' hgg; omega))
  have L2 := Lib.hid (LA.out vl ls ol); have H2 := Lib.hid (LA.out vh hs oh)
  have SL := Lib.hid (Sl_of_owns ol rfl); have SH := Lib.hid (Sl_of_owns oh rfl)
  have HT := Lib.hid hT; have HR := Lib.hid (reach_small hT.1 hst hre hln); have HLN := Lib.hid hln; have HST := Lib.hid hst
  obtain ⟨gl, goff, lc, rfl, -⟩ := SL.out.block (by have := hT.2.2.2.1; omega); obtain ⟨ha, hn, hc, rfl⟩ := sl_slice SH.out
  clear hS hg ol oh hT hst hre hln S1 R1 G1 LA
  have hsz2 := G2.out.size
  have hg3 := gb_alloc (gb_refl w2 none) (.cells ([10, 50, 200, 1000].map (Value.int .i64)).toArray 3)
  have S3 := Lib.hid (S2.out.later hg3 (by simp)); have hp2 := S2.out.lt.2
  go_wp2_with fail
  (with_reducible refine (pick4_any B w2 p 10 50 200 1000 3 S2.out w2.heap.size rfl).mono ?_)
  rintro e w4 ⟨cap, rfl, hcap, hS, hg⟩
  have HCAP : Hid (cap ∈ ([10, 50, 200, 1000] : List Int)) := Lib.hid (by simpa using hcap)
  have hRW := block_lt' R2.out
  have hg4 := gb_alloc (gb_refl w4 none) (.cells #[.int .i64 x0, .int .i64 y0, .int .i64 z0, .int .i64 x1, .int .i64 y1, .int .i64 z1, .int .i64 step, .slice (some ⟨gl, goff, none⟩) ls.length lc, .slice ha hn hc, .slice none 0 0, .int .i64 cap] 33)
  have hLh : ∀ (v : Value) (xs : List Int), Sl w2 v xs → (∀ b off len cap, v = .slice (some ⟨b, off, none⟩) len cap → w.heap.size < b ∧ b < w2.heap.size) → Sl (w4.alloc (.cells #[.int .i64 x0, .int .i64 y0, .int .i64 z0, .int .i64 x1, .int .i64 y1, .int .i64 z1, .int .i64 step, .slice (some ⟨gl, goff, none⟩) ls.length lc, .slice ha hn hc, .slice none 0 0, .int .i64 cap] 33)) v xs := fun v xs h hb => ((h.after hg3).later hg (fun b off len cap e _ => by have := (hb b off len cap e).1; simp; omega)).after hg4
  have SL4 := Lib.hid (hLh _ _ SL.out L2.out); have SH4 := Lib.hid (hLh _ _ SH.out H2.out)
  have S4 := Lib.hid (hS.later hg4 (by simp)); have R4 := Lib.hid (block_kept hg4 (block_keptp hg (block_kept hg3 R2.out rfl) (by omega)) rfl); have G4 := Lib.hid (gb_trans (gb_trans (gb_trans G2.out (gb_none hg3)) hg) (gb_none hg4))
  have Q4 := Lib.hid (heap_alloc_new w4 (.cells #[.int .i64 x0, .int .i64 y0, .int .i64 z0, .int .i64 x1, .int .i64 y1, .int .i64 z1, .int .i64 step, .slice (some ⟨gl, goff, none⟩) ls.length lc, .slice ha hn hc, .slice none 0 0, .int .i64 cap] 33))
  have hsz4 : w2.heap.size < w4.heap.size := by have := hg.size; simp at this; omega
  clear hcap hS hg hg3 hg4 S2 S3 R2 G2 SL SH hLh
  have e_ := fun (k : Nat) (v : Value) hk => cell_of Q4.out k v hk
  have e0_ := e_ 0 _ rfl; have e1_ := e_ 1 _ rfl; have e2_ := e_ 2 _ rfl; have e3_ := e_ 3 _ rfl; have e4_ := e_ 4 _ rfl; have e5_ := e_ 5 _ rfl
  go_wp2_with fail
  clear e_
  generalize w4.alloc (.cells #[.int .i64 x0, .int .i64 y0, .int .i64 z0, .int .i64 x1, .int .i64 y1, .int .i64 z1, .int .i64 step, .slice (some ⟨gl, goff, none⟩) ls.length lc, .slice ha hn hc, .slice none 0 0, .int .i64 cap] 33) = w5 at *
  have hB := HB.out
  unfold boxIn placeIn at hB
  (with_reducible refine (point_any B w5 p x0 y0 z0 x1 y1 z1 S4.out (by omega) (by omega) (by omega)).mono ?_)
  rintro e w6 ⟨px, py, pz, rfl, hq, hS, hg⟩
  have HQ := Lib.hid hq; have S6 := Lib.hid hS; have R6 := Lib.hid (block_keptp hg R4.out (by omega)); have Q6 := Lib.hid (block_keptp hg Q4.out (by omega)); have G6 := Lib.hid (gb_trans G4.out hg)
  have SL6 := Lib.hid (SL4.out.later hg (fun b off len cap e _ => by have := (L2.out b off len cap e).1; simp; omega)); have SH6 := Lib.hid (SH4.out.later hg (fun b off len cap e _ => by have := (H2.out b off len cap e).1; simp; omega))
  clear hq hS hg e0_ e1_ e2_ e3_ e4_ e5_ hB S4 R4 Q4 G4 SL4 SH4
  go_wp2_with fail
  (with_reducible refine (n_any B w6 p 500 S6.out (by omega) (by omega)).mono ?_)
  rintro e w7 ⟨tn, rfl, htn, hS, hg⟩
  have hgX := gb_alloc (gb_refl w7 none) (.cells #[.int .i64 px, .int .i64 py, .int .i64 pz] 26)
  have S8 := Lib.hid (hS.later hgX (by simp)); have R8 := Lib.hid (block_kept hgX (block_keptp hg R6.out (by omega)) rfl); have Q8 := Lib.hid (block_kept hgX (block_keptp hg Q6.out (by omega)) rfl); have G8 := Lib.hid (gb_trans (gb_trans G6.out hg) (gb_none hgX))
  have SL8 := Lib.hid ((SL6.out.later hg (fun b off len cap e _ => by have := (L2.out b off len cap e).1; simp; omega)).after hgX); have SH8 := Lib.hid ((SH6.out.later hg (fun b off len cap e _ => by have := (H2.out b off len cap e).1; simp; omega)).after hgX)
  have X8 := Lib.hid (heap_alloc_new w7 (.cells #[.int .i64 px, .int .i64 py, .int .i64 pz] 26))
  have hszX : w4.heap.size < w7.heap.size := by have := block_lt' Q6.out; have := hg.size; omega
  clear hS hg hgX S6 R6 Q6 G6 SL6 SH6
  go_wp2_with fail
  generalize w7.alloc (.cells #[.int .i64 px, .int .i64 py, .int .i64 pz] 26) = w8 at *
  generalize hXX : w7.heap.size = X at *
  generalize hQQ : w4.heap.size = Q at *
  clear hXX hQQ
  (with_reducible refine (n_any B w8 p most S8.out (by omega) (by omega)).mono ?_)
  rintro e w9 ⟨kn, rfl, hkn, hS, hg⟩
  have M0 : Hid (PrAt w B p Q X x0 y0 z0 x1 y1 z1 step ls hs (.slice (some ⟨gl, goff, none⟩) ls.length lc) (.slice ha hn hc) cap px py pz [] (.slice none 0 0) w9) := Lib.hid ⟨block_keptp hg R8.out (by omega), block_keptp hg Q8.out (by omega), block_keptp hg X8.out (by omega), World.ownsRow_nil _ _ _ _, SL8.out.later hg (fun b off len cap e _ => by have := (L2.out b off len cap e).1; simp; omega), SH8.out.later hg (fun b off len cap e _ => by have := (H2.out b off len cap e).1; simp; omega), fun b off len cap e => by have := L2.out b off len cap e; omega, fun b off len cap e => by have := H2.out b off len cap e; omega, ⟨by omega, by omega, by omega⟩, hS, gb_trans G8.out hg⟩
  clear hS hg S8 R8 Q8 X8 G8 SL8 SH8 L2 H2 hsz1 hsz2 hp2 hRW hsz4 hszX
  go_wp2_with fail
  go_loopw [10] (fun k wr => ∃ (m : Nat) (l : List Ph) (vp : Value), k = .int .i64 m ∧ (l.length : Int) + m = 1 + kn ∧ (∀ a ∈ l, goodPh a) ∧ PrAt w B p Q X x0 y0 z0 x1 y1 z1 step ls hs (.slice (some ⟨gl, goff, none⟩) ls.length lc) (.slice ha hn hc) cap px py pz l vp wr) (fun k _ => (intOf k).toNat)
  case atStart => exact ⟨(1 + kn).toNat, [], .slice none 0 0, by rw [Int.toNat_of_nonneg (by omega)], by simp; omega, by simp, M0.out⟩
  case round =>
    obtain ⟨m, l, vp, rfl, hlm, hgood, hM⟩ := hrel
    have MR := Lib.hid hM; have GOOD := Lib.hid hgood
    obtain ⟨oa, oc, rfl⟩ := owns_slice hM.own
    clear hM hgood M0
    by_cases hm : 0 < m
    · go_wp2_with fail
      (with_reducible refine (phase_any B wr p MR.out.src).mono ?_)
      rintro e w10 ⟨ax, ay, az, ae, al, an, rfl, hph, hS, hg⟩
      have hvb : (Value.slice oa l.length oc).ownBlock ≠ some w10.heap.size := fun e => by have := (MR.out.own.lt _ e).2; have := hg.size; omega
      have hXA : X < w10.heap.size := by have := block_lt' MR.out.pos; have := hg.size; omega
      have M1 := Lib.hid ((MR.out.draw hg hS).later (gb_alloc (gb_refl w10 none) (.cells #[.int .i64 ax, .int .i64 ay, .int .i64 az, .int .i64 ae, .int .i64 al, .int .i64 an] 39)))
      have A1 := Lib.hid (heap_alloc_new w10 (.cells #[.int .i64 ax, .int .i64 ay, .int .i64 az, .int .i64 ae, .int .i64 al, .int .i64 an] 39))
      clear hS hg MR
      go_wp2_with fail
      generalize w10.alloc (.cells #[.int .i64 ax, .int .i64 ay, .int .i64 az, .int .i64 ae, .int .i64 al, .int .i64 an] 39) = w11 at *
      generalize w10.heap.size = A at *
      (with_reducible refine (n_any B w11 p 4 M1.out.src (by omega) (by omega)).mono ?_)
      rintro e w12 ⟨k4, rfl, hk4, hS, hg⟩
      have hAp : A ≠ p := by have := M1.out.order; omega
      have M2 := Lib.hid (M1.out.draw hg hS); have A2 := Lib.hid (block_keptp hg A1.out hAp)
      clear hS hg M1 A1
      by_cases hk0 : 0 < k4
      rotate_left
      · skip
        have hlen6 : (flatP l).length = l.length * 6 := flatP_length l
        have hown := M2.out.own
        have AL := Lib.hid (block_lt' A2.out)
        have PUSH := Lib.hid (fun (v' : Value) (u' : World) (h : u'.ownsRow (X + 1) 39 6 v' (l.length + 1) (flatP l ++ [.int .i64 ax, .int .i64 ay, .int .i64 az, .int .i64 ae, .int .i64 al, .int .i64 an])) (hg : (w12.alloc (.cells #[.int .i64 ax, .int .i64 ay, .int .i64 az, .int .i64 ae, .int .i64 al, .int .i64 an] 39)).grownBy u' (Value.slice oa l.length oc).ownBlock) =>
          PrAt.push (a := ⟨ax, ay, az, ae, al, an⟩) (M2.out.later (gb_alloc (gb_refl _ _) (.cells #[.int .i64 ax, .int .i64 ay, .int .i64 az, .int .i64 ae, .int .i64 al, .int .i64 an] 39))) hg h)
        have PQ := M2.out.prob
        have q0_ := cell_of PQ 0 _ rfl; have q1_ := cell_of PQ 1 _ rfl; have q2_ := cell_of PQ 2 _ rfl; have q3_ := cell_of PQ 3 _ rfl; have q4_ := cell_of PQ 4 _ rfl; have q5_ := cell_of PQ 5 _ rfl; have q6_ := cell_of PQ 6 _ rfl; have q7_ := cell_of PQ 7 _ rfl; have q8_ := cell_of PQ 8 _ rfl; have q9_ := cell_of PQ 9 _ rfl; have q10_ := cell_of PQ 10 _ rfl
        have hXu := Nat.lt_of_lt_of_le AL.out (Nat.le_refl w12.heap.size)
        have HQX := Lib.hid M2.out.order
        have HPX := Lib.hid (block_lt' M2.out.pos)
        obtain ⟨k0, k1, k2, k3, k4, k5⟩ := six A2.out
        go_wp2_with (at_builtin; refine wpList_push rfl _ _ 31 rfl (X + 1) 39 (.agg #[.int .i64 0, .int .i64 0, .int .i64 0, .int .i64 0, .int .i64 0, .int .i64 0]) 6 48 Tryz.underlying31 Tryz.infoPhaseT rfl (by decide) (by decide) _ _ _ rfl (hown.alloc _) w12.heap.size 1 [.int .i64 ax, .int .i64 ay, .int .i64 az, .int .i64 ae, .int .i64 al, .int .i64 an] 39 rfl (heap_alloc_new _ _) rfl (by simp [Value.oneCell']) (by omega) (by have := HPX.out; simp; omega) ?_; intro v' w9 hown' hg'; obtain ⟨na, nc, rfl⟩ := owns_slice hown'; have HN := Lib.hid (PUSH.out _ w9 hown' hg'); have hqf := PrAt.fro ((M2.out.later (gb_alloc (gb_refl _ _) (.cells #[.int .i64 ax, .int .i64 ay, .int .i64 az, .int .i64 ae, .int .i64 al, .int .i64 an] 39)))) hg' (o := 9); have hqc := PrAt.nine ((M2.out.later (gb_alloc (gb_refl _ _) (.cells #[.int .i64 ax, .int .i64 ay, .int .i64 az, .int .i64 ae, .int .i64 al, .int .i64 an] 39)))) hg'; clear hown' hg')
        go_roundw
        case rel =>
          refine ⟨m - 1, l ++ [⟨ax, ay, az, ae, al, an⟩], _, by congr 1; omega, by simp; omega, ?_, HN.out⟩
          intro a ha
          rcases List.mem_append.1 ha with h | h
          · exact GOOD.out a h
          · rw [List.mem_singleton.1 h]; exact (by unfold phaseIn at hph; exact ⟨hph.1, by show 0 ≤ ae; omega, by show ae ≤ al; omega, by show al ≤ _; omega, by show 1 ≤ an; omega, by show an ≤ 4; omega⟩)
        case measure => simp [intOf]; omega
      · skip
        have hBx := HB.out; have hQx := HQ.out
        unfold boxIn placeIn at hBx
        unfold phaseIn placeIn at hph
        have vx : -120 ≤ ax - px ∧ ax - px ≤ 120 := by omega
        have vy : -120 ≤ ay - py ∧ ay - py ≤ 120 := by omega
        have vz : -60 ≤ az - pz ∧ az - pz ≤ 60 := by omega
        clear hBx hQx
        have sx := sq_abs vx.1 vx.2; have sy := sq_abs vy.1 vy.2; have sz := sq_abs vz.1 vz.2
        have nx := sq_nn (ax - px); have ny := sq_nn (ay - py); have nz := sq_nn (az - pz)
        have SX := Lib.hid (fun (u : World) => sqk_any (ax - px) u (by omega) (by omega))
        have SY := Lib.hid (fun (u : World) => sqk_any (ay - py) u (by omega) (by omega))
        have SZ := Lib.hid (fun (u : World) => sqk_any (az - pz) u (by omega) (by omega))
        generalize (ax - px) * (ax - px) = qx at *
        generalize (ay - py) * (ay - py) = qy at *
        generalize (az - pz) * (az - pz) = qz at *
        have hAlt := block_lt' A2.out; have hXlt := block_lt' M2.out.pos
        go_wp2_with fail
        go_loopw [12] (fun v wr => ∃ d : Nat, d ≤ 200 ∧ v = .int .i64 d ∧ (d = 0 ∨ ((d : Int) - 1) * ((d : Int) - 1) < qx + qy + qz) ∧ w12.grownBy wr none) (fun v _ => 201 - (intOf v).toNat)
        case atStart => exact ⟨0, by omega, rfl, .inl rfl, gb_refl _ _⟩
        case round =>
          obtain ⟨d, hd, rfl, hdl, hgr⟩ := hrel
          have hdd0 := sq_nn (d : Int)
          have hdd1 := sq_abs (d := (d : Int)) (m := 200) (by omega) (by omega)
          have HSM : Hid (d = 200 → qx + qy + qz ≤ 199 * 199) := Lib.hid (fun _ => by omega)
          have HD2 : Hid (((d : Int) + 1 - 1) * ((d : Int) + 1 - 1) = (d : Int) * (d : Int)) := Lib.hid (by rw [Int.add_sub_cancel])
          have HLD : Hid (qx + qy + qz ≤ (d : Int) * (d : Int) ∨ ((d : Int) * (d : Int) < qx + qy + qz ∧ d < 200)) := Lib.hid (by
            rcases Int.lt_or_le ((d : Int) * (d : Int)) (qx + qy + qz) with h | h
            · right
              refine ⟨h, ?_⟩
              rcases Nat.lt_or_ge d 200 with h2 | h2
              · exact h2
              · exfalso
                have : (d : Int) = 200 := by omega
                rw [this] at h; omega
            · exact .inl h)
          have wdd : wrap64 ((d : Int) * (d : Int)) = (d : Int) * (d : Int) := IntWalk.wrap64_in _ (by omega)
          have MR := Lib.hid (M2.out.later hgr); have AR := Lib.hid (block_kept hgr A2.out rfl)
          have HGR := Lib.hid hgr
          obtain ⟨a0_, a1_, a2_, a3_, a4_, a5_⟩ := six AR.out
          obtain ⟨x0_, x1_, x2_⟩ := cells3 MR.out.pos
          have u1 := fun (x : Up wr) (c : Nat) => ever_cell x (b := A) (o := c) (block_lt' AR.out)
          have u2 := fun (x : Up wr) (c : Nat) => ever_cell x (b := X) (o := c) (block_lt' MR.out.pos)
          clear hgr hdl
          generalize hdd : (d : Int) * (d : Int) = dd at *
          rcases HLD.out with hle | ⟨hlt, hd2⟩
          rotate_left
          · go_wp2_with fail
            (refine wp_region_grown (by kernel_rfl) (by kernel_rfl) ?_; (repeat (go_big_quiet_step ((go_at_call 17; first | (with_reducible exact Calls.grown_same (SX.out _)) | (with_reducible exact Calls.grown_same (SY.out _)) | (with_reducible exact Calls.grown_same (SZ.out _)))))); refine wpQuiet_nil ?_; intro wq hq)
            have HGN := Lib.hid (gb_trans HGR.out hq)
            clear hq u1 u2 a0_ a1_ a2_ a3_ a4_ a5_ x0_ x1_ x2_
            go_wp2_with fail
            go_roundw
            case rel => exact ⟨d + 1, by omega, by go_num, .inr (by push_cast; rw [HD2.out]; exact hlt), HGN.out⟩
            case measure => simp [intOf]; omega
          · go_wp2_with fail
            (refine wp_region_grown (by kernel_rfl) (by kernel_rfl) ?_; (repeat (go_big_quiet_step ((go_at_call 17; first | (with_reducible exact Calls.grown_same (SX.out _)) | (with_reducible exact Calls.grown_same (SY.out _)) | (with_reducible exact Calls.grown_same (SZ.out _)))))); refine wpQuiet_nil ?_; intro wq hq)
            have M3 := Lib.hid (MR.out.later hq); have A3 := Lib.hid (block_kept hq AR.out rfl)
            go_wp2_with fail
            clear hq u1 u2 a0_ a1_ a2_ a3_ a4_ a5_ x0_ x1_ x2_ MR AR HGR hle HLD HSM HD2 hdd hdd0 hdd1 wdd SX SY SZ sx sy sz nx ny nz M2 A2
            generalize wq = w13 at *
            obtain ⟨t1, t2, t3, t4, t5, -⟩ := HT.out
            have hrs := HR.out.1
            unfold reachS at hrs
            obtain ⟨di1, di2⟩ := loI_spec (d := (d : Int)) (n := ls.length) t1 (by omega) (by omega) t4
            have htv := tOk_at HT.out di2
            obtain ⟨gl', goff', gcap', hlv, hgl, hgc, hgm, hgcell⟩ := M3.out.low.block (by omega)
            simp only [Value.slice.injEq, Option.some.injEq, Addr.mk.injEq, true_and, and_true] at hlv
            obtain ⟨⟨rfl, rfl⟩, rfl⟩ := hlv
            have hgi := hgcell _ di2
            have hgp : gl ≠ p := by have := (M3.out.lowAt _ _ _ _ rfl).1; have := M3.out.order; omega
            clear hgcell t2 t3 t4 t5 hrs
            generalize loI step (d : Int) = i at *
            generalize at0 ls i = tv at *
            generalize at0 hs i = tvh at *
            have pq := M3.out.prob
            have q6_ := cell_of pq 6 _ rfl; have q7_ := cell_of pq 7 _ rfl
            have hQl := block_lt' pq
            have hQp : Q ≠ p := by have := M3.out.order; omega
            have d6 := Pulled.cell (B := B) (p := p) q6_ hQl hQp; have d7 := Pulled.cell (B := B) (p := p) q7_ hQl hQp
            have dgi := Pulled.cell (B := B) (p := p) hgi hgl hgp
            clear pq
            have we : IntKind.i64.wrap (1000 + tn + tv) = 1000 + tn + tv := by rw [IntKind.wrap_i64]; omega
            refine Rg.region (Pulled w13 B p) (Pull p) (fun k => if k = 13 then some (isInt fun x => 0 ≤ x ∧ x < 6) else none) (fun _ => false) 0 15 (by kernel_rfl) (by kernel_rfl) (by kernel_rfl) (by kernel_rfl) (by kernel_rfl) (by kernel_rfl) (by kernel_rfl) Pull.size (Pulled.start M3.out.src) (fun hne => ?_)
            (repeat (refine rLexL_quiet (by rfl) (by rfl) (by rfl) (by rfl) ?_; go_big_quiet_step (fail); refine wpQuiet_nil ?_))
            refine rg_draw (fun x => 0 ≤ x ∧ x < 6) 15 #[.pointer (some ⟨p, 0, none⟩), .int .i64 6] rfl rfl (fun _ => by go_simp) (fun u hu _ => n_any B u p _ hu.2 (by omega) (by omega)) (fun n6 hn6 => ?_)
            simp only [Act.put, List.setIfInBounds_toArray, List.set_cons_zero, List.set_cons_succ]
            have wf : IntKind.i64.wrap (1000 + tn + tv + n6) = 1000 + tn + tv + n6 := by rw [IntKind.wrap_i64]; omega
            (repeat (refine rLexL_quiet (by rfl) (by rfl) (by rfl) (by rfl) ?_; go_big_quiet_step (fail); refine wpQuiet_nil ?_))
            rintro w14 ⟨hg14, hs14⟩ - -
            have M4 := Lib.hid (M3.out.draw hg14 hs14)
            have hA4 := block_keptp hg14 A3.out hAp
            have hF4 := frozen3 hA4
            obtain ⟨b0_, b1_, b2_, b3_, b4_, b5_⟩ := six hA4
            have A5 := Lib.hid (set_block hA4 3 (.int .i64 (1000 + tn + tv + n6)))
            have M5 := Lib.hid (M4.out.other (a := A) (gb_setCell (gb_refl w14 _) (a := ⟨A, 3, none⟩) (.inr rfl) (.int .i64 (1000 + tn + tv + n6))) hXA hvb)
            clear hg14 hs14 hA4 M3 A3 M4 d6 d7 dgi q6_ q7_ hne we wf hgi
            go_wp2_with fail
            generalize w14.setCell ⟨A, 3, none⟩ (.int .i64 (1000 + tn + tv + n6)) = w15 at *
            clear hF4 b0_ b1_ b2_ b3_ b4_ b5_
            obtain ⟨E, hE, hE0, hE1⟩ : ∃ E : Int, E = 1000 + tn + tv + n6 ∧ 0 ≤ E ∧ E ≤ 1199511627776 := ⟨_, rfl, by omega, by omega⟩
            rw [← hE] at A5
            clear hE
            obtain ⟨s0_, s1_, s2_, s3_, s4_, s5_⟩ := six A5.out
            have d3 := Pulled.cell (B := B) (p := p) s3_ (block_lt' A5.out) hAp
            refine Rg.region (Pulled w15 B p) (Pull p) (fun k => if k = 3 then some (isInt fun x => 0 ≤ x ∧ x < 8) else none) (fun _ => false) 0 5 (by kernel_rfl) (by kernel_rfl) (by kernel_rfl) (by kernel_rfl) (by kernel_rfl) (by kernel_rfl) (by kernel_rfl) Pull.size (Pulled.start M5.out.src) (fun hne => ?_)
            (repeat (refine rLexL_quiet (by rfl) (by rfl) (by rfl) (by rfl) ?_; go_big_quiet_step (fail); refine wpQuiet_nil ?_))
            refine rg_draw (fun x => 0 ≤ x ∧ x < 8) 15 #[.pointer (some ⟨p, 0, none⟩), .int .i64 8] rfl rfl (fun _ => by go_simp) (fun u hu _ => n_any B u p _ hu.2 (by omega) (by omega)) (fun n8 hn8 => ?_)
            simp only [Act.put, List.setIfInBounds_toArray, List.set_cons_zero, List.set_cons_succ]
            have wg : IntKind.i64.wrap (E + n8) = E + n8 := by rw [IntKind.wrap_i64]; omega
            (repeat (refine rLexL_quiet (by rfl) (by rfl) (by rfl) (by rfl) ?_; go_big_quiet_step (fail); refine wpQuiet_nil ?_))
            rintro w16 ⟨hg16, hs16⟩ - -
            have M6 := Lib.hid (M5.out.draw hg16 hs16)
            have hA6 := block_keptp hg16 A5.out hAp
            have hF6 := frozen3 hA6
            obtain ⟨b0_, b1_, b2_, b3_, b4_, b5_⟩ := six hA6
            have hsz : (w16.setCell ⟨A, 4, none⟩ (.int .i64 (E + n8))).heap.size = w16.heap.size := by simp [World.setCell]
            have A7 := Lib.hid (set_block hA6 4 (.int .i64 (E + n8)))
            have M7 := Lib.hid (M6.out.other (a := A) (gb_setCell (gb_refl w16 _) (a := ⟨A, 4, none⟩) (.inr rfl) (.int .i64 (E + n8))) hXA hvb)
            clear hg16 hs16 hA6 M5 A5 M6 d3 s0_ s1_ s2_ s3_ s4_ s5_ hne wg
            have hlen6 : (flatP l).length = l.length * 6 := flatP_length l
            have hown := M7.out.own
            have AL := Lib.hid (block_lt' A7.out)
            have PUSH := Lib.hid (fun (v' : Value) (u' : World) (h : u'.ownsRow (X + 1) 39 6 v' (l.length + 1) (flatP l ++ [.int .i64 ax, .int .i64 ay, .int .i64 az, .int .i64 E, .int .i64 (E + n8), .int .i64 an])) (hg : ((w16.setCell ⟨A, 4, none⟩ (.int .i64 (E + n8))).alloc (.cells #[.int .i64 ax, .int .i64 ay, .int .i64 az, .int .i64 E, .int .i64 (E + n8), .int .i64 an] 39)).grownBy u' (Value.slice oa l.length oc).ownBlock) =>
              PrAt.push (a := ⟨ax, ay, az, E, (E + n8), an⟩) (M7.out.later (gb_alloc (gb_refl _ _) (.cells #[.int .i64 ax, .int .i64 ay, .int .i64 az, .int .i64 E, .int .i64 (E + n8), .int .i64 an] 39))) hg h)
            have PQ := M7.out.prob
            have q0_ := cell_of PQ 0 _ rfl; have q1_ := cell_of PQ 1 _ rfl; have q2_ := cell_of PQ 2 _ rfl; have q3_ := cell_of PQ 3 _ rfl; have q4_ := cell_of PQ 4 _ rfl; have q5_ := cell_of PQ 5 _ rfl; have q6_ := cell_of PQ 6 _ rfl; have q7_ := cell_of PQ 7 _ rfl; have q8_ := cell_of PQ 8 _ rfl; have q9_ := cell_of PQ 9 _ rfl; have q10_ := cell_of PQ 10 _ rfl
            have hXu := Nat.lt_of_lt_of_le AL.out (Nat.le_refl (w16.setCell ⟨A, 4, none⟩ (.int .i64 (E + n8))).heap.size)
            have HQX := Lib.hid M7.out.order
            have HPX := Lib.hid (block_lt' M7.out.pos)
            obtain ⟨k0, k1, k2, k3, k4, k5⟩ := six A7.out
            go_wp2_with (at_builtin; generalize w16.setCell ⟨A, 4, none⟩ (.int .i64 (E + n8)) = w17 at *; refine wpList_push rfl _ _ 31 rfl (X + 1) 39 (.agg #[.int .i64 0, .int .i64 0, .int .i64 0, .int .i64 0, .int .i64 0, .int .i64 0]) 6 48 Tryz.underlying31 Tryz.infoPhaseT rfl (by decide) (by decide) _ _ _ rfl (hown.alloc _) w16.heap.size 1 [.int .i64 ax, .int .i64 ay, .int .i64 az, .int .i64 E, .int .i64 (E + n8), .int .i64 an] 39 rfl (by rw [← hsz]; exact heap_alloc_new _ _) rfl (by simp [Value.oneCell']) (by omega) (by have := HPX.out; simp; omega) ?_; intro v' w9 hown' hg'; obtain ⟨na, nc, rfl⟩ := owns_slice hown'; have HN := Lib.hid (PUSH.out _ w9 hown' hg'); have hqf := PrAt.fro ((M7.out.later (gb_alloc (gb_refl _ _) (.cells #[.int .i64 ax, .int .i64 ay, .int .i64 az, .int .i64 E, .int .i64 (E + n8), .int .i64 an] 39)))) hg' (o := 9); have hqc := PrAt.nine ((M7.out.later (gb_alloc (gb_refl _ _) (.cells #[.int .i64 ax, .int .i64 ay, .int .i64 az, .int .i64 E, .int .i64 (E + n8), .int .i64 an] 39)))) hg'; clear hown' hg')
            go_roundw
            case rel =>
              refine ⟨m - 1, l ++ [⟨ax, ay, az, E, (E + n8), an⟩], _, by congr 1; omega, by simp; omega, ?_, HN.out⟩
              intro a ha
              rcases List.mem_append.1 ha with h | h
              · exact GOOD.out a h
              · rw [List.mem_singleton.1 h]; exact (by exact ⟨hph.1, by show 0 ≤ E; omega, by show E ≤ E + n8; omega, by show E + n8 ≤ _; omega, by show 1 ≤ an; omega, by show an ≤ 4; omega⟩)
            case measure => simp [intOf]; omega
    · obtain rfl : m = 0 := by omega
      have hR := MR.out.res
      have PQ := MR.out.prob
      have q0_ := cell_of PQ 0 _ rfl; have q1_ := cell_of PQ 1 _ rfl; have q2_ := cell_of PQ 2 _ rfl; have q3_ := cell_of PQ 3 _ rfl; have q4_ := cell_of PQ 4 _ rfl; have q5_ := cell_of PQ 5 _ rfl; have q6_ := cell_of PQ 6 _ rfl; have q7_ := cell_of PQ 7 _ rfl; have q8_ := cell_of PQ 8 _ rfl; have q9_ := cell_of PQ 9 _ rfl; have q10_ := cell_of PQ 10 _ rfl
      have HO := MR.out.order
      have HSR := Lib.hid (MR.out.src.later (row := some w.heap.size) (gb_setRow (cs := #[.int .i64 x0, .int .i64 y0, .int .i64 z0, .int .i64 x1, .int .i64 y1, .int .i64 z1, .int .i64 step, .slice (some ⟨gl, goff, none⟩) ls.length lc, .slice ha hn hc, .slice oa l.length oc, .int .i64 cap]) (gb_refl wr _) (.inr rfl)) (fun q hq => by simp at hq; have := MR.out.src.lt; omega))
      have HSLL := Lib.hid (MR.out.low.later (row := some w.heap.size) (gb_setRow (cs := #[.int .i64 x0, .int .i64 y0, .int .i64 z0, .int .i64 x1, .int .i64 y1, .int .i64 z1, .int .i64 step, .slice (some ⟨gl, goff, none⟩) ls.length lc, .slice ha hn hc, .slice oa l.length oc, .int .i64 cap]) (gb_refl wr _) (.inr rfl)) (fun b off len cap e _ => by have := (MR.out.lowAt b off len cap e).1; simp; omega))
      have HSLH := Lib.hid (MR.out.high.later (row := some w.heap.size) (gb_setRow (cs := #[.int .i64 x0, .int .i64 y0, .int .i64 z0, .int .i64 x1, .int .i64 y1, .int .i64 z1, .int .i64 step, .slice (some ⟨gl, goff, none⟩) ls.length lc, .slice ha hn hc, .slice oa l.length oc, .int .i64 cap]) (gb_refl wr _) (.inr rfl)) (fun b off len cap e _ => by have := (MR.out.highAt b off len cap e).1; simp; omega))
      have hvp : ∀ b off len cap, Value.slice oa l.length oc = .slice (some ⟨b, off, none⟩) len cap → X + 1 ≤ b := fun b off len cap e => by
        rcases MR.out.own.2 with ⟨e', -⟩ | ⟨gg, cap', cur, e', hb, -⟩
        · rw [e] at e'; simp at e'
        · rw [e] at e'; simp at e'; omega
      have HSP := Lib.hid ((SlC.of_owns MR.out.own).draw (p := w.heap.size) (gb_setRow (cs := #[.int .i64 x0, .int .i64 y0, .int .i64 z0, .int .i64 x1, .int .i64 y1, .int .i64 z1, .int .i64 step, .slice (some ⟨gl, goff, none⟩) ls.length lc, .slice ha hn hc, .slice oa l.length oc, .int .i64 cap]) (gb_refl wr _) (.inr rfl)) (fun b off len cap e _ => by have := hvp b off len cap e; omega))
      have HN := Lib.hid (setRow_at (cs := #[.int .i64 x0, .int .i64 y0, .int .i64 z0, .int .i64 x1, .int .i64 y1, .int .i64 z1, .int .i64 step, .slice (some ⟨gl, goff, none⟩) ls.length lc, .slice ha hn hc, .slice oa l.length oc, .int .i64 cap]) hR)
      have HGE := Lib.hid (gb_setRow (cs := #[.int .i64 x0, .int .i64 y0, .int .i64 z0, .int .i64 x1, .int .i64 y1, .int .i64 z1, .int .i64 step, .slice (some ⟨gl, goff, none⟩) ls.length lc, .slice ha hn hc, .slice oa l.length oc, .int .i64 cap]) MR.out.grown (g := w.heap.size) (.inl (Nat.le_refl _)))
      have HLA := Lib.hid MR.out.lowAt; have HHA := Lib.hid MR.out.highAt; have HVP := Lib.hid hvp
      have HRR := Lib.hid hR
      clear hR PQ hvp MR
      go_wp2_with (with_reducible refine wpList_store_row rfl _ _ _ rfl w.heap.size #[.int .i64 x0, .int .i64 y0, .int .i64 z0, .int .i64 x1, .int .i64 y1, .int .i64 z1, .int .i64 step, .slice (some ⟨gl, goff, none⟩) ls.length lc, .slice ha hn hc, .slice oa l.length oc, .int .i64 cap] rfl rfl _ _ HRR.out (by kernel_rfl) rfl (by simp [Value.oneCell']) ?_)
      have f0_ := cell_of HN.out 0 _ rfl; have f1_ := cell_of HN.out 1 _ rfl; have f2_ := cell_of HN.out 2 _ rfl; have f3_ := cell_of HN.out 3 _ rfl; have f4_ := cell_of HN.out 4 _ rfl; have f5_ := cell_of HN.out 5 _ rfl; have f6_ := cell_of HN.out 6 _ rfl; have f7_ := cell_of HN.out 7 _ rfl; have f8_ := cell_of HN.out 8 _ rfl; have f9_ := cell_of HN.out 9 _ rfl; have f10_ := cell_of HN.out 10 _ rfl
      exact bodyPost_ret (v := .agg #[.int .i64 x0, .int .i64 y0, .int .i64 z0, .int .i64 x1, .int .i64 y1, .int .i64 z1, .int .i64 step, .slice (some ⟨gl, goff, none⟩) ls.length lc, .slice ha hn hc, .slice oa l.length oc, .int .i64 cap]) (by simp [results, Tryz.results5, go_sem, f0_, f1_, f2_, f3_, f4_, f5_, f6_, f7_, f8_, f9_, f10_]) rfl
        ⟨⟨x0, y0, z0, x1, y1, z1, step, ls, hs, l, cap⟩, _, _, _, rfl, HB.out, HT.out, HR.out, HLN.out, HCAP.out, ⟨by show 0 < l.length; omega, by show (l.length : Int) ≤ most; omega⟩, GOOD.out, ⟨HSLL.out, HSLH.out, HSP.out⟩, fun v hv b off len cap e => by
          rcases hv with rfl | rfl | rfl
          · have := (HLA.out _ _ _ _ e).1; omega
          · have := (HHA.out _ _ _ _ e).1; omega
          · have := HVP.out _ _ _ _ e; omega, HSR.out, HGE.out⟩
end LProb
end Go.Proofs.YtgaglgopbdfemaaGreatDoor
