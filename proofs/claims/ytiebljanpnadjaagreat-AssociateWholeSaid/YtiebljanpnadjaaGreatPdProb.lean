/- Prob -/
import Derived.Test.YtiebljanpnadjaaGreatPdGeo
import Derived.Test.YtiebljanpnadjaaGreatPdRgPos
import Derived.Test.YtiebljanpnadjaaGreatPdMis
import Derived.Test.YtiebljanpnadjaaGreatPdBndP
namespace Go.Proofs.YtiebljanpnadjaaGreat
set_option linter.all false
section LPhase
open Go.RowKit Rg
def phaseIn (x y z e l n : Int) : Prop := placeIn 60 x y z ∧ 1000 ≤ e ∧ e ≤ 2999 ∧ e ≤ l ∧ l ≤ e + 40 ∧ 1 ≤ n ∧ n ≤ 4
set_option maxRecDepth 100000 in
set_option maxHeartbeats 1000000 in
theorem phase_any (B : Nat) (w : World) (p : Nat) (h : Src B w p) :
    Calls Tryz.prog 29 #[.pointer (some ⟨p, 0, none⟩)] w (At6 B p phaseIn w) := by
  have hp := h.lt
  have hg0 := gb_alloc (gb_refl w none) (.cells #[.int .i64 0, .int .i64 0, .int .i64 0, .int .i64 0, .int .i64 0, .int .i64 0] 51)
  have HS0 := Lib.hid (h.later hg0 (by simp))
  have HG0 := Lib.hid (gb_none (row := some p) hg0)
  have HR0 := Lib.hid (heap_alloc_new w (.cells #[.int .i64 0, .int .i64 0, .int .i64 0, .int .i64 0, .int .i64 0, .int .i64 0] 51))
  clear h hg0
  go_enter Tryz.func29, Tryz.ntmps29
  go_wp2_with fail
  (with_reducible refine (place_any B _ p 60 HS0.out (by omega) (by omega)).mono ?_)
  rintro e w1 ⟨x, y, z, rfl, hx, hs1, hg1⟩
  have HS1 := Lib.hid hs1; have HR1 := Lib.hid (block_keptp hg1 HR0.out (by omega)); have HG1 := Lib.hid (gb_trans HG0.out hg1)
  clear hs1 hg1 HS0 HR0 HG0
  go_wp2_with fail
  (with_reducible refine (n_any B _ p _ HS1.out (by omega) (by omega)).mono ?_)
  rintro e w2 ⟨t, rfl, ht, hs2, hg2⟩
  have HS2 := Lib.hid hs2; have HR2 := Lib.hid (block_keptp hg2 HR1.out (by omega)); have HG2 := Lib.hid (gb_trans HG1.out hg2)
  clear hs2 hg2 HS1 HR1 HG1
  go_wp2_with fail
  (with_reducible refine (n_any B _ p _ HS2.out (by omega) (by omega)).mono ?_)
  rintro e w3 ⟨n, rfl, hn, hs3, hg3⟩
  have hR3 := block_keptp hg3 HR2.out (by omega)
  have hg4 := gb_alloc (gb_refl w3 none) (.cells #[.int .i64 x, .int .i64 y, .int .i64 z, .int .i64 (1000 + t), .int .i64 0, .int .i64 (1 + n)] 51)
  have HS4 := Lib.hid (hs3.later hg4 (by simp)); have HR4 := Lib.hid (block_kept hg4 hR3 rfl); have HG4 := Lib.hid (gb_trans (gb_trans HG2.out hg3) (gb_none (row := some p) hg4))
  have HB4 := Lib.hid (heap_alloc_new w3 (.cells #[.int .i64 x, .int .i64 y, .int .i64 z, .int .i64 (1000 + t), .int .i64 0, .int .i64 (1 + n)] 51))
  have hz : w3.heap.size ≠ p := by have := hs3.lt; omega
  have hwb : w.heap.size < w3.heap.size := block_lt' hR3
  clear hs3 hg3 HS2 HR2 HG2 hR3 hg4
  go_wp2_with fail
  generalize w3.alloc (.cells #[.int .i64 x, .int .i64 y, .int .i64 z, .int .i64 (1000 + t), .int .i64 0, .int .i64 (1 + n)] 51) = w4 at *
  generalize w3.heap.size = q at *
  have hp4 := HS4.out.lt.2
  obtain ⟨c0, c1, c2, c3, c4, c5⟩ := six HB4.out
  have d3 := Pulled.cell (B := B) (p := p) c3 (block_lt' HB4.out) hz
  refine Rg.region (Pulled w4 B p) (Pull p) (fun k => if k = 3 then some (isLit w4 [0, 0, 3, 10, 40]) else if k = 4 then some (isInt fun x => x ∈ [0, 0, 3, 10, 40]) else none) (fun _ => false) 0 6 (by kernel_rfl) (by kernel_rfl) (by kernel_rfl) (by kernel_rfl) (by kernel_rfl) (by kernel_rfl) (by kernel_rfl) Pull.size (Pulled.start HS4.out) (fun hne => ?_)
  (repeat (refine rLexL_quiet (by rfl) (by rfl) (by rfl) (by rfl) ?_; go_big_quiet_step (fail); refine wpQuiet_nil ?_))
  refine rg_lit [0, 0, 3, 10, 40] 3 rfl rfl (fun _ => by go_simp) rfl hp4 (fun v2 => ?_)
  simp only [Act.put, List.setIfInBounds_toArray, List.set_cons_zero, List.set_cons_succ]
  refine rg_draw (fun x => x ∈ [0, 0, 3, 10, 40]) 37 #[.pointer (some ⟨p, 0, none⟩), v2] rfl rfl (fun _ => by go_simp) (fun u hu hd => pick_lit w4 B p u [0, 0, 3, 10, 40] v2 hu (hd ⟨3, .data⟩ (by simp) rfl) hp4 (by decide) (by decide)) (fun d hd => ?_)
  simp only [Act.put, List.setIfInBounds_toArray, List.set_cons_zero, List.set_cons_succ]
  have hd' : 0 ≤ d ∧ d ≤ 40 := by simp at hd; omega
  have wd : IntKind.i64.wrap (1000 + t + d) = 1000 + t + d := by rw [IntKind.wrap_i64]; omega
  (repeat (refine rLexL_quiet (by rfl) (by rfl) (by rfl) (by rfl) ?_; go_big_quiet_step (fail); refine wpQuiet_nil ?_))
  rintro w5 ⟨hg5, hs5⟩ - -
  have hB5 := block_keptp hg5 HB4.out hz
  have hR5 := block_keptp hg5 HR4.out (by omega)
  have hF5 := frozen3 hB5
  obtain ⟨b0, b1, b2, b3, b4, b5⟩ := six hB5
  have hS6 := set_block hB5 4 (.int .i64 (1000 + t + d))
  have hR6 := (setCell_far (a := ⟨q, 4, none⟩) (u := .int .i64 (1000 + t + d)) (by show w.heap.size ≠ q; omega)).trans hR5
  have HR6 := Lib.hid hR6
  obtain ⟨s0, s1, s2, s3, s4, s5⟩ := six hS6
  have hgA : w4.grownBy (w5.setCell ⟨q, 4, none⟩ (.int .i64 (1000 + t + d))) (some p) → True := fun _ => trivial
  clear hgA
  have HGE := Lib.hid (gb_setRow (cs := #[.int .i64 x, .int .i64 y, .int .i64 z, .int .i64 (1000 + t), .int .i64 (1000 + t + d), .int .i64 (1 + n)]) (gb_setCell (gb_trans HG4.out hg5) (a := ⟨q, 4, none⟩) (.inl (by show w.heap.size ≤ q; omega)) (.int .i64 (1000 + t + d))) (g := w.heap.size) (.inl (Nat.le_refl _)))
  have hS5 : Src B (w5.setCell ⟨q, 4, none⟩ (.int .i64 (1000 + t + d))) p := hs5.later (row := some q) (gb_setCell (gb_refl _ _) (.inr rfl) _) (fun k hk => by simp at hk; omega)
  have HSE : Hid (Src B ((w5.setCell ⟨q, 4, none⟩ (.int .i64 (1000 + t + d))).setRow w.heap.size #[.int .i64 x, .int .i64 y, .int .i64 z, .int .i64 (1000 + t), .int .i64 (1000 + t + d), .int .i64 (1 + n)]) p) := Lib.hid (hS5.later (row := some w.heap.size) ⟨rfl, rfl, rfl, by simp [World.setRow], fun i _ hr => setRow_far (fun e => hr (by rw [e]))⟩ (fun q hq => by simp at hq; omega))
  have HN := Lib.hid (setRow_at (cs := #[.int .i64 x, .int .i64 y, .int .i64 z, .int .i64 (1000 + t), .int .i64 (1000 + t + d), .int .i64 (1 + n)]) hR6)
  clear hd hg5 hs5 hB5 hR5 hS6 hR6 hS5 d3 c0 c1 c2 c3 c4 c5 wd
  go_wp2_with (with_reducible refine wpList_store_row rfl _ _ _ rfl w.heap.size #[.int .i64 x, .int .i64 y, .int .i64 z, .int .i64 (1000 + t), .int .i64 (1000 + t + d), .int .i64 (1 + n)] rfl rfl _ _ HR6.out (by kernel_rfl) rfl (by simp [Value.oneCell']) ?_)
  obtain ⟨e0, e1, e2, e3, e4, e5⟩ := six HN.out
  exact bodyPost_ret (v := .agg #[.int .i64 x, .int .i64 y, .int .i64 z, .int .i64 (1000 + t), .int .i64 (1000 + t + d), .int .i64 (1 + n)]) (by simp [results, Tryz.results29, go_sem, e0, e1, e2, e3, e4, e5]) rfl
    ⟨_, _, _, _, _, _, rfl, ⟨hx, by omega, by omega, by omega, by omega, by omega, by omega⟩, HSE.out, HGE.out⟩
end LPhase
section LProbA
open Go.RowKit Rg
/-- A phase of a problem that was drawn. -/
def goodPh (a : Ph) : Prop := placeIn 60 a.x a.y a.z ∧ 0 ≤ a.e ∧ a.e ≤ a.l ∧ a.l ≤ 2000000000000 ∧ 1 ≤ a.n ∧ a.n ≤ 4
section
end
theorem Tryz.infoPhaseT : (Tryz.prog.info? 51).map (fun i => (i.zero, i.size, i.bytes)) = some (some (.agg #[.int .i64 0, .int .i64 0, .int .i64 0, .int .i64 0, .int .i64 0, .int .i64 0]), 6, 48) := by kernel_rfl
end LProbA
section LProb
open Go.RowKit Rg
end LProb
end Go.Proofs.YtiebljanpnadjaaGreat
