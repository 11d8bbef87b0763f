/- Law 29's one and awake. -/
import Derived.Test.YtdkckhihleffeaaGreatSnd
import Derived.Test.YtdkckhihleffeaaGreatRefG
import Derived.Test.YtdkckhihleffeaaGreatAwakeB
namespace Go.Proofs.YtdkckhihleffeaaGreat
set_option linter.all false
open Go.RowKit Rg

def one29 : Prob := ⟨0, 0, 0, 0, 0, 0, 10, [0, 5], [0, 7], [⟨0, 0, 0, 100, 102, 1⟩], 3⟩
def loc29 : Loc := ⟨0, 0, 0, 100, 0, 0, 0, 0, 0, 0, 0, 0⟩
theorem one29_make : mkE one29 loc29 0 = (0, [0]) := by decide +kernel
theorem one29_ok : chkE one29 loc29 0 [0] = 0 := by decide +kernel
theorem one29_no : chkE one29 loc29 0 [1, 0] = 26 := by decide +kernel
theorem one29_nil : chkE one29 loc29 0 [] = 26 := by decide +kernel

/-- A problem as a value, and its memory. -/
def IsPr (P : Prob) (v : Value) (u : World) : Prop := ∃ vl vh vp, v = .agg (P.val vl vh vp) ∧ ProbIn P vl vh vp u
theorem IsPr.keep {P : Prob} (v : Value) (u u' : World) (h : IsPr P v u) (hg : u.grownBy u' none) : IsPr P v u' := by
  obtain ⟨vl, vh, vp, e, hi⟩ := h; exact ⟨vl, vh, vp, e, hi.after hg⟩
set_option maxRecDepth 100000 in
theorem one29_any (w : World) : Calls Tryz.prog 18 #[] w fun e w' => ∃ v, e = .returned v ∧ IsPr one29 v w' ∧ w.grownBy w' none := by
  go_enter Tryz.func18, Tryz.ntmps18
  go_wp2_with fail
  have b0 : ((((w.alloc (.cells #[.int .i64 0, .int .i64 0, .int .i64 0, .int .i64 0, .int .i64 0, .int .i64 0, .int .i64 10, .slice (some ⟨w.heap.size + 1, 0, none⟩) 2 2, .slice (some ⟨w.heap.size + 1 + 1, 0, none⟩) 2 2, .slice (some ⟨w.heap.size + 1 + 1 + 1, 0, none⟩) 1 1, .int .i64 3] 36)).alloc (.cells #[.int .i64 0, .int .i64 5] 3)).alloc (.cells #[.int .i64 0, .int .i64 7] 3)).alloc (.cells #[.int .i64 0, .int .i64 0, .int .i64 0, .int .i64 100, .int .i64 102, .int .i64 1] 61)).heap[w.heap.size]? = some (.cells #[.int .i64 0, .int .i64 0, .int .i64 0, .int .i64 0, .int .i64 0, .int .i64 0, .int .i64 10, .slice (some ⟨w.heap.size + 1, 0, none⟩) 2 2, .slice (some ⟨w.heap.size + 1 + 1, 0, none⟩) 2 2, .slice (some ⟨w.heap.size + 1 + 1 + 1, 0, none⟩) 1 1, .int .i64 3] 36 (0, 0)) := by rw [heap_alloc_old _ _ (by simp <;> omega), heap_alloc_old _ _ (by simp <;> omega), heap_alloc_old _ _ (by simp), heap_alloc_new]
  have b1 : ((((w.alloc (.cells #[.int .i64 0, .int .i64 0, .int .i64 0, .int .i64 0, .int .i64 0, .int .i64 0, .int .i64 10, .slice (some ⟨w.heap.size + 1, 0, none⟩) 2 2, .slice (some ⟨w.heap.size + 1 + 1, 0, none⟩) 2 2, .slice (some ⟨w.heap.size + 1 + 1 + 1, 0, none⟩) 1 1, .int .i64 3] 36)).alloc (.cells #[.int .i64 0, .int .i64 5] 3)).alloc (.cells #[.int .i64 0, .int .i64 7] 3)).alloc (.cells #[.int .i64 0, .int .i64 0, .int .i64 0, .int .i64 100, .int .i64 102, .int .i64 1] 61)).heap[w.heap.size + 1]? = some (.cells (([0, 5] : List Int).map (Value.int .i64)).toArray 3 (0, 0)) := by rw [heap_alloc_old _ _ (by simp <;> omega), heap_alloc_old _ _ (by simp)]; simpa using heap_alloc_new (w.alloc _) _
  have b2 : ((((w.alloc (.cells #[.int .i64 0, .int .i64 0, .int .i64 0, .int .i64 0, .int .i64 0, .int .i64 0, .int .i64 10, .slice (some ⟨w.heap.size + 1, 0, none⟩) 2 2, .slice (some ⟨w.heap.size + 1 + 1, 0, none⟩) 2 2, .slice (some ⟨w.heap.size + 1 + 1 + 1, 0, none⟩) 1 1, .int .i64 3] 36)).alloc (.cells #[.int .i64 0, .int .i64 5] 3)).alloc (.cells #[.int .i64 0, .int .i64 7] 3)).alloc (.cells #[.int .i64 0, .int .i64 0, .int .i64 0, .int .i64 100, .int .i64 102, .int .i64 1] 61)).heap[w.heap.size + 1 + 1]? = some (.cells (([0, 7] : List Int).map (Value.int .i64)).toArray 3 (0, 0)) := by rw [heap_alloc_old _ _ (by simp)]; simpa using heap_alloc_new ((w.alloc _).alloc _) _
  have b3 : ((((w.alloc (.cells #[.int .i64 0, .int .i64 0, .int .i64 0, .int .i64 0, .int .i64 0, .int .i64 0, .int .i64 10, .slice (some ⟨w.heap.size + 1, 0, none⟩) 2 2, .slice (some ⟨w.heap.size + 1 + 1, 0, none⟩) 2 2, .slice (some ⟨w.heap.size + 1 + 1 + 1, 0, none⟩) 1 1, .int .i64 3] 36)).alloc (.cells #[.int .i64 0, .int .i64 5] 3)).alloc (.cells #[.int .i64 0, .int .i64 7] 3)).alloc (.cells #[.int .i64 0, .int .i64 0, .int .i64 0, .int .i64 100, .int .i64 102, .int .i64 1] 61)).heap[w.heap.size + 1 + 1 + 1]? = some (.cells (flatP one29.phs).toArray 61 (0, 0)) := by simpa [flatP, one29, Ph.cells] using heap_alloc_new (((w.alloc _).alloc _).alloc _) (.cells #[.int .i64 0, .int .i64 0, .int .i64 0, .int .i64 100, .int .i64 102, .int .i64 1] 61)
  have hg : w.grownBy ((((w.alloc (.cells #[.int .i64 0, .int .i64 0, .int .i64 0, .int .i64 0, .int .i64 0, .int .i64 0, .int .i64 10, .slice (some ⟨w.heap.size + 1, 0, none⟩) 2 2, .slice (some ⟨w.heap.size + 1 + 1, 0, none⟩) 2 2, .slice (some ⟨w.heap.size + 1 + 1 + 1, 0, none⟩) 1 1, .int .i64 3] 36)).alloc (.cells #[.int .i64 0, .int .i64 5] 3)).alloc (.cells #[.int .i64 0, .int .i64 7] 3)).alloc (.cells #[.int .i64 0, .int .i64 0, .int .i64 0, .int .i64 100, .int .i64 102, .int .i64 1] 61)) none := gb_alloc (gb_alloc (gb_alloc (gb_alloc (gb_refl _ _) _) _) _) _
  generalize ((((w.alloc (.cells #[.int .i64 0, .int .i64 0, .int .i64 0, .int .i64 0, .int .i64 0, .int .i64 0, .int .i64 10, .slice (some ⟨w.heap.size + 1, 0, none⟩) 2 2, .slice (some ⟨w.heap.size + 1 + 1, 0, none⟩) 2 2, .slice (some ⟨w.heap.size + 1 + 1 + 1, 0, none⟩) 1 1, .int .i64 3] 36)).alloc (.cells #[.int .i64 0, .int .i64 5] 3)).alloc (.cells #[.int .i64 0, .int .i64 7] 3)).alloc (.cells #[.int .i64 0, .int .i64 0, .int .i64 0, .int .i64 100, .int .i64 102, .int .i64 1] 61)) = w4 at *
  obtain ⟨e0_, e1_, e2_, e3_, e4_, e5_, e6_, e7_, e8_, e9_, e10_⟩ := cells11 b0
  exact bodyPost_ret (v := .agg #[.int .i64 0, .int .i64 0, .int .i64 0, .int .i64 0, .int .i64 0, .int .i64 0, .int .i64 10, .slice (some ⟨w.heap.size + 1, 0, none⟩) 2 2, .slice (some ⟨w.heap.size + 1 + 1, 0, none⟩) 2 2, .slice (some ⟨w.heap.size + 1 + 1 + 1, 0, none⟩) 1 1, .int .i64 3]) (by simp [results, Tryz.results18, go_sem, e0_, e1_, e2_, e3_, e4_, e5_, e6_, e7_, e8_, e9_, e10_]) rfl ⟨_, rfl, ⟨_, _, _, rfl, ⟨Sl.of_block b1 rfl (by omega), Sl.of_block b2 rfl (by omega), SlC.of_block (ys := flatP one29.phs) b3 rfl (by omega)⟩⟩, hg⟩
section
variable {ops : Array Oper} {md : Region.Mode} {w0 : World} {sp : Nat → Option (List Value → Value → World → Prop)} {al : Nat → Bool} {N : Nat} {Q : List Oper → Act → Facts → Prop} {n k : Nat} {o : Oper} {l : List Oper} {a : Act} {f : Facts}
/-- A call that returns a value with memory, and looks at what the operations that it waits for have left. -/
theorem rg_callMD (F : Value → World → Prop) (fid : FuncId) (args : Array Value) (hs : sp k = some (fun _ v u => F v u)) (hw : Region.wanted o (yielded ops a.tmps) = true) (hal : al k = false) (hst : ∀ v u u', F v u → u.grownBy u' none → F v u')
    (hrun : ∀ w, (execOp a.eval o).run Tryz.prog w = .ok (.enter fid args) w)
    (hc : ∀ u, w0.grownBy u none → (∀ e ∈ o.after, Region.binds md e = true → f e.on u) → Calls Tryz.prog fid args u fun e w' => ∃ v, e = .returned v ∧ F v w' ∧ u.grownBy w' none)
    (h : ∀ v u, F v u → rLexL Tryz.prog md ops ⟨In (Made w0), Makes, sp, al, N⟩ Q n l (k + 1) (a.put o.dst v) (upd f k (F v))) :
    rLexL Tryz.prog md ops ⟨In (Made w0), Makes, sp, al, N⟩ Q (n + 1) (o :: l) k a f := by
  refine rLexL_spec (fun _ v u => F v u) hs hw (fun v j w w' _ _ _ hR h => hst v w w' h hR) (fun w hC hd => stepTo_call (hrun w) ?_) (fun v w _ h' => h v w h')
  refine (hc w hC.out hd).mono ?_
  rintro e w' ⟨v, rfl, hF, hg⟩
  exact ⟨_, rfl, In.mk (gb_trans hC.out hg), hg, hF, fun e => by rw [hal] at e; cases e⟩
end

abbrev isMk (v : Value) (u : World) : Prop := ∃ v', v = .tuple #[v', .int .i64 0] ∧ Sl u v' [0]
set_option maxRecDepth 100000 in
set_option maxHeartbeats 8000000 in
theorem awake29_any (w : World) : Calls Tryz.prog 4 #[] w fun e w' => e = .returned (.bool true) ∧ w.grownBy w' none := by
  have ONE := Lib.hid one29_any
  have MK : Hid (∀ (v : Value) (u : World), IsPr one29 v u → Calls Tryz.prog 14 #[v, .agg loc29.val, .int .i64 0] u fun e w' => ∃ r, e = .returned r ∧ isMk r w' ∧ u.grownBy w' none) := Lib.hid (fun v u h => by
    obtain ⟨vl, vh, vp, rfl, hi⟩ := h
    refine (make_any one29 vl vh vp loc29 0 u hi (by decide)).mono ?_
    rintro e w' ⟨v', rfl, ho, hg⟩
    rw [one29_make] at ho ⊢
    exact ⟨_, rfl, ⟨v', rfl, Sl_of_owns ho rfl⟩, hg⟩)
  have CK : Hid (∀ (v vs : Value) (l : List Int) (r : Int) (u : World), IsPr one29 v u → Sl u vs l → l.length ≤ 2 → chkE one29 loc29 0 l = r → Calls Tryz.prog 16 #[v, .agg loc29.val, .int .i64 0, vs] u fun e w' => e = .returned (.int .i64 r) ∧ u.grownBy w' none) := Lib.hid (fun v vs l r u h hs hl hr => by
    obtain ⟨vl, vh, vp, rfl, hi⟩ := h
    rw [← hr]
    exact check_any one29 vl vh vp loc29 0 l vs u hi hs (by decide) (by omega))
  have hLV : loc29.val = #[.int .i64 0, .int .i64 0, .int .i64 0, .int .i64 100, .int .i64 0, .int .i64 0, .int .i64 0, .int .i64 0, .int .i64 0, .int .i64 0, .int .i64 0, .int .i64 0] := rfl
  rw [hLV] at MK CK
  go_enter Tryz.func4, Tryz.ntmps4
  have hg1 := gb_alloc (gb_refl w none) (.cells #[.int .i64 0, .int .i64 0, .int .i64 0, .int .i64 100, .int .i64 0, .int .i64 0, .int .i64 0, .int .i64 0, .int .i64 0, .int .i64 0, .int .i64 0, .int .i64 0] 27)
  have X1 := Lib.hid (heap_alloc_new w (.cells #[.int .i64 0, .int .i64 0, .int .i64 0, .int .i64 100, .int .i64 0, .int .i64 0, .int .i64 0, .int .i64 0, .int .i64 0, .int .i64 0, .int .i64 0, .int .i64 0] 27))
  have G1 := Lib.hid hg1
  clear hg1
  go_wp2_with fail
  generalize w.alloc (.cells #[.int .i64 0, .int .i64 0, .int .i64 0, .int .i64 100, .int .i64 0, .int .i64 0, .int .i64 0, .int .i64 0, .int .i64 0, .int .i64 0, .int .i64 0, .int .i64 0] 27) = w1 at *
  have hxl := block_lt' X1.out
  obtain ⟨d0_, d1_, d2_, d3_, d4_, d5_, d6_, d7_, d8_, d9_, d10_, d11_⟩ := cells12 X1.out
  refine Rg.region (Made w1) Makes (fun k => if k = 0 then some (fun _ v u => IsPr one29 v u) else if k = 2 then some (fun _ v u => isMk v u) else none) (fun _ => false) 0 8 (by kernel_rfl) (by kernel_rfl) (by kernel_rfl) (by kernel_rfl) (by kernel_rfl) (by kernel_rfl) (by kernel_rfl) Makes.size (Made.start w1) (fun hne => ?_)
  have lx := fun o (u : Cls (Made w1)) => gb_cell (evr_h u) (o := o) hxl (by simp)
  refine rg_callMD (IsPr one29) 18 #[] rfl rfl rfl (fun v u u' h hg => IsPr.keep v u u' h hg) (fun _ => by go_simp) (fun u hu hd => ONE.out u) (fun v u hv => ?_)
  simp only [Act.put, List.setIfInBounds_toArray, List.set_cons_zero, List.set_cons_succ]
  (repeat (refine rLexL_quiet (by rfl) (by rfl) (by rfl) (by rfl) ?_; go_big_quiet_step (fail); refine wpQuiet_nil ?_))
  refine rg_callMD isMk 14 #[v, .agg #[.int .i64 0, .int .i64 0, .int .i64 0, .int .i64 100, .int .i64 0, .int .i64 0, .int .i64 0, .int .i64 0, .int .i64 0, .int .i64 0, .int .i64 0, .int .i64 0], .int .i64 0] rfl rfl rfl (fun r u u' h hg => by obtain ⟨v', e, hs⟩ := h; exact ⟨v', e, hs.after hg⟩) (fun _ => by go_simp) (fun u hu hd => MK.out v u (hd ⟨0, .data⟩ (by simp) rfl)) (fun r u2 hr => ?_)
  obtain ⟨v', rfl, -⟩ := hr
  simp only [Act.put, List.setIfInBounds_toArray, List.set_cons_zero, List.set_cons_succ]
  (repeat (refine rLexL_quiet (by rfl) (by rfl) (by rfl) (by rfl) ?_; go_big_quiet_step (fail); refine wpQuiet_nil ?_))
  rintro wq hq hf -
  have HC : Hid (Sl wq v' [0]) := Lib.hid (by
    obtain ⟨v2, e, hs⟩ := hf 2
    simp at e; subst e; exact hs)
  have G2 := Lib.hid (gb_trans G1.out hq)
  have X2 := Lib.hid (block_kept hq X1.out rfl)
  clear hf hq hne lx d0_ d1_ d2_ d3_ d4_ d5_ d6_ d7_ d8_ d9_ d10_ d11_ hxl X1 G1
  refine wpList_nil ?_
  generalize wq = w2 at *
  have hxl := block_lt' X2.out
  obtain ⟨d0_, d1_, d2_, d3_, d4_, d5_, d6_, d7_, d8_, d9_, d10_, d11_⟩ := cells12 X2.out
  obtain ⟨va, vc, rfl⟩ := HC.out.shape
  go_wp2_with fail
  refine Rg.region (Made w2) Makes (fun k => if k = 4 then some (isLit w2 [0]) else if k = 5 then some (isV (.bool true)) else if k = 8 then some (fun _ v u => IsPr one29 v u) else if k = 11 then some (isV (.int .i64 0)) else if k = 15 then some (fun _ v u => IsPr one29 v u) else if k = 17 then some (isLit w2 [1, 0]) else if k = 18 then some (isV (.int .i64 26)) else if k = 22 then some (fun _ v u => IsPr one29 v u) else if k = 24 then some (isV (.int .i64 26)) else none) (fun _ => false) 0 28 (by kernel_rfl) (by kernel_rfl) (by kernel_rfl) (by kernel_rfl) (by kernel_rfl) (by kernel_rfl) (by kernel_rfl) Makes.size (Made.start w2) (fun hne => ?_)
  have lx := fun o (u : Cls (Made w2)) => gb_cell (evr_h u) (o := o) hxl (by simp)
  (repeat (refine rLexL_quiet (by rfl) (by rfl) (by rfl) (by rfl) ?_; go_big_quiet_step (fail); refine wpQuiet_nil ?_))
  refine rg_litM [0] 3 rfl rfl rfl (fun _ => by go_simp) rfl (fun v4 => ?_)
  simp only [Act.put, List.setIfInBounds_toArray, List.set_cons_zero, List.set_cons_succ]
  (repeat (refine rLexL_quiet (by rfl) (by rfl) (by rfl) (by rfl) ?_; go_big_quiet_step (fail); refine wpQuiet_nil ?_))
  refine rg_fixD (.bool true) 15 #[.slice va [0].length vc, v4] rfl rfl rfl (fun _ => by go_simp) (fun u hu hd => ints_same _ v4 [0] u (HC.out.after hu) (hd ⟨4, .data⟩ (by simp) rfl).1 (by simp)) ?_
  simp only [Act.put, List.setIfInBounds_toArray, List.set_cons_zero, List.set_cons_succ]
  (repeat (refine rLexL_quiet (by rfl) (by rfl) (by rfl) (by rfl) ?_; go_big_quiet_step (fail); refine wpQuiet_nil ?_))
  refine rg_callMD (IsPr one29) 18 #[] rfl rfl rfl (fun v u u' h hg => IsPr.keep v u u' h hg) (fun _ => by go_simp) (fun u hu hd => ONE.out u) (fun p8 up8 hp8 => ?_)
  simp only [Act.put, List.setIfInBounds_toArray, List.set_cons_zero, List.set_cons_succ]
  (repeat (refine rLexL_quiet (by rfl) (by rfl) (by rfl) (by rfl) ?_; go_big_quiet_step (fail); refine wpQuiet_nil ?_))
  refine rg_fixD (.int .i64 0) 16 #[p8, .agg #[.int .i64 0, .int .i64 0, .int .i64 0, .int .i64 100, .int .i64 0, .int .i64 0, .int .i64 0, .int .i64 0, .int .i64 0, .int .i64 0, .int .i64 0, .int .i64 0], .int .i64 0, (.slice va [0].length vc)] rfl rfl rfl (fun _ => by go_simp) (fun u hu hd => CK.out p8 (.slice va [0].length vc) [0] 0 u (hd ⟨8, .data⟩ (by simp) rfl) (HC.out.after hu) (by simp) one29_ok) ?_
  simp only [Act.put, List.setIfInBounds_toArray, List.set_cons_zero, List.set_cons_succ]
  (repeat (refine rLexL_quiet (by rfl) (by rfl) (by rfl) (by rfl) ?_; go_big_quiet_step (fail); refine wpQuiet_nil ?_))
  refine rg_callMD (IsPr one29) 18 #[] rfl rfl rfl (fun v u u' h hg => IsPr.keep v u u' h hg) (fun _ => by go_simp) (fun u hu hd => ONE.out u) (fun p15 up15 hp15 => ?_)
  simp only [Act.put, List.setIfInBounds_toArray, List.set_cons_zero, List.set_cons_succ]
  (repeat (refine rLexL_quiet (by rfl) (by rfl) (by rfl) (by rfl) ?_; go_big_quiet_step (fail); refine wpQuiet_nil ?_))
  refine rg_litM [1, 0] 3 rfl rfl rfl (fun _ => by go_simp) rfl (fun v17 => ?_)
  simp only [Act.put, List.setIfInBounds_toArray, List.set_cons_zero, List.set_cons_succ]
  (repeat (refine rLexL_quiet (by rfl) (by rfl) (by rfl) (by rfl) ?_; go_big_quiet_step (fail); refine wpQuiet_nil ?_))
  refine rg_fixD (.int .i64 26) 16 #[p15, .agg #[.int .i64 0, .int .i64 0, .int .i64 0, .int .i64 100, .int .i64 0, .int .i64 0, .int .i64 0, .int .i64 0, .int .i64 0, .int .i64 0, .int .i64 0, .int .i64 0], .int .i64 0, v17] rfl rfl rfl (fun _ => by go_simp) (fun u hu hd => CK.out p15 v17 [1, 0] 26 u (hd ⟨15, .data⟩ (by simp) rfl) (hd ⟨17, .data⟩ (by simp) rfl).1 (by simp) one29_no) ?_
  simp only [Act.put, List.setIfInBounds_toArray, List.set_cons_zero, List.set_cons_succ]
  (repeat (refine rLexL_quiet (by rfl) (by rfl) (by rfl) (by rfl) ?_; go_big_quiet_step (fail); refine wpQuiet_nil ?_))
  refine rg_callMD (IsPr one29) 18 #[] rfl rfl rfl (fun v u u' h hg => IsPr.keep v u u' h hg) (fun _ => by go_simp) (fun u hu hd => ONE.out u) (fun p22 up22 hp22 => ?_)
  simp only [Act.put, List.setIfInBounds_toArray, List.set_cons_zero, List.set_cons_succ]
  (repeat (refine rLexL_quiet (by rfl) (by rfl) (by rfl) (by rfl) ?_; go_big_quiet_step (fail); refine wpQuiet_nil ?_))
  refine rg_fixD (.int .i64 26) 16 #[p22, .agg #[.int .i64 0, .int .i64 0, .int .i64 0, .int .i64 100, .int .i64 0, .int .i64 0, .int .i64 0, .int .i64 0, .int .i64 0, .int .i64 0, .int .i64 0, .int .i64 0], .int .i64 0, (.slice none 0 0)] rfl rfl rfl (fun _ => by go_simp) (fun u hu hd => CK.out p22 (.slice none 0 0) [] 26 u (hd ⟨22, .data⟩ (by simp) rfl) (.inl ⟨rfl, _, _, rfl⟩) (by simp) one29_nil) ?_
  simp only [Act.put, List.setIfInBounds_toArray, List.set_cons_zero, List.set_cons_succ]
  (repeat (refine rLexL_quiet (by rfl) (by rfl) (by rfl) (by rfl) ?_; go_big_quiet_step (fail); refine wpQuiet_nil ?_))
  rintro wq hq - -
  have G3 := Lib.hid (gb_trans G2.out hq)
  clear hq hne lx d0_ d1_ d2_ d3_ d4_ d5_ d6_ d7_ d8_ d9_ d10_ d11_ hxl
  refine wpList_nil ?_
  go_wp2_with fail
  go_ret
  exact ⟨rfl, G3.out⟩
end Go.Proofs.YtdkckhihleffeaaGreat
