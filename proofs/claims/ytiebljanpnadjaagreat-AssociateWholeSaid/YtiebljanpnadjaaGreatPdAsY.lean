/- AsY -/
import Derived.Test.YtiebljanpnadjaaGreatPdRef
import Derived.Test.YtiebljanpnadjaaGreatPdAsA
import Derived.Test.YtiebljanpnadjaaGreatPdAsR
import Derived.Test.YtiebljanpnadjaaGreatPdAsX
namespace Go.Proofs.YtiebljanpnadjaaGreat
set_option linter.all false
open Go.RowKit Rg
def SmpAt (v : Value) (u : World) : Prop := ∃ la ln lc ha hm hc, v = .agg #[.int .i64 0, .int .i64 0, .int .i64 0, .int .i64 0, .int .i64 0, .int .i64 0, .int .i64 10, .slice la ln lc, .slice ha hm hc, .int .i64 9, .int .i64 0, .int .i64 60, .int .i64 1, .int .i64 2] ∧ AscIn smp30 (.slice la ln lc) (.slice ha hm hc) u
theorem SmpAt.after (v : Value) (u u' : World) (h : SmpAt v u) (hg : u.grownBy u' none) : SmpAt v u' := by
  obtain ⟨la, ln, lc, ha, hm, hc, rfl, h⟩ := h
  exact ⟨la, ln, lc, ha, hm, hc, rfl, h.after hg⟩
theorem two_sl {u : World} {b : Nat} {x y : Int} {T : TypeId} {fr : Nat × Nat} (h : u.heap[b]? = some (.cells #[.int .i64 x, .int .i64 y] T fr)) : Sl u (.slice (some ⟨b, 0, none⟩) 2 2) [x, y] := by
  refine .inr ⟨b, 0, 2, rfl, block_lt' h, by simp, by simp, fun k hk => ?_⟩
  match k, hk with
  | 0, _ => simp [World.cell?, h]
  | 1, _ => simp [World.cell?, h]
theorem sample_any (w : World) : Calls Tryz.prog 34 #[] w fun e w' => ∃ v, e = .returned v ∧ SmpAt v w' ∧ w.grownBy w' none := by
  have b0 : (((w.alloc (.cells #[.int .i64 0, .int .i64 0, .int .i64 0, .int .i64 0, .int .i64 0, .int .i64 0, .int .i64 0, .slice none 0 0, .slice none 0 0, .int .i64 0, .int .i64 0, .int .i64 0, .int .i64 0, .int .i64 0] 30)).alloc (.cells #[.int .i64 0, .int .i64 5] 3)).alloc (.cells #[.int .i64 0, .int .i64 7] 3)).heap[w.heap.size]? = some (.cells #[.int .i64 0, .int .i64 0, .int .i64 0, .int .i64 0, .int .i64 0, .int .i64 0, .int .i64 0, .slice none 0 0, .slice none 0 0, .int .i64 0, .int .i64 0, .int .i64 0, .int .i64 0, .int .i64 0] 30 (0, 0)) := by rw [heap_alloc_old _ _ (by simp; omega), heap_alloc_old _ _ (by simp), heap_alloc_new]
  have b1 : (((w.alloc (.cells #[.int .i64 0, .int .i64 0, .int .i64 0, .int .i64 0, .int .i64 0, .int .i64 0, .int .i64 0, .slice none 0 0, .slice none 0 0, .int .i64 0, .int .i64 0, .int .i64 0, .int .i64 0, .int .i64 0] 30)).alloc (.cells #[.int .i64 0, .int .i64 5] 3)).alloc (.cells #[.int .i64 0, .int .i64 7] 3)).heap[w.heap.size + 1]? = some (.cells #[.int .i64 0, .int .i64 5] 3 (0, 0)) := by rw [heap_alloc_old _ _ (by simp)]; simpa using heap_alloc_new (w.alloc _) _
  have b2 : (((w.alloc (.cells #[.int .i64 0, .int .i64 0, .int .i64 0, .int .i64 0, .int .i64 0, .int .i64 0, .int .i64 0, .slice none 0 0, .slice none 0 0, .int .i64 0, .int .i64 0, .int .i64 0, .int .i64 0, .int .i64 0] 30)).alloc (.cells #[.int .i64 0, .int .i64 5] 3)).alloc (.cells #[.int .i64 0, .int .i64 7] 3)).heap[w.heap.size + 1 + 1]? = some (.cells #[.int .i64 0, .int .i64 7] 3 (0, 0)) := by simpa using heap_alloc_new ((w.alloc _).alloc _) _
  have g := gb_setRow (cs := #[.int .i64 0, .int .i64 0, .int .i64 0, .int .i64 0, .int .i64 0, .int .i64 0, .int .i64 10, .slice (some ⟨w.heap.size + 1, 0, none⟩) 2 2, .slice (some ⟨w.heap.size + 1 + 1, 0, none⟩) 2 2, .int .i64 9, .int .i64 0, .int .i64 60, .int .i64 1, .int .i64 2]) (g := w.heap.size) (gb_alloc (gb_alloc (gb_alloc (gb_refl w none) (.cells #[.int .i64 0, .int .i64 0, .int .i64 0, .int .i64 0, .int .i64 0, .int .i64 0, .int .i64 0, .slice none 0 0, .slice none 0 0, .int .i64 0, .int .i64 0, .int .i64 0, .int .i64 0, .int .i64 0] 30)) (.cells #[.int .i64 0, .int .i64 5] 3)) (.cells #[.int .i64 0, .int .i64 7] 3)) (.inl (Nat.le_refl _))
  have B0 := Lib.hid b0; have HG := Lib.hid g
  have HN := Lib.hid (setRow_at (cs := #[.int .i64 0, .int .i64 0, .int .i64 0, .int .i64 0, .int .i64 0, .int .i64 0, .int .i64 10, .slice (some ⟨w.heap.size + 1, 0, none⟩) 2 2, .slice (some ⟨w.heap.size + 1 + 1, 0, none⟩) 2 2, .int .i64 9, .int .i64 0, .int .i64 60, .int .i64 1, .int .i64 2]) b0)
  have HI := Lib.hid (AscIn.mk (A := smp30) (two_sl ((setRow_far (g := w.heap.size) (cs := #[.int .i64 0, .int .i64 0, .int .i64 0, .int .i64 0, .int .i64 0, .int .i64 0, .int .i64 10, .slice (some ⟨w.heap.size + 1, 0, none⟩) 2 2, .slice (some ⟨w.heap.size + 1 + 1, 0, none⟩) 2 2, .int .i64 9, .int .i64 0, .int .i64 60, .int .i64 1, .int .i64 2]) (by omega)).trans b1)) (two_sl ((setRow_far (g := w.heap.size) (cs := #[.int .i64 0, .int .i64 0, .int .i64 0, .int .i64 0, .int .i64 0, .int .i64 0, .int .i64 10, .slice (some ⟨w.heap.size + 1, 0, none⟩) 2 2, .slice (some ⟨w.heap.size + 1 + 1, 0, none⟩) 2 2, .int .i64 9, .int .i64 0, .int .i64 60, .int .i64 1, .int .i64 2]) (by omega)).trans b2)))
  clear b0 b1 b2 g
  go_enter Tryz.func34, Tryz.ntmps34
  go_wp2_with (with_reducible refine wpList_store_row rfl _ _ _ rfl w.heap.size #[.int .i64 0, .int .i64 0, .int .i64 0, .int .i64 0, .int .i64 0, .int .i64 0, .int .i64 10, .slice (some ⟨w.heap.size + 1, 0, none⟩) 2 2, .slice (some ⟨w.heap.size + 1 + 1, 0, none⟩) 2 2, .int .i64 9, .int .i64 0, .int .i64 60, .int .i64 1, .int .i64 2] rfl rfl _ _ B0.out (by kernel_rfl) rfl (by simp [Value.oneCell']) ?_)
  obtain ⟨c0_, c1_, c2_, c3_, c4_, c5_, c6_, c7_, c8_, c9_, c10_, c11_, c12_, c13_⟩ := cells14 HN.out
  exact bodyPost_ret (v := .agg #[.int .i64 0, .int .i64 0, .int .i64 0, .int .i64 0, .int .i64 0, .int .i64 0, .int .i64 10, .slice (some ⟨w.heap.size + 1, 0, none⟩) 2 2, .slice (some ⟨w.heap.size + 1 + 1, 0, none⟩) 2 2, .int .i64 9, .int .i64 0, .int .i64 60, .int .i64 1, .int .i64 2]) (by simp [results, Tryz.results34, go_sem, c0_, c1_, c2_, c3_, c4_, c5_, c6_, c7_, c8_, c9_, c10_, c11_, c12_, c13_]) rfl ⟨_, rfl, ⟨_, _, _, _, _, _, rfl, HI.out⟩, HG.out⟩
/-- What Associate gives, in memory. -/
def AsF (E : Int) (G : List Grp) (LF : List Int) (n m : Nat) (v : Value) (u : World) : Prop := ∃ (ga : Option Addr) (gc : Nat) (lf : Option Addr) (lo : Nat) (L : List Grv), v = .tuple #[.slice ga n gc, .slice lf m lo, .int .i64 E] ∧ GrIn u (.slice ga n gc) L ∧ L.map Grv.g = G ∧ Sl u (.slice lf m lo) LF
theorem AsF.after {E : Int} {G : List Grp} {LF : List Int} {n m : Nat} (v : Value) (u u' : World) (h : AsF E G LF n m v u) (hg : u.grownBy u' none) : AsF E G LF n m v u' := by
  obtain ⟨ga, gc, lf, lo, L, rfl, h1, h2, h3⟩ := h
  exact ⟨ga, gc, lf, lo, L, rfl, h1.after hg, h2, h3.after hg⟩
theorem asF_of {A : Asc} {P : List Ph} {E : Int} {G : List Grp} {LF : List Int} (hR : assocR A P = (E, G, LF)) (vl vh pv : Value) (cs : Array Value) (u : World) (hA : AscIn A vl vh u) (hp : SlC 6 u pv P.length (flatP P)) (h20 : P.length < 20 := by decide) (hcs : cs = A.val vl vh := by rfl) :
    Calls Tryz.prog 15 #[.agg cs, pv] u fun e w' => ∃ v, e = .returned v ∧ AsF E G LF G.length LF.length v w' ∧ u.grownBy w' none := by
  subst hcs
  refine (associate_any A P vl vh pv u hA hp h20).mono ?_
  rintro e w' ⟨L, gv, lv, rfl, h1, h2, h3, h4⟩
  rw [hR] at h2 h3 ⊢
  dsimp only at h2 h3 ⊢
  have hl : L.length = G.length := by rw [← h2, List.length_map]
  obtain ⟨ga, gc, rfl⟩ := h1.1.slice
  obtain ⟨lf, lo, rfl⟩ := h3.shape
  rw [hl] at h1 ⊢
  exact ⟨_, rfl, ⟨ga, gc, lf, lo, L, rfl, h1, h2, h3⟩, h4⟩
theorem two_ph {u : World} {b : Nat} {x y : Ph} {cs : Array Value} {T : TypeId} {fr : Nat × Nat} (h : u.heap[b]? = some (.cells cs T fr)) (hcs : cs = (flatP [x, y]).toArray) : SlC 6 u (.slice (some ⟨b, 0, none⟩) 2 2) [x, y].length (flatP [x, y]) := by
  subst hcs
  refine ⟨by rw [flatP_length], .inr ⟨b, 0, 2, rfl, block_lt' h, by simp, by simp, fun j v hj => ?_⟩⟩
  simpa [World.cell?, h] using hj
theorem one_gr {u : World} {b : Nat} {x : Grv} {cs : Array Value} {T : TypeId} {fr : Nat × Nat} (h : u.heap[b]? = some (.cells cs T fr)) (hcs : cs = (flatG [x]).toArray) (hs : Sl u x.mv x.g.ms) : GrIn u (.slice (some ⟨b, 0, none⟩) 1 1) [x] := by
  subst hcs
  refine ⟨⟨by rw [flatG_length], .inr ⟨b, 0, 1, rfl, block_lt' h, by simp, by simp, fun j v hj => ?_⟩⟩, fun y hy => ?_⟩
  · simpa [World.cell?, h] using hj
  · rw [List.mem_singleton.1 hy]; exact hs
theorem AsF.parts {E : Int} {G : List Grp} {LF : List Int} {n m : Nat} {ga : Option Addr} {gc : Nat} {lf : Option Addr} {lo : Nat} {u : World} (h : AsF E G LF n m (.tuple #[.slice ga n gc, .slice lf m lo, .int .i64 E]) u) : (∃ L, GrIn u (.slice ga n gc) L ∧ L.map Grv.g = G) ∧ Sl u (.slice lf m lo) LF := by
  obtain ⟨ga', gc', lf', lo', L', e, h1, h2, h3⟩ := h
  simp only [Value.tuple.injEq, Array.mk.injEq, List.cons.injEq, Value.slice.injEq, true_and, and_true] at e
  obtain ⟨⟨rfl, rfl⟩, rfl, rfl⟩ := e
  exact ⟨⟨L', h1, h2⟩, h3⟩
theorem rg_fixFD {P : Program} {ops : Array Oper} {md : Region.Mode} {w0 : World} {sp : Nat → Option (List Value → Value → World → Prop)} {al : Nat → Bool} {N : Nat} {Q : List Oper → Act → Facts → Prop} {n k : Nat} {o : Oper} {l : List Oper} {a : Act} {f : Facts}
    (F : Value → World → Prop) (fid : FuncId) (args : Array Value) (hs : sp k = some (isF F)) (hw : Region.wanted o (yielded ops a.tmps) = true) (hal : al k = false) (hst : ∀ v u u', F v u → u.grownBy u' none → F v u')
    (hrun : ∀ w, (execOp a.eval o).run P w = .ok (.enter fid args) w)
    (hc : ∀ u, w0.grownBy u none → (∀ e ∈ o.after, Region.binds md e = true → f e.on u) → Calls P fid args u fun e w' => ∃ v, e = .returned v ∧ F v w' ∧ u.grownBy w' none)
    (h : ∀ v u, F v u → rLexL P md ops ⟨In (Made w0), Makes, sp, al, N⟩ Q n l (k + 1) (a.put o.dst v) (upd f k (F v))) :
    rLexL P md ops ⟨In (Made w0), Makes, sp, al, N⟩ Q (n + 1) (o :: l) k a f := by
  refine rLexL_spec (isF F) hs hw (fun v j w w' _ _ _ hR h => hst v w w' h hR) (fun w hC hd => stepTo_call (hrun w) ?_) ?_
  · refine (hc w hC.out hd).mono ?_
    rintro e w' ⟨v, rfl, hF, hg⟩
    exact ⟨_, rfl, In.mk (gb_trans hC.out hg), hg, hF, fun e => by rw [hal] at e; cases e⟩
  · intro v w hC hv
    exact h v w hv
set_option maxRecDepth 100000 in
set_option maxHeartbeats 8000000 in
theorem awake30_any (w : World) : Calls Tryz.prog 10 #[] w fun e w' => e = .returned (.bool true) ∧ w.grownBy w' none := by
  have a0 : ((w.alloc (.cells #[.int .i64 0, .int .i64 0, .int .i64 0, .int .i64 0, .int .i64 0, .int .i64 0] 51)).alloc (.cells #[.int .i64 0, .int .i64 0, .int .i64 0, .int .i64 0, .int .i64 0, .int .i64 0] 51)).heap[w.heap.size]? = some (.cells #[.int .i64 0, .int .i64 0, .int .i64 0, .int .i64 0, .int .i64 0, .int .i64 0] 51 (0, 0)) := by rw [heap_alloc_old _ _ (by simp), heap_alloc_new]
  have a1 : ((w.alloc (.cells #[.int .i64 0, .int .i64 0, .int .i64 0, .int .i64 0, .int .i64 0, .int .i64 0] 51)).alloc (.cells #[.int .i64 0, .int .i64 0, .int .i64 0, .int .i64 0, .int .i64 0, .int .i64 0] 51)).heap[w.heap.size + 1]? = some (.cells #[.int .i64 0, .int .i64 0, .int .i64 0, .int .i64 0, .int .i64 0, .int .i64 0] 51 (0, 0)) := by simpa using heap_alloc_new (w.alloc _) _
  have g := gb_alloc (gb_alloc (gb_refl w none) (.cells #[.int .i64 0, .int .i64 0, .int .i64 0, .int .i64 0, .int .i64 0, .int .i64 0] 51)) (.cells #[.int .i64 0, .int .i64 0, .int .i64 0, .int .i64 0, .int .i64 0, .int .i64 0] 51)
  have A0 := Lib.hid a0
  have A1 := Lib.hid ((setRow_far (g := w.heap.size) (cs := #[.int .i64 0, .int .i64 0, .int .i64 0, .int .i64 100, .int .i64 100, .int .i64 1]) (by omega)).trans a1)
  have G1 := Lib.hid (gb_setRow (cs := #[.int .i64 0, .int .i64 0, .int .i64 0, .int .i64 3700, .int .i64 3700, .int .i64 1]) (g := w.heap.size + 1) (gb_setRow (cs := #[.int .i64 0, .int .i64 0, .int .i64 0, .int .i64 100, .int .i64 100, .int .i64 1]) (g := w.heap.size) g (.inl (Nat.le_refl _))) (.inl (by omega)))
  have B0 := Lib.hid ((setRow_far (g := w.heap.size + 1) (cs := #[.int .i64 0, .int .i64 0, .int .i64 0, .int .i64 3700, .int .i64 3700, .int .i64 1]) (by omega)).trans (setRow_at (cs := #[.int .i64 0, .int .i64 0, .int .i64 0, .int .i64 100, .int .i64 100, .int .i64 1]) a0))
  have B1 := Lib.hid (setRow_at (cs := #[.int .i64 0, .int .i64 0, .int .i64 0, .int .i64 3700, .int .i64 3700, .int .i64 1]) A1.out)
  clear a0 a1 g
  go_enter Tryz.func10, Tryz.ntmps10
  go_wp2_with (first | (with_reducible refine wpList_store_row rfl _ _ _ rfl w.heap.size #[.int .i64 0, .int .i64 0, .int .i64 0, .int .i64 100, .int .i64 100, .int .i64 1] rfl rfl _ _ A0.out (by kernel_rfl) rfl (by simp [Value.oneCell']) ?_) | (with_reducible refine wpList_store_row rfl _ _ _ rfl (w.heap.size + 1) #[.int .i64 0, .int .i64 0, .int .i64 0, .int .i64 3700, .int .i64 3700, .int .i64 1] rfl rfl _ _ A1.out (by kernel_rfl) rfl (by simp [Value.oneCell']) ?_))
  generalize (((w.alloc (.cells #[.int .i64 0, .int .i64 0, .int .i64 0, .int .i64 0, .int .i64 0, .int .i64 0] 51)).alloc (.cells #[.int .i64 0, .int .i64 0, .int .i64 0, .int .i64 0, .int .i64 0, .int .i64 0] 51)).setRow w.heap.size #[.int .i64 0, .int .i64 0, .int .i64 0, .int .i64 100, .int .i64 100, .int .i64 1]).setRow (w.heap.size + 1) #[.int .i64 0, .int .i64 0, .int .i64 0, .int .i64 3700, .int .i64 3700, .int .i64 1] = w1 at *
  clear A0 A1
  generalize w.heap.size = z at *
  obtain ⟨k0_, k1_, k2_, k3_, k4_, k5_⟩ := six B0.out
  obtain ⟨h0_, h1_, h2_, h3_, h4_, h5_⟩ := six B1.out
  have z0_ := block_lt' B0.out; have z1_ := block_lt' B1.out
  have u0_ := Made.cells z0_; have u1_ := Made.cells z1_
  refine Rg.region (Made w1) Makes (fun k_ => if k_ = 0 then some (isF SmpAt) else if k_ = 3 then some (isMk w1 2 #[.int .i64 0, .int .i64 0, .int .i64 0, .int .i64 100, .int .i64 100, .int .i64 1, .int .i64 0, .int .i64 0, .int .i64 0, .int .i64 3700, .int .i64 3700, .int .i64 1] 51) else if k_ = 4 then some (isF (AsF 0 [] [0, 1] 0 2)) else none)
    (fun _ => false) 0 11 (by kernel_rfl) (by kernel_rfl) (by kernel_rfl) (by kernel_rfl) (by kernel_rfl) (by kernel_rfl) (by kernel_rfl) Makes.size (Made.start w1) (fun hne => ?_)
  refine rg_fixF SmpAt 34 #[] rfl rfl rfl SmpAt.after (fun _ => by go_simp) (fun u hu => sample_any u) (fun sv su hsv => ?_)
  obtain ⟨la, ln, lc, ha, hm, hc, rfl, -⟩ := hsv
  simp only [Act.put, List.setIfInBounds_toArray, List.set_cons_zero, List.set_cons_succ]
  (repeat (refine rLexL_quiet (by rfl) (by rfl) (by rfl) (by rfl) ?_; go_big_quiet_step (fail); refine wpQuiet_nil ?_))
  refine rg_mk 2 #[.int .i64 0, .int .i64 0, .int .i64 0, .int .i64 100, .int .i64 100, .int .i64 1, .int .i64 0, .int .i64 0, .int .i64 0, .int .i64 3700, .int .i64 3700, .int .i64 1] 51 [.agg #[.int .i64 0, .int .i64 0, .int .i64 0, .int .i64 100, .int .i64 100, .int .i64 1], .agg #[.int .i64 0, .int .i64 0, .int .i64 0, .int .i64 3700, .int .i64 3700, .int .i64 1]] rfl rfl rfl (fun _ => by go_simp) (fun pb hpb => ?_)
  simp only [Act.put, List.setIfInBounds_toArray, List.set_cons_zero, List.set_cons_succ]
  refine rg_fixFD (AsF 0 [] [0, 1] 0 2) 15 #[.agg #[.int .i64 0, .int .i64 0, .int .i64 0, .int .i64 0, .int .i64 0, .int .i64 0, .int .i64 10, .slice la ln lc, .slice ha hm hc, .int .i64 9, .int .i64 0, .int .i64 60, .int .i64 1, .int .i64 2], .slice (some ⟨pb, 0, none⟩) 2 2] rfl rfl rfl AsF.after (fun _ => by go_simp) (fun u hu hd => ?_) (fun av au hav => ?_)
  · have d0 := hd ⟨0, .data⟩ (by simp) rfl
    have d3 := hd ⟨3, .data⟩ (by simp) rfl
    obtain ⟨la', ln', lc', ha', hm', hc', e, hin⟩ := d0
    simp only [Value.agg.injEq, Array.mk.injEq, List.cons.injEq, Value.slice.injEq, true_and, and_true] at e
    obtain ⟨⟨rfl, rfl, rfl⟩, rfl, rfl, rfl⟩ := e
    exact asF_of ass_ab (.slice la ln lc) (.slice ha hm hc) _ _ u hin (two_ph (isMk.out d3) rfl)
  obtain ⟨ga1, gc1, lf1, lo1, -, rfl, -⟩ := hav
  simp only [Act.put, List.setIfInBounds_toArray, List.set_cons_zero, List.set_cons_succ]
  (repeat (refine rLexL_quiet (by rfl) (by rfl) (by rfl) (by rfl) ?_; go_big_quiet_step (fail); refine wpQuiet_nil ?_))
  rintro wq1 hq1 hf -
  have FA1 := Lib.hid (hf 4)
  have G2 := Lib.hid (gb_trans G1.out hq1); have HQ1 := Lib.hid hq1
  have B0 := Lib.hid (block_kept hq1 B0.out rfl); have B1 := Lib.hid (block_kept hq1 B1.out rfl)
  clear hf hq1 hne u0_ u1_ k0_ k1_ k2_ k3_ k4_ k5_ h0_ h1_ h2_ h3_ h4_ h5_ z0_ z1_
  go_wp2_with fail
  obtain ⟨k0_, k1_, k2_, k3_, k4_, k5_⟩ := six B0.out
  obtain ⟨h0_, h1_, h2_, h3_, h4_, h5_⟩ := six B1.out
  have z0_ := block_lt' B0.out; have z1_ := block_lt' B1.out
  have u0_ := Made.cells z0_; have u1_ := Made.cells z1_
  refine Rg.region (Made wq1) Makes (fun k_ => if k_ = 0 then some (isF SmpAt) else if k_ = 3 then some (isMk wq1 2 #[.int .i64 0, .int .i64 0, .int .i64 0, .int .i64 100, .int .i64 100, .int .i64 1, .int .i64 0, .int .i64 0, .int .i64 0, .int .i64 100, .int .i64 100, .int .i64 1] 51) else if k_ = 4 then some (isF (AsF 0 [⟨[0, 1], 0, 0, 0, 100⟩] [] 1 0)) else none)
    (fun _ => false) 0 11 (by kernel_rfl) (by kernel_rfl) (by kernel_rfl) (by kernel_rfl) (by kernel_rfl) (by kernel_rfl) (by kernel_rfl) Makes.size (Made.start wq1) (fun hne => ?_)
  refine rg_fixF SmpAt 34 #[] rfl rfl rfl SmpAt.after (fun _ => by go_simp) (fun u hu => sample_any u) (fun sv su hsv => ?_)
  obtain ⟨la, ln, lc, ha, hm, hc, rfl, -⟩ := hsv
  simp only [Act.put, List.setIfInBounds_toArray, List.set_cons_zero, List.set_cons_succ]
  (repeat (refine rLexL_quiet (by rfl) (by rfl) (by rfl) (by rfl) ?_; go_big_quiet_step (fail); refine wpQuiet_nil ?_))
  refine rg_mk 2 #[.int .i64 0, .int .i64 0, .int .i64 0, .int .i64 100, .int .i64 100, .int .i64 1, .int .i64 0, .int .i64 0, .int .i64 0, .int .i64 100, .int .i64 100, .int .i64 1] 51 [.agg #[.int .i64 0, .int .i64 0, .int .i64 0, .int .i64 100, .int .i64 100, .int .i64 1], .agg #[.int .i64 0, .int .i64 0, .int .i64 0, .int .i64 100, .int .i64 100, .int .i64 1]] rfl rfl rfl (fun _ => by go_simp) (fun pb hpb => ?_)
  simp only [Act.put, List.setIfInBounds_toArray, List.set_cons_zero, List.set_cons_succ]
  refine rg_fixFD (AsF 0 [⟨[0, 1], 0, 0, 0, 100⟩] [] 1 0) 15 #[.agg #[.int .i64 0, .int .i64 0, .int .i64 0, .int .i64 0, .int .i64 0, .int .i64 0, .int .i64 10, .slice la ln lc, .slice ha hm hc, .int .i64 9, .int .i64 0, .int .i64 60, .int .i64 1, .int .i64 2], .slice (some ⟨pb, 0, none⟩) 2 2] rfl rfl rfl AsF.after (fun _ => by go_simp) (fun u hu hd => ?_) (fun av au hav => ?_)
  · have d0 := hd ⟨0, .data⟩ (by simp) rfl
    have d3 := hd ⟨3, .data⟩ (by simp) rfl
    obtain ⟨la', ln', lc', ha', hm', hc', e, hin⟩ := d0
    simp only [Value.agg.injEq, Array.mk.injEq, List.cons.injEq, Value.slice.injEq, true_and, and_true] at e
    obtain ⟨⟨rfl, rfl, rfl⟩, rfl, rfl, rfl⟩ := e
    exact asF_of ass_aa (.slice la ln lc) (.slice ha hm hc) _ _ u hin (two_ph (isMk.out d3) rfl)
  obtain ⟨ga2, gc2, lf2, lo2, -, rfl, -⟩ := hav
  simp only [Act.put, List.setIfInBounds_toArray, List.set_cons_zero, List.set_cons_succ]
  (repeat (refine rLexL_quiet (by rfl) (by rfl) (by rfl) (by rfl) ?_; go_big_quiet_step (fail); refine wpQuiet_nil ?_))
  rintro wq2 hq2 hf -
  have FA2 := Lib.hid (hf 4)
  have G3 := Lib.hid (gb_trans G2.out hq2); have HQ2 := Lib.hid hq2
  have B0 := Lib.hid (block_kept hq2 B0.out rfl); have B1 := Lib.hid (block_kept hq2 B1.out rfl)
  clear hf hq2 hne u0_ u1_ k0_ k1_ k2_ k3_ k4_ k5_ h0_ h1_ h2_ h3_ h4_ h5_ z0_ z1_
  go_wp2_with fail
  obtain ⟨-, hs1⟩ := AsF.parts FA1.out
  obtain ⟨⟨L2, hg2, hm2⟩, -⟩ := AsF.parts FA2.out
  have S1 := Lib.hid (hs1.after HQ2.out); have HG2 := Lib.hid hg2; have HM2 := Lib.hid hm2
  have IS := Lib.hid (ints_same (.slice lf1 2 lo1) (.slice (some ⟨wq2.heap.size, 0, none⟩) 2 2) [0, 1] (wq2.alloc (.cells #[.int .i64 0, .int .i64 1] 3)) (S1.out.after (gb_alloc (gb_refl _ _) _)) (two_sl (heap_alloc_new _ _)) (by decide))
  clear hs1 hg2 hm2
  go_wp2_with fail
  (with_reducible refine IS.out.mono ?_)
  rintro e w4 ⟨rfl, hg⟩
  have G4 := Lib.hid (gb_trans (gb_alloc G3.out _) hg); have HG4 := Lib.hid (HG2.out.after (gb_trans (gb_alloc (gb_refl _ _) _) hg))
  clear hg IS
  have d0 : ((w4.alloc (.cells #[.int .i64 0, .int .i64 1] 3)).alloc (.cells #[.slice (some ⟨w4.heap.size, 0, none⟩) 2 2, .int .i64 0, .int .i64 0, .int .i64 0, .int .i64 100] 53)).heap[w4.heap.size]? = some (.cells #[.int .i64 0, .int .i64 1] 3 (0, 0)) := by rw [heap_alloc_old _ _ (by simp), heap_alloc_new]
  have d1 : ((w4.alloc (.cells #[.int .i64 0, .int .i64 1] 3)).alloc (.cells #[.slice (some ⟨w4.heap.size, 0, none⟩) 2 2, .int .i64 0, .int .i64 0, .int .i64 0, .int .i64 100] 53)).heap[w4.heap.size + 1]? = some (.cells #[.slice (some ⟨w4.heap.size, 0, none⟩) 2 2, .int .i64 0, .int .i64 0, .int .i64 0, .int .i64 100] 53 (0, 0)) := by simpa using heap_alloc_new (w4.alloc _) _
  have ga := gb_alloc (gb_alloc (gb_refl w4 none) (.cells #[.int .i64 0, .int .i64 1] 3)) (.cells #[.slice (some ⟨w4.heap.size, 0, none⟩) 2 2, .int .i64 0, .int .i64 0, .int .i64 0, .int .i64 100] 53)
  have GA := Lib.hid (gb_trans G4.out ga)
  have GS := Lib.hid (groups_same (.slice ga2 1 gc2) (.slice (some ⟨w4.heap.size + 1, 0, none⟩) 1 1) L2 [⟨⟨[0, 1], 0, 0, 0, 100⟩, .slice (some ⟨w4.heap.size, 0, none⟩) 2 2⟩] _ (HG4.out.after ga) (one_gr d1 rfl (two_sl d0)) HM2.out (by have := congrArg List.length HM2.out; simp at this; omega))
  clear d0 d1 ga
  go_wp2_with fail
  (with_reducible refine GS.out.mono ?_)
  rintro e w5 ⟨rfl, hg⟩
  have G5 := Lib.hid (gb_trans GA.out hg)
  clear hg GS
  go_wp2_with fail
  exact bodyPost_ret (v := .bool true) (by simp [results, Tryz.results10, go_sem]) rfl ⟨rfl, G5.out⟩
end Go.Proofs.YtiebljanpnadjaaGreat
