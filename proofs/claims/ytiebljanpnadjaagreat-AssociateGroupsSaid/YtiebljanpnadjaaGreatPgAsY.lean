import Derived.Test.YtiebljanpnadjaaGreatPgAsA
namespace Go.Proofs.YtiebljanpnadjaaGreat
set_option linter.all false
open Go.RowKit Rg
theorem run_neq3s (x y z : Int) (w : World) : (binOp .neq 23 (.agg #[x, y, z]) (.agg #[x, y, z])).run Tryz.prog w = .ok (.bool false) w := by
 simp [go_sem]
attribute [local go_sem high] run_neq3s
theorem flatG_at : ∀ (l : List Grv) (i : Nat) (h : i < l.length) (j : Nat), j < 5 → (flatG l)[i * 5 + j]? = (l[i]).cells[j]?
 | a :: l, 0, _, j, hj => by
  have e : flatG (a :: l) = a.cells ++ flatG l := by simp [flatG]
  rw [e, Nat.zero_mul, Nat.zero_add, List.getElem?_append_left (by simp [Grv.cells]; omega)]; rfl
 | a :: l, i + 1, h, j, hj => by
  have e : flatG (a :: l) = a.cells ++ flatG l := by simp [flatG]
  have hl : a.cells.length = 5 := rfl
  rw [e, List.getElem?_append_right (by rw [hl]; omega), hl, show (i + 1) * 5 + j - 5 = i * 5 + j by omega, flatG_at l i (by simpa using h) j hj]; rfl
theorem GrIn.at {w : World} {v : Value} {L : List Grv} (h : GrIn w v L) {i : Nat} (hi : i < L.length) : ∃ b off cap ma mc, v = .slice (some ⟨b, off, none⟩) L.length cap ∧ b < w.heap.size ∧ L[i].mv = .slice ma L[i].g.ms.length mc ∧ Sl w (.slice ma L[i].g.ms.length mc) L[i].g.ms ∧
  w.cell? ⟨b, off + i * 5, none⟩ = some (.slice ma L[i].g.ms.length mc) ∧ w.cell? ⟨b, off + i * 5 + 1, none⟩ = some (.int .i64 L[i].g.x) ∧ w.cell? ⟨b, off + i * 5 + 2, none⟩ = some (.int .i64 L[i].g.y) ∧ w.cell? ⟨b, off + i * 5 + 3, none⟩ = some (.int .i64 L[i].g.z) ∧ w.cell? ⟨b, off + i * 5 + 4, none⟩ = some (.int .i64 L[i].g.t) := by
 obtain ⟨b, off, cap, rfl, hb, -, -, hc⟩ := h.1.block (by omega)
 have hm := h.2 L[i] (List.getElem_mem hi)
 obtain ⟨ma, mc, e⟩ := hm.shape
 refine ⟨b, off, cap, ma, mc, rfl, hb, e, e ▸ hm, e ▸ hc (i * 5) _ (flatG_at L i hi 0 (by omega)), ?_, ?_, ?_, ?_⟩
 ·rw [Nat.add_assoc]; exact hc _ _ (flatG_at L i hi 1 (by omega))
 ·rw [Nat.add_assoc]; exact hc _ _ (flatG_at L i hi 2 (by omega))
 ·rw [Nat.add_assoc]; exact hc _ _ (flatG_at L i hi 3 (by omega))
 ·rw [Nat.add_assoc]; exact hc _ _ (flatG_at L i hi 4 (by omega))
set_option maxRecDepth 100000 in
set_option maxHeartbeats 8000000 in
theorem groups_same (v1 v2 : Value) (L1 L2 : List Grv) (w : World) (h1 : GrIn w v1 L1) (h2 : GrIn w v2 L2) (he : L1.map Grv.g = L2.map Grv.g) (hl : L1.length ≤ 1000000) :
  Calls Tryz.prog 22 #[v1, v2] w fun e w' => e = .returned (.bool true) ∧ w.grownBy w' none := by
 have hlen : L2.length = L1.length := by have := congrArg List.length he; simpa using this.symm
 have H1 := zH h1; have H2 := zH h2; have HE := zH he; have HL2 := zH hlen
 obtain ⟨a1, c1, rfl⟩ := h1.1.slice; obtain ⟨a2, c2, rfl⟩ := h2.1.slice
 rw [hlen] at H2 ⊢
 generalize hn : L1.length = n at *
 have HN := zH hn
 clear h1 h2 he hlen hn
 go_enter Tryz.func22, Tryz.ntmps22
 go_wp2_with fail
 go_loopw [5] (fun i wr => ∃ k : Nat, k ≤ n ∧ i = .int .i64 k ∧ w.grownBy wr none) (fun i _ => n - (intOf i).toNat)
 case atStart => exact ⟨0, by omega, rfl, gb_refl _ _⟩
 case round =>
  obtain ⟨k, hk, rfl, hgr⟩ := hrel
  have HGR := zH hgr
  clear hgr
  by_cases hlt : k < n
  ·have hkd : decide ((k : Int) < (n : Int)) = true := decide_eq_true (by omega)
   have hk1 : k < L1.length := by have := HN.out; omega
   have hk2 : k < L2.length := by have := HN.out; have := HL2.out; omega
   have hg : L1[k].g = L2[k].g := by
    have h := congrArg (fun l => l[k]?) HE.out
    simpa [hk1, hk2] using h
   obtain ⟨b1, o1, d1, m1, f1, e1, hb1, -, hs1, x0_, x1_, x2_, x3_, x4_⟩ := (H1.out.after HGR.out).at hk1
   obtain ⟨b2, o2, d2, m2, f2, e2, hb2, -, hs2, y0_, y1_, y2_, y3_, y4_⟩ := (H2.out.after HGR.out).at hk2
   simp only [Value.slice.injEq] at e1 e2
   obtain ⟨rfl, -, rfl⟩ := e1; obtain ⟨rfl, -, rfl⟩ := e2
   rw [← hg] at hs2 y0_ y1_ y2_ y3_ y4_
   generalize L1[k].g = g at *
   obtain ⟨ms, px, py, pz, pt⟩ := g
   simp only [] at hs1 hs2 x0_ x1_ x2_ x3_ x4_ y0_ y1_ y2_ y3_ y4_
   clear hg
   have HS1 := zH hs1; have HS2 := zH hs2
   generalize hml : ms.length = ml at *
   have HML := zH hml
   clear hs1 hs2 hml
   have u1 := fun (x : Up wr) (c : Nat) => ever_cell x (b := b1) (o := c) hb1
   have u2 := fun (x : Up wr) (c : Nat) => ever_cell x (b := b2) (o := c) hb2
   go_wp2_with fail
   (refine wp_region_grown (by kernel_rfl) (by kernel_rfl) ?_; (repeat (go_big_quiet_step (fail))); refine wpQuiet_nil ?_; intro wq hq)
   have HGQ := zH hq
   have HGN := zH (gb_trans HGR.out hq)
   clear hq u1 u2
   have X0 := zH ((gb_cell HGQ.out hb1 (by simp)).trans x0_); have Y0 := zH ((gb_cell HGQ.out hb2 (by simp)).trans y0_)
   have HB1 := zH (Nat.lt_of_lt_of_le hb1 HGQ.out.size); have HB2 := zH (Nat.lt_of_lt_of_le hb2 HGQ.out.size)
   have T1 := zH (HS1.out.after HGQ.out); have T2 := zH (HS2.out.after HGQ.out)
   clear x0_ x1_ x2_ x3_ x4_ y0_ y1_ y2_ y3_ y4_ hb1 hb2 HS1 HS2 HGQ
   go_wp2_with fail
   go_loopw [6] (fun i wr => ∃ j : Nat, j ≤ ml ∧ i = .int .i64 j ∧ wq.grownBy wr none) (fun i _ => ml - (intOf i).toNat)
   case atStart => exact ⟨0, by omega, rfl, gb_refl _ _⟩
   case round =>
    obtain ⟨j, hj, rfl, hgr⟩ := hrel
    have HJR := zH hgr
    have x0_ := (gb_cell hgr HB1.out (by simp)).trans X0.out; have y0_ := (gb_cell hgr HB2.out (by simp)).trans Y0.out
    have hb1 := Nat.lt_of_lt_of_le HB1.out hgr.size; have hb2 := Nat.lt_of_lt_of_le HB2.out hgr.size
    clear hgr
    by_cases hltj : j < ml
    ·have hjd : decide ((j : Int) < (ml : Int)) = true := decide_eq_true (by omega)
     obtain ⟨p1, q1, r1, e1, hp1, hle, hcap, hc1⟩ := (T1.out.after HJR.out).block (by rw [HML.out]; omega)
     obtain ⟨p2, q2, r2, e2, hp2, -, -, hc2⟩ := (T2.out.after HJR.out).block (by rw [HML.out]; omega)
     simp only [Value.slice.injEq] at e1 e2
     obtain ⟨rfl, -, rfl⟩ := e1; obtain ⟨rfl, -, rfl⟩ := e2
     have z1_ := hc1 j (by rw [HML.out]; exact hltj); have z2_ := hc2 j (by rw [HML.out]; exact hltj)
     have hmlb : j < 9223372036854775807 := by have := HML.out; omega
     generalize at0 ms j = y at *
     clear hc1 hc2 hcap hle
     have u1 := fun (x : Up wr) (c : Nat) => ever_cell x (b := b1) (o := c) hb1
     have u2 := fun (x : Up wr) (c : Nat) => ever_cell x (b := b2) (o := c) hb2
     have u3 := fun (x : Up wr) (c : Nat) => ever_cell x (b := p1) (o := c) hp1
     have u4 := fun (x : Up wr) (c : Nat) => ever_cell x (b := p2) (o := c) hp2
     go_wp2_with fail
     (refine wp_region_grown (by kernel_rfl) (by kernel_rfl) ?_; (repeat (go_big_quiet_step (fail))); refine wpQuiet_nil ?_; intro wq hq)
     have HJN := zH (gb_trans HJR.out hq)
     clear hq u1 u2 u3 u4 x0_ y0_ z1_ z2_
     go_wp2_with fail
     go_roundw
     case rel => exact ⟨j + 1, by omega, by go_num, HJN.out⟩
     case measure => simp [intOf]; omega
    ·have hjd : decide ((j : Int) < (ml : Int)) = false := decide_eq_false (by omega)
     have HJE := zH (gb_trans HGN.out HJR.out)
     go_wp2_with fail
     go_roundw
     case rel => exact ⟨k + 1, by omega, by go_num, HJE.out⟩
     case measure => simp [intOf]; omega
  ·have hkd : decide ((k : Int) < (n : Int)) = false := decide_eq_false (by omega)
   go_wp2_with fail
   go_ret
   exact ⟨rfl, HGR.out⟩
def SmpAt (v : Value) (u : World) : Prop := ∃ la ln lc ha hm hc, v = .agg #[(0:Int), (0:Int), (0:Int), (0:Int), (0:Int), (0:Int), (10:Int), .slice la ln lc, .slice ha hm hc, (9:Int), (0:Int), (60:Int), (1:Int), (2:Int)] ∧ AscIn smp30 (.slice la ln lc) (.slice ha hm hc) u
theorem SmpAt.after (v : Value) (u u' : World) (h : SmpAt v u) (hg : u.grownBy u' none) : SmpAt v u' := by
 obtain ⟨la, ln, lc, ha, hm, hc, rfl, h⟩ := h
 exact ⟨la, ln, lc, ha, hm, hc, rfl, h.after hg⟩
theorem two_sl {u : World} {b : Nat} {x y : Int} {T : TypeId} {fr : Nat × Nat} (h : u.heap[b]? = some (.cells #[x, y] T fr)) : Sl u (.slice (some ⟨b, 0, none⟩) 2 2) [x, y] := by
 refine .inr ⟨b, 0, 2, rfl, block_lt' h, by simp, by simp, fun k hk => ?_⟩
 match k, hk with
 | 0, _ => simp [World.cell?, h]
 | 1, _ => simp [World.cell?, h]
theorem sample_any (w : World) : Calls Tryz.prog 34 #[] w fun e w' => ∃ v, e = .returned v ∧ SmpAt v w' ∧ w.grownBy w' none := by
 have b0 : (((w.alloc (.cells #[(0:Int), (0:Int), (0:Int), (0:Int), (0:Int), (0:Int), (0:Int), .slice none 0 0, .slice none 0 0, (0:Int), (0:Int), (0:Int), (0:Int), (0:Int)] 30)).alloc (.cells #[(0:Int), (5:Int)] 3)).alloc (.cells #[(0:Int), (7:Int)] 3)).heap[w.heap.size]? = some (.cells #[(0:Int), (0:Int), (0:Int), (0:Int), (0:Int), (0:Int), (0:Int), .slice none 0 0, .slice none 0 0, (0:Int), (0:Int), (0:Int), (0:Int), (0:Int)] 30 (0, 0)) := by rw [heap_alloc_old _ _ (by simp; omega), heap_alloc_old _ _ (by simp), heap_alloc_new]
 have b1 : (((w.alloc (.cells #[(0:Int), (0:Int), (0:Int), (0:Int), (0:Int), (0:Int), (0:Int), .slice none 0 0, .slice none 0 0, (0:Int), (0:Int), (0:Int), (0:Int), (0:Int)] 30)).alloc (.cells #[(0:Int), (5:Int)] 3)).alloc (.cells #[(0:Int), (7:Int)] 3)).heap[w.heap.size + 1]? = some (.cells #[(0:Int), (5:Int)] 3 (0, 0)) := by rw [heap_alloc_old _ _ (by simp)]; simpa using heap_alloc_new (w.alloc _) _
 have b2 : (((w.alloc (.cells #[(0:Int), (0:Int), (0:Int), (0:Int), (0:Int), (0:Int), (0:Int), .slice none 0 0, .slice none 0 0, (0:Int), (0:Int), (0:Int), (0:Int), (0:Int)] 30)).alloc (.cells #[(0:Int), (5:Int)] 3)).alloc (.cells #[(0:Int), (7:Int)] 3)).heap[w.heap.size + 1 + 1]? = some (.cells #[(0:Int), (7:Int)] 3 (0, 0)) := by simpa using heap_alloc_new ((w.alloc _).alloc _) _
 have g := gb_setRow (cs := #[(0:Int), (0:Int), (0:Int), (0:Int), (0:Int), (0:Int), (10:Int), .slice (some ⟨w.heap.size + 1, 0, none⟩) 2 2, .slice (some ⟨w.heap.size + 1 + 1, 0, none⟩) 2 2, (9:Int), (0:Int), (60:Int), (1:Int), (2:Int)]) (g := w.heap.size) (gb_alloc (gb_alloc (gb_alloc (gb_refl w none) (.cells #[(0:Int), (0:Int), (0:Int), (0:Int), (0:Int), (0:Int), (0:Int), .slice none 0 0, .slice none 0 0, (0:Int), (0:Int), (0:Int), (0:Int), (0:Int)] 30)) (.cells #[(0:Int), (5:Int)] 3)) (.cells #[(0:Int), (7:Int)] 3)) (.inl (Nat.le_refl _))
 have B0 := zH b0; have HG := zH g
 have HN := zH (setRow_at (cs := #[(0:Int), (0:Int), (0:Int), (0:Int), (0:Int), (0:Int), (10:Int), .slice (some ⟨w.heap.size + 1, 0, none⟩) 2 2, .slice (some ⟨w.heap.size + 1 + 1, 0, none⟩) 2 2, (9:Int), (0:Int), (60:Int), (1:Int), (2:Int)]) b0)
 have HI := zH (AscIn.mk (A := smp30) (two_sl ((setRow_far (g := w.heap.size) (cs := #[(0:Int), (0:Int), (0:Int), (0:Int), (0:Int), (0:Int), (10:Int), .slice (some ⟨w.heap.size + 1, 0, none⟩) 2 2, .slice (some ⟨w.heap.size + 1 + 1, 0, none⟩) 2 2, (9:Int), (0:Int), (60:Int), (1:Int), (2:Int)]) (by omega)).trans b1)) (two_sl ((setRow_far (g := w.heap.size) (cs := #[(0:Int), (0:Int), (0:Int), (0:Int), (0:Int), (0:Int), (10:Int), .slice (some ⟨w.heap.size + 1, 0, none⟩) 2 2, .slice (some ⟨w.heap.size + 1 + 1, 0, none⟩) 2 2, (9:Int), (0:Int), (60:Int), (1:Int), (2:Int)]) (by omega)).trans b2)))
 clear b0 b1 b2 g
 go_enter Tryz.func34, Tryz.ntmps34
 go_wp2_with (with_reducible refine wpList_store_row rfl _ _ _ rfl w.heap.size #[(0:Int), (0:Int), (0:Int), (0:Int), (0:Int), (0:Int), (10:Int), .slice (some ⟨w.heap.size + 1, 0, none⟩) 2 2, .slice (some ⟨w.heap.size + 1 + 1, 0, none⟩) 2 2, (9:Int), (0:Int), (60:Int), (1:Int), (2:Int)] rfl rfl _ _ B0.out (by kernel_rfl) rfl (by simp [Value.oneCell']) ?_)
 obtain ⟨c0_, c1_, c2_, c3_, c4_, c5_, c6_, c7_, c8_, c9_, c10_, c11_, c12_, c13_⟩ := cells14 HN.out
 exact bodyPost_ret (v := .agg #[(0:Int), (0:Int), (0:Int), (0:Int), (0:Int), (0:Int), (10:Int), .slice (some ⟨w.heap.size + 1, 0, none⟩) 2 2, .slice (some ⟨w.heap.size + 1 + 1, 0, none⟩) 2 2, (9:Int), (0:Int), (60:Int), (1:Int), (2:Int)]) (by simp [results, Tryz.results34, go_sem, c0_, c1_, c2_, c3_, c4_, c5_, c6_, c7_, c8_, c9_, c10_, c11_, c12_, c13_]) rfl ⟨_, rfl, ⟨_, _, _, _, _, _, rfl, HI.out⟩, HG.out⟩
def AsF (E : Int) (G : List Grp) (LF : List Int) (n m : Nat) (v : Value) (u : World) : Prop := ∃ (ga : Option Addr) (gc : Nat) (lf : Option Addr) (lo : Nat) (L : List Grv), v = .tuple #[.slice ga n gc, .slice lf m lo, E] ∧ GrIn u (.slice ga n gc) L ∧ L.map Grv.g = G ∧ Sl u (.slice lf m lo) LF
theorem AsF.after {E : Int} {G : List Grp} {LF : List Int} {n m : Nat} (v : Value) (u u' : World) (h : AsF E G LF n m v u) (hg : u.grownBy u' none) : AsF E G LF n m v u' := by
 obtain ⟨ga, gc, lf, lo, L, rfl, h1, h2, h3⟩ := h
 exact ⟨ga, gc, lf, lo, L, rfl, h1.after hg, h2, h3.after hg⟩
theorem asF_of {A : Asc} {P : List Ph} {E : Int} {G : List Grp} {LF : List Int} (hR : assocR A P = (E, G, LF)) (vl vh pv : Value) (cs : Array Value) (u : World) (hA : AscIn A vl vh u) (hp : SlC 6 u pv P.length (flatP P)) (h20 : P.length < 20 := by decide) (hcs : cs = A.val vl vh := by rfl) :
  Calls Tryz.prog 15 #[.agg cs, pv] u fun e w' => ∃ v, e = .returned v ∧ AsF E G LF G.length LF.length v w' ∧ u.grownBy w' none := by
 subst hcs
 refine (associate_any A P vl vh pv u hA hp h20).mono ?_
 rintro e w' ⟨L, gv, lv, rfl, h1, h2, h3, h4⟩
 rw [hR] at h2 h3 ⊢
 dsimp only at h2 h3 ⊢
 have hl : L.length = G.length := by rw [← h2, List.length_map]
 obtain ⟨ga, gc, rfl⟩ := h1.1.slice
 obtain ⟨lf, lo, rfl⟩ := h3.shape
 rw [hl] at h1 ⊢
 exact ⟨_, rfl, ⟨ga, gc, lf, lo, L, rfl, h1, h2, h3⟩, h4⟩
theorem two_ph {u : World} {b : Nat} {x y : Ph} {cs : Array Value} {T : TypeId} {fr : Nat × Nat} (h : u.heap[b]? = some (.cells cs T fr)) (hcs : cs = (flatP [x, y]).toArray) : SlC 6 u (.slice (some ⟨b, 0, none⟩) 2 2) [x, y].length (flatP [x, y]) := by
 subst hcs
 refine ⟨by rw [flatP_length], .inr ⟨b, 0, 2, rfl, block_lt' h, by simp, by simp, fun j v hj => ?_⟩⟩
 simpa [World.cell?, h] using hj
theorem one_gr {u : World} {b : Nat} {x : Grv} {cs : Array Value} {T : TypeId} {fr : Nat × Nat} (h : u.heap[b]? = some (.cells cs T fr)) (hcs : cs = (flatG [x]).toArray) (hs : Sl u x.mv x.g.ms) : GrIn u (.slice (some ⟨b, 0, none⟩) 1 1) [x] := by
 subst hcs
 refine ⟨⟨by rw [flatG_length], .inr ⟨b, 0, 1, rfl, block_lt' h, by simp, by simp, fun j v hj => ?_⟩⟩, fun y hy => ?_⟩
 ·simpa [World.cell?, h] using hj
 ·rw [List.mem_singleton.1 hy]; exact hs
theorem AsF.parts {E : Int} {G : List Grp} {LF : List Int} {n m : Nat} {ga : Option Addr} {gc : Nat} {lf : Option Addr} {lo : Nat} {u : World} (h : AsF E G LF n m (.tuple #[.slice ga n gc, .slice lf m lo, E]) u) : (∃ L, GrIn u (.slice ga n gc) L ∧ L.map Grv.g = G) ∧ Sl u (.slice lf m lo) LF := by
 obtain ⟨ga', gc', lf', lo', L', e, h1, h2, h3⟩ := h
 simp only [Value.tuple.injEq, Array.mk.injEq, List.cons.injEq, Value.slice.injEq, true_and, and_true] at e
 obtain ⟨⟨rfl, rfl⟩, rfl, rfl⟩ := e
 exact ⟨⟨L', h1, h2⟩, h3⟩
theorem rg_fixFD {P : Program} {ops : Array Oper} {md : Region.Mode} {w0 : World} {sp : Nat → Option (List Value → Value → World → Prop)} {al : Nat → Bool} {N : Nat} {Q : List Oper → Act → Facts → Prop} {n k : Nat} {o : Oper} {l : List Oper} {a : Act} {f : Facts}
  (F : Value → World → Prop) (fid : FuncId) (args : Array Value) (hs : sp k = some (isF F)) (hw : Region.wanted o (yielded ops a.tmps) = true) (hal : al k = false) (hst : ∀ v u u', F v u → u.grownBy u' none → F v u')
  (hrun : ∀ w, (execOp a.eval o).run P w = .ok (.enter fid args) w)
  (hc : ∀ u, w0.grownBy u none → (∀ e ∈ o.after, Region.binds md e = true → f e.on u) → Calls P fid args u fun e w' => ∃ v, e = .returned v ∧ F v w' ∧ u.grownBy w' none)
  (h : ∀ v u, F v u → rLexL P md ops ⟨In (Made w0), Makes, sp, al, N⟩ Q n l (k + 1) (a.put o.dst v) (upd f k (F v))) :
  rLexL P md ops ⟨In (Made w0), Makes, sp, al, N⟩ Q (n + 1) (o :: l) k a f := by
 refine rLexL_spec (isF F) hs hw (fun v j w w' _ _ _ hR h => hst v w w' h hR) (fun w hC hd => stepTo_call (hrun w) ?_) ?_
 ·refine (hc w hC.out hd).mono ?_
  rintro e w' ⟨v, rfl, hF, hg⟩
  exact ⟨_, rfl, In.mk (gb_trans hC.out hg), hg, hF, fun e => by rw [hal] at e; cases e⟩
 ·intro v w hC hv
  exact h v w hv
set_option maxRecDepth 100000 in
set_option maxHeartbeats 8000000 in
theorem awake30_any (w : World) : Calls Tryz.prog 10 #[] w fun e w' => e = .returned (.bool true) ∧ w.grownBy w' none := by
 have a0 : ((w.alloc (.cells #[(0:Int), (0:Int), (0:Int), (0:Int), (0:Int), (0:Int)] 51)).alloc (.cells #[(0:Int), (0:Int), (0:Int), (0:Int), (0:Int), (0:Int)] 51)).heap[w.heap.size]? = some (.cells #[(0:Int), (0:Int), (0:Int), (0:Int), (0:Int), (0:Int)] 51 (0, 0)) := by rw [heap_alloc_old _ _ (by simp), heap_alloc_new]
 have a1 : ((w.alloc (.cells #[(0:Int), (0:Int), (0:Int), (0:Int), (0:Int), (0:Int)] 51)).alloc (.cells #[(0:Int), (0:Int), (0:Int), (0:Int), (0:Int), (0:Int)] 51)).heap[w.heap.size + 1]? = some (.cells #[(0:Int), (0:Int), (0:Int), (0:Int), (0:Int), (0:Int)] 51 (0, 0)) := by simpa using heap_alloc_new (w.alloc _) _
 have g := gb_alloc (gb_alloc (gb_refl w none) (.cells #[(0:Int), (0:Int), (0:Int), (0:Int), (0:Int), (0:Int)] 51)) (.cells #[(0:Int), (0:Int), (0:Int), (0:Int), (0:Int), (0:Int)] 51)
 have A0 := zH a0
 have A1 := zH ((setRow_far (g := w.heap.size) (cs := #[(0:Int), (0:Int), (0:Int), (100:Int), (100:Int), (1:Int)]) (by omega)).trans a1)
 have G1 := zH (gb_setRow (cs := #[(0:Int), (0:Int), (0:Int), (3700:Int), (3700:Int), (1:Int)]) (g := w.heap.size + 1) (gb_setRow (cs := #[(0:Int), (0:Int), (0:Int), (100:Int), (100:Int), (1:Int)]) (g := w.heap.size) g (.inl (Nat.le_refl _))) (.inl (by omega)))
 have B0 := zH ((setRow_far (g := w.heap.size + 1) (cs := #[(0:Int), (0:Int), (0:Int), (3700:Int), (3700:Int), (1:Int)]) (by omega)).trans (setRow_at (cs := #[(0:Int), (0:Int), (0:Int), (100:Int), (100:Int), (1:Int)]) a0))
 have B1 := zH (setRow_at (cs := #[(0:Int), (0:Int), (0:Int), (3700:Int), (3700:Int), (1:Int)]) A1.out)
 clear a0 a1 g
 go_enter Tryz.func10, Tryz.ntmps10
 go_wp2_with (first | (with_reducible refine wpList_store_row rfl _ _ _ rfl w.heap.size #[(0:Int), (0:Int), (0:Int), (100:Int), (100:Int), (1:Int)] rfl rfl _ _ A0.out (by kernel_rfl) rfl (by simp [Value.oneCell']) ?_) | (with_reducible refine wpList_store_row rfl _ _ _ rfl (w.heap.size + 1) #[(0:Int), (0:Int), (0:Int), (3700:Int), (3700:Int), (1:Int)] rfl rfl _ _ A1.out (by kernel_rfl) rfl (by simp [Value.oneCell']) ?_))
 generalize (((w.alloc (.cells #[(0:Int), (0:Int), (0:Int), (0:Int), (0:Int), (0:Int)] 51)).alloc (.cells #[(0:Int), (0:Int), (0:Int), (0:Int), (0:Int), (0:Int)] 51)).setRow w.heap.size #[(0:Int), (0:Int), (0:Int), (100:Int), (100:Int), (1:Int)]).setRow (w.heap.size + 1) #[(0:Int), (0:Int), (0:Int), (3700:Int), (3700:Int), (1:Int)] = w1 at *
 clear A0 A1
 generalize w.heap.size = z at *
 obtain ⟨k0_, k1_, k2_, k3_, k4_, k5_⟩ := six B0.out
 obtain ⟨h0_, h1_, h2_, h3_, h4_, h5_⟩ := six B1.out
 have z0_ := block_lt' B0.out; have z1_ := block_lt' B1.out
 have u0_ := Made.cells z0_; have u1_ := Made.cells z1_
 refine Rg.rR (Made w1) Makes (fun k_ => if k_ = 0 then some (isF SmpAt) else if k_ = 3 then some (isMk w1 2 #[(0:Int), (0:Int), (0:Int), (100:Int), (100:Int), (1:Int), (0:Int), (0:Int), (0:Int), (3700:Int), (3700:Int), (1:Int)] 51) else if k_ = 4 then some (isF (AsF 0 [] [0, 1] 0 2)) else none)
  (fun _ => false) 0 11 Makes.size (Made.start w1) (fun hne => ?_)
 refine rg_fixF SmpAt 34 #[] rfl rfl rfl SmpAt.after (fun _ => by go_simp) (fun u hu => sample_any u) (fun sv su hsv => ?_)
 obtain ⟨la, ln, lc, ha, hm, hc, rfl, -⟩ := hsv
 simp only [zA, zB, zC, zD, zX]
 (repeat (refine rQ ?_; go_big_quiet_step (fail); refine wpQuiet_nil ?_))
 refine rg_mk 2 #[(0:Int), (0:Int), (0:Int), (100:Int), (100:Int), (1:Int), (0:Int), (0:Int), (0:Int), (3700:Int), (3700:Int), (1:Int)] 51 [.agg #[(0:Int), (0:Int), (0:Int), (100:Int), (100:Int), (1:Int)], .agg #[(0:Int), (0:Int), (0:Int), (3700:Int), (3700:Int), (1:Int)]] rfl rfl rfl (fun _ => by go_simp) (fun pb hpb => ?_)
 simp only [zA, zB, zC, zD, zX]
 refine rg_fixFD (AsF 0 [] [0, 1] 0 2) 15 #[.agg #[(0:Int), (0:Int), (0:Int), (0:Int), (0:Int), (0:Int), (10:Int), .slice la ln lc, .slice ha hm hc, (9:Int), (0:Int), (60:Int), (1:Int), (2:Int)], .slice (some ⟨pb, 0, none⟩) 2 2] rfl rfl rfl AsF.after (fun _ => by go_simp) (fun u hu hd => ?_) (fun av au hav => ?_)
 ·have d0 := hd ⟨0, .data⟩ (by simp) rfl
  have d3 := hd ⟨3, .data⟩ (by simp) rfl
  obtain ⟨la', ln', lc', ha', hm', hc', e, hin⟩ := d0
  simp only [Value.agg.injEq, Array.mk.injEq, List.cons.injEq, Value.slice.injEq, true_and, and_true] at e
  obtain ⟨⟨rfl, rfl, rfl⟩, rfl, rfl, rfl⟩ := e
  exact asF_of ass_ab (.slice la ln lc) (.slice ha hm hc) _ _ u hin (two_ph (isMk.out d3) rfl)
 obtain ⟨ga1, gc1, lf1, lo1, -, rfl, -⟩ := hav
 simp only [zA, zB, zC, zD, zX]
 (repeat (refine rQ ?_; go_big_quiet_step (fail); refine wpQuiet_nil ?_))
 rintro wq1 hq1 hf -
 have FA1 := zH (hf 4)
 have G2 := zH (gb_trans G1.out hq1); have HQ1 := zH hq1
 have B0 := zH (block_kept hq1 B0.out rfl); have B1 := zH (block_kept hq1 B1.out rfl)
 clear hf hq1 hne u0_ u1_ k0_ k1_ k2_ k3_ k4_ k5_ h0_ h1_ h2_ h3_ h4_ h5_ z0_ z1_
 go_wp2_with fail
 obtain ⟨k0_, k1_, k2_, k3_, k4_, k5_⟩ := six B0.out
 obtain ⟨h0_, h1_, h2_, h3_, h4_, h5_⟩ := six B1.out
 have z0_ := block_lt' B0.out; have z1_ := block_lt' B1.out
 have u0_ := Made.cells z0_; have u1_ := Made.cells z1_
 refine Rg.rR (Made wq1) Makes (fun k_ => if k_ = 0 then some (isF SmpAt) else if k_ = 3 then some (isMk wq1 2 #[(0:Int), (0:Int), (0:Int), (100:Int), (100:Int), (1:Int), (0:Int), (0:Int), (0:Int), (100:Int), (100:Int), (1:Int)] 51) else if k_ = 4 then some (isF (AsF 0 [⟨[0, 1], 0, 0, 0, 100⟩] [] 1 0)) else none)
  (fun _ => false) 0 11 Makes.size (Made.start wq1) (fun hne => ?_)
 refine rg_fixF SmpAt 34 #[] rfl rfl rfl SmpAt.after (fun _ => by go_simp) (fun u hu => sample_any u) (fun sv su hsv => ?_)
 obtain ⟨la, ln, lc, ha, hm, hc, rfl, -⟩ := hsv
 simp only [zA, zB, zC, zD, zX]
 (repeat (refine rQ ?_; go_big_quiet_step (fail); refine wpQuiet_nil ?_))
 refine rg_mk 2 #[(0:Int), (0:Int), (0:Int), (100:Int), (100:Int), (1:Int), (0:Int), (0:Int), (0:Int), (100:Int), (100:Int), (1:Int)] 51 [.agg #[(0:Int), (0:Int), (0:Int), (100:Int), (100:Int), (1:Int)], .agg #[(0:Int), (0:Int), (0:Int), (100:Int), (100:Int), (1:Int)]] rfl rfl rfl (fun _ => by go_simp) (fun pb hpb => ?_)
 simp only [zA, zB, zC, zD, zX]
 refine rg_fixFD (AsF 0 [⟨[0, 1], 0, 0, 0, 100⟩] [] 1 0) 15 #[.agg #[(0:Int), (0:Int), (0:Int), (0:Int), (0:Int), (0:Int), (10:Int), .slice la ln lc, .slice ha hm hc, (9:Int), (0:Int), (60:Int), (1:Int), (2:Int)], .slice (some ⟨pb, 0, none⟩) 2 2] rfl rfl rfl AsF.after (fun _ => by go_simp) (fun u hu hd => ?_) (fun av au hav => ?_)
 ·have d0 := hd ⟨0, .data⟩ (by simp) rfl
  have d3 := hd ⟨3, .data⟩ (by simp) rfl
  obtain ⟨la', ln', lc', ha', hm', hc', e, hin⟩ := d0
  simp only [Value.agg.injEq, Array.mk.injEq, List.cons.injEq, Value.slice.injEq, true_and, and_true] at e
  obtain ⟨⟨rfl, rfl, rfl⟩, rfl, rfl, rfl⟩ := e
  exact asF_of ass_aa (.slice la ln lc) (.slice ha hm hc) _ _ u hin (two_ph (isMk.out d3) rfl)
 obtain ⟨ga2, gc2, lf2, lo2, -, rfl, -⟩ := hav
 simp only [zA, zB, zC, zD, zX]
 (repeat (refine rQ ?_; go_big_quiet_step (fail); refine wpQuiet_nil ?_))
 rintro wq2 hq2 hf -
 have FA2 := zH (hf 4)
 have G3 := zH (gb_trans G2.out hq2); have HQ2 := zH hq2
 have B0 := zH (block_kept hq2 B0.out rfl); have B1 := zH (block_kept hq2 B1.out rfl)
 clear hf hq2 hne u0_ u1_ k0_ k1_ k2_ k3_ k4_ k5_ h0_ h1_ h2_ h3_ h4_ h5_ z0_ z1_
 go_wp2_with fail
 obtain ⟨-, hs1⟩ := AsF.parts FA1.out
 obtain ⟨⟨L2, hg2, hm2⟩, -⟩ := AsF.parts FA2.out
 have S1 := zH (hs1.after HQ2.out); have HG2 := zH hg2; have HM2 := zH hm2
 have IS := zH (ints_same (.slice lf1 2 lo1) (.slice (some ⟨wq2.heap.size, 0, none⟩) 2 2) [0, 1] (wq2.alloc (.cells #[(0:Int), (1:Int)] 3)) (S1.out.after (gb_alloc (gb_refl _ _) _)) (two_sl (heap_alloc_new _ _)) (by decide))
 clear hs1 hg2 hm2
 go_wp2_with fail
 (with_reducible refine IS.out.mono ?_)
 rintro e w4 ⟨rfl, hg⟩
 have G4 := zH (gb_trans (gb_alloc G3.out _) hg); have HG4 := zH (HG2.out.after (gb_trans (gb_alloc (gb_refl _ _) _) hg))
 clear hg IS
 have d0 : ((w4.alloc (.cells #[(0:Int), (1:Int)] 3)).alloc (.cells #[.slice (some ⟨w4.heap.size, 0, none⟩) 2 2, (0:Int), (0:Int), (0:Int), (100:Int)] 53)).heap[w4.heap.size]? = some (.cells #[(0:Int), (1:Int)] 3 (0, 0)) := by rw [heap_alloc_old _ _ (by simp), heap_alloc_new]
 have d1 : ((w4.alloc (.cells #[(0:Int), (1:Int)] 3)).alloc (.cells #[.slice (some ⟨w4.heap.size, 0, none⟩) 2 2, (0:Int), (0:Int), (0:Int), (100:Int)] 53)).heap[w4.heap.size + 1]? = some (.cells #[.slice (some ⟨w4.heap.size, 0, none⟩) 2 2, (0:Int), (0:Int), (0:Int), (100:Int)] 53 (0, 0)) := by simpa using heap_alloc_new (w4.alloc _) _
 have ga := gb_alloc (gb_alloc (gb_refl w4 none) (.cells #[(0:Int), (1:Int)] 3)) (.cells #[.slice (some ⟨w4.heap.size, 0, none⟩) 2 2, (0:Int), (0:Int), (0:Int), (100:Int)] 53)
 have GA := zH (gb_trans G4.out ga)
 have GS := zH (groups_same (.slice ga2 1 gc2) (.slice (some ⟨w4.heap.size + 1, 0, none⟩) 1 1) L2 [⟨⟨[0, 1], 0, 0, 0, 100⟩, .slice (some ⟨w4.heap.size, 0, none⟩) 2 2⟩] _ (HG4.out.after ga) (one_gr d1 rfl (two_sl d0)) HM2.out (by have := congrArg List.length HM2.out; simp at this; omega))
 clear d0 d1 ga
 go_wp2_with fail
 (with_reducible refine GS.out.mono ?_)
 rintro e w5 ⟨rfl, hg⟩
 have G5 := zH (gb_trans GA.out hg)
 clear hg GS
 go_wp2_with fail
 exact bodyPost_ret (v := .bool true) (by simp [results, Tryz.results10, go_sem]) rfl ⟨rfl, G5.out⟩
end Go.Proofs.YtiebljanpnadjaaGreat
