import Derived.Deep.OwnRows
import Derived.Test.YtiebljanpnadjaaGreatPgAsC
namespace Go.Proofs.YtiebljanpnadjaaGreat
set_option linter.all false
open Go.RowKit Rg
section
variable {P : Program} {ops : Array Oper} {md : Region.Mode} {w0 : World} {sp : Nat → Option (List Value → Value → World → Prop)} {al : Nat → Bool} {N : Nat} {Q : List Oper → Act → Facts → Prop} {n k : Nat} {o : Oper} {l : List Oper} {a : Act} {f : Facts}
abbrev isMk (w0 : World) (m : Nat) (cs : Array Value) (T : TypeId) : List Value → Value → World → Prop := fun _ v u => ∃ b, v = .slice (some ⟨b, 0, none⟩) m m ∧ w0.heap.size ≤ b ∧ u.heap[b]? = some (.cells cs T (0, 0))
theorem isMk.out {w : World} {m : Nat} {cs : Array Value} {T : TypeId} {b : Nat} {u : World} (h : isMk w m cs T [] (.slice (some ⟨b, 0, none⟩) m m) u) : u.heap[b]? = some (.cells cs T (0, 0)) := by
 obtain ⟨b', e, -, h⟩ := h
 simp at e; subst e; exact h
theorem rg_mk (m : Nat) (cs : Array Value) (T : TypeId) (ops' : List Value) (hv : vals a o = ops') (hs : sp k = some (isMk w0 m cs T)) (hw : Region.wanted o (yielded ops a.tmps) = true)
  (hrun : ∀ w, (execOp a.eval o).run P w = .ok (.value (.slice (some ⟨w.heap.size, 0, none⟩) m m)) (w.alloc (.cells cs T)))
  (h : ∀ b, w0.heap.size ≤ b → rLexL P md ops ⟨In (Made w0), Makes, sp, al, N⟩ Q n l (k + 1) (a.put o.dst (.slice (some ⟨b, 0, none⟩) m m)) (upd f k (isMk w0 m cs T [] (.slice (some ⟨b, 0, none⟩) m m)))) :
  rLexL P md ops ⟨In (Made w0), Makes, sp, al, N⟩ Q (n + 1) (o :: l) k a f := by
 refine rLexL_spec (isMk w0 m cs T) hs hw ?_ (fun w hC hd => stepTo_run (hrun w) ?_) ?_
 ·rintro v j w w' _ _ _ hR ⟨b, e, hb, hh⟩
  exact ⟨b, e, hb, (World.grownBy.block hR b (Array.getElem?_eq_some_iff.1 hh).1 (by simp)).trans hh⟩
 ·have hg : w.grownBy (w.alloc (.cells cs T)) none := gb_alloc (gb_refl _ _) _
  refine ⟨In.mk (gb_trans hC.out hg), hg, ⟨_, rfl, hC.out.size, heap_alloc_new w _⟩, fun _ b hb _ => ?_⟩
  simp [blk] at hb; subst hb; simp
 ·rintro v w hC ⟨b, rfl, hb, -⟩
  exact h b hb
end
theorem made_vi (m : Nat) : madeCells #[Value.int .i64 0] m = (vi (List.replicate m 0)).toArray := by
 have := toList_madeCells_one (z := Value.int .i64 0) (n := m)
 apply Array.ext'
 rw [List.toList_toArray]
 first
  | (rw [this]; simp [vi])
  | (simp [madeCells, vi, Nat.mod_one])
structure Half (n k : Nat) (X Y : List Nat) : Prop where
 lx : X.length = n + 1
 ly : Y.length = n + 1
 at' : ∀ i, i < k → X[i]? = some ((i + 1) % (n + 1)) ∧ Y[(i + 1) % (n + 1)]? = some i
theorem Half.step {n k : Nat} {X Y : List Nat} (h : Half n k X Y) (hk : k ≤ n) : Half n (k + 1) (X.set k ((k + 1) % (n + 1))) (Y.set ((k + 1) % (n + 1)) k) := by
 have hm := Nat.mod_lt (k + 1) (show 0 < n + 1 by omega)
 refine ⟨by simp [h.lx], by simp [h.ly], fun i hi => ?_⟩
 by_cases e : i = k
 ·subst e
  rw [List.getElem?_set_self (by rw [h.lx]; omega), List.getElem?_set_self (by rw [h.ly]; exact hm)]
  exact ⟨rfl, rfl⟩
 ·have hne : (i + 1) % (n + 1) ≠ (k + 1) % (n + 1) := by
   rw [Nat.mod_eq_of_lt (show i + 1 < n + 1 by omega)]
   by_cases hkn : k = n
   ·subst hkn; rw [Nat.mod_self]; omega
   ·rw [Nat.mod_eq_of_lt (show k + 1 < n + 1 by omega)]; omega
  rw [List.getElem?_set_ne (fun h => e h.symm), List.getElem?_set_ne hne.symm]
  exact h.at' i (by omega)
theorem Half.links {n : Nat} {X Y : List Nat} (h : Half n (n + 1) X Y) : Links n (List.range n) X Y := by
 refine ⟨h.lx, h.ly, ?_, fun x hx => List.mem_range.1 hx, fun p hp => ?_⟩
 ·exact List.pairwise_lt_range
 ·obtain ⟨j, hj, e⟩ := List.getElem_of_mem hp
  have hl : (ring n (List.range n)).length = n + 1 := by simp [ring]
  have e1 : p.1 = (n :: List.range n)[j]'(by simp; omega) := by rw [← e]; simp [ring]
  have e2 : p.2 = (List.range n ++ [n])[j]'(by simp; omega) := by rw [← e]; simp [ring]
  have hp2 : p.2 = j := by
   rw [e2, List.getElem_append]
   split
   ·simp
   ·rename_i hc; simp at hc ⊢; omega
  have hp1 : p.1 ≤ n ∧ p.2 = (p.1 + 1) % (n + 1) := by
   rw [hp2, e1]
   cases j with
   | zero => simp
   | succ j =>
    simp only [List.getElem_cons_succ, List.getElem_range]
    rw [Nat.mod_eq_of_lt (by omega)]
    omega
  have := h.at' p.1 (by omega)
  rw [← hp1.2] at this
  exact this
set_option maxRecDepth 100000 in
set_option maxHeartbeats 4000000 in
theorem newChain_any (n : Nat) (w : World) (hn : n ≤ 1000) :
  Calls Tryz.prog 41 #[n] w fun e w' => ∃ gn gb, e = .returned (.agg #[.slice (some ⟨gn, 0, none⟩) (n + 1) (n + 1), .slice (some ⟨gb, 0, none⟩) (n + 1) (n + 1)]) ∧ ChAt gn gb n (List.range n) w' ∧ w.heap.size ≤ gn ∧ w.heap.size ≤ gb ∧ w.grownBy w' none := by
 have G1 := zH (gb_alloc (gb_refl w none) (.cells #[.slice none 0 0, .slice none 0 0] 74))
 have B1 := zH (heap_alloc_new w (.cells #[.slice none 0 0, .slice none 0 0] 74))
 have L1 : (w.alloc (.cells #[.slice none 0 0, .slice none 0 0] 74)).heap.size = w.heap.size + 1 := by simp
 have HL1 := zH L1
 clear L1
 have hw1 : IntKind.i64.wrap ((n : Int) + 1) = ((n + 1 : Nat) : Int) := by rw [IntKind.wrap_i64]; omega
 go_enter Tryz.func41, Tryz.ntmps41
 go_wp2_with fail
 generalize w.alloc (.cells #[.slice none 0 0, .slice none 0 0] 74) = w1 at *
 have RM := fun (u : World) => run_make_row' (P := Tryz.prog) 26 3 (.int .i64 0) 8 Tryz.underlying26 info_intS rfl .i64 .i64 (n + 1) (by omega) (by omega) u
 rw [show ((n + 1 : Nat) : Int) = (n : Int) + 1 by omega] at RM
 refine Rg.rR (Made w1) Makes (fun k => if k = 2 then some (isMk w1 (n + 1) (madeCells #[Value.int .i64 0] (n + 1)) 3) else if k = 5 then some (isMk w1 (n + 1) (madeCells #[Value.int .i64 0] (n + 1)) 3) else if k = 7 then some (isNew w1 #[.slice none 0 0, .slice none 0 0] 74) else none) (fun k => k == 2 || k == 5 || k == 7) 0 8 Makes.size (Made.start w1) (fun hne => ?_)
 (repeat (refine rQ ?_; go_big_quiet_step (fail); refine wpQuiet_nil ?_))
 refine rg_mk (n + 1) (madeCells #[Value.int .i64 0] (n + 1)) 3 _ rfl rfl rfl (fun u => ?_) (fun gn hgn => ?_)
 ·have hr_ := RM u
  unfold execOp
  simp [go_sem, hr_]
 simp only [zA, zB, zC, zD, zX]
 (repeat (refine rQ ?_; go_big_quiet_step (fail); refine wpQuiet_nil ?_))
 refine rg_mk (n + 1) (madeCells #[Value.int .i64 0] (n + 1)) 3 _ rfl rfl rfl (fun u => ?_) (fun gb hgb => ?_)
 ·have hr_ := RM u
  unfold execOp
  simp [go_sem, hr_]
 simp only [zA, zB, zC, zD, zX]
 (repeat (refine rQ ?_; go_big_quiet_step (fail); refine wpQuiet_nil ?_))
 refine rg_new #[.slice none 0 0, .slice none 0 0] 74 rfl rfl (fun _ => by go_simp) (fun cb hcb => ?_)
 simp only [zA, zB, zC, zD, zX]
 (repeat (refine rQ ?_; go_big_quiet_step (fail); refine wpQuiet_nil ?_))
 rintro wq hq hf hD
 have h1 := isMk.out (hf 2); have h2 := isMk.out (hf 5); have h3 := isNew.out (hf 7)
 have n12 : gn ≠ gb := (hD 2 _ _ rfl (by kernel_rfl) rfl rfl gn rfl (Nat.zero_le _)).2 5 _ _ rfl (by decide) (by kernel_rfl) rfl rfl gb rfl (Nat.zero_le _)
 have n13 : gn ≠ cb := (hD 2 _ _ rfl (by kernel_rfl) rfl rfl gn rfl (Nat.zero_le _)).2 7 _ _ rfl (by decide) (by kernel_rfl) rfl rfl cb rfl (Nat.zero_le _)
 have n23 : gb ≠ cb := (hD 5 _ _ rfl (by kernel_rfl) rfl rfl gb rfl (Nat.zero_le _)).2 7 _ _ rfl (by decide) (by kernel_rfl) rfl rfl cb rfl (Nat.zero_le _)
 refine wpList_store_row rfl _ _ _ rfl cb #[.slice (some ⟨gn, 0, none⟩) (n + 1) (n + 1), .slice (some ⟨gb, 0, none⟩) (n + 1) (n + 1)] rfl rfl _ _ h3 (by kernel_rfl) rfl (by simp [Value.oneCell']) ?_
 have hl := HL1.out
 have hzc : w.heap.size ≠ cb := by omega
 have k3 := setRow_at (cs := #[.slice (some ⟨gn, 0, none⟩) (n + 1) (n + 1), .slice (some ⟨gb, 0, none⟩) (n + 1) (n + 1)]) h3
 have k1 := (setRow_far (cs := #[.slice (some ⟨gn, 0, none⟩) (n + 1) (n + 1), .slice (some ⟨gb, 0, none⟩) (n + 1) (n + 1)]) n13).trans h1; have k2 := (setRow_far (cs := #[.slice (some ⟨gn, 0, none⟩) (n + 1) (n + 1), .slice (some ⟨gb, 0, none⟩) (n + 1) (n + 1)]) n23).trans h2
 have k0 := (setRow_far (cs := #[.slice (some ⟨gn, 0, none⟩) (n + 1) (n + 1), .slice (some ⟨gb, 0, none⟩) (n + 1) (n + 1)]) hzc).trans (block_kept hq B1.out rfl)
 have kg := gb_setRow (cs := #[.slice (some ⟨gn, 0, none⟩) (n + 1) (n + 1), .slice (some ⟨gb, 0, none⟩) (n + 1) (n + 1)]) (gb_trans G1.out hq) (g := cb) (.inl (by omega))
 rw [made_vi] at k1 k2
 have K0 := zH k0; have K1 := zH k1; have K2 := zH k2; have K3 := zH k3; have KG := zH kg
 have HNE := zH (And.intro n12 (And.intro n13 n23))
 have HZ : Hid (w.heap.size ≤ gn ∧ w.heap.size ≤ gb ∧ w.heap.size ≤ cb ∧ w.heap.size ≠ gn ∧ w.heap.size ≠ gb ∧ w.heap.size ≠ cb) := zH (by omega)
 have H0 : Hid (Half n 0 (List.replicate (n + 1) 0) (List.replicate (n + 1) 0)) := zH ⟨by simp, by simp, fun i hi => by omega⟩
 clear hf hD hq hne h1 h2 h3 n12 n13 n23 hl hzc k0 k1 k2 k3 kg hgn hgb hcb RM G1 B1 HL1
 generalize wq.setRow cb #[.slice (some ⟨gn, 0, none⟩) (n + 1) (n + 1), .slice (some ⟨gb, 0, none⟩) (n + 1) (n + 1)] = w2 at *
 generalize hz : w.heap.size = z at *
 have HZZ := zH hz
 clear hz
 refine wpList_nil ?_
 simp only [zA, zB, zC, zD, zX]
 go_wp2_with fail
 go_loopw [14] (fun i wr => ∃ (k : Nat) (X Y : List Nat), k ≤ n + 1 ∧ i = .int .i64 k ∧ Half n k X Y ∧ wr.heap[gn]? = some (.cells (vi X).toArray 3 (0, 0)) ∧ wr.heap[gb]? = some (.cells (vi Y).toArray 3 (0, 0)) ∧ wr.heap[cb]? = some (.cells #[.slice (some ⟨gn, 0, none⟩) (n + 1) (n + 1), .slice (some ⟨gb, 0, none⟩) (n + 1) (n + 1)] 74 (0, 0)) ∧ wr.heap[z]? = some (.cells #[.slice none 0 0, .slice none 0 0] 74 (0, 0)) ∧ w.grownBy wr none) (fun i _ => n + 1 - (intOf i).toNat)
 case atStart => exact ⟨0, _, _, by omega, rfl, H0.out, K1.out, K2.out, K3.out, K0.out, KG.out⟩
 case round =>
  obtain ⟨k, X, Y, hk, rfl, hH, hx, hy, hc, hr, hgr⟩ := hrel
  by_cases hlt : k < n + 1
  ·have hkd : decide ((k : Int) < (n : Int) + 1) = true := decide_eq_true (by omega)
   have hkd' : decide ((k : Int) < ((n + 1 : Nat) : Int)) = true := decide_eq_true (by omega)
   obtain ⟨j, hj⟩ : ∃ j, (k + 1) % (n + 1) = j := ⟨_, rfl⟩
   have hjl : j < n + 1 := by rw [← hj]; exact Nat.mod_lt _ (by omega)
   have hrem : ((k : Int) + 1).tmod ((n : Int) + 1) = (j : Int) := by
    have := Int.ofNat_tmod (k + 1) (n + 1)
    rw [hj] at this
    push_cast at this
    exact this.symm
   have hwk : IntKind.i64.wrap ((k : Int) + 1) = (k : Int) + 1 := by rw [IntKind.wrap_i64]; omega
   have hwj : IntKind.i64.wrap (j : Int) = (j : Int) := by rw [IntKind.wrap_i64]; omega
   have HS := zH (hH.step (by omega))
   rw [hj] at HS
   have hx0 := set_block hx k (.int .i64 (j : Int))
   obtain ⟨c0, hc0⟩ : ∃ c0, (vi X).toArray = c0 := ⟨_, rfl⟩
   obtain ⟨c1, hc1⟩ : ∃ c1, c0.set! k (.int .i64 (j : Int)) = c1 := ⟨_, rfl⟩
   have hkc : k < c0.size := by rw [← hc0]; simp [vi, hH.lx]; omega
   have HV : Hid (c1 = (vi (X.set k j)).toArray) := zH (by rw [← hc1, ← hc0]; exact vi_set)
   rw [hc0] at hx
   have HC1 := zH hc1
   have HX := zH hx; have HY := zH hy; have HC := zH hc; have HR := zH hr; have HG := zH hgr
   obtain ⟨yj, hyj⟩ : ∃ yb, Y[j]? = some yb := ⟨_, List.getElem?_eq_getElem (by rw [hH.ly]; exact hjl)⟩
   have HYJ := zH hyj
   have hcl := block_lt' hc
   have hne := HNE.out
   have hcn : cb ≠ gn := Ne.symm hne.2.1
   have u0_ := ChG.cells (w := wr) (r := gn) (c0 := c0) (c1 := c1) (T := 3) hcl hcn
   have x0_ : wr.cell? ⟨cb, 0, none⟩ = some (.slice (some ⟨gn, 0, none⟩) (n + 1) (n + 1)) := cell_of hc 0 _ rfl
   have x1_ : wr.cell? ⟨cb, 1, none⟩ = some (.slice (some ⟨gb, 0, none⟩) (n + 1) (n + 1)) := cell_of hc 1 _ rfl
   have hlk : k < n + 1 := hlt
   clear hj hx0 hc0 hc1 hH hx hy hc hr hgr hyj hne hcn
   go_wp2_with fail
   refine Rg.rR (ChG wr gn c0 c1 3) (MakesB 17 gn) (fun k => if k = 17 then some (isAt gn c1 3) else none) (fun _ => false) 0 18 (MakesB.size 17 gn) (ChG.start HX.out) (fun hne => ?_)
   (repeat (refine rQ ?_; go_big_quiet_step (fail); refine wpQuiet_nil ?_))
   refine rg_cellStore gn k j c0 c1 HC1.out 3 3 _ _ rfl rfl rfl hkc (by kernel_rfl) rfl rfl rfl rfl ?_
   simp only [zA, zB, zC, zD, zX]
   rintro wq hG hf hD
   have hq1 : wq.heap[gn]? = some (.cells (vi (X.set k j)).toArray 3 (0, 0)) := by rw [← HV.out]; exact hf 17
   have hq2 := block_keptp hG.1 HY.out (Ne.symm HNE.out.1)
   have hq3 := block_keptp hG.1 HC.out (Ne.symm HNE.out.2.1)
   have hq0 := block_keptp hG.1 HR.out HZ.out.2.2.2.1
   have s2 := set_block hq2 j (.int .i64 (k : Int))
   rw [vi_set] at s2
   have s1 : (wq.setCell ⟨gb, j, none⟩ (.int .i64 (k : Int))).heap[gn]? = _ := (setCell_far (a := ⟨gb, j, none⟩) HNE.out.1).trans hq1
   have s3 : (wq.setCell ⟨gb, j, none⟩ (.int .i64 (k : Int))).heap[cb]? = _ := (setCell_far (a := ⟨gb, j, none⟩) (Ne.symm HNE.out.2.2)).trans hq3
   have s0 : (wq.setCell ⟨gb, j, none⟩ (.int .i64 (k : Int))).heap[z]? = _ := (setCell_far (a := ⟨gb, j, none⟩) HZ.out.2.2.2.2.1).trans hq0
   have sg := gb_setCell (gb_new HG.out hG.1 (fun q hq => by simp at hq; have := HZ.out; have := HZZ.out; omega)) (a := ⟨gb, j, none⟩) (.inl (by have := HZ.out; have := HZZ.out; show w.heap.size ≤ gb; omega)) (.int .i64 (k : Int))
   have S0 := zH s0; have S1 := zH s1; have S2 := zH s2; have S3 := zH s3; have SG := zH sg
   have hyc := vi_cell hq2 HYJ.out
   have hfz := frzA hq2 j
   clear hf hD hne hq0 hq1 hq2 hq3 s0 s1 s2 s3 sg u0_ x0_ x1_ hG
   go_wp2_with fail
   go_roundw
   case rel => exact ⟨k + 1, _, _, by omega, by go_num, HS.out, S1.out, S2.out, S3.out, S0.out, SG.out⟩
   case measure => simp [intOf]; omega
  ·have hkd : decide ((k : Int) < (n : Int) + 1) = false := decide_eq_false (by omega)
   have hkd' : decide ((k : Int) < ((n + 1 : Nat) : Int)) = false := decide_eq_false (by omega)
   obtain rfl : k = n + 1 := by omega
   have LK := zH hH.links
   have HX := zH hx; have HY := zH hy; have HG := zH hgr
   have hcz : cb ≠ z := Ne.symm HZ.out.2.2.2.2.2
   have x0_ : wr.cell? ⟨cb, 0, none⟩ = some (.slice (some ⟨gn, 0, none⟩) (n + 1) (n + 1)) := cell_of hc 0 _ rfl
   have x1_ : wr.cell? ⟨cb, 1, none⟩ = some (.slice (some ⟨gb, 0, none⟩) (n + 1) (n + 1)) := cell_of hc 1 _ rfl
   have e1 := (setRow_far (cs := #[.slice (some ⟨gn, 0, none⟩) (n + 1) (n + 1), .slice (some ⟨gb, 0, none⟩) (n + 1) (n + 1)]) (Ne.symm HZ.out.2.2.2.1)).trans hx
   have e2 := (setRow_far (cs := #[.slice (some ⟨gn, 0, none⟩) (n + 1) (n + 1), .slice (some ⟨gb, 0, none⟩) (n + 1) (n + 1)]) (Ne.symm HZ.out.2.2.2.2.1)).trans hy
   have e0 := setRow_at (cs := #[.slice (some ⟨gn, 0, none⟩) (n + 1) (n + 1), .slice (some ⟨gb, 0, none⟩) (n + 1) (n + 1)]) hr
   have eg := gb_setRow (cs := #[.slice (some ⟨gn, 0, none⟩) (n + 1) (n + 1), .slice (some ⟨gb, 0, none⟩) (n + 1) (n + 1)]) hgr (g := z) (.inl (by have := HZZ.out; omega))
   have E1 := zH e1; have E2 := zH e2; have E0 := zH e0; have EG := zH eg
   have HR := zH hr
   have hcl := block_lt' hc
   clear hH hx hy hgr hc hcz e0 e1 e2 eg hr
   go_wp2_with (with_reducible refine wpList_store_row rfl _ _ _ rfl z #[.slice (some ⟨gn, 0, none⟩) (n + 1) (n + 1), .slice (some ⟨gb, 0, none⟩) (n + 1) (n + 1)] rfl rfl _ _ HR.out (by kernel_rfl) rfl (by simp [Value.oneCell']) ?_)
   obtain ⟨q0_, q1_⟩ := cells2 E0.out
   exact bodyPost_ret (v := .agg #[.slice (some ⟨gn, 0, none⟩) (n + 1) (n + 1), .slice (some ⟨gb, 0, none⟩) (n + 1) (n + 1)]) (by simp [results, Tryz.results41, go_sem, q0_, q1_]) rfl ⟨gn, gb, rfl, ⟨HNE.out.1, _, _, E1.out, E2.out, LK.out⟩, by have := HZ.out; have := HZZ.out; omega, by have := HZ.out; have := HZZ.out; omega, EG.out⟩
end Go.Proofs.YtiebljanpnadjaaGreat
