import Derived.Laws.OwnMore
import Derived.Laws.EntriesVeiled
import Derived.Test.YtiebljanpnadjaaGreatPgRef
import Derived.Test.YtiebljanpnadjaaGreatPgAsV
namespace Go.Proofs.YtiebljanpnadjaaGreat
set_option linter.all false
open Go.RowKit Rg
theorem isNaN_any (a : Int) (w : World) :
  Calls Tryz.prog 126 #[a] w fun e w' => e = .returned (.bool false) ∧ w = w' := by
 go_enter Tryz.func126, Tryz.ntmps126
 go_wp2
 go_ret
 exact ⟨rfl, rfl⟩
theorem cmpc_any (a b : Int) (w : World) :
  Calls Tryz.prog 90 #[a, b] w fun e w' => e = .returned (.int .i64 (sgn a b)) ∧ w = w' := by
 rcases Int.lt_trichotomy a b with h | h | h
 all_goals
  go_enter Tryz.func90, Tryz.ntmps90
  go_wp2_with fail
  (with_reducible refine (isNaN_any _ _).mono ?_)
  rintro e w1 ⟨rfl, rfl⟩
  go_wp2_with fail
  (with_reducible refine (isNaN_any _ _).mono ?_)
  rintro e w1 ⟨rfl, rfl⟩
  go_wp2
  go_ret
  exact ⟨ret_int (by unfold sgn; split <;> (try split) <;> omega), rfl⟩
theorem cmpor_any (a b c : Int) (v : Value) (w : World) (h : Sl w v [a, b, c]) :
  Calls Tryz.prog 89 #[v] w fun e w' => e = .returned (.int .i64 (if a ≠ 0 then a else if b ≠ 0 then b else c)) ∧ w = w' := by
 rcases h with ⟨h, _⟩ | ⟨g, off, cap, rfl, hb, hcap, hcap2, hc⟩
 ·cases h
 have c0 := hc 0 (by simp); have c1 := hc 1 (by simp); have c2 := hc 2 (by simp)
 simp only [List.length_cons, List.length_nil, List.getElem?_cons_zero, List.getElem?_cons_succ, Option.getD_some, Nat.add_zero] at c0 c1 c2 hcap
 clear hc
 by_cases ha : a = 0
 rotate_left
 ·go_enter Tryz.func89, Tryz.ntmps89
  go_wp2
  refine wp_loop_rounds 4 ?_
  repeat any_goals (rw [rounds_succ]; go_wp2)
  go_ret
  exact ⟨ret_int (by simp [ha]), rfl⟩
 by_cases hb : b = 0
 rotate_left
 ·go_enter Tryz.func89, Tryz.ntmps89
  go_wp2
  refine wp_loop_rounds 4 ?_
  repeat any_goals (rw [rounds_succ]; go_wp2)
  go_ret
  exact ⟨ret_int (by simp [ha, hb]), rfl⟩
 by_cases hc : c = 0
 all_goals
  go_enter Tryz.func89, Tryz.ntmps89
  go_wp2
  refine wp_loop_rounds 4 ?_
  repeat any_goals (rw [rounds_succ]; go_wp2)
  go_ret
  exact ⟨ret_int (by simp [ha, hb, hc]), rfl⟩
set_option maxRecDepth 100000 in
set_option maxHeartbeats 1000000 in
theorem compare_any (x0 y0 z0 x1 y1 z1 : Int) (w : World) :
  Calls Tryz.prog 91 #[.agg #[x0, y0, z0], .agg #[x1, y1, z1]] w fun e w' => e = .returned (.int .i64 (cmpP x0 y0 z0 x1 y1 z1)) ∧ w.grownBy w' none := by
 go_enter Tryz.func91, Tryz.ntmps91
 go_wp2_with fail
 have HG := zH (gb_alloc (gb_alloc (gb_refl w none) (.cells #[x0, y0, z0] 23)) (.cells #[x1, y1, z1] 23))
 have h0 : ((w.alloc (.cells #[x0, y0, z0] 23)).alloc (.cells #[x1, y1, z1] 23)).heap[w.heap.size]? = some (.cells #[x0, y0, z0] 23 (0, 0)) := by rw [heap_alloc_old _ _ (by simp), heap_alloc_new]
 have h1 : ((w.alloc (.cells #[x0, y0, z0] 23)).alloc (.cells #[x1, y1, z1] 23)).heap[w.heap.size + 1]? = some (.cells #[x1, y1, z1] 23 (0, 0)) := by simpa using heap_alloc_new (w.alloc _) _
 generalize (w.alloc (.cells #[x0, y0, z0] 23)).alloc (.cells #[x1, y1, z1] 23) = w1 at *
 obtain ⟨a0, a1, a2⟩ := cells3 h0
 obtain ⟨b0, b1, b2⟩ := cells3 h1
 have la := Made.cells (block_lt h0)
 have lb := Made.cells (block_lt h1)
 clear h0 h1
 refine Rg.rR (Made w1) Makes (fun k => if k = 4 then some (isV (.int .i64 (sgn x0 x1))) else if k = 9 then some (isV (.int .i64 (sgn y0 y1))) else if k = 14 then some (isV (.int .i64 (sgn z0 z1))) else if k = 15 then some (isLit w1 [sgn x0 x1, sgn y0 y1, sgn z0 z1]) else if k = 16 then some (isV (.int .i64 (cmpP x0 y0 z0 x1 y1 z1))) else none)
  (fun _ => false) 0 17 Makes.size (Made.start w1) (fun hne => ?_)
 (repeat (refine rQ ?_; go_big_quiet_step (fail); refine wpQuiet_nil ?_))
 refine rg_fix (.int .i64 (sgn x0 x1)) 90 #[x0, x1] rfl rfl rfl (fun _ => by go_simp) (fun u hu => same_grown (cmpc_any _ _ u)) ?_
 simp only [zA, zB, zC, zD, zX]
 (repeat (refine rQ ?_; go_big_quiet_step (fail); refine wpQuiet_nil ?_))
 refine rg_fix (.int .i64 (sgn y0 y1)) 90 #[y0, y1] rfl rfl rfl (fun _ => by go_simp) (fun u hu => same_grown (cmpc_any _ _ u)) ?_
 simp only [zA, zB, zC, zD, zX]
 (repeat (refine rQ ?_; go_big_quiet_step (fail); refine wpQuiet_nil ?_))
 refine rg_fix (.int .i64 (sgn z0 z1)) 90 #[z0, z1] rfl rfl rfl (fun _ => by go_simp) (fun u hu => same_grown (cmpc_any _ _ u)) ?_
 simp only [zA, zB, zC, zD, zX]
 refine rg_litM [sgn x0 x1, sgn y0 y1, sgn z0 z1] 3 rfl rfl rfl (fun _ => by go_simp) rfl (fun v => ?_)
 simp only [zA, zB, zC, zD, zX]
 refine rg_fixD (.int .i64 (cmpP x0 y0 z0 x1 y1 z1)) 89 #[v] rfl rfl rfl (fun _ => by go_simp) (fun u hu hd => same_grown ((cmpor_any _ _ _ v u (hd ⟨15, .data⟩ (by simp) rfl).1).mono fun e w' ⟨h, h'⟩ => ⟨by rw [h]; simp [cmpP], h'⟩)) ?_
 simp only [zA, zB, zC, zD, zX]
 rintro wq hq hf hD
 have HG2 := zH (gb_trans HG.out hq)
 clear hf hD hq hne
 go_wp2_with fail
 go_ret
 exact ⟨rfl, HG2.out⟩
set_option maxHeartbeats 1000000 in
theorem rhull_any (a0 b0 c0 a1 b1 c1 x0 y0 z0 x1 y1 z1 : Int) (w : World) :
  Calls Tryz.prog 148 #[.agg #[a0, b0, c0, a1, b1, c1], .agg #[x0, y0, z0, x1, y1, z1]] w fun e w' =>
   e = .returned (.agg #[.int .i64 (huL (bP a0 b0 c0 a1 b1 c1 && bP x0 y0 z0 x1 y1 z1) a0 x0), .int .i64 (huL (bP a0 b0 c0 a1 b1 c1 && bP x0 y0 z0 x1 y1 z1) b0 y0), .int .i64 (huL (bP a0 b0 c0 a1 b1 c1 && bP x0 y0 z0 x1 y1 z1) c0 z0), .int .i64 (huH (bP a0 b0 c0 a1 b1 c1 && bP x0 y0 z0 x1 y1 z1) a1 x1), .int .i64 (huH (bP a0 b0 c0 a1 b1 c1 && bP x0 y0 z0 x1 y1 z1) b1 y1), .int .i64 (huH (bP a0 b0 c0 a1 b1 c1 && bP x0 y0 z0 x1 y1 z1) c1 z1)]) ∧ w.grownBy w' none := by
 go_enter Tryz.func148, Tryz.ntmps148
 go_wp2_with fail
 (with_reducible refine (rvalidBox_any _ _ _ _ _ _ _).mono ?_)
 rintro e w1 ⟨rfl, hg1⟩
 have HA1 := zH (show w1.heap[w.heap.size]? = some (.cells #[a0, b0, c0, a1, b1, c1] 25 (0, 0)) from block_kept hg1 (by rw [heap_alloc_old _ _ (by simp; omega), heap_alloc_old _ _ (by simp), heap_alloc_new]) rfl)
 have HX1 := zH (show w1.heap[w.heap.size + 1]? = some (.cells #[x0, y0, z0, x1, y1, z1] 25 (0, 0)) from block_kept hg1 (by rw [heap_alloc_old _ _ (by simp)]; simpa using heap_alloc_new (w.alloc _) _) rfl)
 have HR1 := zH (show w1.heap[w.heap.size + 2]? = some (.cells #[(0:Int), (0:Int), (0:Int), (0:Int), (0:Int), (0:Int)] 25 (0, 0)) from block_kept hg1 (by simpa using heap_alloc_new ((w.alloc _).alloc _) _) rfl)
 have HG1 := zH (gb_trans (gb_alloc (gb_alloc (gb_alloc (gb_refl _ _) _) _) _) hg1); clear hg1
 have Z : ∀ (u : World) (hR : u.heap[w.heap.size + 2]? = some (.cells #[(0:Int), (0:Int), (0:Int), (0:Int), (0:Int), (0:Int)] 25 (0, 0))), True := fun _ _ => trivial
 clear Z
 cases hv0 : bP a0 b0 c0 a1 b1 c1
 ·have hR := HR1.out
  have HN := zH (setRow_at (cs := #[(0:Int), (0:Int), (0:Int), (0:Int), (0:Int), (0:Int)]) hR)
  have HGE := zH (gb_setRow (cs := #[(0:Int), (0:Int), (0:Int), (0:Int), (0:Int), (0:Int)]) HG1.out (g := w.heap.size + 2) (.inl (by omega)))
  go_wp2_with (with_reducible refine wpList_store_row rfl _ _ _ rfl (w.heap.size + 2) #[(0:Int), (0:Int), (0:Int), (0:Int), (0:Int), (0:Int)] rfl rfl _ _ hR (by kernel_rfl) rfl (by simp [Value.oneCell']) ?_)
  obtain ⟨e0, e1, e2, e3, e4, e5⟩ := cells6 HN.out
  refine bodyPost_ret (v := .agg #[(0:Int), (0:Int), (0:Int), (0:Int), (0:Int), (0:Int)]) (by simp [results, Tryz.results148, go_sem, e0, e1, e2, e3, e4, e5]) rfl ⟨by simp [huL, huH, hv0], HGE.out⟩
 obtain ⟨d0, d1, d2, d3, d4, d5⟩ := cells6 HX1.out
 go_wp2_with fail
 (with_reducible refine (rvalidBox_any _ _ _ _ _ _ _).mono ?_)
 rintro e w2 ⟨rfl, hg2⟩
 have HA2 := zH (block_kept hg2 HA1.out rfl); have HX2 := zH (block_kept hg2 HX1.out rfl); have HR2 := zH (block_kept hg2 HR1.out rfl)
 have HG2 := zH (gb_trans HG1.out hg2); clear hg2 HG1 HA1 HX1 HR1 d0 d1 d2 d3 d4 d5
 cases hv1 : bP x0 y0 z0 x1 y1 z1
 ·have hR := HR2.out
  have HN := zH (setRow_at (cs := #[(0:Int), (0:Int), (0:Int), (0:Int), (0:Int), (0:Int)]) hR)
  have HGE := zH (gb_setRow (cs := #[(0:Int), (0:Int), (0:Int), (0:Int), (0:Int), (0:Int)]) HG2.out (g := w.heap.size + 2) (.inl (by omega)))
  go_wp2_with (with_reducible refine wpList_store_row rfl _ _ _ rfl (w.heap.size + 2) #[(0:Int), (0:Int), (0:Int), (0:Int), (0:Int), (0:Int)] rfl rfl _ _ hR (by kernel_rfl) rfl (by simp [Value.oneCell']) ?_)
  obtain ⟨e0, e1, e2, e3, e4, e5⟩ := cells6 HN.out
  refine bodyPost_ret (v := .agg #[(0:Int), (0:Int), (0:Int), (0:Int), (0:Int), (0:Int)]) (by simp [results, Tryz.results148, go_sem, e0, e1, e2, e3, e4, e5]) rfl ⟨by simp [huL, huH, hv0, hv1], HGE.out⟩
 have HE := zH (show (bP a0 b0 c0 a1 b1 c1 && bP x0 y0 z0 x1 y1 z1) = true from by simp [hv0, hv1])
 clear hv0 hv1
 have hR := HR2.out
 have HN := zH (setRow_at (cs := #[.int .i64 (min a0 x0), .int .i64 (min b0 y0), .int .i64 (min c0 z0), .int .i64 (max a1 x1), .int .i64 (max b1 y1), .int .i64 (max c1 z1)]) hR)
 have HGE := zH (gb_setRow (cs := #[.int .i64 (min a0 x0), .int .i64 (min b0 y0), .int .i64 (min c0 z0), .int .i64 (max a1 x1), .int .i64 (max b1 y1), .int .i64 (max c1 z1)]) HG2.out (g := w.heap.size + 2) (.inl (by omega)))
 obtain ⟨d0, d1, d2, d3, d4, d5⟩ := cells6 HX2.out
 obtain ⟨f0, f1, f2, f3, f4, f5⟩ := cells6 HA2.out
 go_wp2_with (with_reducible refine wpList_store_row rfl _ _ _ rfl (w.heap.size + 2) #[.int .i64 (min a0 x0), .int .i64 (min b0 y0), .int .i64 (min c0 z0), .int .i64 (max a1 x1), .int .i64 (max b1 y1), .int .i64 (max c1 z1)] rfl rfl _ _ hR (by kernel_rfl) rfl (by simp [Value.oneCell']) ?_)
 obtain ⟨e0, e1, e2, e3, e4, e5⟩ := cells6 HN.out
 refine bodyPost_ret (v := .agg #[.int .i64 (min a0 x0), .int .i64 (min b0 y0), .int .i64 (min c0 z0), .int .i64 (max a1 x1), .int .i64 (max b1 y1), .int .i64 (max c1 z1)]) (by simp [results, Tryz.results148, go_sem, e0, e1, e2, e3, e4, e5]) rfl ⟨by rw [HE.out]; rfl, HGE.out⟩
def cmpA (a b : Ph) : Int := if sgn a.e b.e ≠ 0 then sgn a.e b.e else if sgn a.l b.l ≠ 0 then sgn a.l b.l else if cmpP a.x a.y a.z b.x b.y b.z ≠ 0 then cmpP a.x a.y a.z b.x b.y b.z else sgn a.n b.n
def Ph.key (a : Ph) : List Int := [a.e, a.l, a.x, a.y, a.z, a.n]
theorem sgn_neg {a b : Int} : sgn a b < 0 ↔ a < b := by unfold sgn; split <;> (try split) <;> omega
theorem sgn_zero {a b : Int} : sgn a b = 0 ↔ a = b := by unfold sgn; split <;> (try split) <;> omega
theorem cmpA_neg {a b : Ph} : cmpA a b < 0 ↔ a.key < b.key := by
 unfold cmpA cmpP Ph.key
 simp only [List.cons_lt_cons_iff, List.lt_irrefl, and_false, or_false]
 by_cases h1 : sgn a.e b.e = 0
 ·rw [if_neg (by simpa using h1)]
  have h1' := sgn_zero.1 h1
  by_cases h2 : sgn a.l b.l = 0
  ·rw [if_neg (by simpa using h2)]
   have h2' := sgn_zero.1 h2
   by_cases h3 : sgn a.x b.x = 0
   ·have h3' := sgn_zero.1 h3
    by_cases h4 : sgn a.y b.y = 0
    ·have h4' := sgn_zero.1 h4
     by_cases h5 : sgn a.z b.z = 0
     ·have h5' := sgn_zero.1 h5
      simp only [h3, h4, h5, ne_eq, not_true_eq_false, if_false]
      rw [sgn_neg]; omega
     ·have h5' : ¬ a.z = b.z := fun e => h5 (sgn_zero.2 e)
      simp only [h3, h4, ne_eq, not_true_eq_false, if_false, h5, not_false_eq_true, if_true]
      rw [sgn_neg]; omega
    ·have h4' : ¬ a.y = b.y := fun e => h4 (sgn_zero.2 e)
     simp only [h3, ne_eq, not_true_eq_false, if_false, h4, not_false_eq_true, if_true]
     rw [sgn_neg]; omega
   ·have h3' : ¬ a.x = b.x := fun e => h3 (sgn_zero.2 e)
    simp only [ne_eq, h3, not_false_eq_true, if_true]
    rw [sgn_neg]; omega
  ·have h2' : ¬ a.l = b.l := fun e => h2 (sgn_zero.2 e)
   rw [if_pos h2, sgn_neg]; omega
 ·have h1' : ¬ a.e = b.e := fun e => h1 (sgn_zero.2 e)
  rw [if_pos h1, sgn_neg]; omega
def phA (P : List Ph) (i : Nat) : Ph := P[i]?.getD ⟨0, 0, 0, 0, 0, 0⟩
def lessA (P : List Ph) (i k : Nat) : Prop := (phA P i).key < (phA P k).key ∨ ((phA P i).key = (phA P k).key ∧ i < k)
theorem key_tri (a b : List Int) : a < b ∨ a = b ∨ b < a := by
 by_cases h1 : a < b
 ·exact .inl h1
 ·by_cases h2 : b < a
  ·exact .inr (.inr h2)
  ·exact .inr (.inl (List.le_antisymm (List.not_lt.1 h2) (List.not_lt.1 h1)))
theorem lessA_asymm {P : List Ph} {i k : Nat} (h : lessA P i k) : ¬ lessA P k i := by
 rintro (h2 | ⟨e2, h2⟩)
 ·rcases h with h | ⟨e, h⟩
  ·exact List.lt_asymm h h2
  ·rw [e] at h2; exact List.lt_irrefl _ h2
 ·rcases h with h | ⟨e, h⟩
  ·rw [e2] at h; exact List.lt_irrefl _ h
  ·omega
theorem lessA_trans {P : List Ph} {i j k : Nat} (h : lessA P i j) (h2 : lessA P j k) : lessA P i k := by
 rcases h with h | ⟨e, h⟩ <;> rcases h2 with h2 | ⟨e2, h2⟩
 ·exact .inl (List.lt_trans h h2)
 ·exact .inl (e2 ▸ h)
 ·exact .inl (e ▸ h2)
 ·exact .inr ⟨e.trans e2, by omega⟩
theorem lessA_tri (P : List Ph) (i k : Nat) (h : i ≠ k) : lessA P i k ∨ lessA P k i := by
 rcases key_tri (phA P i).key (phA P k).key with h1 | h1 | h1
 ·exact .inl (.inl h1)
 ·rcases Nat.lt_or_gt_of_ne h with h2 | h2
  ·exact .inl (.inr ⟨h1, h2⟩)
  ·exact .inr (.inr ⟨h1.symm, h2⟩)
 ·exact .inr (.inl h1)
theorem sorted_uniq {P : List Ph} : ∀ {a b : List Nat}, a.Perm b → a.Pairwise (lessA P) → b.Pairwise (lessA P) → a = b
 | [], b, h, _, _ => (List.nil_perm.1 h).symm
 | x :: a, [], h, _, _ => (List.perm_nil.1 h)
 | x :: a, y :: b, h, h1, h2 => by
  have e : x = y := by
   by_cases e : x = y
   ·exact e
   ·exfalso
    have hx : x ∈ y :: b := h.mem_iff.1 (List.mem_cons_self ..)
    have hy : y ∈ x :: a := h.mem_iff.2 (List.mem_cons_self ..)
    have hx' : x ∈ b := by rcases List.mem_cons.1 hx with h | h; exact absurd h e; exact h
    have hy' : y ∈ a := by rcases List.mem_cons.1 hy with h | h; exact absurd h.symm e; exact h
    exact lessA_asymm (List.rel_of_pairwise_cons h1 hy') (List.rel_of_pairwise_cons h2 hx')
  subst e
  rw [sorted_uniq (List.Perm.cons_inv h) (List.Pairwise.of_cons h1) (List.Pairwise.of_cons h2)]
open Classical in
noncomputable def insO (P : List Ph) (i : Nat) : List Nat → List Nat
 | [] => [i]
 | x :: s => if lessA P x i then x :: insO P i s else i :: x :: s
theorem insO_perm (P : List Ph) (i : Nat) : ∀ s, (insO P i s).Perm (i :: s)
 | [] => List.Perm.refl _
 | x :: s => by
  unfold insO
  split
  ·exact ((insO_perm P i s).cons x).trans (List.Perm.swap i x s)
  ·exact List.Perm.refl _
theorem insO_sorted {P : List Ph} {i : Nat} : ∀ {s}, s.Pairwise (lessA P) → i ∉ s → (insO P i s).Pairwise (lessA P)
 | [], _, _ => by simp [insO]
 | x :: s, h, hn => by
  have hx := List.pairwise_cons.1 h
  unfold insO
  split
  ·rename_i hl
   refine List.pairwise_cons.2 ⟨fun y hy => ?_, insO_sorted hx.2 (fun h => hn (List.mem_cons_of_mem _ h))⟩
   rcases List.mem_cons.1 ((insO_perm P i s).mem_iff.1 hy) with rfl | hy
   ·exact hl
   ·exact hx.1 y hy
  ·rename_i hl
   have hi : lessA P i x := by
    rcases lessA_tri P x i (fun e => hn (e ▸ List.mem_cons_self ..)) with h | h
    ·exact absurd h hl
    ·exact h
   refine List.pairwise_cons.2 ⟨fun y hy => ?_, h⟩
   rcases List.mem_cons.1 hy with rfl | hy
   ·exact hi
   ·exact lessA_trans hi (hx.1 y hy)
noncomputable def ordN (P : List Ph) : Nat → List Nat
 | 0 => []
 | n + 1 => insO P n (ordN P n)
theorem ordN_perm (P : List Ph) : ∀ n, (ordN P n).Perm (List.range n)
 | 0 => List.Perm.refl _
 | n + 1 => by
  rw [ordN, List.range_succ]
  exact (insO_perm P n _).trans (((ordN_perm P n).cons n).trans (List.perm_append_singleton n _).symm)
theorem ordN_sorted (P : List Ph) : ∀ n, (ordN P n).Pairwise (lessA P)
 | 0 => List.Pairwise.nil
 | n + 1 => insO_sorted (ordN_sorted P n) (fun h => by have := List.mem_range.1 ((ordN_perm P n).mem_iff.1 h); omega)
noncomputable def ordA (P : List Ph) : List Nat := ordN P P.length
theorem ordA_perm (P : List Ph) : (ordA P).Perm (List.range P.length) := ordN_perm P _
theorem ordA_sorted (P : List Ph) : (ordA P).Pairwise (lessA P) := ordN_sorted P _
theorem ordA_length (P : List Ph) : (ordA P).length = P.length := by rw [(ordA_perm P).length_eq, List.length_range]
theorem ordA_lt {P : List Ph} {i : Nat} (h : i ∈ ordA P) : i < P.length := List.mem_range.1 ((ordA_perm P).mem_iff.1 h)
theorem ordA_uniq {P : List Ph} {r : List Nat} (h : r.Perm (List.range P.length)) (hs : r.Pairwise (lessA P)) : r = ordA P := sorted_uniq (h.trans (ordA_perm P).symm) hs (ordA_sorted P)
theorem cmpor4_any (a b c d : Int) (v : Value) (w : World) (h : Sl w v [a, b, c, d]) :
  Calls Tryz.prog 89 #[v] w fun e w' => e = .returned (.int .i64 (if a ≠ 0 then a else if b ≠ 0 then b else if c ≠ 0 then c else d)) ∧ w = w' := by
 rcases h with ⟨h, _⟩ | ⟨g, off, cap, rfl, hb, hcap, hcap2, hc⟩
 ·cases h
 have c0 := hc 0 (by simp); have c1 := hc 1 (by simp); have c2 := hc 2 (by simp); have c3 := hc 3 (by simp)
 simp only [List.length_cons, List.length_nil, List.getElem?_cons_zero, List.getElem?_cons_succ, Option.getD_some, Nat.add_zero] at c0 c1 c2 c3 hcap
 clear hc
 by_cases ha : a = 0
 rotate_left
 ·go_enter Tryz.func89, Tryz.ntmps89
  go_wp2
  refine wp_loop_rounds 5 ?_
  repeat any_goals (rw [rounds_succ]; go_wp2)
  go_ret
  exact ⟨ret_int (by simp [ha]), rfl⟩
 by_cases hb : b = 0
 rotate_left
 ·go_enter Tryz.func89, Tryz.ntmps89
  go_wp2
  refine wp_loop_rounds 5 ?_
  repeat any_goals (rw [rounds_succ]; go_wp2)
  go_ret
  exact ⟨ret_int (by simp [ha, hb]), rfl⟩
 by_cases hc : c = 0
 rotate_left
 ·go_enter Tryz.func89, Tryz.ntmps89
  go_wp2
  refine wp_loop_rounds 5 ?_
  repeat any_goals (rw [rounds_succ]; go_wp2)
  go_ret
  exact ⟨ret_int (by simp [ha, hb, hc]), rfl⟩
 by_cases hd : d = 0
 all_goals
  go_enter Tryz.func89, Tryz.ntmps89
  go_wp2
  refine wp_loop_rounds 5 ?_
  repeat any_goals (rw [rounds_succ]; go_wp2)
  go_ret
  exact ⟨ret_int (by simp [ha, hb, hc, hd]), rfl⟩
set_option maxRecDepth 100000 in
set_option maxHeartbeats 2000000 in
theorem acompare_any (a b : Ph) (w : World) :
  Calls Tryz.prog 61 #[.agg #[.int .i64 a.x, .int .i64 a.y, .int .i64 a.z, .int .i64 a.e, .int .i64 a.l, .int .i64 a.n], .agg #[.int .i64 b.x, .int .i64 b.y, .int .i64 b.z, .int .i64 b.e, .int .i64 b.l, .int .i64 b.n]] w fun e w' => e = .returned (.int .i64 (cmpA a b)) ∧ w.grownBy w' none := by
 obtain ⟨ax, ay, az, ae, al, an⟩ := a
 obtain ⟨bx, by', bz, be, bl, bn⟩ := b
 simp only []
 go_enter Tryz.func61, Tryz.ntmps61
 go_wp2_with fail
 have HG := zH (gb_alloc (gb_alloc (gb_refl w none) (.cells #[ax, ay, az, ae, al, an] 51)) (.cells #[bx, by', bz, be, bl, bn] 51))
 have h0 : ((w.alloc (.cells #[ax, ay, az, ae, al, an] 51)).alloc (.cells #[bx, by', bz, be, bl, bn] 51)).heap[w.heap.size]? = some (.cells #[ax, ay, az, ae, al, an] 51 (0, 0)) := by rw [heap_alloc_old _ _ (by simp), heap_alloc_new]
 have h1 : ((w.alloc (.cells #[ax, ay, az, ae, al, an] 51)).alloc (.cells #[bx, by', bz, be, bl, bn] 51)).heap[w.heap.size + 1]? = some (.cells #[bx, by', bz, be, bl, bn] 51 (0, 0)) := by simpa using heap_alloc_new (w.alloc _) _
 generalize ((w.alloc (.cells #[ax, ay, az, ae, al, an] 51)).alloc (.cells #[bx, by', bz, be, bl, bn] 51)) = w1 at *
 obtain ⟨a0, a1, a2, a3, a4, a5⟩ := six h0
 obtain ⟨b0, b1, b2, b3, b4, b5⟩ := six h1
 have la := Made.cells (block_lt h0)
 have lb := Made.cells (block_lt h1)
 clear h0 h1
 refine Rg.rR (Made w1) Makes (fun k => if k = 4 then some (isV (.int .i64 (sgn ae be))) else if k = 9 then some (isV (.int .i64 (sgn al bl))) else if k = 14 then some (isV (.int .i64 (cmpP ax ay az bx by' bz))) else if k = 19 then some (isV (.int .i64 (sgn an bn))) else if k = 20 then some (isLit w1 [sgn ae be, sgn al bl, cmpP ax ay az bx by' bz, sgn an bn]) else if k = 21 then some (isV (.int .i64 (cmpA ⟨ax, ay, az, ae, al, an⟩ ⟨bx, by', bz, be, bl, bn⟩))) else none)
  (fun _ => false) 0 22 Makes.size (Made.start w1) (fun hne => ?_)
 (repeat (refine rQ ?_; go_big_quiet_step (fail); refine wpQuiet_nil ?_))
 refine rg_fix (.int .i64 (sgn ae be)) 90 #[ae, be] rfl rfl rfl (fun _ => by go_simp) (fun u hu => same_grown (cmpc_any _ _ u)) ?_
 simp only [zA, zB, zC, zD, zX]
 (repeat (refine rQ ?_; go_big_quiet_step (fail); refine wpQuiet_nil ?_))
 refine rg_fix (.int .i64 (sgn al bl)) 90 #[al, bl] rfl rfl rfl (fun _ => by go_simp) (fun u hu => same_grown (cmpc_any _ _ u)) ?_
 simp only [zA, zB, zC, zD, zX]
 (repeat (refine rQ ?_; go_big_quiet_step (fail); refine wpQuiet_nil ?_))
 refine rg_fix (.int .i64 (cmpP ax ay az bx by' bz)) 91 #[.agg #[ax, ay, az], .agg #[bx, by', bz]] rfl rfl rfl (fun _ => by go_simp) (fun u hu => compare_any _ _ _ _ _ _ u) ?_
 simp only [zA, zB, zC, zD, zX]
 (repeat (refine rQ ?_; go_big_quiet_step (fail); refine wpQuiet_nil ?_))
 refine rg_fix (.int .i64 (sgn an bn)) 90 #[an, bn] rfl rfl rfl (fun _ => by go_simp) (fun u hu => same_grown (cmpc_any _ _ u)) ?_
 simp only [zA, zB, zC, zD, zX]
 refine rg_litM [sgn ae be, sgn al bl, cmpP ax ay az bx by' bz, sgn an bn] 3 rfl rfl rfl (fun _ => by go_simp) rfl (fun v => ?_)
 simp only [zA, zB, zC, zD, zX]
 refine rg_fixD (.int .i64 (cmpA ⟨ax, ay, az, ae, al, an⟩ ⟨bx, by', bz, be, bl, bn⟩)) 89 #[v] rfl rfl rfl (fun _ => by go_simp) (fun u hu hd => same_grown ((cmpor4_any _ _ _ _ v u (hd ⟨20, .data⟩ (by simp) rfl).1).mono fun e w' ⟨h, h'⟩ => ⟨by rw [h]; rfl, h'⟩)) ?_
 simp only [zA, zB, zC, zD, zX]
 rintro wq hq hf hD
 have HG2 := zH (gb_trans HG.out hq)
 clear hf hD hq hne
 go_wp2_with fail
 go_ret
 exact ⟨rfl, HG2.out⟩
structure OrdAt (P : List Ph) (X b off c : Nat) (w : World) : Prop where
 box : w.heap[X]? = some (.cells #[.slice (some ⟨b, off, none⟩) P.length c] 31 (0, 0))
 lt : b < w.heap.size
 at' : ∀ i (h : i < P.length), w.cell? ⟨b, off + i * 6, none⟩ = some (.int .i64 P[i].x) ∧ w.cell? ⟨b, off + i * 6 + 1, none⟩ = some (.int .i64 P[i].y) ∧ w.cell? ⟨b, off + i * 6 + 2, none⟩ = some (.int .i64 P[i].z) ∧ w.cell? ⟨b, off + i * 6 + 3, none⟩ = some (.int .i64 P[i].e) ∧ w.cell? ⟨b, off + i * 6 + 4, none⟩ = some (.int .i64 P[i].l) ∧ w.cell? ⟨b, off + i * 6 + 5, none⟩ = some (.int .i64 P[i].n)
theorem OrdAt.later {P : List Ph} {X b off c : Nat} {w w' : World} {row : Option Nat} (h : OrdAt P X b off c w) (hg : w.grownBy w' row) (h1 : row ≠ some X) (h2 : row ≠ some b) : OrdAt P X b off c w' :=
 ⟨(hg.block X (Array.getElem?_eq_some_iff.1 h.box).1 (fun e => h1 e.symm)).trans h.box, Nat.lt_of_lt_of_le h.lt hg.size, fun i hi => by
  have hb : w'.heap[b]? = w.heap[b]? := hg.block b h.lt (fun e => h2 e.symm)
  have hc : ∀ k, w'.cell? ⟨b, k, none⟩ = w.cell? ⟨b, k, none⟩ := fun k => by simp only [World.cell?, hb]
  simp only [hc]; exact h.at' i hi⟩
set_option maxRecDepth 100000 in
set_option maxHeartbeats 1000000 in
theorem order1_any (P : List Ph) (X b off c i k : Nat) (w : World) (h : OrdAt P X b off c w) (hi : i < P.length) (hk : k < P.length) :
  Calls Tryz.prog 60 #[i, k, .pointer (some ⟨X, 0, none⟩)] w fun e w' => e = .returned (.int .i64 (cmpA P[i] P[k])) ∧ w.grownBy w' none := by
 obtain ⟨a0_, a1_, a2_, a3_, a4_, a5_⟩ := h.at' i hi
 obtain ⟨b0_, b1_, b2_, b3_, b4_, b5_⟩ := h.at' k hk
 have x0_ := cell_of h.box 0 _ rfl
 have hx := block_lt' h.box; have hb := h.lt
 have la := Made.cells hx; have lb := Made.cells hb
 clear h
 have CC := zH (fun u => acompare_any P[i] P[k] u)
 generalize P[i] = a at *
 generalize P[k] = b' at *
 obtain ⟨ax, ay, az, ae, al, an⟩ := a
 obtain ⟨bx, by', bz, be, bl, bn⟩ := b'
 simp only [] at a0_ a1_ a2_ a3_ a4_ a5_ b0_ b1_ b2_ b3_ b4_ b5_ CC
 generalize cmpA ⟨ax, ay, az, ae, al, an⟩ ⟨bx, by', bz, be, bl, bn⟩ = cc at *
 generalize P.length = n at *
 go_enter Tryz.func60, Tryz.ntmps60
 go_wp2_with fail
 refine Rg.rR (Made w) Makes (fun k => if k = 8 then some (isV (.int .i64 cc)) else none) (fun _ => false) 0 9 Makes.size (Made.start w) (fun hne => ?_)
 (repeat (refine rQ ?_; go_big_quiet_step (fail); refine wpQuiet_nil ?_))
 refine rg_fix (.int .i64 cc) 61 #[.agg #[ax, ay, az, ae, al, an], .agg #[bx, by', bz, be, bl, bn]] rfl rfl rfl (fun _ => by go_simp) (fun u hu => CC.out u) ?_
 simp only [zA, zB, zC, zD, zX]
 rintro wq hq hf hD
 have HG2 := zH hq
 clear hf hD hq hne
 go_wp2_with fail
 go_ret
 exact ⟨rfl, HG2.out⟩
end Go.Proofs.YtiebljanpnadjaaGreat
