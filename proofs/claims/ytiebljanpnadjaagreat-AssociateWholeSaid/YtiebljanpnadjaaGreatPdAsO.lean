/- AsO -/
import Derived.BigRegion
import Derived.Laws.OwnMore
import Derived.Laws.EntriesVeiled
import Derived.Test.YtiebljanpnadjaaGreatPdAsL
namespace Go.Proofs.YtiebljanpnadjaaGreat
set_option linter.all false
open Go.RowKit Rg
theorem cmpor4_any (a b c d : Int) (v : Value) (w : World) (h : Sl w v [a, b, c, d]) :
    Calls Tryz.prog 89 #[v] w fun e w' => e = .returned (.int .i64 (if a ≠ 0 then a else if b ≠ 0 then b else if c ≠ 0 then c else d)) ∧ w = w' := by
  rcases h with ⟨h, _⟩ | ⟨g, off, cap, rfl, hb, hcap, hcap2, hc⟩
  · cases h
  have c0 := hc 0 (by simp); have c1 := hc 1 (by simp); have c2 := hc 2 (by simp); have c3 := hc 3 (by simp)
  simp only [List.length_cons, List.length_nil, List.getElem?_cons_zero, List.getElem?_cons_succ, Option.getD_some, Nat.add_zero] at c0 c1 c2 c3 hcap
  clear hc
  by_cases ha : a = 0
  rotate_left
  · go_enter Tryz.func89, Tryz.ntmps89
    go_wp2
    refine wp_loop_rounds 5 ?_
    repeat any_goals (rw [rounds_succ]; go_wp2)
    go_ret
    exact ⟨ret_int (by simp [ha]), rfl⟩
  by_cases hb : b = 0
  rotate_left
  · go_enter Tryz.func89, Tryz.ntmps89
    go_wp2
    refine wp_loop_rounds 5 ?_
    repeat any_goals (rw [rounds_succ]; go_wp2)
    go_ret
    exact ⟨ret_int (by simp [ha, hb]), rfl⟩
  by_cases hc : c = 0
  rotate_left
  · go_enter Tryz.func89, Tryz.ntmps89
    go_wp2
    refine wp_loop_rounds 5 ?_
    repeat any_goals (rw [rounds_succ]; go_wp2)
    go_ret
    exact ⟨ret_int (by simp [ha, hb, hc]), rfl⟩
  by_cases hd : d = 0
  all_goals
    go_enter Tryz.func89, Tryz.ntmps89
    go_wp2
    refine wp_loop_rounds 5 ?_
    repeat any_goals (rw [rounds_succ]; go_wp2)
    go_ret
    exact ⟨ret_int (by simp [ha, hb, hc, hd]), rfl⟩
set_option maxRecDepth 100000 in
set_option maxHeartbeats 2000000 in
theorem acompare_any (a b : Ph) (w : World) :
    Calls Tryz.prog 61 #[.agg #[.int .i64 a.x, .int .i64 a.y, .int .i64 a.z, .int .i64 a.e, .int .i64 a.l, .int .i64 a.n], .agg #[.int .i64 b.x, .int .i64 b.y, .int .i64 b.z, .int .i64 b.e, .int .i64 b.l, .int .i64 b.n]] w fun e w' => e = .returned (.int .i64 (cmpA a b)) ∧ w.grownBy w' none := by
  obtain ⟨ax, ay, az, ae, al, an⟩ := a
  obtain ⟨bx, by', bz, be, bl, bn⟩ := b
  simp only []
  go_enter Tryz.func61, Tryz.ntmps61
  go_wp2_with fail
  have HG := Lib.hid (gb_alloc (gb_alloc (gb_refl w none) (.cells #[.int .i64 ax, .int .i64 ay, .int .i64 az, .int .i64 ae, .int .i64 al, .int .i64 an] 51)) (.cells #[.int .i64 bx, .int .i64 by', .int .i64 bz, .int .i64 be, .int .i64 bl, .int .i64 bn] 51))
  have h0 : ((w.alloc (.cells #[.int .i64 ax, .int .i64 ay, .int .i64 az, .int .i64 ae, .int .i64 al, .int .i64 an] 51)).alloc (.cells #[.int .i64 bx, .int .i64 by', .int .i64 bz, .int .i64 be, .int .i64 bl, .int .i64 bn] 51)).heap[w.heap.size]? = some (.cells #[.int .i64 ax, .int .i64 ay, .int .i64 az, .int .i64 ae, .int .i64 al, .int .i64 an] 51 (0, 0)) := by rw [heap_alloc_old _ _ (by simp), heap_alloc_new]
  have h1 : ((w.alloc (.cells #[.int .i64 ax, .int .i64 ay, .int .i64 az, .int .i64 ae, .int .i64 al, .int .i64 an] 51)).alloc (.cells #[.int .i64 bx, .int .i64 by', .int .i64 bz, .int .i64 be, .int .i64 bl, .int .i64 bn] 51)).heap[w.heap.size + 1]? = some (.cells #[.int .i64 bx, .int .i64 by', .int .i64 bz, .int .i64 be, .int .i64 bl, .int .i64 bn] 51 (0, 0)) := by simpa using heap_alloc_new (w.alloc _) _
  generalize ((w.alloc (.cells #[.int .i64 ax, .int .i64 ay, .int .i64 az, .int .i64 ae, .int .i64 al, .int .i64 an] 51)).alloc (.cells #[.int .i64 bx, .int .i64 by', .int .i64 bz, .int .i64 be, .int .i64 bl, .int .i64 bn] 51)) = w1 at *
  obtain ⟨a0, a1, a2, a3, a4, a5⟩ := six h0
  obtain ⟨b0, b1, b2, b3, b4, b5⟩ := six h1
  have la := Made.cells (block_lt h0)
  have lb := Made.cells (block_lt h1)
  clear h0 h1
  refine Rg.region (Made w1) Makes (fun k => if k = 4 then some (isV (.int .i64 (sgn ae be))) else if k = 9 then some (isV (.int .i64 (sgn al bl))) else if k = 14 then some (isV (.int .i64 (cmpP ax ay az bx by' bz))) else if k = 19 then some (isV (.int .i64 (sgn an bn))) else if k = 20 then some (isLit w1 [sgn ae be, sgn al bl, cmpP ax ay az bx by' bz, sgn an bn]) else if k = 21 then some (isV (.int .i64 (cmpA ⟨ax, ay, az, ae, al, an⟩ ⟨bx, by', bz, be, bl, bn⟩))) else none)
    (fun _ => false) 0 22 (by kernel_rfl) (by kernel_rfl) (by kernel_rfl) (by kernel_rfl) (by kernel_rfl) (by kernel_rfl) (by kernel_rfl) Makes.size (Made.start w1) (fun hne => ?_)
  (repeat (refine rLexL_quiet (by rfl) (by rfl) (by rfl) (by rfl) ?_; go_big_quiet_step (fail); refine wpQuiet_nil ?_))
  refine rg_fix (.int .i64 (sgn ae be)) 90 #[.int .i64 ae, .int .i64 be] rfl rfl rfl (fun _ => by go_simp) (fun u hu => same_grown (cmpc_any _ _ u)) ?_
  simp only [Act.put, List.setIfInBounds_toArray, List.set_cons_zero, List.set_cons_succ]
  (repeat (refine rLexL_quiet (by rfl) (by rfl) (by rfl) (by rfl) ?_; go_big_quiet_step (fail); refine wpQuiet_nil ?_))
  refine rg_fix (.int .i64 (sgn al bl)) 90 #[.int .i64 al, .int .i64 bl] rfl rfl rfl (fun _ => by go_simp) (fun u hu => same_grown (cmpc_any _ _ u)) ?_
  simp only [Act.put, List.setIfInBounds_toArray, List.set_cons_zero, List.set_cons_succ]
  (repeat (refine rLexL_quiet (by rfl) (by rfl) (by rfl) (by rfl) ?_; go_big_quiet_step (fail); refine wpQuiet_nil ?_))
  refine rg_fix (.int .i64 (cmpP ax ay az bx by' bz)) 91 #[.agg #[.int .i64 ax, .int .i64 ay, .int .i64 az], .agg #[.int .i64 bx, .int .i64 by', .int .i64 bz]] rfl rfl rfl (fun _ => by go_simp) (fun u hu => compare_any _ _ _ _ _ _ u) ?_
  simp only [Act.put, List.setIfInBounds_toArray, List.set_cons_zero, List.set_cons_succ]
  (repeat (refine rLexL_quiet (by rfl) (by rfl) (by rfl) (by rfl) ?_; go_big_quiet_step (fail); refine wpQuiet_nil ?_))
  refine rg_fix (.int .i64 (sgn an bn)) 90 #[.int .i64 an, .int .i64 bn] rfl rfl rfl (fun _ => by go_simp) (fun u hu => same_grown (cmpc_any _ _ u)) ?_
  simp only [Act.put, List.setIfInBounds_toArray, List.set_cons_zero, List.set_cons_succ]
  refine rg_litM [sgn ae be, sgn al bl, cmpP ax ay az bx by' bz, sgn an bn] 3 rfl rfl rfl (fun _ => by go_simp) rfl (fun v => ?_)
  simp only [Act.put, List.setIfInBounds_toArray, List.set_cons_zero, List.set_cons_succ]
  refine rg_fixD (.int .i64 (cmpA ⟨ax, ay, az, ae, al, an⟩ ⟨bx, by', bz, be, bl, bn⟩)) 89 #[v] rfl rfl rfl (fun _ => by go_simp) (fun u hu hd => same_grown ((cmpor4_any _ _ _ _ v u (hd ⟨20, .data⟩ (by simp) rfl).1).mono fun e w' ⟨h, h'⟩ => ⟨by rw [h]; rfl, h'⟩)) ?_
  simp only [Act.put, List.setIfInBounds_toArray, List.set_cons_zero, List.set_cons_succ]
  rintro wq hq hf hD
  have HG2 := Lib.hid (gb_trans HG.out hq)
  clear hf hD hq hne
  go_wp2_with fail
  go_ret
  exact ⟨rfl, HG2.out⟩
/-- The comparison of two indices; the list lies in block X. -/
structure OrdAt (P : List Ph) (X b off c : Nat) (w : World) : Prop where
  box : w.heap[X]? = some (.cells #[.slice (some ⟨b, off, none⟩) P.length c] 31 (0, 0))
  lt : b < w.heap.size
  at' : ∀ i (h : i < P.length), w.cell? ⟨b, off + i * 6, none⟩ = some (.int .i64 P[i].x) ∧ w.cell? ⟨b, off + i * 6 + 1, none⟩ = some (.int .i64 P[i].y) ∧ w.cell? ⟨b, off + i * 6 + 2, none⟩ = some (.int .i64 P[i].z) ∧ w.cell? ⟨b, off + i * 6 + 3, none⟩ = some (.int .i64 P[i].e) ∧ w.cell? ⟨b, off + i * 6 + 4, none⟩ = some (.int .i64 P[i].l) ∧ w.cell? ⟨b, off + i * 6 + 5, none⟩ = some (.int .i64 P[i].n)
theorem OrdAt.later {P : List Ph} {X b off c : Nat} {w w' : World} {row : Option Nat} (h : OrdAt P X b off c w) (hg : w.grownBy w' row) (h1 : row ≠ some X) (h2 : row ≠ some b) : OrdAt P X b off c w' :=
  ⟨(hg.block X (Array.getElem?_eq_some_iff.1 h.box).1 (fun e => h1 e.symm)).trans h.box, Nat.lt_of_lt_of_le h.lt hg.size, fun i hi => by
    have hb : w'.heap[b]? = w.heap[b]? := hg.block b h.lt (fun e => h2 e.symm)
    have hc : ∀ k, w'.cell? ⟨b, k, none⟩ = w.cell? ⟨b, k, none⟩ := fun k => by simp only [World.cell?, hb]
    simp only [hc]; exact h.at' i hi⟩
set_option maxRecDepth 100000 in
set_option maxHeartbeats 1000000 in
theorem order1_any (P : List Ph) (X b off c i k : Nat) (w : World) (h : OrdAt P X b off c w) (hi : i < P.length) (hk : k < P.length) :
    Calls Tryz.prog 60 #[.int .i64 i, .int .i64 k, .pointer (some ⟨X, 0, none⟩)] w fun e w' => e = .returned (.int .i64 (cmpA P[i] P[k])) ∧ w.grownBy w' none := by
  obtain ⟨a0_, a1_, a2_, a3_, a4_, a5_⟩ := h.at' i hi
  obtain ⟨b0_, b1_, b2_, b3_, b4_, b5_⟩ := h.at' k hk
  have x0_ := cell_of h.box 0 _ rfl
  have hx := block_lt' h.box; have hb := h.lt
  have la := Made.cells hx; have lb := Made.cells hb
  clear h
  have CC := Lib.hid (fun u => acompare_any P[i] P[k] u)
  generalize P[i] = a at *
  generalize P[k] = b' at *
  obtain ⟨ax, ay, az, ae, al, an⟩ := a
  obtain ⟨bx, by', bz, be, bl, bn⟩ := b'
  simp only [] at a0_ a1_ a2_ a3_ a4_ a5_ b0_ b1_ b2_ b3_ b4_ b5_ CC
  generalize cmpA ⟨ax, ay, az, ae, al, an⟩ ⟨bx, by', bz, be, bl, bn⟩ = cc at *
  generalize P.length = n at *
  go_enter Tryz.func60, Tryz.ntmps60
  go_wp2_with fail
  refine Rg.region (Made w) Makes (fun k => if k = 8 then some (isV (.int .i64 cc)) else none) (fun _ => false) 0 9 (by kernel_rfl) (by kernel_rfl) (by kernel_rfl) (by kernel_rfl) (by kernel_rfl) (by kernel_rfl) (by kernel_rfl) Makes.size (Made.start w) (fun hne => ?_)
  (repeat (refine rLexL_quiet (by rfl) (by rfl) (by rfl) (by rfl) ?_; go_big_quiet_step (fail); refine wpQuiet_nil ?_))
  refine rg_fix (.int .i64 cc) 61 #[.agg #[.int .i64 ax, .int .i64 ay, .int .i64 az, .int .i64 ae, .int .i64 al, .int .i64 an], .agg #[.int .i64 bx, .int .i64 by', .int .i64 bz, .int .i64 be, .int .i64 bl, .int .i64 bn]] rfl rfl rfl (fun _ => by go_simp) (fun u hu => CC.out u) ?_
  simp only [Act.put, List.setIfInBounds_toArray, List.set_cons_zero, List.set_cons_succ]
  rintro wq hq hf hD
  have HG2 := Lib.hid hq
  clear hf hD hq hne
  go_wp2_with fail
  go_ret
  exact ⟨rfl, HG2.out⟩
end Go.Proofs.YtiebljanpnadjaaGreat
