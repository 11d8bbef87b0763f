import Derived.Test.YtiebljanpnadjaaGreatPgAsS
namespace Go.Proofs.YtiebljanpnadjaaGreat
set_option linter.all false
open Go.RowKit Rg
def ring (n : Nat) (rest : List Nat) : List (Nat × Nat) := (n :: rest).zip (rest ++ [n])
structure Links (n : Nat) (rest X Y : List Nat) : Prop where
 lx : X.length = n + 1
 ly : Y.length = n + 1
 asc : rest.Pairwise (· < ·)
 lt : ∀ x ∈ rest, x < n
 at' : ∀ p ∈ ring n rest, X[p.1]? = some p.2 ∧ Y[p.2]? = some p.1
theorem Links.nodup {n : Nat} {rest X Y : List Nat} (h : Links n rest X Y) : (n :: rest).Nodup ∧ (rest ++ [n]).Nodup := by
 have hn : rest.Nodup := h.asc.imp (fun h => Nat.ne_of_lt h)
 have hm : n ∉ rest := fun hm => by have := h.lt n hm; omega
 refine ⟨List.nodup_cons.2 ⟨hm, hn⟩, ?_⟩
 refine List.nodup_append.2 ⟨hn, by simp, fun a ha b hb => ?_⟩
 simp only [List.mem_singleton] at hb
 subst hb
 exact fun e => hm (e ▸ ha)
theorem Links.first {n : Nat} {rest X Y : List Nat} (h : Links n rest X Y) : X[n]? = some ((rest ++ [n]).head (by simp)) := by
 cases rest with
 | nil => exact (h.at' (n, n) (by simp [ring])).1
 | cons r rs => exact (h.at' (n, r) (by simp [ring])).1
theorem ring_split (n i : Nat) (r1 r2 : List Nat) : ∃ (A : List (Nat × Nat)) (a b : Nat) (D : List (Nat × Nat)), ring n (r1 ++ i :: r2) = A ++ (a, i) :: (i, b) :: D ∧ ring n (r1 ++ r2) = A ++ (a, b) :: D := by
 obtain ⟨A0, a, ha⟩ : ∃ A0 a, n :: r1 = A0 ++ [a] := ⟨(n :: r1).dropLast, (n :: r1).getLast (by simp), (List.dropLast_concat_getLast (by simp)).symm⟩
 obtain ⟨b, D, hb⟩ : ∃ b D, r2 ++ [n] = b :: D := by
  cases r2 with
  | nil => exact ⟨n, [], rfl⟩
  | cons x r => exact ⟨x, r ++ [n], rfl⟩
 have hl : A0.length = r1.length := by have := congrArg List.length ha; simp at this; omega
 refine ⟨A0.zip r1, a, b, r2.zip D, ?_, ?_⟩
 ·unfold ring
  rw [← List.cons_append, ha, List.append_assoc, List.append_assoc, List.zip_append hl]
  simp only [List.cons_append, List.nil_append, List.zip_cons_cons, hb]
 ·unfold ring
  rw [← List.cons_append, ha, List.append_assoc, List.append_assoc, List.zip_append hl]
  simp only [List.cons_append, List.nil_append, List.zip_cons_cons, hb]
theorem ring_fst (n : Nat) (rest : List Nat) : (ring n rest).map Prod.fst = n :: rest := by
 unfold ring; rw [List.map_fst_zip]; simp
theorem ring_snd (n : Nat) (rest : List Nat) : (ring n rest).map Prod.snd = rest ++ [n] := by
 unfold ring; rw [List.map_snd_zip]; simp
theorem Links.remove {n i : Nat} {r1 r2 X Y : List Nat} (h : Links n (r1 ++ i :: r2) X Y) : ∃ a b, (a ≠ i ∧ b ≠ i) ∧ i ≤ n ∧ a ≤ n ∧ b ≤ n ∧ X[i]? = some b ∧ Y[i]? = some a ∧ Links n (r1 ++ r2) (X.set a b) (Y.set b a) := by
 obtain ⟨A, a, b, D, e1, e2⟩ := ring_split n i r1 r2
 have hf := ring_fst n (r1 ++ i :: r2); have hs := ring_snd n (r1 ++ i :: r2)
 obtain ⟨nd1, nd2⟩ := h.nodup
 rw [← hf, e1] at nd1; rw [← hs, e1] at nd2
 have hai := h.at' (a, i) (by rw [e1]; simp); have hib := h.at' (i, b) (by rw [e1]; simp)
 have bd : ∀ (L : List Nat) (j x : Nat), L.length = n + 1 → L[j]? = some x → j ≤ n := fun L j x hl hj => by
  have := (List.getElem?_eq_some_iff.1 hj).1; omega
 have hne : a ≠ i ∧ b ≠ i := by
  simp only [List.map_append, List.map_cons] at nd1 nd2
  have n1 := (List.nodup_append.1 nd1).2.1; have m1 := (List.nodup_append.1 nd2).2.1
  exact ⟨fun e => (List.nodup_cons.1 n1).1 (by rw [e]; simp), fun e => (List.nodup_cons.1 m1).1 (by rw [e]; simp)⟩
 refine ⟨a, b, hne, bd X i b h.lx hib.1, bd X a i h.lx hai.1, bd Y b i h.ly hib.2, hib.1, hai.2, by simp [h.lx], by simp [h.ly], ?_, fun x hx => ?_, fun p hp => ?_⟩
 ·exact h.asc.sublist (List.Sublist.append_left (List.sublist_cons_self i r2) r1)
 ·refine h.lt x ?_
  rcases List.mem_append.1 hx with hx | hx
  ·exact List.mem_append_left _ hx
  ·exact List.mem_append_right _ (List.mem_cons_of_mem _ hx)
 ·have ha := bd X a i h.lx hai.1; have hb := bd Y b i h.ly hib.2
  rw [e2] at hp
  simp only [List.map_append, List.map_cons] at nd1 nd2
  obtain ⟨-, n1, n2⟩ := List.nodup_append.1 nd1
  obtain ⟨-, m1, m2⟩ := List.nodup_append.1 nd2
  rcases List.mem_append.1 hp with hp | hp
  ·have o := h.at' p (by rw [e1]; exact List.mem_append_left _ hp)
   have q1 : a ≠ p.1 := fun e => n2 p.1 (List.mem_map_of_mem hp) a (by simp) e.symm
   have q2 : b ≠ p.2 := fun e => m2 p.2 (List.mem_map_of_mem hp) b (by simp) e.symm
   rw [List.getElem?_set_ne q1, List.getElem?_set_ne q2]; exact o
  rcases List.mem_cons.1 hp with rfl | hp
  ·simp only []
   rw [List.getElem?_set_self (by rw [h.lx]; omega), List.getElem?_set_self (by rw [h.ly]; omega)]
   exact ⟨rfl, rfl⟩
  ·have o := h.at' p (by rw [e1]; exact List.mem_append_right _ (List.mem_cons_of_mem _ (List.mem_cons_of_mem _ hp)))
   have q1 : a ≠ p.1 := fun e => by
    have := (List.nodup_cons.1 n1).1
    exact this (e ▸ List.mem_cons_of_mem _ (List.mem_map_of_mem hp))
   have q2 : b ≠ p.2 := fun e => by
    have := (List.nodup_cons.1 (List.nodup_cons.1 m1).2).1
    exact this (e ▸ List.mem_map_of_mem hp)
   rw [List.getElem?_set_ne q1, List.getElem?_set_ne q2]; exact o
def ChAt (gn gb n : Nat) (rest : List Nat) (u : World) : Prop := gn ≠ gb ∧ ∃ X Y : List Nat, u.heap[gn]? = some (.cells (vi X).toArray 3 (0, 0)) ∧ u.heap[gb]? = some (.cells (vi Y).toArray 3 (0, 0)) ∧ Links n rest X Y
theorem ChAt.later {gn gb n : Nat} {rest : List Nat} {u u' : World} {row : Option Nat} (h : ChAt gn gb n rest u) (hg : u.grownBy u' row) (h1 : row ≠ some gn) (h2 : row ≠ some gb) : ChAt gn gb n rest u' := by
 obtain ⟨h0, X, Y, hx, hy, hl⟩ := h
 exact ⟨h0, X, Y, (hg.block gn (Array.getElem?_eq_some_iff.1 hx).1 (fun e => h1 e.symm)).trans hx, (hg.block gb (Array.getElem?_eq_some_iff.1 hy).1 (fun e => h2 e.symm)).trans hy, hl⟩
theorem vi_cell {u : World} {g i x : Nat} {X : List Nat} {T : TypeId} {fr : Nat × Nat} (h : u.heap[g]? = some (.cells (vi X).toArray T fr)) (hx : X[i]? = some x) : u.cell? ⟨g, i, none⟩ = some (.int .i64 x) := by
 simp [World.cell?, h, vi, hx]
theorem frzA {w : World} {b : Nat} {cs : Array Value} {t : TypeId} (h : w.heap[b]? = some (.cells cs t (0, 0))) (o : Nat) : w.frozen? ⟨b, o, none⟩ = false := by simp [World.frozen?, h]
theorem vi_set {X : List Nat} {i x : Nat} : ((vi X).toArray).set! i (.int .i64 (x : Int)) = (vi (X.set i x)).toArray := by
 simp [vi, List.map_set]
theorem end_any (a : Option Addr) (n c : Nat) (bk : Value) (w : World) (hb : bk.oneCell' = true) (hn : n ≤ 1000000) :
  Calls Tryz.prog 42 #[.agg #[.slice a (n + 1) c, bk]] w fun e w' => e = .returned (.int .i64 n) ∧ w.grownBy w' none := by
 have HG := zH (gb_alloc (gb_refl w none) (.cells #[.slice a (n + 1) c, bk] 74))
 have hw_ : IntKind.i64.wrap (((n + 1 : Nat) : Int) - 1) = (n : Int) := by rw [IntKind.wrap_i64]; omega
 go_enter Tryz.func42, Tryz.ntmps42
 go_wp2
 go_ret
 exact ⟨rfl, HG.out⟩
def ChG (w : World) (r : Nat) (c0 c1 : Array Value) (T : TypeId) (u : World) : Prop := w.grownBy u (some r) ∧ (u.heap[r]? = some (.cells c0 T (0, 0)) ∨ u.heap[r]? = some (.cells c1 T (0, 0)))
theorem ChG.start {w : World} {r : Nat} {c0 c1 : Array Value} {T : TypeId} (h : w.heap[r]? = some (.cells c0 T (0, 0))) : ChG w r c0 c1 T w.drew := ⟨gb_drew (gb_refl _ _), .inl h⟩
theorem ChG.cells {w : World} {r b : Nat} {c0 c1 : Array Value} {T : TypeId} (hb : b < w.heap.size) (hr : b ≠ r) (u : Cls (ChG w r c0 c1 T)) (o : Nat) : (evr u).cell? ⟨b, o, none⟩ = w.cell? ⟨b, o, none⟩ := gb_cell (evr_h u).1 hb (by simpa using hr)
theorem ChG.same {w : World} {r i : Nat} {c0 c1 : Array Value} {T : TypeId} {x : Value} (h0 : c0[i]? = some x) (h1 : c1[i]? = some x) (u : Cls (ChG w r c0 c1 T)) : (evr u).cell? ⟨r, i, none⟩ = some x := by
 rcases (evr_h u).2 with h | h
 ·simp [World.cell?, h, h0]
 ·simp [World.cell?, h, h1]
section
variable {P : Program} {ops : Array Oper} {md : Region.Mode} {w0 : World} {sp : Nat → Option (List Value → Value → World → Prop)} {al : Nat → Bool} {N : Nat} {Q : List Oper → Act → Facts → Prop} {n k : Nat} {o : Oper} {l : List Oper} {a : Act} {f : Facts}
theorem rg_cellStore (r j : Nat) (z : Int) (c0 c1 : Array Value) (hc1 : c0.set! j (.int .i64 z) = c1) (T ty : TypeId) (x y : Operand) (ho : o.op = .store ty x y) (hx : a.eval x = .pointer (some ⟨r, j, none⟩)) (hy : a.eval y = .int .i64 z) (hj : j < c0.size)
  (hi : (P.info? ty).map (·.size) = some 1) (hs : sp k = some (isAt r c1 T)) (hw : Region.wanted o (yielded ops a.tmps) = true) (hal : al k = false) (hdst : o.dst = none)
  (h : rLexL P md ops ⟨In (ChG w0 r c0 c1 T), MakesB k r, sp, al, N⟩ Q n l (k + 1) (a.put o.dst undef) (upd f k fun u => u.heap[r]? = some (.cells c1 T (0, 0)))) :
  rLexL P md ops ⟨In (ChG w0 r c0 c1 T), MakesB k r, sp, al, N⟩ Q (n + 1) (o :: l) k a f := by
 subst hc1
 refine rLexL_spec (isAt r _ T) hs hw ?_ (fun w hC hd => ?_) ?_
 ·intro v j w w' hj _ _ hR hh
  unfold MakesB at hR; rw [if_neg hj] at hR
  exact (World.grownBy.block hR r (Array.getElem?_eq_some_iff.1 hh).1 (by simp)).trans hh
 ·obtain ⟨hg, hh⟩ := hC.out
  have hg2 : w.grownBy (w.setCell ⟨r, j, none⟩ (.int .i64 z)) (some r) := gb_setCell (gb_refl _ _) (.inr rfl) _
  have hc : ∃ u, w.cell? ⟨r, j, none⟩ = some u := by
   rcases hh with hh | hh
   ·exact ⟨c0[j], by simp [World.cell?, hh, hj]⟩
   ·exact ⟨.int .i64 z, by simp [World.cell?, hh, hj]⟩
  have hf : w.frozen? ⟨r, j, none⟩ = false := by rcases hh with hh | hh <;> simp [World.frozen?, hh]
  have hN : (w.setCell ⟨r, j, none⟩ (.int .i64 z)).heap[r]? = some (.cells (c0.set! j (.int .i64 z)) T (0, 0)) := by
   rcases hh with hh | hh
   ·exact set_block hh j (.int .i64 z)
   ·rw [set_block hh j (.int .i64 z)]; simp
  obtain ⟨u, hu⟩ := hc
  unfold stepTo execOp
  simp only [ho, hx, hy, Instr.storeAt, Instr.sureAddr, Sem.run_bind, Sem.run_pure, Result.andThen_ok]
  have hr : Sem.run P (storeVar ty ⟨r, j, none⟩ (.int .i64 z)) w = .ok () (w.setCell ⟨r, j, none⟩ (.int .i64 z)) := by
   have := run_store P w ⟨r, j, none⟩ (.int .i64 z) .plain rfl
   rw [hu] at this
   simp only [hf] at this
   obtain ⟨i0, hi0, hsz⟩ := Option.map_eq_some_iff.1 hi
   simp [storeVar, sizeOf, typeInfo, hi0, Value.cells, storeCells, hsz, this, show (⟨r, j, none⟩ : Addr).add 0 = ⟨r, j, none⟩ from rfl]
  rw [hr]
  refine ⟨In.mk ⟨gb_trans hg hg2, .inr hN⟩, ?_, hN, fun e => by rw [hal] at e; cases e⟩
  unfold MakesB; rw [if_pos rfl]; exact hg2
 ·intro v w hC _
  rw [hdst] at h ⊢
  exact h
end
set_option maxRecDepth 100000 in
set_option maxHeartbeats 4000000 in
theorem remove_any (gn gb n i : Nat) (r1 r2 : List Nat) (w : World) (h : ChAt gn gb n (r1 ++ i :: r2) w) (hn : n ≤ 1000000) :
  Calls Tryz.prog 47 #[.agg #[.slice (some ⟨gn, 0, none⟩) (n + 1) (n + 1), .slice (some ⟨gb, 0, none⟩) (n + 1) (n + 1)], i] w fun e w' => e = .returned (.tuple #[]) ∧ ChAt gn gb n (r1 ++ r2) w' ∧ ∃ wm, w.grownBy wm (some gn) ∧ wm.grownBy w' (some gb) := by
 obtain ⟨h0, X, Y, hx, hy, hl⟩ := h
 obtain ⟨a, b, ⟨hai, hbi⟩, hi, ha, hb, q1, q2, hl2⟩ := hl.remove
 have HL := zH hl2; have hlx := hl.lx; have hly := hl.ly
 have g1 := gb_alloc (gb_refl w none) (.cells #[.slice (some ⟨gn, 0, none⟩) (n + 1) (n + 1), .slice (some ⟨gb, 0, none⟩) (n + 1) (n + 1)] 74)
 have B1 := heap_alloc_new w (.cells #[.slice (some ⟨gn, 0, none⟩) (n + 1) (n + 1), .slice (some ⟨gb, 0, none⟩) (n + 1) (n + 1)] 74)
 have hx1 := block_kept g1 hx rfl; have hy1 := block_kept g1 hy rfl
 have hz1 : w.heap.size ≠ gn := by have := block_lt' hx; omega
 have G1 := zH g1
 have l1 := block_lt' hx1; have l2 := block_lt' hy1; have l3 := block_lt' B1
 have c0_ := cell_of B1 0 _ rfl; have c1_ := cell_of B1 1 _ rfl
 have c0_ : (w.alloc (.cells #[.slice (some ⟨gn, 0, none⟩) (n + 1) (n + 1), .slice (some ⟨gb, 0, none⟩) (n + 1) (n + 1)] 74)).cell? ⟨w.heap.size, 0, none⟩ = some (.slice (some ⟨gn, 0, none⟩) (n + 1) (n + 1)) := c0_
 have c1_ : (w.alloc (.cells #[.slice (some ⟨gn, 0, none⟩) (n + 1) (n + 1), .slice (some ⟨gb, 0, none⟩) (n + 1) (n + 1)] 74)).cell? ⟨w.heap.size, 1, none⟩ = some (.slice (some ⟨gb, 0, none⟩) (n + 1) (n + 1)) := c1_
 have hyi := vi_cell hy1 q2
 have HX1 := zH hx1; have HY1 := zH hy1
 have hsx : (vi X).toArray.set! a (.int .i64 (b : Int)) = (vi (X.set a b)).toArray := vi_set
 have hj : a < (vi X).toArray.size := by simp [vi, hlx]; omega
 have e0 : ((vi X).toArray)[i]? = some (.int .i64 (b : Int)) := by simp [vi, q1]
 have e1 : ((vi X).toArray.set! a (.int .i64 (b : Int)))[i]? = some (.int .i64 (b : Int)) := by
  rw [hsx]; simp [vi, List.getElem?_set_ne hai, q1]
 obtain ⟨c0, hc0⟩ : ∃ c0, (vi X).toArray = c0 := ⟨_, rfl⟩
 obtain ⟨c1, hc1⟩ : ∃ c1, c0.set! a (.int .i64 (b : Int)) = c1 := ⟨_, rfl⟩
 rw [hc0] at hsx hj e0 e1 HX1
 rw [hc1] at hsx e1
 have HC1 := zH hc1
 have HSX := zH hsx
 clear hc0 hc1
 have HH0 := zH h0
 have hi' : i < n + 1 := by omega
 have ha' : a < n + 1 := by omega
 have hb' : b < n + 1 := by omega
 have hb0 : gb ≠ gn := Ne.symm h0
 have HYB : Hid (∃ yb, Y[b]? = some yb) := zH ⟨_, List.getElem?_eq_getElem (by omega)⟩
 clear hl hl2 hx hy g1 q1 q2 hai hbi hx1 hy1 hsx hlx hly
 go_enter Tryz.func47, Tryz.ntmps47
 go_wp2_with fail
 generalize w.alloc (.cells #[.slice (some ⟨gn, 0, none⟩) (n + 1) (n + 1), .slice (some ⟨gb, 0, none⟩) (n + 1) (n + 1)] 74) = w1 at *
 generalize w.heap.size = z at *
 have u0_ := ChG.cells (c0 := c0) (c1 := c1) (T := 3) l3 hz1
 have u1_ := ChG.cells (c0 := c0) (c1 := c1) (T := 3) l2 hb0
 have u2_ := ChG.same (w := w1) (r := gn) (T := 3) e0 e1
 clear e0 e1
 refine Rg.rR (ChG w1 gn c0 c1 3) (MakesB 25 gn) (fun k => if k = 25 then some (isAt gn c1 3) else none) (fun _ => false) 0 26 (MakesB.size 25 gn) (ChG.start HX1.out) (fun hne => ?_)
 (repeat (refine rQ ?_; go_big_quiet_step (fail); refine wpQuiet_nil ?_))
 refine rg_cellStore gn a b c0 c1 HC1.out 3 3 _ _ rfl rfl rfl hj (by kernel_rfl) rfl rfl rfl rfl ?_
 simp only [zA, zB, zC, zD, zX]
 rintro wq hG hf hD
 have hxq : wq.heap[gn]? = some (.cells (vi (X.set a b)).toArray 3 (0, 0)) := by rw [← HSX.out]; exact hf 25
 have hyq : wq.heap[gb]? = some (.cells (vi Y).toArray 3 (0, 0)) := block_keptp hG.1 HY1.out hb0
 have hys := set_block hyq b (.int .i64 a)
 rw [vi_set] at hys
 have hxs : (wq.setCell ⟨gb, b, none⟩ (.int .i64 a)).heap[gn]? = _ := (setCell_far (a := ⟨gb, b, none⟩) HH0.out).trans hxq
 have HE : Hid (ChAt gn gb n (r1 ++ r2) (wq.setCell ⟨gb, b, none⟩ (.int .i64 a))) := zH ⟨HH0.out, _, _, hxs, hys, HL.out⟩
 have HG : Hid (∃ wm, w.grownBy wm (some gn) ∧ wm.grownBy (wq.setCell ⟨gb, b, none⟩ (.int .i64 a)) (some gb)) := zH ⟨wq, gb_trans (gb_none G1.out) hG.1, gb_setCell (gb_refl _ _) (a := ⟨gb, b, none⟩) (.inr rfl) _⟩
 obtain ⟨yb, hyb⟩ := HYB.out
 have hyc := vi_cell hyq hyb
 have hfz := frzA hyq b
 clear hf hD hne u0_ u1_ u2_ hxs hys hG hyq hxq hyb
 go_wp2_with fail
 exact bodyPost_end (v := .tuple #[]) (by simp [results, Tryz.results47, go_sem]) rfl ⟨rfl, HE.out, HG.out⟩
end Go.Proofs.YtiebljanpnadjaaGreat
