import Derived.Test.YtiebljanpnadjaaGreatPgAsN
namespace Go.Proofs.YtiebljanpnadjaaGreat
set_option linter.all false
open Go.RowKit Rg
noncomputable def elA (P : List Ph) (i : Nat) : Int := (phA P ((ordA P)[i]?.getD 0)).e
noncomputable def winC (span : Int) (P : List Ph) (r i : Nat) : Bool := decide (elA P i - elA P r ≤ span)
noncomputable def winOf (span : Int) (P : List Ph) : List Nat → List Nat
 | [] => []
 | r :: rs => ((r :: rs).takeWhile (winC span P r)).take 16
structure WinAt (span : Int) (P : List Ph) (r : Nat) (rest out r2 : List Nat) : Prop where
 all : rest = out ++ r2
 len : out.length ≤ 16
 win : winOf span P rest = out ++ (r2.takeWhile (winC span P r)).take (16 - out.length)
theorem WinAt.step {span : Int} {P : List Ph} {r x : Nat} {rest out r2 : List Nat} (h : WinAt span P r rest out (x :: r2)) (hl : out.length < 16) (hc : winC span P r x = true) : WinAt span P r rest (out ++ [x]) r2 := by
 refine ⟨by rw [h.all]; simp, by simp; omega, ?_⟩
 rw [h.win, List.takeWhile_cons, if_pos hc]
 obtain ⟨m, hm⟩ : ∃ m, 16 - out.length = m + 1 := ⟨15 - out.length, by omega⟩
 rw [hm, List.take_succ_cons, List.length_append, List.length_singleton, show 16 - (out.length + 1) = m by omega]
 simp
theorem WinAt.done {span : Int} {P : List Ph} {r : Nat} {rest out r2 : List Nat} (h : WinAt span P r rest out r2) (hd : r2 = [] ∨ out.length = 16 ∨ ∃ x r3, r2 = x :: r3 ∧ winC span P r x = false) : winOf span P rest = out := by
 rw [h.win]
 rcases hd with rfl | hl | ⟨x, r3, rfl, hc⟩
 ·simp
 ·rw [hl]; simp
 ·rw [List.takeWhile_cons, if_neg (by rw [hc]; decide)]; simp
set_option maxRecDepth 100000 in
set_option maxHeartbeats 8000000 in
theorem window_any (A : Asc) (P : List Ph) (gn gb n r : Nat) (rs : List Nat) (vl vh pv ov : Value) (w : World) (hA : AscIn A vl vh w) (hn : P.length = n) (hn1 : n ≤ 1000) (hp : SlC 6 w pv P.length (flatP P)) (ho : Sl w ov ((ordA P).map (fun (i : Nat) => (i : Int)))) (hch : ChAt gn gb n (r :: rs) w)
  (hb : ∀ a ∈ P, 0 ≤ a.e ∧ a.e ≤ 18014398509481984) :
  Calls Tryz.prog 43 #[.agg #[.slice (some ⟨gn, 0, none⟩) (n + 1) (n + 1), .slice (some ⟨gb, 0, none⟩) (n + 1) (n + 1)], .agg (A.val vl vh), pv, ov] w fun e w' => ∃ v B, e = .returned v ∧ w.heap.size ≤ B ∧ w'.ownsRow B 3 1 v (winOf A.span P (r :: rs)).length (vi (winOf A.span P (r :: rs))) ∧ w.grownBy w' none := by
 obtain ⟨x0, y0, z0, x1, y1, z1, st, ls, hs, cap, tol, span, lim, least⟩ := A
 obtain ⟨h1, h2⟩ := hA
 simp only [] at h1 h2
 obtain ⟨la, ln, lc, rfl⟩ := sl_slice h1; obtain ⟨ha, hm, hc, rfl⟩ := sl_slice h2
 clear h1 h2
 obtain ⟨hne, X, Y, hx, hy, hl⟩ := hch
 have hrn : r < n := hl.lt r (by simp)
 have hoL : ((ordA P).map (fun (i : Nat) => (i : Int))).length = n := by rw [List.length_map, ordA_length, hn]
 obtain ⟨pb, po, pc, rfl, hpb, -, -, hpc⟩ := hp.block (by omega)
 obtain ⟨ob, oo, oc, rfl, hob, -, -, hocc⟩ := ho.block (by omega)
 rw [hoL] at hocc ⊢
 have g1 := gb_alloc (gb_refl w none) (.cells #[.slice (some ⟨gn, 0, none⟩) (n + 1) (n + 1), .slice (some ⟨gb, 0, none⟩) (n + 1) (n + 1)] 74)
 have b1 := heap_alloc_new w (.cells #[.slice (some ⟨gn, 0, none⟩) (n + 1) (n + 1), .slice (some ⟨gb, 0, none⟩) (n + 1) (n + 1)] 74)
 have l1 : (w.alloc (.cells #[.slice (some ⟨gn, 0, none⟩) (n + 1) (n + 1), .slice (some ⟨gb, 0, none⟩) (n + 1) (n + 1)] 74)).heap.size = w.heap.size + 1 := by simp
 have g2 := gb_alloc (gb_refl (w.alloc (.cells #[.slice (some ⟨gn, 0, none⟩) (n + 1) (n + 1), .slice (some ⟨gb, 0, none⟩) (n + 1) (n + 1)] 74)) none) (.cells #[x0, y0, z0, x1, y1, z1, st, .slice la ln lc, .slice ha hm hc, cap, tol, span, lim, least] 30)
 have b2 := heap_alloc_new (w.alloc (.cells #[.slice (some ⟨gn, 0, none⟩) (n + 1) (n + 1), .slice (some ⟨gb, 0, none⟩) (n + 1) (n + 1)] 74)) (.cells #[x0, y0, z0, x1, y1, z1, st, .slice la ln lc, .slice ha hm hc, cap, tol, span, lim, least] 30)
 rw [l1] at b2
 have l2 : ((w.alloc (.cells #[.slice (some ⟨gn, 0, none⟩) (n + 1) (n + 1), .slice (some ⟨gb, 0, none⟩) (n + 1) (n + 1)] 74)).alloc (.cells #[x0, y0, z0, x1, y1, z1, st, .slice la ln lc, .slice ha hm hc, cap, tol, span, lim, least] 30)).heap.size = w.heap.size + 1 + 1 := by simp
 have HG := zH (gb_trans g1 g2)
 have HB1 := zH (block_kept g2 b1 rfl); have HB2 := zH b2
 have HX := zH (block_kept (gb_trans g1 g2) hx rfl)
 -- the phase at a place
 have OC : Hid (∀ i, i < n → ∃ k, (ordA P)[i]? = some k ∧ k < n ∧ (∀ u : World, w.grownBy u none → u.cell? ⟨ob, oo + i, none⟩ = some (.int .i64 (k : Int)) ∧ u.cell? ⟨pb, po + k * 6 + 3, none⟩ = some (.int .i64 (elA P i))) ∧ 0 ≤ elA P i ∧ elA P i ≤ 18014398509481984) := zH (fun i hi => by
  have hio : i < (ordA P).length := by rw [ordA_length, hn]; exact hi
  have hk : (ordA P)[i] < P.length := ordA_lt (List.getElem_mem hio)
  have e1 := hocc i hi
  unfold at0 at e1
  rw [List.getElem?_map, List.getElem?_eq_getElem hio] at e1
  have e2 := (SlC.ph hpc (ordA P)[i] hk).2.2.2.1
  have e3 : elA P i = P[(ordA P)[i]].e := by
   unfold elA phA
   rw [List.getElem?_eq_getElem hio, Option.getD_some, List.getElem?_eq_getElem hk]; rfl
  rw [← e3] at e2
  refine ⟨(ordA P)[i], List.getElem?_eq_getElem hio, by omega, fun u hu => ⟨(gb_cell hu hob (by simp)).trans e1, (gb_cell hu hpb (by simp)).trans e2⟩, ?_⟩
  rw [e3]; exact hb _ (List.getElem_mem hk))
 have HL := zH hl; have HN := zH hn
 have HPB : Hid (pb < w.heap.size ∧ ob < w.heap.size ∧ gn < w.heap.size) := zH ⟨hpb, hob, block_lt' hx⟩
 have HL2 := zH l2
 have hnext : Hid (∀ (out r2 : List Nat) (x : Nat), r :: rs = out ++ x :: r2 → X[x]? = some ((r2 ++ [n]).head (by simp))) := zH (fun out r2 x e => by
  have hr : ring n (r :: rs) = ring n (out ++ x :: r2) := by rw [e]
  obtain ⟨q, hq⟩ : ∃ q, (r2 ++ [n]).head (by simp) = q := ⟨_, rfl⟩
  rw [hq]
  refine (hl.at' (x, q) ?_).1
  rw [hr]
  obtain ⟨A, a, b, D, e1, -⟩ := ring_split n x out r2
  have hmem : (x, b) ∈ ring n (out ++ x :: r2) := by rw [e1]; simp
  have hb : b = q := by
   have hs := ring_snd n (out ++ x :: r2); have hf := ring_fst n (out ++ x :: r2)
   rw [e1] at hs hf
   simp only [List.map_append, List.map_cons] at hs hf
   have hlen : A.length = out.length := by
    have h1 := hf
    have nd := (e ▸ hl).nodup.1
    have i1 : (n :: (out ++ x :: r2))[A.length + 1]? = some x := by rw [← hf, List.getElem?_append_right (by simp)]; simp
    have i2 : (n :: (out ++ x :: r2))[out.length + 1]? = some x := by simp
    have := (List.getElem?_inj (by have := (List.getElem?_eq_some_iff.1 i1).1; exact this) nd).1 (i1.trans i2.symm)
    omega
   have j1 : (out ++ x :: r2 ++ [n])[A.length + 1]? = some b := by rw [← hs, List.getElem?_append_right (by simp)]; simp
   rw [hlen, List.append_assoc, List.getElem?_append_right (by omega)] at j1
   rw [show out.length + 1 - out.length = 1 by omega] at j1
   simp only [List.cons_append, List.getElem?_cons_succ] at j1
   rw [← hq, ← Option.some_inj, ← j1]
   cases r2 <;> rfl
  rw [← hb]; exact hmem)
 have HXL : Hid (X.length = n + 1) := zH hl.lx
 have hfirst := hl.first
 simp only [List.cons_append, List.head_cons] at hfirst
 have HF := zH hfirst
 have HST : Hid (WinAt span P r (r :: rs) [] (r :: rs)) := zH ⟨rfl, by simp, by simp [winOf]⟩
 have ASC : Hid (∀ (out r2 : List Nat) (x : Nat), r :: rs = out ++ x :: r2 → x < n ∧ x < (r2 ++ [n]).head (by simp) ∧ (r2 ++ [n]).head (by simp) ≤ n) := zH (fun out r2 x e => by
  have ha := hl.asc; have ht := hl.lt
  rw [e] at ha ht
  refine ⟨ht x (by simp), ?_, ?_⟩
  ·cases r2 with
   | nil => exact ht x (by simp)
   | cons y r3 =>
    have := (List.pairwise_append.1 ha).2.1
    exact List.rel_of_pairwise_cons this (by simp)
  ·cases r2 with
   | nil => exact Nat.le_refl _
   | cons y r3 => exact Nat.le_of_lt (ht y (by simp)))
 clear hl hx hy hpc hocc hoL g1 g2 b1 b2 l1 l2 hob hpb hp ho hb hfirst hne
 simp only [Asc.val]
 rw [hn]
 clear hn
 go_enter Tryz.func43, Tryz.ntmps43
 go_wp2_with fail
 generalize ((w.alloc (.cells #[.slice (some ⟨gn, 0, none⟩) (n + 1) (n + 1), .slice (some ⟨gb, 0, none⟩) (n + 1) (n + 1)] 74)).alloc (.cells #[x0, y0, z0, x1, y1, z1, st, .slice la ln lc, .slice ha hm hc, cap, tol, span, lim, least] 30)) = w1 at *
 generalize hz : w.heap.size = z at *
 have HZ0 := zH hz
 clear hz
 have gr0 := gb_refl w1 none
 obtain ⟨c0_, c1_⟩ := cells2 (block_kept gr0 HB1.out rfl)
 have hz1_ := block_lt' (block_kept gr0 HB1.out rfl)
 have u0_ := fun (q : Up w1) => (ever_cell q (o := 0) hz1_).trans c0_
 have u1_ := fun (q : Up w1) => (ever_cell q (o := 1) hz1_).trans c1_
 have hgl_ := block_lt' HX.out
 have q_ := vi_cell HX.out HF.out
 have u2_ := fun (q : Up w1) => (ever_cell q (o := n) hgl_).trans q_
 have hnn : n < n + 1 := Nat.lt_succ_self n
 (refine wp_region_grown (by kernel_rfl) (by kernel_rfl) ?_; (repeat (go_big_quiet_step (first | (go_at_call 42; exact Calls.grown_of (end_any _ n _ _ _ rfl (by omega)))))); refine wpQuiet_nil ?_; intro wq hq)
 generalize wq = w2 at *
 have HG2 := zH hq
 have HZB : Hid (w.heap.size ≤ w2.heap.size) := zH (Nat.le_trans HG.out.size hq.size)
 clear hq gr0 c0_ c1_ hz1_ u0_ u1_ hgl_ q_ u2_ hnn
 go_wp2_with fail
 go_loopw [9, 11] (fun o i wr => ∃ out r2 : List Nat, WinAt span P r (r :: rs) out r2 ∧ i = .int .i64 (((r2 ++ [n]).head (by simp) : Nat) : Int) ∧ wr.ownsRow w2.heap.size 3 1 o out.length (vi out) ∧ w2.grownBy wr none) (fun _ i _ => n - (intOf i).toNat)
 case atStart => exact ⟨[], r :: rs, HST.out, rfl, World.ownsRow_nil _ _ _ _, gb_refl _ _⟩
 case round =>
  obtain ⟨out, r2, hW, rfl, hown, hgr⟩ := hrel
  obtain ⟨oa, oc2, rfl⟩ := owns_slice hown
  have HOW := zH hown; have HGR := zH hgr; have HWN := zH hW
  have HGR1 := zH (gb_trans HG2.out hgr); have HGW := zH (gb_trans HG.out HGR1.out)
  have hol := hW.len
  clear hown hgr hW
  cases r2 with
  | nil =>
   have HD := zH (HWN.out.done (.inl rfl))
   have hne : ((n : Int) != (n : Int)) = false := by simp
   obtain ⟨c0_, c1_⟩ := cells2 (block_kept HGR1.out HB1.out rfl)
   have hz1_ := block_lt' (block_kept HGR1.out HB1.out rfl)
   have u0_ := fun (q : Up wr) => (ever_cell q (o := 0) hz1_).trans c0_
   have u1_ := fun (q : Up wr) => (ever_cell q (o := 1) hz1_).trans c1_
   go_wp2_with fail
   (refine wp_region_grown (by kernel_rfl) (by kernel_rfl) ?_; (repeat (go_big_quiet_step (first | (go_at_call 42; exact Calls.grown_of (end_any _ n _ _ _ rfl (by omega)))))); refine wpQuiet_nil ?_; intro wq hq)
   have HOE := zH (owns_keep HOW.out hq); have HGE := zH (gb_trans HGW.out hq)
   clear c0_ c1_ hz1_ u0_ u1_ hq
   go_wp2_with fail
   go_ret
   exact ⟨_, _, rfl, HZB.out, by rw [HD.out]; exact HOE.out, HGE.out⟩
  | cons x r3 =>
   obtain ⟨hxn, hxh, hhn⟩ := ASC.out out r3 x HWN.out.all
   have HNX := zH (hnext.out out r3 x HWN.out.all)
   obtain ⟨nx, hnx⟩ : ∃ q, (r3 ++ [n]).head (by simp) = q := ⟨_, rfl⟩
   rw [hnx] at hxh hhn HNX
   have HNXX := zH hnx
   clear hnx
   rw [show ((x :: r3) ++ [n]).head (by simp) = x from rfl]
   obtain ⟨c0_, c1_⟩ := cells2 (block_kept HGR1.out HB1.out rfl)
   have hz1_ := block_lt' (block_kept HGR1.out HB1.out rfl)
   have u0_ := fun (q : Up wr) => (ever_cell q (o := 0) hz1_).trans c0_
   have u1_ := fun (q : Up wr) => (ever_cell q (o := 1) hz1_).trans c1_
   obtain ⟨kx, ex1, hkx, ex2, ex3, ex4⟩ := OC.out x hxn
   obtain ⟨kr, er1, hkr, er2, er3, er4⟩ := OC.out r hrn
   obtain ⟨ax_, bx_⟩ := ex2 wr HGW.out
   obtain ⟨ar_, br_⟩ := er2 wr HGW.out
   have hpb_ : pb < wr.heap.size := by have := HPB.out; have := HGW.out.size; omega
   have hob_ : ob < wr.heap.size := by have := HPB.out; have := HGW.out.size; omega
   have u2_ := fun (q : Up wr) => (ever_cell q (o := oo + x) hob_).trans ax_
   have u3_ := fun (q : Up wr) => (ever_cell q (o := po + kx * 6 + 3) hpb_).trans bx_
   have u4_ := fun (q : Up wr) => (ever_cell q (o := oo + r) hob_).trans ar_
   have u5_ := fun (q : Up wr) => (ever_cell q (o := po + kr * 6 + 3) hpb_).trans br_
   have s10_ : wr.cell? ⟨z + 1, 10, none⟩ = some (.int .i64 tol) := cell_of (block_kept HGR1.out HB2.out rfl) 10 _ rfl
   have s11_ : wr.cell? ⟨z + 1, 11, none⟩ = some (.int .i64 span) := cell_of (block_kept HGR1.out HB2.out rfl) 11 _ rfl
   have hz2_ := block_lt' (block_kept HGR1.out HB2.out rfl)
   have u6_ := fun (q : Up wr) => (ever_cell q (o := 11) hz2_).trans s11_
   have HWC : Hid (winC span P r x = decide (elA P x - elA P r ≤ span)) := zH rfl
   have hxne : ((x : Int) != (n : Int)) = true := by simp; omega
   clear ex1 er1 ex2 er2
   generalize elA P x = fx at *
   generalize elA P r = fr at *
   have hwe : IntKind.i64.wrap (fx - fr) = fx - fr := by rw [IntKind.wrap_i64]; omega
   by_cases h16 : out.length = 16
   ·have hd1 : decide ((out.length : Int) < 16) = false := decide_eq_false (by omega)
    have HD := zH (HWN.out.done (.inr (.inl h16)))
    clear h16
    go_wp2_with fail
    (refine wp_region_grown (by kernel_rfl) (by kernel_rfl) ?_; (repeat (go_big_quiet_step (first | (go_at_call 42; exact Calls.grown_of (end_any _ n _ _ _ rfl (by omega)))))); refine wpQuiet_nil ?_; intro wq hq)
    have HOE := zH (owns_keep HOW.out hq); have HGE := zH (gb_trans HGW.out hq)
    clear c0_ c1_ hz1_ u0_ u1_ ax_ bx_ ar_ br_ hpb_ hob_ u2_ u3_ u4_ u5_ s10_ s11_ hz2_ u6_ hkx hkr ex3 ex4 er3 er4 hxne hwe hq
    go_wp2_with fail
    go_ret
    exact ⟨_, _, rfl, HZB.out, by rw [HD.out]; exact HOE.out, HGE.out⟩
   have hd1 : decide ((out.length : Int) < 16) = true := decide_eq_true (by omega)
   have h16l : out.length < 16 := by omega
   clear h16
   by_cases hcc : fx - fr ≤ span
   ·have hd2 : decide (fx - fr ≤ span) = true := decide_eq_true hcc
    have HST2 := zH (HWN.out.step h16l (by rw [HWC.out, hd2]))
    clear hcc
    go_wp2_with fail
    (refine wp_region_grown (by kernel_rfl) (by kernel_rfl) ?_; (repeat (go_big_quiet_step (first | (go_at_call 42; exact Calls.grown_of (end_any _ n _ _ _ rfl (by omega)))))); refine wpQuiet_nil ?_; intro wq hq)
    have HOQ := zH (owns_keep HOW.out hq); have HGQ := zH (gb_trans HGR.out hq)
    have hszq := (gb_trans HGR.out hq).size
    clear c0_ c1_ hz1_ u0_ u1_ ax_ bx_ ar_ br_ hpb_ hob_ u2_ u3_ u4_ u5_ s10_ s11_ hz2_ u6_ hkx hkr ex3 ex4 er3 er4 hxne hwe hq
    go_wp2_with (at_builtin; (refine wpList_push rfl _ _ 26 rfl w2.heap.size 3 (.int .i64 0) 1 8 Tryz.underlying26 info_intS rfl (by decide) (by decide) (.slice oa out.length oc2) out.length (vi out) rfl (HOQ.out.alloc _) wq.heap.size 1 [.int .i64 (x : Int)] 3 rfl (heap_alloc_new _ _) rfl (by simp [Value.oneCell']) (by omega) (by simp; omega) ?_); refine Hid.out ?_)
    refine zH ?_
    intro v' w4 hown' hg'
    have R1 : Hid (w4.ownsRow w2.heap.size 3 1 v' (out ++ [x]).length (vi (out ++ [x]))) := zH (by
     have e : vi (out ++ [x]) = vi out ++ [.int .i64 (x : Int)] := by simp [vi]
     rw [List.length_append, List.length_singleton, e]; exact hown')
    have R2 := zH (push_grown HGQ.out HOQ.out (Nat.le_refl _) hg')
    have R3 := zH (gb_trans HG2.out R2.out)
    clear hown' hg' hszq
    obtain ⟨c0_, c1_⟩ := cells2 (block_kept R3.out HB1.out rfl)
    have hz1_ := block_lt' (block_kept R3.out HB1.out rfl)
    have hxc := vi_cell (block_kept R3.out HX.out rfl) HNX.out
    have hgl := block_lt' (block_kept R3.out HX.out rfl)
    have hxn1 : x < n + 1 := by omega
    go_wp2_with fail
    go_roundw
    case rel => exact ⟨out ++ [x], r3, HST2.out, by rw [HNXX.out], R1.out, R2.out⟩
    case measure => simp [intOf]; omega
   ·have hd2 : decide (fx - fr ≤ span) = false := decide_eq_false hcc
    have HD := zH (HWN.out.done (.inr (.inr ⟨x, r3, rfl, by rw [HWC.out, hd2]⟩)))
    clear hcc
    go_wp2_with fail
    (refine wp_region_grown (by kernel_rfl) (by kernel_rfl) ?_; (repeat (go_big_quiet_step (first | (go_at_call 42; exact Calls.grown_of (end_any _ n _ _ _ rfl (by omega)))))); refine wpQuiet_nil ?_; intro wq hq)
    have HOE := zH (owns_keep HOW.out hq); have HGE := zH (gb_trans HGW.out hq)
    clear c0_ c1_ hz1_ u0_ u1_ ax_ bx_ ar_ br_ hpb_ hob_ u2_ u3_ u4_ u5_ s10_ s11_ hz2_ u6_ hkx hkr ex3 ex4 er3 er4 hxne hwe hq
    go_wp2_with fail
    go_ret
    exact ⟨_, _, rfl, HZB.out, by rw [HD.out]; exact HOE.out, HGE.out⟩
end Go.Proofs.YtiebljanpnadjaaGreat
