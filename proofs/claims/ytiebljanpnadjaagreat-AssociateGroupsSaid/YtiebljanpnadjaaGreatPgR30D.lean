import Derived.Test.YtiebljanpnadjaaGreatPgR30C
namespace Go.Proofs.YtiebljanpnadjaaGreat
set_option linter.all false
open Go.RowKit Rg
set_option maxRecDepth 100000 in
set_option maxHeartbeats 4000000 in
theorem r30in_any (xs : List Int) (v : Value) (x : Int) (w : World) (hs : Sl w v xs) :
  Calls Tryz.prog 79 #[v, x] w fun e w' => e = .returned (.bool (decide (x ∈ xs))) ∧ w.grownBy w' none := by
 obtain ⟨va, vc, rfl⟩ := hs.shape
 have HS := zH hs; clear hs
 generalize hn : xs.length = n at *
 have HNL := zH hn; clear hn
 obtain ⟨r, hr⟩ : ∃ r, decide (x ∈ xs) = r := ⟨_, rfl⟩
 have HR := zH hr
 rw [hr]
 clear hr
 go_enter Tryz.func79, Tryz.ntmps79
 go_wp2_with fail
 go_loopw [5] (fun i wr => ∃ k : Nat, k ≤ n ∧ i = .int .i64 k ∧ x ∉ xs.take k ∧ w.grownBy wr none) (fun i _ => n - (intOf i).toNat)
 case atStart => exact ⟨0, by omega, rfl, by simp, gb_refl _ _⟩
 case round =>
  obtain ⟨k, hk, rfl, hnx, hgr⟩ := hrel
  have GR := zH hgr; have NX := zH hnx
  clear hgr hnx
  by_cases hlt : k < n
  ·have hkd : decide ((k : Int) < (n : Int)) = true := decide_eq_true (by omega)
   have hkx : k < xs.length := by have := HNL.out; omega
   obtain ⟨b, off, cap, e1, hb, h1, h2, hc⟩ := (HS.out.after GR.out).block (by omega)
   rw [HNL.out] at e1
   simp only [Value.slice.injEq, true_and] at e1
   obtain ⟨rfl, rfl⟩ := e1
   have hx_ := hc k hkx
   have hat : at0 xs k = xs[k] := by simp [at0, hkx]
   rw [hat] at hx_
   have HKB : Hid (k < 9223372036854775807) := zH (by have := HNL.out; omega)
   have HT : Hid (xs.take (k + 1) = xs.take k ++ [xs[k]]) := zH (List.take_succ_eq_append_getElem hkx)
   have HM := zH (List.getElem_mem hkx)
   clear hc h1 h2 hat
   generalize xs[k] = y at *
   have hkb := HKB.out
   by_cases hyx : y = x
   ·have e_ : (y == x) = true := by simpa using hyx
    have HE : Hid (r = true) := zH (by rw [← HR.out]; exact decide_eq_true (hyx ▸ HM.out))
    clear hyx
    go_wp2_with fail
    go_ret
    exact ⟨by rw [HE.out]; rfl, GR.out⟩
   ·have e_ : (y == x) = false := by simpa using hyx
    have HN2 : Hid (x ∉ xs.take (k + 1)) := zH (by
     rw [HT.out, List.mem_append, List.mem_singleton]
     rintro (h | h)
     ·exact NX.out h
     ·exact hyx h.symm)
    clear hyx
    go_wp2_with fail
    go_roundw
    case rel => exact ⟨k + 1, by omega, by go_num, HN2.out, GR.out⟩
    case measure => simp [intOf]; omega
  ·have hkd : decide ((k : Int) < (n : Int)) = false := decide_eq_false (by omega)
   have HE : Hid (r = false) := zH (by
    rw [← HR.out]
    have h := NX.out
    rw [List.take_of_length_le (by have := HNL.out; omega)] at h
    exact decide_eq_false h)
   go_wp2_with fail
   go_ret
   exact ⟨by rw [HE.out]; rfl, GR.out⟩
set_option maxRecDepth 100000 in
set_option maxHeartbeats 4000000 in
theorem r30without_any (xs ms : List Int) (v mv : Value) (w : World) (hs : Sl w v xs) (hm : Sl w mv ms) (hl : xs.length ≤ 100000) :
  Calls Tryz.prog 50 #[v, mv] w fun e w' => ∃ r, e = .returned r ∧ w'.ownsRow w.heap.size 3 1 r (xs.filter (fun x => decide (x ∉ ms))).length ((xs.filter (fun x => decide (x ∉ ms))).map (Value.int .i64)) ∧ w.grownBy w' none := by
 obtain ⟨va, vc, rfl⟩ := hs.shape
 obtain ⟨ma, mc, rfl⟩ := hm.shape
 have HS := zH hs
 have INA := zH (fun (x : Int) (u : World) (hu : w.grownBy u none) => r30in_any ms _ x u (hm.after hu))
 clear hs hm
 generalize hn : xs.length = n at *
 have HNL := zH hn; clear hn
 have HL := zH hl
 generalize ms.length = mn at *
 go_enter Tryz.func50, Tryz.ntmps50
 go_wp2_with fail
 go_loopw [5, 6] (fun o i wr => ∃ (k : Nat) (R : List Int), k ≤ n ∧ i = .int .i64 k ∧ R = (xs.take k).filter (fun x => decide (x ∉ ms)) ∧ wr.ownsRow w.heap.size 3 1 o R.length (R.map (Value.int .i64)) ∧ w.grownBy wr none) (fun _ i _ => n - (intOf i).toNat)
 case atStart => exact ⟨0, [], by omega, rfl, by simp, World.ownsRow_nil _ _ _ _, gb_refl _ _⟩
 case round =>
  obtain ⟨k, R, hk, rfl, hR, hown, hgr⟩ := hrel
  have GR := zH hgr; have HR := zH hR
  obtain ⟨oa, oc, rfl⟩ := owns_slice hown
  have HO := zH hown
  clear hgr hR hown
  by_cases hlt : k < n
  ·have hkd : decide ((k : Int) < (n : Int)) = true := decide_eq_true (by omega)
   have hkx : k < xs.length := by have := HNL.out; omega
   obtain ⟨b, off, cap, e1, hb, -, -, hc⟩ := (HS.out.after GR.out).block (by omega)
   rw [HNL.out] at e1
   simp only [Value.slice.injEq, true_and] at e1
   obtain ⟨rfl, rfl⟩ := e1
   have hx_ := hc k hkx
   have hat : at0 xs k = xs[k] := by simp [at0, hkx]
   rw [hat] at hx_
   have HT : Hid ((xs.take (k + 1)).filter (fun x => decide (x ∉ ms)) = R ++ (if xs[k] ∈ ms then [] else [xs[k]])) := zH (by
    rw [List.take_succ_eq_append_getElem hkx, List.filter_append, ← HR.out, List.filter_cons, List.filter_nil]
    by_cases h : xs[k] ∈ ms <;> simp [h])
   have hRl : R.length ≤ n := by rw [HR.out]; refine Nat.le_trans (List.length_filter_le _ _) ?_; rw [List.length_take]; omega
   have INK := zH (INA.out xs[k] wr GR.out)
   clear hc hat
   generalize xs[k] = x at *
   obtain ⟨bb, hbb⟩ : ∃ bb, decide (x ∈ ms) = bb := ⟨_, rfl⟩
   rw [hbb] at INK
   have HBB := zH hbb
   clear hbb
   go_wp2_with fail
   (with_reducible refine INK.out.mono ?_)
   rintro e w5 ⟨rfl, hg⟩
   have hx5 := (gb_cell hg hb (by simp)).trans hx_
   have hb5 : b < w5.heap.size := Nat.lt_of_lt_of_le hb hg.size
   have GR5 := zH (gb_trans GR.out hg); have HO5 := zH (owns_keep HO.out hg)
   clear hg hx_ hb INK GR HO
   cases bb
   ·have HN2 : Hid ((xs.take (k + 1)).filter (fun x => decide (x ∉ ms)) = R ++ [x]) := zH (by
     rw [HT.out, if_neg (by simpa using HBB.out)])
    have hszw := GR5.out.size
    clear HT
    go_wp2_with (at_builtin; (refine wpList_push rfl _ _ 26 rfl w.heap.size 3 (.int .i64 0) 1 8 Tryz.underlying26 info_intS rfl (by decide) (by decide) (.slice oa R.length oc) R.length (R.map (Value.int .i64)) rfl (HO5.out.alloc _) w5.heap.size 1 [.int .i64 x] 3 rfl (heap_alloc_new _ _) rfl (by simp [Value.oneCell']) (by omega) (by simp; omega) ?_); refine Hid.out ?_)
    refine zH ?_
    intro v9 w9 hown9 hg9
    have G9 := zH (push_grown GR5.out HO5.out (Nat.le_refl _) hg9)
    have O9 : Hid (w9.ownsRow w.heap.size 3 1 v9 (R ++ [x]).length ((R ++ [x]).map (Value.int .i64))) := zH (by rw [List.length_append, List.length_singleton, List.map_append]; exact hown9)
    obtain ⟨na, nc, rfl⟩ := owns_slice hown9
    clear hown9 hg9 hx5 hb5 HO5 GR5
    go_wp2_with fail
    go_roundw
    case rel => exact ⟨k + 1, R ++ [x], by omega, by go_num, HN2.out.symm, O9.out, G9.out⟩
    case measure => simp [intOf]; omega
   ·have HN2 : Hid ((xs.take (k + 1)).filter (fun x => decide (x ∉ ms)) = R) := zH (by
     rw [HT.out, if_pos (by simpa using HBB.out), List.append_nil])
    clear HT
    go_wp2_with fail
    go_roundw
    case rel => exact ⟨k + 1, R, by omega, by go_num, HN2.out.symm, HO5.out, GR5.out⟩
    case measure => simp [intOf]; omega
  ·have hkd : decide ((k : Int) < (n : Int)) = false := decide_eq_false (by omega)
   have HE : Hid (R = xs.filter (fun x => decide (x ∉ ms))) := zH (by rw [HR.out, List.take_of_length_le (by have := HNL.out; omega)])
   go_wp2_with fail
   go_ret
   exact ⟨_, rfl, by rw [← HE.out]; exact HO.out, GR.out⟩
set_option maxRecDepth 100000 in
set_option maxHeartbeats 8000000 in
theorem rproblem30_any (A : Asc) (P : List Ph) (W : List Nat) (vl vh pv wv : Value) (w : World) (hA : AscIn A vl vh w) (hp : SlC 6 w pv P.length (flatP P)) (hw : Sl w wv (W.map (fun (i : Nat) => (i : Int)))) (hW : ∀ i ∈ W, i < P.length) (hl : W.length ≤ 1000) :
  Calls Tryz.prog 68 #[.agg (A.val vl vh), pv, wv] w fun e w' => ∃ va vc, e = .returned (.agg ((A.prob (W.map (phA P))).val vl vh (.slice va W.length vc))) ∧ SlC 6 w' (.slice va W.length vc) W.length (flatP (W.map (phA P))) ∧ w.grownBy w' none := by
 have hlw := hw.shape
 rw [List.length_map] at hlw
 obtain ⟨sa, sc, rfl⟩ := hlw
 obtain ⟨m, hm⟩ : ∃ m, W.length = m := ⟨_, rfl⟩
 rw [hm] at hw hl ⊢
 have HM := zH hm
 have h1 := hA.l; have h2 := hA.h
 obtain ⟨la, ln, lc, rfl⟩ := sl_slice h1; obtain ⟨ha, hm_, hc, rfl⟩ := sl_slice h2
 obtain ⟨pa, pc, rfl⟩ := hp.slice
 have HP := zH hp; have HW := zH hw; have HWL := zH hW
 obtain ⟨x0, y0, z0, x1, y1, z1, st, ls, hs, cap, tol, span, lim, least⟩ := A
 simp only [Asc.val, Asc.prob, Prob.val]
 clear h1 h2 hA hp hw hW hm
 have B1 := heap_alloc_new w (.cells #[x0, y0, z0, x1, y1, z1, st, .slice la ln lc, .slice ha hm_ hc, cap, tol, span, lim, least] 30)
 have l1 : (w.alloc (.cells #[x0, y0, z0, x1, y1, z1, st, .slice la ln lc, .slice ha hm_ hc, cap, tol, span, lim, least] 30)).heap.size = w.heap.size + 1 := by simp
 have R2 := heap_alloc_new (w.alloc (.cells #[x0, y0, z0, x1, y1, z1, st, .slice la ln lc, .slice ha hm_ hc, cap, tol, span, lim, least] 30)) (.cells #[(0:Int), (0:Int), (0:Int), (0:Int), (0:Int), (0:Int), (0:Int), .slice none 0 0, .slice none 0 0, .slice none 0 0, (0:Int)] 83)
 rw [l1] at R2
 have hg2 := gb_alloc (gb_alloc (gb_refl w none) (.cells #[x0, y0, z0, x1, y1, z1, st, .slice la ln lc, .slice ha hm_ hc, cap, tol, span, lim, least] 30)) (.cells #[(0:Int), (0:Int), (0:Int), (0:Int), (0:Int), (0:Int), (0:Int), .slice none 0 0, .slice none 0 0, .slice none 0 0, (0:Int)] 83)
 have hk2 := gb_alloc (gb_refl (w.alloc (.cells #[x0, y0, z0, x1, y1, z1, st, .slice la ln lc, .slice ha hm_ hc, cap, tol, span, lim, least] 30)) none) (.cells #[(0:Int), (0:Int), (0:Int), (0:Int), (0:Int), (0:Int), (0:Int), .slice none 0 0, .slice none 0 0, .slice none 0 0, (0:Int)] 83)
 have B2 := block_kept hk2 B1 rfl
 have l2 : ((w.alloc (.cells #[x0, y0, z0, x1, y1, z1, st, .slice la ln lc, .slice ha hm_ hc, cap, tol, span, lim, least] 30)).alloc (.cells #[(0:Int), (0:Int), (0:Int), (0:Int), (0:Int), (0:Int), (0:Int), .slice none 0 0, .slice none 0 0, .slice none 0 0, (0:Int)] 83)).heap.size = w.heap.size + 2 := by simp
 have HB2 := zH B2; have HR2 := zH R2; have HG2 := zH hg2; have HL2 := zH l2
 clear B1 l1 hk2 hg2 l2 R2
 obtain ⟨c0_, c1_, c2_, c3_, c4_, c5_, c6_, c7_, c8_, c9_, c10_, c11_, c12_, c13_⟩ := cells14 B2
 have hz := block_lt' B2
 clear B2
 go_enter Tryz.func68, Tryz.ntmps68
 go_upto_region 2 with fail
 clear c0_ c1_ c2_ c3_ c4_ c5_ c6_ c7_ c8_ c9_ c10_ c11_ c12_ c13_ hz
 have hk3 := gb_alloc (gb_refl ((w.alloc (.cells #[x0, y0, z0, x1, y1, z1, st, .slice la ln lc, .slice ha hm_ hc, cap, tol, span, lim, least] 30)).alloc (.cells #[(0:Int), (0:Int), (0:Int), (0:Int), (0:Int), (0:Int), (0:Int), .slice none 0 0, .slice none 0 0, .slice none 0 0, (0:Int)] 83)) none) (.cells #[x0, y0, z0, x1, y1, z1, st, .slice la ln lc, .slice ha hm_ hc, .slice none 0 0, cap] 83)
 have hb3 := heap_alloc_new ((w.alloc (.cells #[x0, y0, z0, x1, y1, z1, st, .slice la ln lc, .slice ha hm_ hc, cap, tol, span, lim, least] 30)).alloc (.cells #[(0:Int), (0:Int), (0:Int), (0:Int), (0:Int), (0:Int), (0:Int), .slice none 0 0, .slice none 0 0, .slice none 0 0, (0:Int)] 83)) (.cells #[x0, y0, z0, x1, y1, z1, st, .slice la ln lc, .slice ha hm_ hc, .slice none 0 0, cap] 83)
 rw [HL2.out] at hb3
 have M0 : Hid (PrRe w (w.heap.size + 1 + 1) x0 y0 z0 x1 y1 z1 st (.slice la ln lc) (.slice ha hm_ hc) cap [] (.slice none 0 0) (((w.alloc (.cells #[x0, y0, z0, x1, y1, z1, st, .slice la ln lc, .slice ha hm_ hc, cap, tol, span, lim, least] 30)).alloc (.cells #[(0:Int), (0:Int), (0:Int), (0:Int), (0:Int), (0:Int), (0:Int), .slice none 0 0, .slice none 0 0, .slice none 0 0, (0:Int)] 83)).alloc (.cells #[x0, y0, z0, x1, y1, z1, st, .slice la ln lc, .slice ha hm_ hc, .slice none 0 0, cap] 83))) := zH ⟨hb3, World.ownsRow_nil _ _ _ _, gb_trans HG2.out hk3, by omega⟩
 have R0 := zH (block_kept hk3 HR2.out rfl)
 clear hk3 hb3 HB2 HR2 HG2 HL2
 generalize ((w.alloc (.cells #[x0, y0, z0, x1, y1, z1, st, .slice la ln lc, .slice ha hm_ hc, cap, tol, span, lim, least] 30)).alloc (.cells #[(0:Int), (0:Int), (0:Int), (0:Int), (0:Int), (0:Int), (0:Int), .slice none 0 0, .slice none 0 0, .slice none 0 0, (0:Int)] 83)).alloc (.cells #[x0, y0, z0, x1, y1, z1, st, .slice la ln lc, .slice ha hm_ hc, .slice none 0 0, cap] 83) = w3 at *
 obtain ⟨z, hz⟩ : ∃ z, w.heap.size = z := ⟨_, rfl⟩
 have HZ := zH hz
 rw [hz] at M0 R0 ⊢
 clear hz
 go_wp2_with fail
 go_loopw [8] (fun iv wr => ∃ (k : Nat) (vq : Value), k ≤ m ∧ iv = .int .i64 k ∧ PrRe w (z + 1 + 1) x0 y0 z0 x1 y1 z1 st (.slice la ln lc) (.slice ha hm_ hc) cap ((W.take k).map (phA P)) vq wr ∧ wr.heap[z + 1]? = some (.cells #[(0:Int), (0:Int), (0:Int), (0:Int), (0:Int), (0:Int), (0:Int), .slice none 0 0, .slice none 0 0, .slice none 0 0, (0:Int)] 83 (0, 0))) (fun iv _ => m - (intOf iv).toNat)
 case atStart => exact ⟨0, _, by omega, rfl, M0.out, R0.out⟩
 case round =>
  obtain ⟨k, vq, hk, rfl, hM, hR⟩ := hrel
  have MR := zH hM; have RR := zH hR
  obtain ⟨qa, qc, rfl⟩ := owns_slice hM.own
  have hlk : ((W.take k).map (phA P)).length = k := by rw [List.length_map, List.length_take]; have := HM.out; omega
  clear hM hR M0 R0
  by_cases hlt : k < m
  ·have hkd : decide ((k : Int) < (m : Int)) = true := decide_eq_true (by omega)
   have hkW : k < W.length := by have := HM.out; omega
   have hiP := HWL.out W[k] (List.getElem_mem hkW)
   obtain ⟨sb, so, scap, se, hsb, -, -, hsc⟩ := (HW.out.after MR.out.gr).block (by rw [List.length_map]; omega)
   simp only [Value.slice.injEq] at se
   obtain ⟨rfl, -, rfl⟩ := se
   have s0_ := hsc k (by rw [List.length_map]; exact hkW)
   have hat : at0 (W.map (fun (i : Nat) => (i : Int))) k = (W[k] : Int) := by simp [at0, hkW]
   rw [hat] at s0_
   obtain ⟨pb, po, pcap, pe, hpb, -, -, hpc⟩ := (HP.out.after MR.out.gr).block (by omega)
   simp only [Value.slice.injEq, true_and] at pe
   obtain ⟨rfl, rfl⟩ := pe
   obtain ⟨p0_, p1_, p2_, p3_, p4_, p5_⟩ := SlC.ph hpc W[k] hiP
   have HTK : Hid ((W.take (k + 1)).map (phA P) = (W.take k).map (phA P) ++ [P[W[k]]]) := zH (by rw [List.take_succ_eq_append_getElem hkW, List.map_append, List.map_singleton, phA_eq hiP])
   generalize P[W[k]] = a at *
   obtain ⟨ax, ay, az, ae, al, an⟩ := a
   simp only [] at p0_ p1_ p2_ p3_ p4_ p5_
   generalize hpn : P.length = pn at *
   generalize W[k] = i at *
   rw [hlk] at MR
   have q9_ := cell_of MR.out.prob 9 _ rfl
   have hql := block_lt' MR.out.prob
   have hgw := MR.out.gr.size
   clear hsc hat hpc hpn
   have u0_ := Made.cell p0_ hpb; have u1_ := Made.cell p1_ hpb; have u2_ := Made.cell p2_ hpb; have u3_ := Made.cell p3_ hpb; have u4_ := Made.cell p4_ hpb; have u5_ := Made.cell p5_ hpb
   have us_ := Made.cell s0_ hsb; have uq_ := Made.cell q9_ hql
   go_wp2_with fail
   refine Rg.rR (Made wr) Makes (fun k_ => if k_ = 9 then some (isMk wr 1 #[ax, ay, az, ae, al, an] 51) else none) (fun _ => false) 0 10 Makes.size (Made.start wr) (fun hne => ?_)
   (repeat (refine rQ ?_; go_big_quiet_step (fail); refine wpQuiet_nil ?_))
   refine rg_mk 1 #[ax, ay, az, ae, al, an] 51 [.agg #[ax, ay, az, ae, al, an]] rfl rfl rfl (fun _ => by go_simp) (fun lb hlb => ?_)
   simp only [zA, zB, zC, zD, zX]
   (repeat (refine rQ ?_; go_big_quiet_step (fail); refine wpQuiet_nil ?_))
   rintro wz hqz hf -
   have L1 := isMk.out (hf 9)
   have MZ := zH (MR.out.later hqz); have RZ := zH (block_kept hqz RR.out rfl)
   have hsz : z + 1 + 1 + 1 ≤ wz.heap.size := by have := hqz.size; omega
   clear hf hqz hne u0_ u1_ u2_ u3_ u4_ u5_ us_ uq_ p0_ p1_ p2_ p3_ p4_ p5_ s0_ q9_ hpb hsb hql hgw MR RR
   have hl6 : (flatP ((W.take k).map (phA P))).length = k * 6 := by rw [flatP_length, hlk]
   have hownz := MZ.out.own
   rw [hlk] at hownz
   refine wpList_push rfl _ _ 31 rfl (z + 1 + 1 + 1) 51 (.agg #[(0:Int), (0:Int), (0:Int), (0:Int), (0:Int), (0:Int)]) 6 48 Tryz.underlying31 Tryz.infoPhaseT rfl (by decide) (by decide) (.slice qa k qc) k _ rfl hownz lb 1 [.int .i64 ax, .int .i64 ay, .int .i64 az, .int .i64 ae, .int .i64 al, .int .i64 an] 51 rfl L1 rfl (by simp [Value.oneCell']) (by omega) (by omega) ?_
   intro v' w10 hown hg
   have x9_ := MZ.out.nine hg
   have f9_ := MZ.out.fro (o := 9) hg
   obtain ⟨na, nc, rfl⟩ := owns_slice hown
   have MN := zH (MZ.out.push (a := ⟨ax, ay, az, ae, al, an⟩) hg (by rw [hlk]; exact hown))
   have hrz : ∀ b, (Value.slice qa k qc).ownBlock = some b → z + 1 + 1 + 1 ≤ b := fun b e => (hownz.lt b e).1
   have RN := zH ((setCell_far (a := ⟨z + 1 + 1, 9, none⟩) (u := .slice na (k + 1) nc) (by show z + 1 ≠ z + 1 + 1; omega)).trans ((hg.block (z + 1) (block_lt' RZ.out) (fun e => by have := hrz _ e.symm; omega)).trans RZ.out))
   clear hown hg L1 hownz hl6 hrz MZ RZ
   simp only [zA, zB, zC, zD, zX]
   go_wp2_with fail
   go_roundw
   case rel => exact ⟨k + 1, _, by omega, by go_num, by rw [HTK.out]; exact MN.out, RN.out⟩
   case measure => simp [intOf]; omega
  ·have hkd : decide ((k : Int) < (m : Int)) = false := decide_eq_false (by omega)
   have hke : k = m := by omega
   have htk : (W.take k).map (phA P) = W.map (phA P) := by rw [List.take_of_length_le (by have := HM.out; omega)]
   rw [hlk] at MR
   rw [htk, hke] at MR
   have hgm : w.grownBy (wr.setRow (z + 1) #[x0, y0, z0, x1, y1, z1, st, .slice la ln lc, .slice ha hm_ hc, .slice qa m qc, cap]) none := gb_setRow MR.out.gr (.inl (by have := HZ.out; omega))
   have N1 := zH (setRow_at (cs := #[x0, y0, z0, x1, y1, z1, st, .slice la ln lc, .slice ha hm_ hc, .slice qa m qc, cap]) RR.out)
   have hrow : wr.grownBy (wr.setRow (z + 1) #[x0, y0, z0, x1, y1, z1, st, .slice la ln lc, .slice ha hm_ hc, .slice qa m qc, cap]) (some (z + 1)) := gb_setRow (gb_refl _ _) (.inr rfl)
   have hsl : Hid (SlC 6 (wr.setRow (z + 1) #[x0, y0, z0, x1, y1, z1, st, .slice la ln lc, .slice ha hm_ hc, .slice qa m qc, cap]) (.slice qa m qc) m (flatP (W.map (phA P)))) := zH (by
    have h := MR.out.own
    have hw : (W.map (phA P)).length = m := by rw [List.length_map]; exact HM.out
    rw [hw] at h
    exact SlC.of_owns (h.kept hrow (by
     cases hb : (Value.slice qa m qc).ownBlock with
     | none => exact .inl rfl
     | some g => exact .inr (fun e => by simp at e; have := (h.lt g hb).1; omega))))
   have GM := zH hgm
   obtain ⟨e0_, e1_, e2_, e3_, e4_, e5_, e6_, e7_, e8_, e9_, e10_⟩ := cells11 MR.out.prob
   have hql := block_lt' MR.out.prob
   clear htk hgm hrow
   go_wp2_with (with_reducible refine wpList_store_row rfl _ _ _ rfl (z + 1) #[x0, y0, z0, x1, y1, z1, st, .slice la ln lc, .slice ha hm_ hc, .slice qa m qc, cap] rfl rfl _ _ RR.out (by kernel_rfl) rfl (by simp [Value.oneCell']) ?_)
   clear e0_ e1_ e2_ e3_ e4_ e5_ e6_ e7_ e8_ e9_ e10_ hql
   obtain ⟨e0_, e1_, e2_, e3_, e4_, e5_, e6_, e7_, e8_, e9_, e10_⟩ := cells11 N1.out
   exact bodyPost_ret (v := .agg #[x0, y0, z0, x1, y1, z1, st, .slice la ln lc, .slice ha hm_ hc, .slice qa m qc, cap]) (by simp [results, Tryz.results68, go_sem, e0_, e1_, e2_, e3_, e4_, e5_, e6_, e7_, e8_, e9_, e10_]) rfl ⟨qa, qc, rfl, hsl.out, GM.out⟩
theorem takeWhile_filter {α : Type} {p : α → Bool} : ∀ {l : List α}, l.Pairwise (fun a b => p b = true → p a = true) → l.takeWhile p = l.filter p
 | [], _ => rfl
 | a :: l, h => by
  have h1 := List.pairwise_cons.1 h
  rw [List.takeWhile_cons, List.filter_cons]
  cases hp : p a
  ·simp only [Bool.false_eq_true, if_false]
   symm
   refine List.filter_eq_nil_iff.2 fun x hx hpx => ?_
   rw [h1.1 x hx hpx] at hp
   cases hp
  ·simp only [if_true]
   rw [takeWhile_filter h1.2]
theorem less_e {P : List Ph} {a b : Nat} (h : lessA P a b) : (phA P a).e ≤ (phA P b).e := by
 rcases h with h | ⟨h, -⟩
 ·unfold Ph.key at h
  rcases List.cons_lt_cons_iff.1 h with h | ⟨h, -⟩ <;> omega
 ·simp only [Ph.key, List.cons.injEq] at h
  omega
theorem elA_mono {P : List Ph} {i k : Nat} (h : i < k) (hk : k < P.length) : elA P i ≤ elA P k := by
 have hi : i < (ordA P).length := by rw [ordA_length]; omega
 have hk' : k < (ordA P).length := by rw [ordA_length]; exact hk
 have hl := List.pairwise_iff_getElem.1 (ordA_sorted P) i k hi hk' h
 unfold elA
 rw [List.getElem?_eq_getElem hi, List.getElem?_eq_getElem hk']
 exact less_e hl
noncomputable def inW (span : Int) (P : List Ph) (r i : Nat) : Bool := decide (elA P i ≤ elA P r + span)
theorem win_filter {span : Int} {P : List Ph} {r : Nat} {rs : List Nat} (hs : (r :: rs).Pairwise (· < ·)) (hlt : ∀ i ∈ r :: rs, i < P.length) : winOf span P (r :: rs) = ((r :: rs).filter (inW span P r)).take 16 := by
 show ((r :: rs).takeWhile (winC span P r)).take 16 = _
 have e : ∀ i, winC span P r i = inW span P r i := fun i => by
  unfold winC inW
  exact decide_eq_decide.2 ⟨fun h => by omega, fun h => by omega⟩
 rw [takeWhile_congr (q := inW span P r) (fun i _ => e i), takeWhile_filter]
 refine hs.imp_of_mem fun {a b} ha hb hab => ?_
 intro h
 unfold inW at h ⊢
 have h := of_decide_eq_true h
 have := elA_mono hab (hlt b hb)
 exact decide_eq_true (by omega)
structure WinF (span : Int) (P : List Ph) (r : Nat) (pl : List Nat) (k : Nat) (W : List Nat) : Prop where
 eq : W = (pl.take k).filter (inW span P r)
 le : W.length ≤ 16
theorem WinF.done {span : Int} {P : List Ph} {r : Nat} {pl : List Nat} {k : Nat} {W : List Nat} (h : WinF span P r pl k W) (hd : pl.length ≤ k ∨ W.length = 16) : (pl.filter (inW span P r)).take 16 = W := by
 rcases hd with hd | hd
 ·have := h.eq
  rw [List.take_of_length_le hd] at this
  rw [← this, List.take_of_length_le h.le]
 ·have e : pl.filter (inW span P r) = W ++ (pl.drop k).filter (inW span P r) := by
   rw [h.eq, ← List.filter_append, List.take_append_drop]
  rw [e, List.take_append_of_le_length (by omega), List.take_of_length_le h.le]
theorem WinF.step {span : Int} {P : List Ph} {r : Nat} {pl : List Nat} {k : Nat} {W : List Nat} (h : WinF span P r pl k W) (hk : k < pl.length) (hl : W.length < 16) : WinF span P r pl (k + 1) (if inW span P r pl[k] = true then W ++ [pl[k]] else W) := by
 have e : (pl.take (k + 1)).filter (inW span P r) = if inW span P r pl[k] = true then W ++ [pl[k]] else W := by
  rw [List.take_succ_eq_append_getElem hk, List.filter_append, ← h.eq, List.filter_cons, List.filter_nil]
  by_cases hc : inW span P r pl[k] = true
  ·rw [if_pos hc, if_pos hc]
  ·rw [if_neg hc, if_neg hc, List.append_nil]
 refine ⟨e.symm, ?_⟩
 split
 ·rw [List.length_append, List.length_singleton]; omega
 ·exact h.le
theorem memOf_len (A : Asc) (P : List Ph) (W : List Nat) (X : Loc) : (memOf A P W X).length ≤ W.length := memOf_sub.length_le
end Go.Proofs.YtiebljanpnadjaaGreat
