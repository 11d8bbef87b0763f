import Derived.Test.YtiebljanpnadjaaGreatPgBnd
import Derived.Test.YtiebljanpnadjaaGreatPgMem
namespace Go.Proofs.YtiebljanpnadjaaGreat
set_option linter.all false
section LRefT
open Go.RowKit
set_option maxRecDepth 100000 in
set_option maxHeartbeats 1000000 in
theorem rlower_any (step d : Int) (vl vh : Value) (ls hs : List Int) (w : World) (h1 : Sl w vl ls) (h2 : Sl w vh hs) (ht : tOk step ls hs) (h0 : 0 ≤ d) (hd : d ≤ reachS step ls) :
  Calls Tryz.prog 120 #[.agg #[step, vl, vh], d] w fun e w' => e = .returned (.int .i64 (at0 ls (loI step d))) ∧ w.grownBy w' none := by
 have hr := (reachS_le ht).2.1
 obtain ⟨t1, t2, t3, t4, t5, -⟩ := ht
 have hdd : -9223372036854775808 ≤ d ∧ d ≤ 267386880 := by omega
 unfold reachS at hd
 obtain ⟨di1, di2⟩ := loI_spec (d := d) (n := ls.length) t1 h0 hd t4
 obtain ⟨b1, off1, cap1, rfl, hb1, hcap1, hcapb1, hcell1⟩ := h1.block (by omega)
 obtain ⟨ha, hn, hc, rfl⟩ : ∃ a n c, vh = .slice a n c := by rcases h2 with ⟨_, a, cap, rfl⟩ | ⟨b, off, cap, rfl, _⟩ <;> exact ⟨_, _, _, rfl⟩
 have hl1 := hcell1 _ di2
 clear h1 h2 hcell1
 generalize at0 ls (loI step d) = y at *
 generalize loI step d = i at *
 generalize ls.length = n at *
 clear hd hr t3
 have hg0 := gb_alloc (gb_refl w none) (.cells #[step, .slice (some ⟨b1, off1, none⟩) n cap1, .slice ha hn hc] 28)
 have hl2 := (gb_cell hg0 (b := b1) (o := off1 + i) hb1 (by simp)).trans hl1
 have HT := zH (heap_alloc_new w (.cells #[step, .slice (some ⟨b1, off1, none⟩) n cap1, .slice ha hn hc] 28))
 have hbz : b1 < (w.alloc (.cells #[step, .slice (some ⟨b1, off1, none⟩) n cap1, .slice ha hn hc] 28)).heap.size := by simp; omega
 clear hl1
 go_enter Tryz.func120, Tryz.ntmps120
 go_wp2_with fail
 have HG := zH hg0; clear hg0
 have hzw := block_lt' HT.out
 obtain ⟨c0, c1, c2⟩ := cells3 HT.out
 generalize w.alloc (.cells #[step, .slice (some ⟨b1, off1, none⟩) n cap1, .slice ha hn hc] 28) = w1 at *
 have e1 := fun (x : Up w1) (o : Nat) => ever_cell x (b := w.heap.size) (o := o) hzw
 have e2 := fun (x : Up w1) (o : Nat) => ever_cell x (b := b1) (o := o) hbz
 (refine wp_region_grown (by kernel_rfl) (by kernel_rfl) ?_; (repeat (go_big_quiet_step (fail))); refine wpQuiet_nil ?_; intro wq hq)
 go_wp2
 go_ret
 exact ⟨rfl, gb_trans HG.out hq⟩
set_option maxRecDepth 100000 in
set_option maxHeartbeats 1000000 in
theorem rupper_any (step d : Int) (vl vh : Value) (ls hs : List Int) (w : World) (h1 : Sl w vl ls) (h2 : Sl w vh hs) (ht : tOk step ls hs) (h0 : 0 ≤ d) (hd : d ≤ reachS step ls) :
  Calls Tryz.prog 121 #[.agg #[step, vl, vh], d] w fun e w' => e = .returned (.int .i64 (at0 hs (upI step d))) ∧ w.grownBy w' none := by
 have hr := (reachS_le ht).2.1
 obtain ⟨t1, t2, t3, t4, t5, -⟩ := ht
 have hdd : -9223372036854775808 ≤ d ∧ d ≤ 267386880 := by omega
 unfold reachS at hd
 obtain ⟨di1, di2⟩ := upI_spec (d := d) (n := ls.length) t1 h0 hd t4
 rw [t3] at di2
 obtain ⟨b1, off1, cap1, rfl, hb1, hcap1, hcapb1, hcell1⟩ := h2.block (by omega)
 obtain ⟨ha, hn, hc, rfl⟩ : ∃ a n c, vl = .slice a n c := by rcases h1 with ⟨_, a, cap, rfl⟩ | ⟨b, off, cap, rfl, _⟩ <;> exact ⟨_, _, _, rfl⟩
 have hl1 := hcell1 _ di2
 clear h1 h2 hcell1
 have wd : IntKind.i64.wrap (d + step) = d + step := by rw [IntKind.wrap_i64]; omega
 obtain ⟨q, hq⟩ : ∃ q, q = d + step - 1 := ⟨_, rfl⟩
 rw [← hq] at di1
 have we : IntKind.i64.wrap (d + step - 1) = q := by rw [IntKind.wrap_i64]; omega
 have hq0 : 0 ≤ q ∧ q ≤ 1000000000 := by omega
 clear hq
 generalize at0 hs (upI step d) = y at *
 generalize upI step d = i at *
 generalize hs.length = n at *
 clear hd hr t3
 have hg0 := gb_alloc (gb_refl w none) (.cells #[step, .slice ha hn hc, .slice (some ⟨b1, off1, none⟩) n cap1] 28)
 have hl2 := (gb_cell hg0 (b := b1) (o := off1 + i) hb1 (by simp)).trans hl1
 have HT := zH (heap_alloc_new w (.cells #[step, .slice ha hn hc, .slice (some ⟨b1, off1, none⟩) n cap1] 28))
 have hbz : b1 < (w.alloc (.cells #[step, .slice ha hn hc, .slice (some ⟨b1, off1, none⟩) n cap1] 28)).heap.size := by simp; omega
 clear hl1
 go_enter Tryz.func121, Tryz.ntmps121
 go_wp2_with fail
 have HG := zH hg0; clear hg0
 have hzw := block_lt' HT.out
 obtain ⟨c0, c1, c2⟩ := cells3 HT.out
 generalize w.alloc (.cells #[step, .slice ha hn hc, .slice (some ⟨b1, off1, none⟩) n cap1] 28) = w1 at *
 have e1 := fun (x : Up w1) (o : Nat) => ever_cell x (b := w.heap.size) (o := o) hzw
 have e2 := fun (x : Up w1) (o : Nat) => ever_cell x (b := b1) (o := o) hbz
 (refine wp_region_grown (by kernel_rfl) (by kernel_rfl) ?_; (repeat (go_big_quiet_step (fail))); refine wpQuiet_nil ?_; intro wq hq)
 go_wp2
 go_ret
 exact ⟨rfl, gb_trans HG.out hq⟩
theorem rReachS_any (step : Int) (vl vh : Value) (ls hs : List Int) (w : World) (h1 : Sl w vl ls) (h2 : Sl w vh hs) (h : tOk step ls hs) :
  Calls Tryz.prog 119 #[.agg #[step, vl, vh]] w fun e w' => e = .returned (.int .i64 (reachS step ls)) ∧ w.grownBy w' none := by
 have := rReach_any step vl vh ls hs w h1 h2
 rwa [show reachV step ls hs = reachS step ls by simp [reachV, h]] at this
set_option maxRecDepth 100000 in
set_option maxHeartbeats 1000000 in
theorem rbetween_any (step near far : Int) (vl vh : Value) (ls hs : List Int) (w : World) (h1 : Sl w vl ls) (h2 : Sl w vh hs) (hf : far ≤ 9223372036854775807) :
  Calls Tryz.prog 85 #[.agg #[step, vl, vh], near, far] w fun e w' => e = .returned (btw step ls hs near far) ∧ w.grownBy w' none := by
 go_enter Tryz.func85, Tryz.ntmps85
 have hg0 := gb_alloc (gb_refl w none) (.cells #[step, vl, vh] 28)
 go_wp2_with fail
 (with_reducible refine (rvalidate_any _ _ _ ls hs _ (h1.after hg0) (h2.after hg0)).mono ?_)
 rintro e w1 ⟨rfl, hg⟩
 obtain ⟨cb, hz⟩ := gb_at hg (b := w.heap.size) (by simp)
 have hg1 := gb_trans hg0 hg
 have S1 := zH (h1.after hg1); have S2 := zH (h2.after hg1); have HG := zH hg1; clear hg hg0 hg1 h1 h2
 by_cases hok : tOk step ls hs
 rotate_left
 ·have he : tE step ls hs = 21 := (tE_bad hok).symm
  go_wp2
  refine bodyPost_ret (v := .tuple #[(0:Int), (0:Int), (21:Int)]) (by simp [results, Tryz.results85, go_sem]) rfl ⟨btw_err (by decide) (by simp [btwE, hok]), HG.out⟩
 have he : tE step ls hs = 0 := (tE_ok hok).symm
 have HOK := zH hok; clear hok
 by_cases c1 : near < 0
 ·go_wp2
  refine bodyPost_ret (v := .tuple #[(0:Int), (0:Int), (2:Int)]) (by simp [results, Tryz.results85, go_sem]) rfl ⟨btw_err (by decide) (by simp [btwE, HOK.out, c1]), HG.out⟩
 by_cases c2 : far < near
 ·go_wp2
  refine bodyPost_ret (v := .tuple #[(0:Int), (0:Int), (2:Int)]) (by simp [results, Tryz.results85, go_sem]) rfl ⟨btw_err (by decide) (by simp [btwE, HOK.out, c2]), HG.out⟩
 have hnt := fun (x : Up w1) (o : Nat) => ever_cell x (b := w.heap.size) (o := o) hz
 go_wp2_with fail
 (refine wp_region_grown (by kernel_rfl) (by kernel_rfl) ?_; (repeat (go_big_quiet_step (first
  | (go_at_call 118; exact Calls.grown_same (rceil24_any far _ hf))
  | (go_at_call 119; exact Calls.grown_of (rReachS_any _ _ _ ls hs _ (S1.out.after (ever_up _)) (S2.out.after (ever_up _)) HOK.out))))); refine wpQuiet_nil ?_; intro wq hq)
 obtain ⟨wt, hzt⟩ := gb_at hq (b := w.heap.size) hz
 have HG2 := zH (gb_trans HG.out hq)
 have S1q := zH (S1.out.after hq); have S2q := zH (S2.out.after hq); clear S1 S2 HG hnt hq
 by_cases c3 : reachS step ls < ceilI far
 ·go_wp2
  refine bodyPost_ret (v := .tuple #[(0:Int), (0:Int), (22:Int)]) (by simp [results, Tryz.results85, go_sem]) rfl ⟨btw_err (by decide) (by simp [btwE, HOK.out, c3]; omega), HG2.out⟩
 have HE := zH (show btwE step ls hs near far = 0 from by simp [btwE, HOK.out, c3]; omega)
 have hm := floorI_mono (a := near) (b := far) (by omega)
 have hge := ceilI_ge far
 have hff := (floorI_le (n := near) (by omega)).1
 have hcc := (ceilI_le hf).1
 have HLO := zH (fun (u : World) (s1 : Sl u vl ls) (s2 : Sl u vh hs) => rlower_any step (floorI near) vl vh ls hs u s1 s2 HOK.out hff (by omega))
 have HUP := zH (fun (u : World) (s1 : Sl u vl ls) (s2 : Sl u vh hs) => rupper_any step (ceilI far) vl vh ls hs u s1 s2 HOK.out hcc (by omega))
 have HX := zH (btw_ok (step := step) (ls := ls) (hs := hs) HE.out rfl rfl)
 clear hm hge hff hcc
 have hnt := fun (x : Up wq) (o : Nat) => ever_cell x (b := w.heap.size) (o := o) hzt
 go_wp2_with fail
 (refine wp_region_grown (by kernel_rfl) (by kernel_rfl) ?_; (repeat (go_big_quiet_step (first
  | (go_at_call 118; exact Calls.grown_same (rceil24_any far _ hf))
  | (go_at_call 30; exact Calls.grown_same (rfloor24_any near _ (by omega)))
  | (go_at_call 120; exact Calls.grown_of (HLO.out _ (S1q.out.after (ever_up _)) (S2q.out.after (ever_up _))))
  | (go_at_call 121; exact Calls.grown_of (HUP.out _ (S1q.out.after (ever_up _)) (S2q.out.after (ever_up _))))))); refine wpQuiet_nil ?_; intro wq hq)
 go_wp2
 exact bodyPost_ret (v := .tuple #[.int .i64 (at0 ls (loI step (floorI near))), .int .i64 (at0 hs (upI step (ceilI far))), (0:Int)]) (by simp [results, Tryz.results85, go_sem]) rfl ⟨HX.out, gb_trans HG2.out hq⟩
end LRefT
section LRefA
open Go.RowKit
set_option maxHeartbeats 1000000 in
theorem rvalid_any (x y z : Int) (w : World) :
  Calls Tryz.prog 70 #[.agg #[x, y, z]] w fun e w' => e = .returned (.bool (vP x y z)) ∧ w.grownBy w' none := by
 rcases three x (-1048576) 1048576 with hx | ⟨hx1, hx2⟩ | ⟨hx1, hx2⟩
 rotate_left 2
 rcases three y (-1048576) 1048576 with hy | ⟨hy1, hy2⟩ | ⟨hy1, hy2⟩
 rotate_left 2
 rcases three z (-16384) 1048576 with hz | ⟨hz1, hz2⟩ | ⟨hz1, hz2⟩
 all_goals
  go_enter Tryz.func70, Tryz.ntmps70
  go_wp2
 all_goals
  go_ret
  refine ⟨ret_bool (by unfold vP; simp; omega), ?_⟩
  repeat (first | exact gb_refl _ _ | refine gb_alloc ?_ _)
set_option maxHeartbeats 1000000 in
theorem rvalidBox_any (x0 y0 z0 x1 y1 z1 : Int) (w : World) :
  Calls Tryz.prog 72 #[.agg #[x0, y0, z0, x1, y1, z1]] w fun e w' => e = .returned (.bool (bP x0 y0 z0 x1 y1 z1)) ∧ w.grownBy w' none := by
 go_enter Tryz.func72, Tryz.ntmps72
 go_wp2_with fail
 (with_reducible refine (rvalid_any _ _ _ _).mono ?_)
 rintro e w1 ⟨rfl, hg1⟩
 obtain ⟨cb, hz⟩ := gb_at hg1 (b := w.heap.size) (by simp)
 have HG1 := zH (gb_trans (gb_alloc (gb_refl _ _) _) hg1); clear hg1
 cases hv0 : vP x0 y0 z0
 ·go_wp2
  go_ret
  exact ⟨ret_bool (by simp [bP, hv0]), HG1.out⟩
 go_wp2_with fail
 (with_reducible refine (rvalid_any _ _ _ _).mono ?_)
 rintro e w2 ⟨rfl, hg2⟩
 obtain ⟨cb2, hz2⟩ := gb_at hg2 hz
 have HG2 := zH (gb_trans HG1.out hg2); clear hg2 HG1
 cases hv1 : vP x1 y1 z1
 ·go_wp2
  go_ret
  exact ⟨ret_bool (by simp [bP, hv1]), HG2.out⟩
 have HV0 := zH hv0; have HV1 := zH hv1; clear hv0 hv1
 rcases Int.lt_or_le x1 x0 with hx | hx
 rotate_left
 rcases Int.lt_or_le y1 y0 with hy | hy
 rotate_left
 rcases Int.lt_or_le z1 z0 with hz | hz
 all_goals
  go_wp2
  go_ret
  refine ⟨ret_bool (by simp [bP, HV0.out, HV1.out]; omega), HG2.out⟩
theorem rsq_any (n : Int) (w : World) (h1 : -4194304 ≤ n) (h2 : n ≤ 4194304) :
  Calls Tryz.prog 71 #[n] w fun e w' => e = .returned (.int .i64 (n * n)) ∧ w = w' := by
 obtain ⟨s0, s1, s2⟩ := sq_small (d := n) h1 h2
 generalize hq : n * n = q at *
 go_enter Tryz.func71, Tryz.ntmps71
 go_wp2
 go_ret
 exact ⟨rfl, rfl⟩
theorem rnear_any (x lo hi : Int) (w : World) (h1 : -2000000 ≤ x) (h2 : x ≤ 2000000) (h3 : -2000000 ≤ lo) (h4 : lo ≤ 2000000) (h5 : -2000000 ≤ hi) (h6 : hi ≤ 2000000) :
  Calls Tryz.prog 122 #[lo, hi, x] w fun e w' => e = .returned (.int .i64 (nearS x lo hi)) ∧ w = w' := by
 go_enter Tryz.func122, Tryz.ntmps122
 go_wp2
 all_goals
  go_ret
  exact ⟨ret_int (by unfold nearS; omega), rfl⟩
theorem rfar_any (x lo hi : Int) (w : World) (h1 : -2000000 ≤ x) (h2 : x ≤ 2000000) (h3 : -2000000 ≤ lo) (h4 : lo ≤ 2000000) (h5 : -2000000 ≤ hi) (h6 : hi ≤ 2000000) :
  Calls Tryz.prog 123 #[lo, hi, x] w fun e w' => e = .returned (.int .i64 (farS x lo hi)) ∧ w = w' := by
 go_enter Tryz.func123, Tryz.ntmps123
 go_wp2
 go_ret
 exact ⟨ret_int (by unfold farS; omega), rfl⟩
theorem rmiddle_any (a b : Int) (w : World) (h1 : -2000000 ≤ a) (h2 : a ≤ b) (h3 : b ≤ 2000000) :
  Calls Tryz.prog 166 #[a, b] w fun e w' => e = .returned (.int .i64 (midI a b)) ∧ w = w' := by
 go_enter Tryz.func166, Tryz.ntmps166
 go_wp2
 go_ret
 exact ⟨ret_int (by unfold midI; omega), rfl⟩
def sgn (a b : Int) : Int := if a < b then -1 else if b < a then 1 else 0
theorem rsign_any (a b : Int) (w : World) :
  Calls Tryz.prog 127 #[a, b] w fun e w' => e = .returned (.int .i64 (sgn a b)) ∧ w = w' := by
 rcases Int.lt_trichotomy a b with h | h | h
 all_goals
  go_enter Tryz.func127, Tryz.ntmps127
  go_wp2
  go_ret
  exact ⟨ret_int (by unfold sgn; split <;> (try split) <;> omega), rfl⟩
def cmpP (x0 y0 z0 x1 y1 z1 : Int) : Int := if sgn x0 x1 ≠ 0 then sgn x0 x1 else if sgn y0 y1 ≠ 0 then sgn y0 y1 else sgn z0 z1
theorem rcompare_any (x0 y0 z0 x1 y1 z1 : Int) (w : World) :
  Calls Tryz.prog 92 #[.agg #[x0, y0, z0], .agg #[x1, y1, z1]] w fun e w' => e = .returned (.int .i64 (cmpP x0 y0 z0 x1 y1 z1)) ∧ w.grownBy w' none := by
 go_enter Tryz.func92, Tryz.ntmps92
 go_wp2_with fail
 (with_reducible refine (rsign_any _ _ _).mono ?_)
 rintro e w1 ⟨rfl, rfl⟩
 have HG := zH (gb_alloc (gb_alloc (gb_refl w none) (.cells #[x0, y0, z0] 23)) (.cells #[x1, y1, z1] 23))
 by_cases h1 : sgn x0 x1 = 0
 rotate_left
 ·go_wp2
  go_ret
  exact ⟨ret_int (by simp [cmpP, h1]), HG.out⟩
 go_wp2_with fail
 (with_reducible refine (rsign_any _ _ _).mono ?_)
 rintro e w1 ⟨rfl, rfl⟩
 by_cases h2 : sgn y0 y1 = 0
 rotate_left
 ·go_wp2
  go_ret
  exact ⟨ret_int (by simp [cmpP, h1, h2]), HG.out⟩
 go_wp2_with fail
 (with_reducible refine (rsign_any _ _ _).mono ?_)
 rintro e w1 ⟨rfl, rfl⟩
 go_wp2
 go_ret
 exact ⟨ret_int (by simp [cmpP, h1, h2]), HG.out⟩
set_option maxHeartbeats 2000000 in
theorem rcontains_any (x0 y0 z0 x1 y1 z1 px py pz : Int) (w : World) :
  Calls Tryz.prog 156 #[.agg #[x0, y0, z0, x1, y1, z1], .agg #[px, py, pz]] w fun e w' => e = .returned (.bool (conP x0 y0 z0 x1 y1 z1 px py pz)) ∧ w.grownBy w' none := by
 have hv : conP x0 y0 z0 x1 y1 z1 px py pz = (bP x0 y0 z0 x1 y1 z1 && decide (x0 ≤ px ∧ px ≤ x1 ∧ y0 ≤ py ∧ py ≤ y1 ∧ z0 ≤ pz ∧ pz ≤ z1)) := by
  rw [Bool.eq_iff_iff, conP_iff, Bool.and_eq_true, decide_eq_true_eq]
  constructor
  ·rintro ⟨h1, h2, h3⟩; exact ⟨h1, h3⟩
  ·rintro ⟨h1, h3⟩
   obtain ⟨v0, v1, o0, o1, o2⟩ := bP_iff h1
   have a := vP_iff v0; have b := vP_iff v1
   exact ⟨h1, vP_mk (by omega), h3⟩
 have HV := zH hv; clear hv
 go_enter Tryz.func156, Tryz.ntmps156
 go_wp2_with fail
 (with_reducible refine (rvalidBox_any _ _ _ _ _ _ _).mono ?_)
 rintro e w1 ⟨rfl, hg1⟩
 obtain ⟨ca, hza⟩ := gb_at hg1 (b := w.heap.size) (by first | omega | (simp <;> omega))
 obtain ⟨cb, hzb⟩ := gb_at hg1 (b := w.heap.size + 1) (by first | omega | (simp <;> omega))
 have HG1 := zH (gb_trans (gb_alloc (gb_alloc (gb_refl _ _) _) _) hg1); clear hg1
 cases hv0 : bP x0 y0 z0 x1 y1 z1
 ·go_wp2
  go_ret
  exact ⟨ret_bool (by rw [HV.out, hv0]; rfl), HG1.out⟩
 have H0 := zH hv0; clear hv0
 rcases three px x0 x1 with hx | ⟨hx1, hx2⟩ | ⟨hx1, hx2⟩
 rotate_left 2
 rcases three py y0 y1 with hy | ⟨hy1, hy2⟩ | ⟨hy1, hy2⟩
 rotate_left 2
 rcases three pz z0 z1 with hz | ⟨hz1, hz2⟩ | ⟨hz1, hz2⟩
 all_goals
  go_wp2
  go_ret
  refine ⟨ret_bool (by rw [HV.out, H0.out, Bool.true_and, Bool.eq_iff_iff]; simp only [decide_eq_true_eq, Bool.false_eq_true]; exact ⟨fun h => by first | exact h.elim | exact ⟨by omega, by omega, by omega, by omega, by omega, by omega⟩, fun ⟨h1, h2, h3, h4, h5, h6⟩ => by first | exact True.intro | rfl | omega⟩), HG1.out⟩
theorem rwithin_any (a0 b0 c0 a1 b1 c1 x0 y0 z0 x1 y1 z1 : Int) (w : World) :
  Calls Tryz.prog 131 #[.agg #[a0, b0, c0, a1, b1, c1], .agg #[x0, y0, z0, x1, y1, z1]] w fun e w' => e = .returned (.bool (wiP a0 b0 c0 a1 b1 c1 x0 y0 z0 x1 y1 z1)) ∧ w.grownBy w' none := by
 go_enter Tryz.func131, Tryz.ntmps131
 go_wp2_with fail
 (with_reducible refine (rvalidBox_any _ _ _ _ _ _ _).mono ?_)
 rintro e w1 ⟨rfl, hg1⟩
 obtain ⟨ca, hza⟩ := gb_at hg1 (b := w.heap.size) (by first | omega | (simp <;> omega))
 obtain ⟨cb, hzb⟩ := gb_at hg1 (b := w.heap.size + 1) (by first | omega | (simp <;> omega))
 have HG1 := zH (gb_trans (gb_alloc (gb_alloc (gb_refl _ _) _) _) hg1); clear hg1
 cases hv0 : bP a0 b0 c0 a1 b1 c1
 ·go_wp2
  go_ret
  exact ⟨ret_bool (by simp [wiP, hv0]), HG1.out⟩
 go_wp2_with fail
 (with_reducible refine (rcontains_any _ _ _ _ _ _ _ _ _ _).mono ?_)
 rintro e w2 ⟨rfl, hg2⟩
 obtain ⟨ca2, hza2⟩ := gb_at hg2 hza
 obtain ⟨cb2, hzb2⟩ := gb_at hg2 hzb
 have HG2 := zH (gb_trans HG1.out hg2); clear hg2 HG1
 cases hv1 : conP x0 y0 z0 x1 y1 z1 a0 b0 c0
 ·go_wp2
  go_ret
  exact ⟨ret_bool (by simp [wiP, hv1]), HG2.out⟩
 have H0 := zH hv0; have H1 := zH hv1; clear hv0 hv1
 go_wp2_with fail
 (with_reducible refine (rcontains_any _ _ _ _ _ _ _ _ _ _).mono ?_)
 rintro e w3 ⟨rfl, hg3⟩
 have HG3 := zH (gb_trans HG2.out hg3); clear hg3 HG2
 go_wp2
 go_ret
 exact ⟨ret_bool (by simp [wiP, H0.out, H1.out]), HG3.out⟩
set_option maxHeartbeats 1000000 in
theorem rpoints_any (x0 y0 z0 x1 y1 z1 : Int) (w : World) :
  Calls Tryz.prog 33 #[.agg #[x0, y0, z0, x1, y1, z1]] w fun e w' => e = .returned (.int .i64 (ptsP x0 y0 z0 x1 y1 z1)) ∧ w.grownBy w' none := by
 go_enter Tryz.func33, Tryz.ntmps33
 go_wp2_with fail
 (with_reducible refine (rvalidBox_any _ _ _ _ _ _ _).mono ?_)
 rintro e w1 ⟨rfl, hg1⟩
 obtain ⟨ca, hza⟩ := gb_at hg1 (b := w.heap.size) (by first | omega | (simp <;> omega))
 have HG1 := zH (gb_trans (gb_alloc (gb_refl _ _) _) hg1); clear hg1
 cases hv0 : bP x0 y0 z0 x1 y1 z1
 ·go_wp2
  go_ret
  exact ⟨ret_int (by simp [ptsP, hv0]), HG1.out⟩
 have HE := zH (show ptsP x0 y0 z0 x1 y1 z1 = (x1 - x0 + 1) * (y1 - y0 + 1) * (z1 - z0 + 1) from by simp [ptsP, hv0, ptsD])
 obtain ⟨b0, b1, b2, b3, b4⟩ := bP_iff hv0
 have hi0 := vP_iff b0
 have hi1 := vP_iff b1
 clear hv0 b0 b1
 obtain ⟨s1, s2, s3, s4⟩ := pts_small (a := x1 - x0 + 1) (b := y1 - y0 + 1) (c := z1 - z0 + 1) (by omega) (by omega) (by omega)
 have wb := IntWalk.wrap64_in ((x1 - x0 + 1) * (y1 - y0 + 1)) (by omega)
 have wc := IntWalk.wrap64_in ((x1 - x0 + 1) * (y1 - y0 + 1) * (z1 - z0 + 1)) (by omega)
 clear s1 s2 s3 s4
 go_wp2
 go_ret
 exact ⟨ret_int (by rw [HE.out]; exact wc), HG1.out⟩
end LRefA
section LRefB
open Go.RowKit Rg
set_option maxRecDepth 100000 in
set_option maxHeartbeats 2000000 in
theorem rNear_any (x0 y0 z0 x1 y1 z1 px py pz : Int) (w : World) :
  Calls Tryz.prog 86 #[.agg #[x0, y0, z0, x1, y1, z1], .agg #[px, py, pz]] w fun e w' => e = .returned (.int .i64 (nearP x0 y0 z0 x1 y1 z1 px py pz)) ∧ w.grownBy w' none := by
 go_enter Tryz.func86, Tryz.ntmps86
 go_wp2_with fail
 (with_reducible refine (rvalidBox_any _ _ _ _ _ _ _).mono ?_)
 rintro e w1 ⟨rfl, hg1⟩
 obtain ⟨ca, hza⟩ := gb_at hg1 (b := w.heap.size) (by first | omega | (simp <;> omega))
 obtain ⟨cb, hzb⟩ := gb_at hg1 (b := w.heap.size + 1) (by first | omega | (simp <;> omega))
 have HG1 := zH (gb_trans (gb_alloc (gb_alloc (gb_refl _ _) _) _) hg1); clear hg1
 cases hv0 : bP x0 y0 z0 x1 y1 z1
 ·go_wp2
  go_ret
  exact ⟨ret_int (by simp [nearP, hv0]), HG1.out⟩
 go_wp2_with fail
 (with_reducible refine (rvalid_any _ _ _ _).mono ?_)
 rintro e w2 ⟨rfl, hg2⟩
 obtain ⟨ca2, hza2⟩ := gb_at hg2 hza
 obtain ⟨cb2, hzb2⟩ := gb_at hg2 hzb
 have HG2 := zH (gb_trans HG1.out hg2); clear hg2 HG1
 cases hv1 : vP px py pz
 ·go_wp2
  go_ret
  exact ⟨ret_int (by simp [nearP, hv1]), HG2.out⟩
 have HE := zH (show nearP x0 y0 z0 x1 y1 z1 px py pz = nearS px x0 x1 * nearS px x0 x1 + nearS py y0 y1 * nearS py y0 y1 + nearS pz z0 z1 * nearS pz z0 z1 from by simp [nearP, hv0, hv1, nearD])
 obtain ⟨b0, b1, b2, b3, b4⟩ := bP_iff hv0
 have hi0 := vP_iff b0
 have hi1 := vP_iff b1
 have hi2 := vP_iff hv1
 clear hv0 hv1 b0 b1
 have bx : 0 ≤ nearS px x0 x1 ∧ nearS px x0 x1 ≤ 4194304 := by unfold nearS; omega
 have by' : 0 ≤ nearS py y0 y1 ∧ nearS py y0 y1 ≤ 4194304 := by unfold nearS; omega
 have bz : 0 ≤ nearS pz z0 z1 ∧ nearS pz z0 z1 ≤ 4194304 := by unfold nearS; omega
 have NX := zH (fun (u : World) => rnear_any px x0 x1 u (by omega) (by omega) (by omega) (by omega) (by omega) (by omega))
 have NY := zH (fun (u : World) => rnear_any py y0 y1 u (by omega) (by omega) (by omega) (by omega) (by omega) (by omega))
 have NZ := zH (fun (u : World) => rnear_any pz z0 z1 u (by omega) (by omega) (by omega) (by omega) (by omega) (by omega))
 clear hi0 hi1 hi2 b2 b3 b4
 generalize nearS px x0 x1 = sx at *
 generalize nearS py y0 y1 = sy at *
 generalize nearS pz z0 z1 = sz at *
 have CX := zH (fun (u : World) => rsq_any sx u (by omega) (by omega))
 have CY := zH (fun (u : World) => rsq_any sy u (by omega) (by omega))
 have CZ := zH (fun (u : World) => rsq_any sz u (by omega) (by omega))
 obtain ⟨sx0, sx1, -⟩ := sq_small (d := sx) (by omega) (by omega)
 obtain ⟨sy0, sy1, -⟩ := sq_small (d := sy) (by omega) (by omega)
 obtain ⟨sz0, sz1, -⟩ := sq_small (d := sz) (by omega) (by omega)
 generalize sx * sx = tx at *
 generalize sy * sy = ty at *
 generalize sz * sz = tz at *
 have hnt := fun (x : Up w2) (o : Nat) => ever_cell x (b := w.heap.size) (o := o) hza2
 have hnu := fun (x : Up w2) (o : Nat) => ever_cell x (b := w.heap.size + 1) (o := o) hzb2
 go_wp2_with fail
 (refine wp_region_grown (by kernel_rfl) (by kernel_rfl) ?_; (repeat (go_big_quiet_step (first
  | (go_at_call 122; first | (with_reducible exact Calls.grown_same (NX.out _)) | (with_reducible exact Calls.grown_same (NY.out _)) | (with_reducible exact Calls.grown_same (NZ.out _)))
  | (go_at_call 71; first | (with_reducible exact Calls.grown_same (CX.out _)) | (with_reducible exact Calls.grown_same (CY.out _)) | (with_reducible exact Calls.grown_same (CZ.out _)))))); refine wpQuiet_nil ?_; intro wq hq)
 go_wp2
 go_ret
 exact ⟨ret_int (by rw [HE.out]), gb_trans HG2.out hq⟩
set_option maxRecDepth 100000 in
set_option maxHeartbeats 2000000 in
theorem rFar_any (x0 y0 z0 x1 y1 z1 px py pz : Int) (w : World) :
  Calls Tryz.prog 87 #[.agg #[x0, y0, z0, x1, y1, z1], .agg #[px, py, pz]] w fun e w' => e = .returned (.int .i64 (farP x0 y0 z0 x1 y1 z1 px py pz)) ∧ w.grownBy w' none := by
 go_enter Tryz.func87, Tryz.ntmps87
 go_wp2_with fail
 (with_reducible refine (rvalidBox_any _ _ _ _ _ _ _).mono ?_)
 rintro e w1 ⟨rfl, hg1⟩
 obtain ⟨ca, hza⟩ := gb_at hg1 (b := w.heap.size) (by first | omega | (simp <;> omega))
 obtain ⟨cb, hzb⟩ := gb_at hg1 (b := w.heap.size + 1) (by first | omega | (simp <;> omega))
 have HG1 := zH (gb_trans (gb_alloc (gb_alloc (gb_refl _ _) _) _) hg1); clear hg1
 cases hv0 : bP x0 y0 z0 x1 y1 z1
 ·go_wp2
  go_ret
  exact ⟨ret_int (by simp [farP, hv0]), HG1.out⟩
 go_wp2_with fail
 (with_reducible refine (rvalid_any _ _ _ _).mono ?_)
 rintro e w2 ⟨rfl, hg2⟩
 obtain ⟨ca2, hza2⟩ := gb_at hg2 hza
 obtain ⟨cb2, hzb2⟩ := gb_at hg2 hzb
 have HG2 := zH (gb_trans HG1.out hg2); clear hg2 HG1
 cases hv1 : vP px py pz
 ·go_wp2
  go_ret
  exact ⟨ret_int (by simp [farP, hv1]), HG2.out⟩
 have HE := zH (show farP x0 y0 z0 x1 y1 z1 px py pz = farS px x0 x1 * farS px x0 x1 + farS py y0 y1 * farS py y0 y1 + farS pz z0 z1 * farS pz z0 z1 from by simp [farP, hv0, hv1, farD])
 obtain ⟨b0, b1, b2, b3, b4⟩ := bP_iff hv0
 have hi0 := vP_iff b0
 have hi1 := vP_iff b1
 have hi2 := vP_iff hv1
 clear hv0 hv1 b0 b1
 have bx : -4194304 ≤ farS px x0 x1 ∧ farS px x0 x1 ≤ 4194304 := by unfold farS; omega
 have by' : -4194304 ≤ farS py y0 y1 ∧ farS py y0 y1 ≤ 4194304 := by unfold farS; omega
 have bz : -4194304 ≤ farS pz z0 z1 ∧ farS pz z0 z1 ≤ 4194304 := by unfold farS; omega
 have NX := zH (fun (u : World) => rfar_any px x0 x1 u (by omega) (by omega) (by omega) (by omega) (by omega) (by omega))
 have NY := zH (fun (u : World) => rfar_any py y0 y1 u (by omega) (by omega) (by omega) (by omega) (by omega) (by omega))
 have NZ := zH (fun (u : World) => rfar_any pz z0 z1 u (by omega) (by omega) (by omega) (by omega) (by omega) (by omega))
 clear hi0 hi1 hi2 b2 b3 b4
 generalize farS px x0 x1 = sx at *
 generalize farS py y0 y1 = sy at *
 generalize farS pz z0 z1 = sz at *
 have CX := zH (fun (u : World) => rsq_any sx u (by omega) (by omega))
 have CY := zH (fun (u : World) => rsq_any sy u (by omega) (by omega))
 have CZ := zH (fun (u : World) => rsq_any sz u (by omega) (by omega))
 obtain ⟨sx0, sx1, -⟩ := sq_small (d := sx) (by omega) (by omega)
 obtain ⟨sy0, sy1, -⟩ := sq_small (d := sy) (by omega) (by omega)
 obtain ⟨sz0, sz1, -⟩ := sq_small (d := sz) (by omega) (by omega)
 generalize sx * sx = tx at *
 generalize sy * sy = ty at *
 generalize sz * sz = tz at *
 have hnt := fun (x : Up w2) (o : Nat) => ever_cell x (b := w.heap.size) (o := o) hza2
 have hnu := fun (x : Up w2) (o : Nat) => ever_cell x (b := w.heap.size + 1) (o := o) hzb2
 go_wp2_with fail
 (refine wp_region_grown (by kernel_rfl) (by kernel_rfl) ?_; (repeat (go_big_quiet_step (first
  | (go_at_call 123; first | (with_reducible exact Calls.grown_same (NX.out _)) | (with_reducible exact Calls.grown_same (NY.out _)) | (with_reducible exact Calls.grown_same (NZ.out _)))
  | (go_at_call 71; first | (with_reducible exact Calls.grown_same (CX.out _)) | (with_reducible exact Calls.grown_same (CY.out _)) | (with_reducible exact Calls.grown_same (CZ.out _)))))); refine wpQuiet_nil ?_; intro wq hq)
 go_wp2
 go_ret
 exact ⟨ret_int (by rw [HE.out]), gb_trans HG2.out hq⟩
set_option maxRecDepth 100000 in
set_option maxHeartbeats 2000000 in
theorem rcenter_any (x0 y0 z0 x1 y1 z1 : Int) (w : World) :
  Calls Tryz.prog 145 #[.agg #[x0, y0, z0, x1, y1, z1]] w fun e w' => e = .returned (.agg #[.int .i64 (cen (bP x0 y0 z0 x1 y1 z1) x0 x1), .int .i64 (cen (bP x0 y0 z0 x1 y1 z1) y0 y1), .int .i64 (cen (bP x0 y0 z0 x1 y1 z1) z0 z1)]) ∧ w.grownBy w' none := by
 go_enter Tryz.func145, Tryz.ntmps145
 go_wp2_with fail
 (with_reducible refine (rvalidBox_any _ _ _ _ _ _ _).mono ?_)
 rintro e w1 ⟨rfl, hg1⟩
 obtain ⟨ca, hza⟩ := gb_at hg1 (b := w.heap.size) (by first | omega | (simp <;> omega))
 have hR : w1.heap[w.heap.size + 1]? = some (.cells #[(0:Int), (0:Int), (0:Int)] 23 (0, 0)) := block_kept hg1 (by simpa using heap_alloc_new (w.alloc _) _) rfl
 have HG1 := zH (gb_trans (gb_alloc (gb_alloc (gb_refl _ _) _) _) hg1); clear hg1
 cases hv0 : bP x0 y0 z0 x1 y1 z1
 ·have HN := zH (setRow_at (cs := #[(0:Int), (0:Int), (0:Int)]) hR)
  have HGE := zH (gb_setRow (cs := #[(0:Int), (0:Int), (0:Int)]) HG1.out (g := w.heap.size + 1) (.inl (by omega)))
  have HRR := zH hR
  clear hR
  go_wp2_with (with_reducible refine wpList_store_row rfl _ _ _ rfl (w.heap.size + 1) #[(0:Int), (0:Int), (0:Int)] rfl rfl _ _ HRR.out (by kernel_rfl) rfl (by simp [Value.oneCell']) ?_)
  obtain ⟨e0, e1, e2⟩ := cells3 HN.out
  refine bodyPost_ret (v := .agg #[(0:Int), (0:Int), (0:Int)]) (by simp [results, Tryz.results145, go_sem, e0, e1, e2]) rfl ⟨by simp [cen, hv0], HGE.out⟩
 have HE := zH (show (Value.agg #[.int .i64 (cen (bP x0 y0 z0 x1 y1 z1) x0 x1), .int .i64 (cen (bP x0 y0 z0 x1 y1 z1) y0 y1), .int .i64 (cen (bP x0 y0 z0 x1 y1 z1) z0 z1)]) = .agg #[.int .i64 (midI x0 x1), .int .i64 (midI y0 y1), .int .i64 (midI z0 z1)] from by simp [cen, hv0])
 obtain ⟨b0, b1, b2, b3, b4⟩ := bP_iff hv0
 have hi0 := vP_iff b0
 have hi1 := vP_iff b1
 clear hv0 b0 b1
 have CX := zH (fun (u : World) => same_grown (rmiddle_any x0 x1 u (by omega) (by omega) (by omega)))
 have CY := zH (fun (u : World) => same_grown (rmiddle_any y0 y1 u (by omega) (by omega) (by omega)))
 have CZ := zH (fun (u : World) => same_grown (rmiddle_any z0 z1 u (by omega) (by omega) (by omega)))
 clear hi0 hi1 b2 b3 b4
 generalize midI x0 x1 = mx at *
 generalize midI y0 y1 = my at *
 generalize midI z0 z1 = mz at *
 have q0 : w1.cell? ⟨w.heap.size, 0, none⟩ = some (.int .i64 x0) := by rw [ca, cell_old _ _ _ (by simp), cell_new]; rfl
 have q1 : w1.cell? ⟨w.heap.size, 1, none⟩ = some (.int .i64 y0) := by rw [ca, cell_old _ _ _ (by simp), cell_new]; rfl
 have q2 : w1.cell? ⟨w.heap.size, 2, none⟩ = some (.int .i64 z0) := by rw [ca, cell_old _ _ _ (by simp), cell_new]; rfl
 have q3 : w1.cell? ⟨w.heap.size, 3, none⟩ = some (.int .i64 x1) := by rw [ca, cell_old _ _ _ (by simp), cell_new]; rfl
 have q4 : w1.cell? ⟨w.heap.size, 4, none⟩ = some (.int .i64 y1) := by rw [ca, cell_old _ _ _ (by simp), cell_new]; rfl
 have q5 : w1.cell? ⟨w.heap.size, 5, none⟩ = some (.int .i64 z1) := by rw [ca, cell_old _ _ _ (by simp), cell_new]; rfl
 clear ca
 have cq := Made.cells hza
 have HR1 := zH hR; clear hR
 go_wp2_with fail
 refine Rg.rR (Made w1) Makes (fun k => if k = 6 then some (isV (.int .i64 mx)) else if k = 13 then some (isV (.int .i64 my)) else if k = 20 then some (isV (.int .i64 mz)) else none)
  (fun _ => false) 0 22 Makes.size (Made.start w1) (fun hne => ?_)
 (repeat (refine rQ ?_; go_big_quiet_step (fail); refine wpQuiet_nil ?_))
 refine rg_fix (.int .i64 mx) 166 #[x0, x1] rfl rfl rfl (fun _ => by go_simp) (fun u hu => CX.out u) ?_
 simp only [zA, zB, zC, zD, zX]
 (repeat (refine rQ ?_; go_big_quiet_step (fail); refine wpQuiet_nil ?_))
 refine rg_fix (.int .i64 my) 166 #[y0, y1] rfl rfl rfl (fun _ => by go_simp) (fun u hu => CY.out u) ?_
 simp only [zA, zB, zC, zD, zX]
 (repeat (refine rQ ?_; go_big_quiet_step (fail); refine wpQuiet_nil ?_))
 refine rg_fix (.int .i64 mz) 166 #[z0, z1] rfl rfl rfl (fun _ => by go_simp) (fun u hu => CZ.out u) ?_
 simp only [zA, zB, zC, zD, zX]
 (repeat (refine rQ ?_; go_big_quiet_step (fail); refine wpQuiet_nil ?_))
 rintro wq hq hf hD
 have hR2 := block_kept hq HR1.out rfl
 refine wpList_store_row rfl _ _ _ rfl (w.heap.size + 1) #[mx, my, mz] rfl rfl _ _ hR2 (by kernel_rfl) rfl (by simp [Value.oneCell']) ?_
 have HN := zH (setRow_at (cs := #[mx, my, mz]) hR2)
 have HGE := zH (gb_setRow (cs := #[mx, my, mz]) (gb_trans HG1.out hq) (g := w.heap.size + 1) (.inl (by omega)))
 clear hf hD hq hne hR2
 refine wpList_nil ?_
 simp only [zA, zB, zC, zD, zX]
 obtain ⟨e0, e1, e2⟩ := cells3 HN.out
 go_wp2_with fail
 refine bodyPost_ret (v := .agg #[mx, my, mz]) (by simp [results, Tryz.results145, go_sem, e0, e1, e2]) rfl ⟨by rw [HE.out], HGE.out⟩
end LRefB
section LRefD
open Go.RowKit Rg
set_option maxHeartbeats 1000000 in
theorem rvalidPhase_any (x y z e l n : Int) (w : World) :
  Calls Tryz.prog 57 #[.agg #[x, y, z, e, l, n]] w fun r w' => r = .returned (.bool (phP x y z e l n)) ∧ w.grownBy w' none := by
 go_enter Tryz.func57, Tryz.ntmps57
 go_wp2_with fail
 (with_reducible refine (rvalid_any _ _ _ _).mono ?_)
 rintro r w1 ⟨rfl, hg1⟩
 obtain ⟨ca, hza⟩ := gb_at hg1 (b := w.heap.size) (by simp)
 have HG1 := zH (gb_trans (gb_alloc (gb_refl _ _) _) hg1); clear hg1
 cases hv0 : vP x y z
 ·go_wp2
  go_ret
  exact ⟨ret_bool (by simp [phP, hv0]), HG1.out⟩
 have H0 := zH hv0; clear hv0
 rcases Int.lt_or_le e 0 with h0 | h0
 rotate_left
 rcases Int.lt_or_le l e with h1 | h1
 rotate_left
 rcases Int.lt_or_le 18014398509481984 l with h2 | h2
 rotate_left
 rcases Int.lt_or_le n 1 with h3 | h3
 rotate_left
 rcases Int.lt_or_le 100 n with h4 | h4
 all_goals
  go_wp2
  go_ret
  refine ⟨ret_bool (by simp [phP, H0.out]; omega), HG1.out⟩
set_option maxRecDepth 100000 in
set_option maxHeartbeats 1000000 in
theorem rbinterval_any (step : Int) (vl vh : Value) (ls hs : List Int) (x0 y0 z0 x1 y1 z1 px py pz : Int) (w : World) (h1 : Sl w vl ls) (h2 : Sl w vh hs) :
  Calls Tryz.prog 58 #[.agg #[step, vl, vh], .agg #[x0, y0, z0, x1, y1, z1], .agg #[px, py, pz]] w fun e w' =>
   e = .returned (bndV step ls hs x0 y0 z0 x1 y1 z1 px py pz) ∧ w.grownBy w' none := by
 go_enter Tryz.func58, Tryz.ntmps58
 have hg0 := gb_alloc (gb_alloc (gb_alloc (gb_refl w none) (.cells #[step, vl, vh] 28)) (.cells #[x0, y0, z0, x1, y1, z1] 25)) (.cells #[px, py, pz] 23)
 go_wp2_with fail
 (with_reducible refine (rvalidate_any _ _ _ ls hs _ (h1.after hg0) (h2.after hg0)).mono ?_)
 rintro e w1 ⟨rfl, hg⟩
 obtain ⟨ca, hza⟩ := gb_at hg (b := w.heap.size) (by simp <;> omega)
 obtain ⟨cb, hzb⟩ := gb_at hg (b := w.heap.size + 1) (by simp <;> omega)
 obtain ⟨cc, hzc⟩ := gb_at hg (b := w.heap.size + 1 + 1) (by simp <;> omega)
 have hg1 := gb_trans hg0 hg
 have S1 := zH (h1.after hg1); have S2 := zH (h2.after hg1); have HG := zH hg1; clear hg hg0 hg1 h1 h2
 by_cases hok : tOk step ls hs
 rotate_left
 ·have he : tE step ls hs = 21 := (tE_bad hok).symm
  go_wp2
  refine bodyPost_ret (v := .tuple #[(0:Int), (0:Int), (21:Int)]) (by simp [results, Tryz.results58, go_sem]) rfl ⟨congrArg Ending.returned (bnd_table hok), HG.out⟩
 have he : tE step ls hs = 0 := (tE_ok hok).symm
 have HOK := zH hok; clear hok
 go_wp2_with fail
 (with_reducible refine (rvalidBox_any _ _ _ _ _ _ _).mono ?_)
 rintro e w2 ⟨rfl, hg2⟩
 obtain ⟨ca2, hza2⟩ := gb_at hg2 hza
 obtain ⟨cb2, hzb2⟩ := gb_at hg2 hzb
 obtain ⟨cc2, hzc2⟩ := gb_at hg2 hzc
 have S1b := zH (S1.out.after hg2); have S2b := zH (S2.out.after hg2); have HG2 := zH (gb_trans HG.out hg2); clear hg2 S1 S2 HG he
 cases hv0 : bP x0 y0 z0 x1 y1 z1
 ·go_wp2
  refine bodyPost_ret (v := .tuple #[(0:Int), (0:Int), (20:Int)]) (by simp [results, Tryz.results58, go_sem]) rfl ⟨congrArg Ending.returned (bnd_region HOK.out (by simp [hv0])), HG2.out⟩
 go_wp2_with fail
 (with_reducible refine (rvalid_any _ _ _ _).mono ?_)
 rintro e w3 ⟨rfl, hg3⟩
 obtain ⟨ca3, hza3⟩ := gb_at hg3 hza2
 obtain ⟨cb3, hzb3⟩ := gb_at hg3 hzb2
 obtain ⟨cc3, hzc3⟩ := gb_at hg3 hzc2
 have S1c := zH (S1b.out.after hg3); have S2c := zH (S2b.out.after hg3); have HG3 := zH (gb_trans HG2.out hg3); clear hg3 S1b S2b HG2
 cases hv1 : vP px py pz
 ·go_wp2
  refine bodyPost_ret (v := .tuple #[(0:Int), (0:Int), (20:Int)]) (by simp [results, Tryz.results58, go_sem]) rfl ⟨congrArg Ending.returned (bnd_region HOK.out (by simp [hv0, hv1])), HG3.out⟩
 have HI := zH (bnd_btw (x0 := x0) (y0 := y0) (z0 := z0) (x1 := x1) (y1 := y1) (z1 := z1) (px := px) (py := py) (pz := pz) HOK.out (by simp [hv0, hv1]))
 have HF := zH (farP_small x0 y0 z0 x1 y1 z1 px py pz)
 have HE := zH (show nearP x0 y0 z0 x1 y1 z1 px py pz = nearP x0 y0 z0 x1 y1 z1 px py pz ∧ farP x0 y0 z0 x1 y1 z1 px py pz = farP x0 y0 z0 x1 y1 z1 px py pz from ⟨rfl, rfl⟩)
 clear hv0 hv1
 have HN := zH (fun (u : World) => rNear_any x0 y0 z0 x1 y1 z1 px py pz u)
 have HA := zH (fun (u : World) => rFar_any x0 y0 z0 x1 y1 z1 px py pz u)
 generalize nearP x0 y0 z0 x1 y1 z1 px py pz = d at *
 generalize farP x0 y0 z0 x1 y1 z1 px py pz = d' at *
 have ua := fun (x : Up w3) (o : Nat) => ever_cell x (b := w.heap.size) (o := o) hza3
 have ub := fun (x : Up w3) (o : Nat) => ever_cell x (b := w.heap.size + 1) (o := o) hzb3
 have uc := fun (x : Up w3) (o : Nat) => ever_cell x (b := w.heap.size + 1 + 1) (o := o) hzc3
 have BT := zH (show btw step ls hs d d' = .tuple #[.int .i64 (btwA step ls hs d d'), .int .i64 (btwB step ls hs d d'), .int .i64 (btwE step ls hs d d')] from rfl)
 have HB := zH (fun (u : World) (s1 : Sl u vl ls) (s2 : Sl u vh hs) => rbetween_any step d d' vl vh ls hs u s1 s2 HF.out)
 rw [BT.out] at HB
 go_wp2_with fail
 (refine wp_region_grown (by kernel_rfl) (by kernel_rfl) ?_; (repeat (go_big_quiet_step (first
  | (go_at_call 86; exact Calls.grown_of (HN.out _))
  | (go_at_call 87; exact Calls.grown_of (HA.out _))
  | (go_at_call 85; exact Calls.grown_of (HB.out _ (S1c.out.after (ever_up _)) (S2c.out.after (ever_up _))))))); refine wpQuiet_nil ?_; intro wq hq)
 go_wp2
 exact bodyPost_ret (v := .tuple #[.int .i64 (btwA step ls hs d d'), .int .i64 (btwB step ls hs d d'), .int .i64 (btwE step ls hs d d')]) (by simp [results, Tryz.results58, go_sem]) rfl ⟨by rw [← HI.out]; rfl, gb_trans HG3.out hq⟩
set_option maxRecDepth 100000 in
set_option maxHeartbeats 2000000 in
theorem rzone_any (step : Int) (vl vh : Value) (ls hs : List Int) (x0 y0 z0 x1 y1 z1 px py pz e l n : Int) (w : World) (h1 : Sl w vl ls) (h2 : Sl w vh hs) :
  Calls Tryz.prog 132 #[.agg #[step, vl, vh], .agg #[x0, y0, z0, x1, y1, z1], .agg #[px, py, pz, e, l, n]] w fun r w' =>
   r = .returned (znV step ls hs x0 y0 z0 x1 y1 z1 px py pz e l n) ∧ w.grownBy w' none := by
 go_enter Tryz.func132, Tryz.ntmps132
 have hg0 := gb_alloc (gb_alloc (gb_alloc (gb_alloc (gb_refl w none) (.cells #[step, vl, vh] 28)) (.cells #[x0, y0, z0, x1, y1, z1] 25)) (.cells #[px, py, pz, e, l, n] 51)) (.cells #[(0:Int), (0:Int)] 97)
 have hR0 : ((((w.alloc (.cells #[step, vl, vh] 28)).alloc (.cells #[x0, y0, z0, x1, y1, z1] 25)).alloc (.cells #[px, py, pz, e, l, n] 51)).alloc (.cells #[(0:Int), (0:Int)] 97)).heap[w.heap.size + 1 + 1 + 1]? = some (.cells #[(0:Int), (0:Int)] 97 (0, 0)) := by
  simpa using heap_alloc_new (((w.alloc _).alloc _).alloc _) _
 have S1 := zH (h1.after hg0); have S2 := zH (h2.after hg0); have HG0 := zH hg0; have HR0 := zH hR0; clear h1 h2 hg0 hR0
 go_wp2_with fail
 (with_reducible refine (rvalidate_any _ _ _ ls hs _ S1.out S2.out).mono ?_)
 rintro r w1 ⟨rfl, hg⟩
 obtain ⟨ca, hza⟩ := gb_at hg (b := w.heap.size) (by simp <;> omega)
 obtain ⟨cb, hzb⟩ := gb_at hg (b := w.heap.size + 1) (by simp <;> omega)
 obtain ⟨cc, hzc⟩ := gb_at hg (b := w.heap.size + 1 + 1) (by simp <;> omega)
 have S1a := zH (S1.out.after hg); have S2a := zH (S2.out.after hg); have HG1 := zH (gb_trans HG0.out hg); have HR1 := zH (block_kept hg HR0.out rfl); clear hg S1 S2 HG0 HR0
 have FIN : ∀ (u : World) (r a b : Int), w.grownBy u none → u.heap[w.heap.size + 1 + 1 + 1]? = some (.cells #[(0:Int), (0:Int)] 97 (0, 0)) → w.grownBy (u.setRow (w.heap.size + 1 + 1 + 1) #[a, b]) none ∧ (u.setRow (w.heap.size + 1 + 1 + 1) #[a, b]).heap[w.heap.size + 1 + 1 + 1]? = some (.cells #[a, b] 97 (0, 0)) :=
  fun u r a b hg hR => ⟨gb_setRow hg (.inl (by omega)), setRow_at hR⟩
 have FN := zH FIN; clear FIN
 by_cases hok : tOk step ls hs
 rotate_left
 ·have he : tE step ls hs = 21 := (tE_bad hok).symm
  have hR := HR1.out
  obtain ⟨k1, k2⟩ := FN.out w1 0 0 0 HG1.out HR1.out
  obtain ⟨e0, e1⟩ := cells2 k2
  have K1 := zH k1; clear k1 k2
  go_wp2_with (with_reducible refine wpList_store_row rfl _ _ _ rfl (w.heap.size + 1 + 1 + 1) #[(0:Int), (0:Int)] rfl rfl _ _ hR (by kernel_rfl) rfl (by simp [Value.oneCell']) ?_)
  exact bodyPost_ret (v := .tuple #[.agg #[(0:Int), (0:Int)], (21:Int)]) (by simp [results, Tryz.results132, go_sem, e0, e1]) rfl ⟨congrArg Ending.returned (zn_err 21 (by simp [znE, hok]) (by omega)), K1.out⟩
 have he : tE step ls hs = 0 := (tE_ok hok).symm
 have HOK := zH hok; clear hok
 go_wp2_with fail
 (with_reducible refine (rvalidBox_any _ _ _ _ _ _ _).mono ?_)
 rintro r w2 ⟨rfl, hg2⟩
 obtain ⟨ca2, hza2⟩ := gb_at hg2 hza
 obtain ⟨cb2, hzb2⟩ := gb_at hg2 hzb
 obtain ⟨cc2, hzc2⟩ := gb_at hg2 hzc
 have S1b := zH (S1a.out.after hg2); have S2b := zH (S2a.out.after hg2); have HG2 := zH (gb_trans HG1.out hg2); have HR2 := zH (block_kept hg2 HR1.out rfl); clear hg2 S1a S2a HG1 HR1 he
 cases hv0 : bP x0 y0 z0 x1 y1 z1
 ·have hR := HR2.out
  obtain ⟨k1, k2⟩ := FN.out w2 0 0 0 HG2.out HR2.out
  obtain ⟨e0, e1⟩ := cells2 k2
  have K1 := zH k1; clear k1 k2
  go_wp2_with (with_reducible refine wpList_store_row rfl _ _ _ rfl (w.heap.size + 1 + 1 + 1) #[(0:Int), (0:Int)] rfl rfl _ _ hR (by kernel_rfl) rfl (by simp [Value.oneCell']) ?_)
  exact bodyPost_ret (v := .tuple #[.agg #[(0:Int), (0:Int)], (20:Int)]) (by simp [results, Tryz.results132, go_sem, e0, e1]) rfl ⟨congrArg Ending.returned (zn_err 20 (by simp [znE, HOK.out, hv0]) (by omega)), K1.out⟩
 have HV0 := zH hv0; clear hv0
 go_wp2_with fail
 (with_reducible refine (rvalidPhase_any _ _ _ _ _ _ _).mono ?_)
 rintro r w3 ⟨rfl, hg3⟩
 obtain ⟨ca3, hza3⟩ := gb_at hg3 hza2
 obtain ⟨cb3, hzb3⟩ := gb_at hg3 hzb2
 obtain ⟨cc3, hzc3⟩ := gb_at hg3 hzc2
 have S1c := zH (S1b.out.after hg3); have S2c := zH (S2b.out.after hg3); have HG3 := zH (gb_trans HG2.out hg3); have HR3 := zH (block_kept hg3 HR2.out rfl); clear hg3 S1b S2b HG2 HR2
 cases hv1 : phP px py pz e l n
 ·have hR := HR3.out
  obtain ⟨k1, k2⟩ := FN.out w3 0 0 0 HG3.out HR3.out
  obtain ⟨e0, e1⟩ := cells2 k2
  have K1 := zH k1; clear k1 k2
  go_wp2_with (with_reducible refine wpList_store_row rfl _ _ _ rfl (w.heap.size + 1 + 1 + 1) #[(0:Int), (0:Int)] rfl rfl _ _ hR (by kernel_rfl) rfl (by simp [Value.oneCell']) ?_)
  exact bodyPost_ret (v := .tuple #[.agg #[(0:Int), (0:Int)], (23:Int)]) (by simp [results, Tryz.results132, go_sem, e0, e1]) rfl ⟨congrArg Ending.returned (zn_err 23 (by simp [znE, HOK.out, HV0.out, hv1]) (by omega)), K1.out⟩
 have HV1 := zH hv1; clear hv1
 go_wp2_with fail
 (with_reducible refine (rbinterval_any _ _ _ ls hs _ _ _ _ _ _ _ _ _ _ S1c.out S2c.out).mono ?_)
 rintro r w4 ⟨rfl, hg4⟩
 obtain ⟨cc4, hzc4⟩ := gb_at hg4 hzc3
 have HG4 := zH (gb_trans HG3.out hg4); have HR4 := zH (block_kept hg4 HR3.out rfl); clear hg4 S1c S2c HG3 HR3 cb cb2 cb3 hzb hzb2 hzb3 ca ca2 ca3 hza hza2 hza3
 rw [show bndV step ls hs x0 y0 z0 x1 y1 z1 px py pz = .tuple #[.int .i64 (bndA step ls hs x0 y0 z0 x1 y1 z1 px py pz), .int .i64 (bndB step ls hs x0 y0 z0 x1 y1 z1 px py pz), .int .i64 (bndE step ls hs x0 y0 z0 x1 y1 z1 px py pz)] from rfl]
 have HE : Hid (znE step ls hs x0 y0 z0 x1 y1 z1 px py pz e l n = bndE step ls hs x0 y0 z0 x1 y1 z1 px py pz) := zH (by simp [znE, HOK.out, HV0.out, HV1.out])
 obtain ⟨bb1, bb2, bb3, bb4⟩ := bnd_bounds step ls hs x0 y0 z0 x1 y1 z1 px py pz
 have HZ := zH (zn_ok (step := step) (ls := ls) (hs := hs) (x0 := x0) (y0 := y0) (z0 := z0) (x1 := x1) (y1 := y1) (z1 := z1) (px := px) (py := py) (pz := pz) (e := e) (l := l) (n := n))
 obtain ⟨-, p1, p2, p3, -, -⟩ := phP_iff.1 HV1.out
 generalize bndA step ls hs x0 y0 z0 x1 y1 z1 px py pz = ba at *
 generalize bndB step ls hs x0 y0 z0 x1 y1 z1 px py pz = bb at *
 generalize bndE step ls hs x0 y0 z0 x1 y1 z1 px py pz = be at *
 by_cases hbe : be = 0
 ·subst hbe
  have hR := HR4.out
  obtain ⟨k1, k2⟩ := FN.out w4 0 (e - bb) (l - ba) HG4.out HR4.out
  obtain ⟨e0, e1⟩ := cells2 k2
  have K1 := zH k1; clear k1 k2
  go_wp2_with (with_reducible refine wpList_store_row rfl _ _ _ rfl (w.heap.size + 1 + 1 + 1) #[.int .i64 (e - bb), .int .i64 (l - ba)] rfl rfl _ _ hR (by kernel_rfl) rfl (by simp [Value.oneCell']) ?_)
  exact bodyPost_ret (v := .tuple #[.agg #[.int .i64 (e - bb), .int .i64 (l - ba)], (0:Int)]) (by simp [results, Tryz.results132, go_sem, e0, e1]) rfl ⟨congrArg Ending.returned (HZ.out HE.out), K1.out⟩
 ·have hR := HR4.out
  obtain ⟨k1, k2⟩ := FN.out w4 0 0 0 HG4.out HR4.out
  obtain ⟨e0, e1⟩ := cells2 k2
  have K1 := zH k1; clear k1 k2
  go_wp2_with (with_reducible refine wpList_store_row rfl _ _ _ rfl (w.heap.size + 1 + 1 + 1) #[(0:Int), (0:Int)] rfl rfl _ _ hR (by kernel_rfl) rfl (by simp [Value.oneCell']) ?_)
  exact bodyPost_ret (v := .tuple #[.agg #[(0:Int), (0:Int)], be]) (by simp [results, Tryz.results132, go_sem, e0, e1]) rfl ⟨congrArg Ending.returned (zn_err be HE.out hbe), K1.out⟩
end LRefD
end Go.Proofs.YtiebljanpnadjaaGreat
