/- Ref -/
import Derived.Test.YtnmjefgldoaneaaGreatDoorToTrv
import Derived.Test.YtnmjefgldoaneaaGreatDoorToRgMade
import Derived.Test.YtnmjefgldoaneaaGreatDoorToRgPos
import Derived.Test.YtnmjefgldoaneaaGreatDoorToBnd
import Derived.Test.YtnmjefgldoaneaaGreatDoorToMem
import Derived.Test.YtnmjefgldoaneaaGreatDoorToBase
namespace Go.Proofs.YtnmjefgldoaneaaGreatDoor
set_option linter.all false
section LRefT
open Go.RowKit
set_option maxRecDepth 100000 in
set_option maxHeartbeats 1000000 in
theorem rlower_any (step d : Int) (vl vh : Value) (ls hs : List Int) (w : World) (h1 : Sl w vl ls) (h2 : Sl w vh hs) (ht : tOk step ls hs) (h0 : 0 ≤ d) (hd : d ≤ reachS step ls) :
    Calls Tryz.prog 267 #[.agg #[.int .i64 step, vl, vh], .int .i64 d] w fun e w' => e = .returned (.int .i64 (at0 ls (loI step d))) ∧ w.grownBy w' none := by
  have hr := (reachS_le ht).2.1
  obtain ⟨t1, t2, t3, t4, t5, -⟩ := ht
  have hdd : -9223372036854775808 ≤ d ∧ d ≤ 267386880 := by omega
  unfold reachS at hd
  obtain ⟨di1, di2⟩ := loI_spec (d := d) (n := ls.length) t1 h0 hd t4
  obtain ⟨b1, off1, cap1, rfl, hb1, hcap1, hcapb1, hcell1⟩ := h1.block (by omega)
  obtain ⟨ha, hn, hc, rfl⟩ : ∃ a n c, vh = .slice a n c := by rcases h2 with ⟨_, a, cap, rfl⟩ | ⟨b, off, cap, rfl, _⟩ <;> exact ⟨_, _, _, rfl⟩
  have hl1 := hcell1 _ di2
  clear h1 h2 hcell1
  generalize at0 ls (loI step d) = y at *
  generalize loI step d = i at *
  generalize ls.length = n at *
  clear hd hr t3
  have hg0 := gb_alloc (gb_refl w none) (.cells #[.int .i64 step, .slice (some ⟨b1, off1, none⟩) n cap1, .slice ha hn hc] 30)
  have hl2 := (gb_cell hg0 (b := b1) (o := off1 + i) hb1 (by simp)).trans hl1
  have HT := Lib.hid (heap_alloc_new w (.cells #[.int .i64 step, .slice (some ⟨b1, off1, none⟩) n cap1, .slice ha hn hc] 30))
  have hbz : b1 < (w.alloc (.cells #[.int .i64 step, .slice (some ⟨b1, off1, none⟩) n cap1, .slice ha hn hc] 30)).heap.size := by simp; omega
  clear hl1
  go_enter Tryz.func267, Tryz.ntmps267
  go_wp2_with fail
  have HG := Lib.hid hg0; clear hg0
  have hzw := block_lt' HT.out
  obtain ⟨c0, c1, c2⟩ := cells3 HT.out
  generalize w.alloc (.cells #[.int .i64 step, .slice (some ⟨b1, off1, none⟩) n cap1, .slice ha hn hc] 30) = w1 at *
  have e1 := fun (x : Up w1) (o : Nat) => ever_cell x (b := w.heap.size) (o := o) hzw
  have e2 := fun (x : Up w1) (o : Nat) => ever_cell x (b := b1) (o := o) hbz
  (refine wp_region_grown (by kernel_rfl) (by kernel_rfl) ?_; (repeat (go_big_quiet_step (fail))); refine wpQuiet_nil ?_; intro wq hq)
  go_wp2
  go_ret
  exact ⟨rfl, gb_trans HG.out hq⟩
set_option maxRecDepth 100000 in
set_option maxHeartbeats 1000000 in
theorem rupper_any (step d : Int) (vl vh : Value) (ls hs : List Int) (w : World) (h1 : Sl w vl ls) (h2 : Sl w vh hs) (ht : tOk step ls hs) (h0 : 0 ≤ d) (hd : d ≤ reachS step ls) :
    Calls Tryz.prog 269 #[.agg #[.int .i64 step, vl, vh], .int .i64 d] w fun e w' => e = .returned (.int .i64 (at0 hs (upI step d))) ∧ w.grownBy w' none := by
  have hr := (reachS_le ht).2.1
  obtain ⟨t1, t2, t3, t4, t5, -⟩ := ht
  have hdd : -9223372036854775808 ≤ d ∧ d ≤ 267386880 := by omega
  unfold reachS at hd
  obtain ⟨di1, di2⟩ := upI_spec (d := d) (n := ls.length) t1 h0 hd t4
  rw [t3] at di2
  obtain ⟨b1, off1, cap1, rfl, hb1, hcap1, hcapb1, hcell1⟩ := h2.block (by omega)
  obtain ⟨ha, hn, hc, rfl⟩ : ∃ a n c, vl = .slice a n c := by rcases h1 with ⟨_, a, cap, rfl⟩ | ⟨b, off, cap, rfl, _⟩ <;> exact ⟨_, _, _, rfl⟩
  have hl1 := hcell1 _ di2
  clear h1 h2 hcell1
  have wd : IntKind.i64.wrap (d + step) = d + step := by rw [IntKind.wrap_i64]; omega
  obtain ⟨q, hq⟩ : ∃ q, q = d + step - 1 := ⟨_, rfl⟩
  rw [← hq] at di1
  have we : IntKind.i64.wrap (d + step - 1) = q := by rw [IntKind.wrap_i64]; omega
  have hq0 : 0 ≤ q ∧ q ≤ 1000000000 := by omega
  clear hq
  generalize at0 hs (upI step d) = y at *
  generalize upI step d = i at *
  generalize hs.length = n at *
  clear hd hr t3
  have hg0 := gb_alloc (gb_refl w none) (.cells #[.int .i64 step, .slice ha hn hc, .slice (some ⟨b1, off1, none⟩) n cap1] 30)
  have hl2 := (gb_cell hg0 (b := b1) (o := off1 + i) hb1 (by simp)).trans hl1
  have HT := Lib.hid (heap_alloc_new w (.cells #[.int .i64 step, .slice ha hn hc, .slice (some ⟨b1, off1, none⟩) n cap1] 30))
  have hbz : b1 < (w.alloc (.cells #[.int .i64 step, .slice ha hn hc, .slice (some ⟨b1, off1, none⟩) n cap1] 30)).heap.size := by simp; omega
  clear hl1
  go_enter Tryz.func269, Tryz.ntmps269
  go_wp2_with fail
  have HG := Lib.hid hg0; clear hg0
  have hzw := block_lt' HT.out
  obtain ⟨c0, c1, c2⟩ := cells3 HT.out
  generalize w.alloc (.cells #[.int .i64 step, .slice ha hn hc, .slice (some ⟨b1, off1, none⟩) n cap1] 30) = w1 at *
  have e1 := fun (x : Up w1) (o : Nat) => ever_cell x (b := w.heap.size) (o := o) hzw
  have e2 := fun (x : Up w1) (o : Nat) => ever_cell x (b := b1) (o := o) hbz
  (refine wp_region_grown (by kernel_rfl) (by kernel_rfl) ?_; (repeat (go_big_quiet_step (fail))); refine wpQuiet_nil ?_; intro wq hq)
  go_wp2
  go_ret
  exact ⟨rfl, gb_trans HG.out hq⟩
theorem rReachS_any (step : Int) (vl vh : Value) (ls hs : List Int) (w : World) (h1 : Sl w vl ls) (h2 : Sl w vh hs) (h : tOk step ls hs) :
    Calls Tryz.prog 266 #[.agg #[.int .i64 step, vl, vh]] w fun e w' => e = .returned (.int .i64 (reachS step ls)) ∧ w.grownBy w' none := by
  have := rReach_any step vl vh ls hs w h1 h2
  rwa [show reachV step ls hs = reachS step ls by simp [reachV, h]] at this
set_option maxRecDepth 100000 in
set_option maxHeartbeats 1000000 in
theorem rbetween_any (step near far : Int) (vl vh : Value) (ls hs : List Int) (w : World) (h1 : Sl w vl ls) (h2 : Sl w vh hs) (hf : far ≤ 9223372036854775807) :
    Calls Tryz.prog 197 #[.agg #[.int .i64 step, vl, vh], .int .i64 near, .int .i64 far] w fun e w' => e = .returned (btw step ls hs near far) ∧ w.grownBy w' none := by
  go_enter Tryz.func197, Tryz.ntmps197
  have hg0 := gb_alloc (gb_refl w none) (.cells #[.int .i64 step, vl, vh] 30)
  go_wp2_with fail
  (with_reducible refine (rvalidate_any _ _ _ ls hs _ (h1.after hg0) (h2.after hg0)).mono ?_)
  rintro e w1 ⟨rfl, hg⟩
  obtain ⟨cb, hz⟩ := gb_at hg (b := w.heap.size) (by simp)
  have hg1 := gb_trans hg0 hg
  have S1 := Lib.hid (h1.after hg1); have S2 := Lib.hid (h2.after hg1); have HG := Lib.hid hg1; clear hg hg0 hg1 h1 h2
  by_cases hok : tOk step ls hs
  rotate_left
  · have he : tE step ls hs = 21 := (tE_bad hok).symm
    go_wp2
    refine bodyPost_ret (v := .tuple #[.int .i64 0, .int .i64 0, .int .i64 21]) (by simp [results, Tryz.results197, go_sem]) rfl ⟨btw_err (by decide) (by simp [btwE, hok]), HG.out⟩
  have he : tE step ls hs = 0 := (tE_ok hok).symm
  have HOK := Lib.hid hok; clear hok
  by_cases c1 : near < 0
  · go_wp2
    refine bodyPost_ret (v := .tuple #[.int .i64 0, .int .i64 0, .int .i64 2]) (by simp [results, Tryz.results197, go_sem]) rfl ⟨btw_err (by decide) (by simp [btwE, HOK.out, c1]), HG.out⟩
  by_cases c2 : far < near
  · go_wp2
    refine bodyPost_ret (v := .tuple #[.int .i64 0, .int .i64 0, .int .i64 2]) (by simp [results, Tryz.results197, go_sem]) rfl ⟨btw_err (by decide) (by simp [btwE, HOK.out, c2]), HG.out⟩
  have hnt := fun (x : Up w1) (o : Nat) => ever_cell x (b := w.heap.size) (o := o) hz
  go_wp2_with fail
  (refine wp_region_grown (by kernel_rfl) (by kernel_rfl) ?_; (repeat (go_big_quiet_step (first
    | (go_at_call 265; exact Calls.grown_same (rceil24_any far _ hf))
    | (go_at_call 266; exact Calls.grown_of (rReachS_any _ _ _ ls hs _ (S1.out.after (ever_up _)) (S2.out.after (ever_up _)) HOK.out))))); refine wpQuiet_nil ?_; intro wq hq)
  obtain ⟨wt, hzt⟩ := gb_at hq (b := w.heap.size) hz
  have HG2 := Lib.hid (gb_trans HG.out hq)
  have S1q := Lib.hid (S1.out.after hq); have S2q := Lib.hid (S2.out.after hq); clear S1 S2 HG hnt hq
  by_cases c3 : reachS step ls < ceilI far
  · go_wp2
    refine bodyPost_ret (v := .tuple #[.int .i64 0, .int .i64 0, .int .i64 22]) (by simp [results, Tryz.results197, go_sem]) rfl ⟨btw_err (by decide) (by simp [btwE, HOK.out, c3]; omega), HG2.out⟩
  have HE := Lib.hid (show btwE step ls hs near far = 0 from by simp [btwE, HOK.out, c3]; omega)
  have hm := floorI_mono (a := near) (b := far) (by omega)
  have hge := ceilI_ge far
  have hff := (floorI_le (n := near) (by omega)).1
  have hcc := (ceilI_le hf).1
  have HLO := Lib.hid (fun (u : World) (s1 : Sl u vl ls) (s2 : Sl u vh hs) => rlower_any step (floorI near) vl vh ls hs u s1 s2 HOK.out hff (by omega))
  have HUP := Lib.hid (fun (u : World) (s1 : Sl u vl ls) (s2 : Sl u vh hs) => rupper_any step (ceilI far) vl vh ls hs u s1 s2 HOK.out hcc (by omega))
  have HX := Lib.hid (btw_ok (step := step) (ls := ls) (hs := hs) HE.out rfl rfl)
  clear hm hge hff hcc
  have hnt := fun (x : Up wq) (o : Nat) => ever_cell x (b := w.heap.size) (o := o) hzt
  go_wp2_with fail
  (refine wp_region_grown (by kernel_rfl) (by kernel_rfl) ?_; (repeat (go_big_quiet_step (first
    | (go_at_call 265; exact Calls.grown_same (rceil24_any far _ hf))
    | (go_at_call 268; exact Calls.grown_same (rfloor24_any near _ (by omega)))
    | (go_at_call 267; exact Calls.grown_of (HLO.out _ (S1q.out.after (ever_up _)) (S2q.out.after (ever_up _))))
    | (go_at_call 269; exact Calls.grown_of (HUP.out _ (S1q.out.after (ever_up _)) (S2q.out.after (ever_up _))))))); refine wpQuiet_nil ?_; intro wq hq)
  go_wp2
  exact bodyPost_ret (v := .tuple #[.int .i64 (at0 ls (loI step (floorI near))), .int .i64 (at0 hs (upI step (ceilI far))), .int .i64 0]) (by simp [results, Tryz.results197, go_sem]) rfl ⟨HX.out, gb_trans HG2.out hq⟩
end LRefT
section LRefA
open Go.RowKit
set_option maxHeartbeats 1000000 in
theorem rvalid_any (x y z : Int) (w : World) :
    Calls Tryz.prog 196 #[.agg #[.int .i64 x, .int .i64 y, .int .i64 z]] w fun e w' => e = .returned (.bool (vP x y z)) ∧ w.grownBy w' none := by
  rcases three x (-1048576) 1048576 with hx | ⟨hx1, hx2⟩ | ⟨hx1, hx2⟩
  rotate_left 2
  rcases three y (-1048576) 1048576 with hy | ⟨hy1, hy2⟩ | ⟨hy1, hy2⟩
  rotate_left 2
  rcases three z (-16384) 1048576 with hz | ⟨hz1, hz2⟩ | ⟨hz1, hz2⟩
  all_goals
    go_enter Tryz.func196, Tryz.ntmps196
    go_wp2
  all_goals
    go_ret
    refine ⟨ret_bool (by unfold vP; simp; omega), ?_⟩
    repeat (first | exact gb_refl _ _ | refine gb_alloc ?_ _)
set_option maxHeartbeats 1000000 in
theorem rvalidBox_any (x0 y0 z0 x1 y1 z1 : Int) (w : World) :
    Calls Tryz.prog 126 #[.agg #[.int .i64 x0, .int .i64 y0, .int .i64 z0, .int .i64 x1, .int .i64 y1, .int .i64 z1]] w fun e w' => e = .returned (.bool (bP x0 y0 z0 x1 y1 z1)) ∧ w.grownBy w' none := by
  go_enter Tryz.func126, Tryz.ntmps126
  go_wp2_with fail
  (with_reducible refine (rvalid_any _ _ _ _).mono ?_)
  rintro e w1 ⟨rfl, hg1⟩
  obtain ⟨cb, hz⟩ := gb_at hg1 (b := w.heap.size) (by simp)
  have HG1 := Lib.hid (gb_trans (gb_alloc (gb_refl _ _) _) hg1); clear hg1
  cases hv0 : vP x0 y0 z0
  · go_wp2
    go_ret
    exact ⟨ret_bool (by simp [bP, hv0]), HG1.out⟩
  go_wp2_with fail
  (with_reducible refine (rvalid_any _ _ _ _).mono ?_)
  rintro e w2 ⟨rfl, hg2⟩
  obtain ⟨cb2, hz2⟩ := gb_at hg2 hz
  have HG2 := Lib.hid (gb_trans HG1.out hg2); clear hg2 HG1
  cases hv1 : vP x1 y1 z1
  · go_wp2
    go_ret
    exact ⟨ret_bool (by simp [bP, hv1]), HG2.out⟩
  have HV0 := Lib.hid hv0; have HV1 := Lib.hid hv1; clear hv0 hv1
  rcases Int.lt_or_le x1 x0 with hx | hx
  rotate_left
  rcases Int.lt_or_le y1 y0 with hy | hy
  rotate_left
  rcases Int.lt_or_le z1 z0 with hz | hz
  all_goals
    go_wp2
    go_ret
    refine ⟨ret_bool (by simp [bP, HV0.out, HV1.out]; omega), HG2.out⟩
theorem rsq_any (n : Int) (w : World) (h1 : -4194304 ≤ n) (h2 : n ≤ 4194304) :
    Calls Tryz.prog 270 #[.int .i64 n] w fun e w' => e = .returned (.int .i64 (n * n)) ∧ w = w' := by
  obtain ⟨s0, s1, s2⟩ := sq_small (d := n) h1 h2
  generalize hq : n * n = q at *
  go_enter Tryz.func270, Tryz.ntmps270
  go_wp2
  go_ret
  exact ⟨rfl, rfl⟩
theorem rnear_any (x lo hi : Int) (w : World) (h1 : -2000000 ≤ x) (h2 : x ≤ 2000000) (h3 : -2000000 ≤ lo) (h4 : lo ≤ 2000000) (h5 : -2000000 ≤ hi) (h6 : hi ≤ 2000000) :
    Calls Tryz.prog 271 #[.int .i64 lo, .int .i64 hi, .int .i64 x] w fun e w' => e = .returned (.int .i64 (nearS x lo hi)) ∧ w = w' := by
  go_enter Tryz.func271, Tryz.ntmps271
  go_wp2
  all_goals
    go_ret
    exact ⟨ret_int (by unfold nearS; omega), rfl⟩
theorem rfar_any (x lo hi : Int) (w : World) (h1 : -2000000 ≤ x) (h2 : x ≤ 2000000) (h3 : -2000000 ≤ lo) (h4 : lo ≤ 2000000) (h5 : -2000000 ≤ hi) (h6 : hi ≤ 2000000) :
    Calls Tryz.prog 272 #[.int .i64 lo, .int .i64 hi, .int .i64 x] w fun e w' => e = .returned (.int .i64 (farS x lo hi)) ∧ w = w' := by
  go_enter Tryz.func272, Tryz.ntmps272
  go_wp2
  go_ret
  exact ⟨ret_int (by unfold farS; omega), rfl⟩
def sgn (a b : Int) : Int := if a < b then -1 else if b < a then 1 else 0
def cmpP (x0 y0 z0 x1 y1 z1 : Int) : Int := if sgn x0 x1 ≠ 0 then sgn x0 x1 else if sgn y0 y1 ≠ 0 then sgn y0 y1 else sgn z0 z1
set_option maxHeartbeats 2000000 in
theorem rcontains_any (x0 y0 z0 x1 y1 z1 px py pz : Int) (w : World) :
    Calls Tryz.prog 130 #[.agg #[.int .i64 x0, .int .i64 y0, .int .i64 z0, .int .i64 x1, .int .i64 y1, .int .i64 z1], .agg #[.int .i64 px, .int .i64 py, .int .i64 pz]] w fun e w' => e = .returned (.bool (conP x0 y0 z0 x1 y1 z1 px py pz)) ∧ w.grownBy w' none := by
  have hv : conP x0 y0 z0 x1 y1 z1 px py pz = (bP x0 y0 z0 x1 y1 z1 && decide (x0 ≤ px ∧ px ≤ x1 ∧ y0 ≤ py ∧ py ≤ y1 ∧ z0 ≤ pz ∧ pz ≤ z1)) := by
    rw [Bool.eq_iff_iff, conP_iff, Bool.and_eq_true, decide_eq_true_eq]
    constructor
    · rintro ⟨h1, h2, h3⟩; exact ⟨h1, h3⟩
    · rintro ⟨h1, h3⟩
      obtain ⟨v0, v1, o0, o1, o2⟩ := bP_iff h1
      have a := vP_iff v0; have b := vP_iff v1
      exact ⟨h1, vP_mk (by omega), h3⟩
  have HV := Lib.hid hv; clear hv
  go_enter Tryz.func130, Tryz.ntmps130
  go_wp2_with fail
  (with_reducible refine (rvalidBox_any _ _ _ _ _ _ _).mono ?_)
  rintro e w1 ⟨rfl, hg1⟩
  obtain ⟨ca, hza⟩ := gb_at hg1 (b := w.heap.size) (by first | omega | (simp <;> omega))
  obtain ⟨cb, hzb⟩ := gb_at hg1 (b := w.heap.size + 1) (by first | omega | (simp <;> omega))
  have HG1 := Lib.hid (gb_trans (gb_alloc (gb_alloc (gb_refl _ _) _) _) hg1); clear hg1
  cases hv0 : bP x0 y0 z0 x1 y1 z1
  · go_wp2
    go_ret
    exact ⟨ret_bool (by rw [HV.out, hv0]; rfl), HG1.out⟩
  have H0 := Lib.hid hv0; clear hv0
  rcases three px x0 x1 with hx | ⟨hx1, hx2⟩ | ⟨hx1, hx2⟩
  rotate_left 2
  rcases three py y0 y1 with hy | ⟨hy1, hy2⟩ | ⟨hy1, hy2⟩
  rotate_left 2
  rcases three pz z0 z1 with hz | ⟨hz1, hz2⟩ | ⟨hz1, hz2⟩
  all_goals
    go_wp2
    go_ret
    refine ⟨ret_bool (by rw [HV.out, H0.out, Bool.true_and, Bool.eq_iff_iff]; simp only [decide_eq_true_eq, Bool.false_eq_true]; exact ⟨fun h => by first | exact h.elim | exact ⟨by omega, by omega, by omega, by omega, by omega, by omega⟩, fun ⟨h1, h2, h3, h4, h5, h6⟩ => by first | exact True.intro | rfl | omega⟩), HG1.out⟩
theorem rwithin_any (a0 b0 c0 a1 b1 c1 x0 y0 z0 x1 y1 z1 : Int) (w : World) :
    Calls Tryz.prog 77 #[.agg #[.int .i64 a0, .int .i64 b0, .int .i64 c0, .int .i64 a1, .int .i64 b1, .int .i64 c1], .agg #[.int .i64 x0, .int .i64 y0, .int .i64 z0, .int .i64 x1, .int .i64 y1, .int .i64 z1]] w fun e w' => e = .returned (.bool (wiP a0 b0 c0 a1 b1 c1 x0 y0 z0 x1 y1 z1)) ∧ w.grownBy w' none := by
  go_enter Tryz.func77, Tryz.ntmps77
  go_wp2_with fail
  (with_reducible refine (rvalidBox_any _ _ _ _ _ _ _).mono ?_)
  rintro e w1 ⟨rfl, hg1⟩
  obtain ⟨ca, hza⟩ := gb_at hg1 (b := w.heap.size) (by first | omega | (simp <;> omega))
  obtain ⟨cb, hzb⟩ := gb_at hg1 (b := w.heap.size + 1) (by first | omega | (simp <;> omega))
  have HG1 := Lib.hid (gb_trans (gb_alloc (gb_alloc (gb_refl _ _) _) _) hg1); clear hg1
  cases hv0 : bP a0 b0 c0 a1 b1 c1
  · go_wp2
    go_ret
    exact ⟨ret_bool (by simp [wiP, hv0]), HG1.out⟩
  go_wp2_with fail
  (with_reducible refine (rcontains_any _ _ _ _ _ _ _ _ _ _).mono ?_)
  rintro e w2 ⟨rfl, hg2⟩
  obtain ⟨ca2, hza2⟩ := gb_at hg2 hza
  obtain ⟨cb2, hzb2⟩ := gb_at hg2 hzb
  have HG2 := Lib.hid (gb_trans HG1.out hg2); clear hg2 HG1
  cases hv1 : conP x0 y0 z0 x1 y1 z1 a0 b0 c0
  · go_wp2
    go_ret
    exact ⟨ret_bool (by simp [wiP, hv1]), HG2.out⟩
  have H0 := Lib.hid hv0; have H1 := Lib.hid hv1; clear hv0 hv1
  go_wp2_with fail
  (with_reducible refine (rcontains_any _ _ _ _ _ _ _ _ _ _).mono ?_)
  rintro e w3 ⟨rfl, hg3⟩
  have HG3 := Lib.hid (gb_trans HG2.out hg3); clear hg3 HG2
  go_wp2
  go_ret
  exact ⟨ret_bool (by simp [wiP, H0.out, H1.out]), HG3.out⟩
end LRefA
section LRefB
open Go.RowKit Rg
set_option maxRecDepth 100000 in
set_option maxHeartbeats 2000000 in
theorem rNear_any (x0 y0 z0 x1 y1 z1 px py pz : Int) (w : World) :
    Calls Tryz.prog 198 #[.agg #[.int .i64 x0, .int .i64 y0, .int .i64 z0, .int .i64 x1, .int .i64 y1, .int .i64 z1], .agg #[.int .i64 px, .int .i64 py, .int .i64 pz]] w fun e w' => e = .returned (.int .i64 (nearP x0 y0 z0 x1 y1 z1 px py pz)) ∧ w.grownBy w' none := by
  go_enter Tryz.func198, Tryz.ntmps198
  go_wp2_with fail
  (with_reducible refine (rvalidBox_any _ _ _ _ _ _ _).mono ?_)
  rintro e w1 ⟨rfl, hg1⟩
  obtain ⟨ca, hza⟩ := gb_at hg1 (b := w.heap.size) (by first | omega | (simp <;> omega))
  obtain ⟨cb, hzb⟩ := gb_at hg1 (b := w.heap.size + 1) (by first | omega | (simp <;> omega))
  have HG1 := Lib.hid (gb_trans (gb_alloc (gb_alloc (gb_refl _ _) _) _) hg1); clear hg1
  cases hv0 : bP x0 y0 z0 x1 y1 z1
  · go_wp2
    go_ret
    exact ⟨ret_int (by simp [nearP, hv0]), HG1.out⟩
  go_wp2_with fail
  (with_reducible refine (rvalid_any _ _ _ _).mono ?_)
  rintro e w2 ⟨rfl, hg2⟩
  obtain ⟨ca2, hza2⟩ := gb_at hg2 hza
  obtain ⟨cb2, hzb2⟩ := gb_at hg2 hzb
  have HG2 := Lib.hid (gb_trans HG1.out hg2); clear hg2 HG1
  cases hv1 : vP px py pz
  · go_wp2
    go_ret
    exact ⟨ret_int (by simp [nearP, hv1]), HG2.out⟩
  have HE := Lib.hid (show nearP x0 y0 z0 x1 y1 z1 px py pz = nearS px x0 x1 * nearS px x0 x1 + nearS py y0 y1 * nearS py y0 y1 + nearS pz z0 z1 * nearS pz z0 z1 from by simp [nearP, hv0, hv1, nearD])
  obtain ⟨b0, b1, b2, b3, b4⟩ := bP_iff hv0
  have hi0 := vP_iff b0
  have hi1 := vP_iff b1
  have hi2 := vP_iff hv1
  clear hv0 hv1 b0 b1
  have bx : 0 ≤ nearS px x0 x1 ∧ nearS px x0 x1 ≤ 4194304 := by unfold nearS; omega
  have by' : 0 ≤ nearS py y0 y1 ∧ nearS py y0 y1 ≤ 4194304 := by unfold nearS; omega
  have bz : 0 ≤ nearS pz z0 z1 ∧ nearS pz z0 z1 ≤ 4194304 := by unfold nearS; omega
  have NX := Lib.hid (fun (u : World) => rnear_any px x0 x1 u (by omega) (by omega) (by omega) (by omega) (by omega) (by omega))
  have NY := Lib.hid (fun (u : World) => rnear_any py y0 y1 u (by omega) (by omega) (by omega) (by omega) (by omega) (by omega))
  have NZ := Lib.hid (fun (u : World) => rnear_any pz z0 z1 u (by omega) (by omega) (by omega) (by omega) (by omega) (by omega))
  clear hi0 hi1 hi2 b2 b3 b4
  generalize nearS px x0 x1 = sx at *
  generalize nearS py y0 y1 = sy at *
  generalize nearS pz z0 z1 = sz at *
  have CX := Lib.hid (fun (u : World) => rsq_any sx u (by omega) (by omega))
  have CY := Lib.hid (fun (u : World) => rsq_any sy u (by omega) (by omega))
  have CZ := Lib.hid (fun (u : World) => rsq_any sz u (by omega) (by omega))
  obtain ⟨sx0, sx1, -⟩ := sq_small (d := sx) (by omega) (by omega)
  obtain ⟨sy0, sy1, -⟩ := sq_small (d := sy) (by omega) (by omega)
  obtain ⟨sz0, sz1, -⟩ := sq_small (d := sz) (by omega) (by omega)
  generalize sx * sx = tx at *
  generalize sy * sy = ty at *
  generalize sz * sz = tz at *
  have hnt := fun (x : Up w2) (o : Nat) => ever_cell x (b := w.heap.size) (o := o) hza2
  have hnu := fun (x : Up w2) (o : Nat) => ever_cell x (b := w.heap.size + 1) (o := o) hzb2
  go_wp2_with fail
  (refine wp_region_grown (by kernel_rfl) (by kernel_rfl) ?_; (repeat (go_big_quiet_step (first
    | (go_at_call 271; first | (with_reducible exact Calls.grown_same (NX.out _)) | (with_reducible exact Calls.grown_same (NY.out _)) | (with_reducible exact Calls.grown_same (NZ.out _)))
    | (go_at_call 270; first | (with_reducible exact Calls.grown_same (CX.out _)) | (with_reducible exact Calls.grown_same (CY.out _)) | (with_reducible exact Calls.grown_same (CZ.out _)))))); refine wpQuiet_nil ?_; intro wq hq)
  go_wp2
  go_ret
  exact ⟨ret_int (by rw [HE.out]), gb_trans HG2.out hq⟩
set_option maxRecDepth 100000 in
set_option maxHeartbeats 2000000 in
theorem rFar_any (x0 y0 z0 x1 y1 z1 px py pz : Int) (w : World) :
    Calls Tryz.prog 199 #[.agg #[.int .i64 x0, .int .i64 y0, .int .i64 z0, .int .i64 x1, .int .i64 y1, .int .i64 z1], .agg #[.int .i64 px, .int .i64 py, .int .i64 pz]] w fun e w' => e = .returned (.int .i64 (farP x0 y0 z0 x1 y1 z1 px py pz)) ∧ w.grownBy w' none := by
  go_enter Tryz.func199, Tryz.ntmps199
  go_wp2_with fail
  (with_reducible refine (rvalidBox_any _ _ _ _ _ _ _).mono ?_)
  rintro e w1 ⟨rfl, hg1⟩
  obtain ⟨ca, hza⟩ := gb_at hg1 (b := w.heap.size) (by first | omega | (simp <;> omega))
  obtain ⟨cb, hzb⟩ := gb_at hg1 (b := w.heap.size + 1) (by first | omega | (simp <;> omega))
  have HG1 := Lib.hid (gb_trans (gb_alloc (gb_alloc (gb_refl _ _) _) _) hg1); clear hg1
  cases hv0 : bP x0 y0 z0 x1 y1 z1
  · go_wp2
    go_ret
    exact ⟨ret_int (by simp [farP, hv0]), HG1.out⟩
  go_wp2_with fail
  (with_reducible refine (rvalid_any _ _ _ _).mono ?_)
  rintro e w2 ⟨rfl, hg2⟩
  obtain ⟨ca2, hza2⟩ := gb_at hg2 hza
  obtain ⟨cb2, hzb2⟩ := gb_at hg2 hzb
  have HG2 := Lib.hid (gb_trans HG1.out hg2); clear hg2 HG1
  cases hv1 : vP px py pz
  · go_wp2
    go_ret
    exact ⟨ret_int (by simp [farP, hv1]), HG2.out⟩
  have HE := Lib.hid (show farP x0 y0 z0 x1 y1 z1 px py pz = farS px x0 x1 * farS px x0 x1 + farS py y0 y1 * farS py y0 y1 + farS pz z0 z1 * farS pz z0 z1 from by simp [farP, hv0, hv1, farD])
  obtain ⟨b0, b1, b2, b3, b4⟩ := bP_iff hv0
  have hi0 := vP_iff b0
  have hi1 := vP_iff b1
  have hi2 := vP_iff hv1
  clear hv0 hv1 b0 b1
  have bx : -4194304 ≤ farS px x0 x1 ∧ farS px x0 x1 ≤ 4194304 := by unfold farS; omega
  have by' : -4194304 ≤ farS py y0 y1 ∧ farS py y0 y1 ≤ 4194304 := by unfold farS; omega
  have bz : -4194304 ≤ farS pz z0 z1 ∧ farS pz z0 z1 ≤ 4194304 := by unfold farS; omega
  have NX := Lib.hid (fun (u : World) => rfar_any px x0 x1 u (by omega) (by omega) (by omega) (by omega) (by omega) (by omega))
  have NY := Lib.hid (fun (u : World) => rfar_any py y0 y1 u (by omega) (by omega) (by omega) (by omega) (by omega) (by omega))
  have NZ := Lib.hid (fun (u : World) => rfar_any pz z0 z1 u (by omega) (by omega) (by omega) (by omega) (by omega) (by omega))
  clear hi0 hi1 hi2 b2 b3 b4
  generalize farS px x0 x1 = sx at *
  generalize farS py y0 y1 = sy at *
  generalize farS pz z0 z1 = sz at *
  have CX := Lib.hid (fun (u : World) => rsq_any sx u (by omega) (by omega))
  have CY := Lib.hid (fun (u : World) => rsq_any sy u (by omega) (by omega))
  have CZ := Lib.hid (fun (u : World) => rsq_any sz u (by omega) (by omega))
  obtain ⟨sx0, sx1, -⟩ := sq_small (d := sx) (by omega) (by omega)
  obtain ⟨sy0, sy1, -⟩ := sq_small (d := sy) (by omega) (by omega)
  obtain ⟨sz0, sz1, -⟩ := sq_small (d := sz) (by omega) (by omega)
  generalize sx * sx = tx at *
  generalize sy * sy = ty at *
  generalize sz * sz = tz at *
  have hnt := fun (x : Up w2) (o : Nat) => ever_cell x (b := w.heap.size) (o := o) hza2
  have hnu := fun (x : Up w2) (o : Nat) => ever_cell x (b := w.heap.size + 1) (o := o) hzb2
  go_wp2_with fail
  (refine wp_region_grown (by kernel_rfl) (by kernel_rfl) ?_; (repeat (go_big_quiet_step (first
    | (go_at_call 272; first | (with_reducible exact Calls.grown_same (NX.out _)) | (with_reducible exact Calls.grown_same (NY.out _)) | (with_reducible exact Calls.grown_same (NZ.out _)))
    | (go_at_call 270; first | (with_reducible exact Calls.grown_same (CX.out _)) | (with_reducible exact Calls.grown_same (CY.out _)) | (with_reducible exact Calls.grown_same (CZ.out _)))))); refine wpQuiet_nil ?_; intro wq hq)
  go_wp2
  go_ret
  exact ⟨ret_int (by rw [HE.out]), gb_trans HG2.out hq⟩
end LRefB
section LRefD
open Go.RowKit Rg
set_option maxHeartbeats 1000000 in
theorem rvalidPhase_any (x y z e l n : Int) (w : World) :
    Calls Tryz.prog 128 #[.agg #[.int .i64 x, .int .i64 y, .int .i64 z, .int .i64 e, .int .i64 l, .int .i64 n]] w fun r w' => r = .returned (.bool (phP x y z e l n)) ∧ w.grownBy w' none := by
  go_enter Tryz.func128, Tryz.ntmps128
  go_wp2_with fail
  (with_reducible refine (rvalid_any _ _ _ _).mono ?_)
  rintro r w1 ⟨rfl, hg1⟩
  obtain ⟨ca, hza⟩ := gb_at hg1 (b := w.heap.size) (by simp)
  have HG1 := Lib.hid (gb_trans (gb_alloc (gb_refl _ _) _) hg1); clear hg1
  cases hv0 : vP x y z
  · go_wp2
    go_ret
    exact ⟨ret_bool (by simp [phP, hv0]), HG1.out⟩
  have H0 := Lib.hid hv0; clear hv0
  rcases Int.lt_or_le e 0 with h0 | h0
  rotate_left
  rcases Int.lt_or_le l e with h1 | h1
  rotate_left
  rcases Int.lt_or_le 18014398509481984 l with h2 | h2
  rotate_left
  rcases Int.lt_or_le n 1 with h3 | h3
  rotate_left
  rcases Int.lt_or_le 100 n with h4 | h4
  all_goals
    go_wp2
    go_ret
    refine ⟨ret_bool (by simp [phP, H0.out]; omega), HG1.out⟩
set_option maxRecDepth 100000 in
set_option maxHeartbeats 1000000 in
theorem rbinterval_any (step : Int) (vl vh : Value) (ls hs : List Int) (x0 y0 z0 x1 y1 z1 px py pz : Int) (w : World) (h1 : Sl w vl ls) (h2 : Sl w vh hs) :
    Calls Tryz.prog 129 #[.agg #[.int .i64 step, vl, vh], .agg #[.int .i64 x0, .int .i64 y0, .int .i64 z0, .int .i64 x1, .int .i64 y1, .int .i64 z1], .agg #[.int .i64 px, .int .i64 py, .int .i64 pz]] w fun e w' =>
      e = .returned (bndV step ls hs x0 y0 z0 x1 y1 z1 px py pz) ∧ w.grownBy w' none := by
  go_enter Tryz.func129, Tryz.ntmps129
  have hg0 := gb_alloc (gb_alloc (gb_alloc (gb_refl w none) (.cells #[.int .i64 step, vl, vh] 30)) (.cells #[.int .i64 x0, .int .i64 y0, .int .i64 z0, .int .i64 x1, .int .i64 y1, .int .i64 z1] 28)) (.cells #[.int .i64 px, .int .i64 py, .int .i64 pz] 26)
  go_wp2_with fail
  (with_reducible refine (rvalidate_any _ _ _ ls hs _ (h1.after hg0) (h2.after hg0)).mono ?_)
  rintro e w1 ⟨rfl, hg⟩
  obtain ⟨ca, hza⟩ := gb_at hg (b := w.heap.size) (by simp <;> omega)
  obtain ⟨cb, hzb⟩ := gb_at hg (b := w.heap.size + 1) (by simp <;> omega)
  obtain ⟨cc, hzc⟩ := gb_at hg (b := w.heap.size + 1 + 1) (by simp <;> omega)
  have hg1 := gb_trans hg0 hg
  have S1 := Lib.hid (h1.after hg1); have S2 := Lib.hid (h2.after hg1); have HG := Lib.hid hg1; clear hg hg0 hg1 h1 h2
  by_cases hok : tOk step ls hs
  rotate_left
  · have he : tE step ls hs = 21 := (tE_bad hok).symm
    go_wp2
    refine bodyPost_ret (v := .tuple #[.int .i64 0, .int .i64 0, .int .i64 21]) (by simp [results, Tryz.results129, go_sem]) rfl ⟨congrArg Ending.returned (bnd_table hok), HG.out⟩
  have he : tE step ls hs = 0 := (tE_ok hok).symm
  have HOK := Lib.hid hok; clear hok
  go_wp2_with fail
  (with_reducible refine (rvalidBox_any _ _ _ _ _ _ _).mono ?_)
  rintro e w2 ⟨rfl, hg2⟩
  obtain ⟨ca2, hza2⟩ := gb_at hg2 hza
  obtain ⟨cb2, hzb2⟩ := gb_at hg2 hzb
  obtain ⟨cc2, hzc2⟩ := gb_at hg2 hzc
  have S1b := Lib.hid (S1.out.after hg2); have S2b := Lib.hid (S2.out.after hg2); have HG2 := Lib.hid (gb_trans HG.out hg2); clear hg2 S1 S2 HG he
  cases hv0 : bP x0 y0 z0 x1 y1 z1
  · go_wp2
    refine bodyPost_ret (v := .tuple #[.int .i64 0, .int .i64 0, .int .i64 20]) (by simp [results, Tryz.results129, go_sem]) rfl ⟨congrArg Ending.returned (bnd_region HOK.out (by simp [hv0])), HG2.out⟩
  go_wp2_with fail
  (with_reducible refine (rvalid_any _ _ _ _).mono ?_)
  rintro e w3 ⟨rfl, hg3⟩
  obtain ⟨ca3, hza3⟩ := gb_at hg3 hza2
  obtain ⟨cb3, hzb3⟩ := gb_at hg3 hzb2
  obtain ⟨cc3, hzc3⟩ := gb_at hg3 hzc2
  have S1c := Lib.hid (S1b.out.after hg3); have S2c := Lib.hid (S2b.out.after hg3); have HG3 := Lib.hid (gb_trans HG2.out hg3); clear hg3 S1b S2b HG2
  cases hv1 : vP px py pz
  · go_wp2
    refine bodyPost_ret (v := .tuple #[.int .i64 0, .int .i64 0, .int .i64 20]) (by simp [results, Tryz.results129, go_sem]) rfl ⟨congrArg Ending.returned (bnd_region HOK.out (by simp [hv0, hv1])), HG3.out⟩
  have HI := Lib.hid (bnd_btw (x0 := x0) (y0 := y0) (z0 := z0) (x1 := x1) (y1 := y1) (z1 := z1) (px := px) (py := py) (pz := pz) HOK.out (by simp [hv0, hv1]))
  have HF := Lib.hid (farP_small x0 y0 z0 x1 y1 z1 px py pz)
  have HE := Lib.hid (show nearP x0 y0 z0 x1 y1 z1 px py pz = nearP x0 y0 z0 x1 y1 z1 px py pz ∧ farP x0 y0 z0 x1 y1 z1 px py pz = farP x0 y0 z0 x1 y1 z1 px py pz from ⟨rfl, rfl⟩)
  clear hv0 hv1
  have HN := Lib.hid (fun (u : World) => rNear_any x0 y0 z0 x1 y1 z1 px py pz u)
  have HA := Lib.hid (fun (u : World) => rFar_any x0 y0 z0 x1 y1 z1 px py pz u)
  generalize nearP x0 y0 z0 x1 y1 z1 px py pz = d at *
  generalize farP x0 y0 z0 x1 y1 z1 px py pz = d' at *
  have ua := fun (x : Up w3) (o : Nat) => ever_cell x (b := w.heap.size) (o := o) hza3
  have ub := fun (x : Up w3) (o : Nat) => ever_cell x (b := w.heap.size + 1) (o := o) hzb3
  have uc := fun (x : Up w3) (o : Nat) => ever_cell x (b := w.heap.size + 1 + 1) (o := o) hzc3
  have BT := Lib.hid (show btw step ls hs d d' = .tuple #[.int .i64 (btwA step ls hs d d'), .int .i64 (btwB step ls hs d d'), .int .i64 (btwE step ls hs d d')] from rfl)
  have HB := Lib.hid (fun (u : World) (s1 : Sl u vl ls) (s2 : Sl u vh hs) => rbetween_any step d d' vl vh ls hs u s1 s2 HF.out)
  rw [BT.out] at HB
  go_wp2_with fail
  (refine wp_region_grown (by kernel_rfl) (by kernel_rfl) ?_; (repeat (go_big_quiet_step (first
    | (go_at_call 198; exact Calls.grown_of (HN.out _))
    | (go_at_call 199; exact Calls.grown_of (HA.out _))
    | (go_at_call 197; exact Calls.grown_of (HB.out _ (S1c.out.after (ever_up _)) (S2c.out.after (ever_up _))))))); refine wpQuiet_nil ?_; intro wq hq)
  go_wp2
  exact bodyPost_ret (v := .tuple #[.int .i64 (btwA step ls hs d d'), .int .i64 (btwB step ls hs d d'), .int .i64 (btwE step ls hs d d')]) (by simp [results, Tryz.results129, go_sem]) rfl ⟨by rw [← HI.out]; rfl, gb_trans HG3.out hq⟩
set_option maxRecDepth 100000 in
set_option maxHeartbeats 2000000 in
theorem rzone_any (step : Int) (vl vh : Value) (ls hs : List Int) (x0 y0 z0 x1 y1 z1 px py pz e l n : Int) (w : World) (h1 : Sl w vl ls) (h2 : Sl w vh hs) :
    Calls Tryz.prog 78 #[.agg #[.int .i64 step, vl, vh], .agg #[.int .i64 x0, .int .i64 y0, .int .i64 z0, .int .i64 x1, .int .i64 y1, .int .i64 z1], .agg #[.int .i64 px, .int .i64 py, .int .i64 pz, .int .i64 e, .int .i64 l, .int .i64 n]] w fun r w' =>
      r = .returned (znV step ls hs x0 y0 z0 x1 y1 z1 px py pz e l n) ∧ w.grownBy w' none := by
  go_enter Tryz.func78, Tryz.ntmps78
  have hg0 := gb_alloc (gb_alloc (gb_alloc (gb_alloc (gb_refl w none) (.cells #[.int .i64 step, vl, vh] 30)) (.cells #[.int .i64 x0, .int .i64 y0, .int .i64 z0, .int .i64 x1, .int .i64 y1, .int .i64 z1] 28)) (.cells #[.int .i64 px, .int .i64 py, .int .i64 pz, .int .i64 e, .int .i64 l, .int .i64 n] 36)) (.cells #[.int .i64 0, .int .i64 0] 129)
  have hR0 : ((((w.alloc (.cells #[.int .i64 step, vl, vh] 30)).alloc (.cells #[.int .i64 x0, .int .i64 y0, .int .i64 z0, .int .i64 x1, .int .i64 y1, .int .i64 z1] 28)).alloc (.cells #[.int .i64 px, .int .i64 py, .int .i64 pz, .int .i64 e, .int .i64 l, .int .i64 n] 36)).alloc (.cells #[.int .i64 0, .int .i64 0] 129)).heap[w.heap.size + 1 + 1 + 1]? = some (.cells #[.int .i64 0, .int .i64 0] 129 (0, 0)) := by
    simpa using heap_alloc_new (((w.alloc _).alloc _).alloc _) _
  have S1 := Lib.hid (h1.after hg0); have S2 := Lib.hid (h2.after hg0); have HG0 := Lib.hid hg0; have HR0 := Lib.hid hR0; clear h1 h2 hg0 hR0
  go_wp2_with fail
  (with_reducible refine (rvalidate_any _ _ _ ls hs _ S1.out S2.out).mono ?_)
  rintro r w1 ⟨rfl, hg⟩
  obtain ⟨ca, hza⟩ := gb_at hg (b := w.heap.size) (by simp <;> omega)
  obtain ⟨cb, hzb⟩ := gb_at hg (b := w.heap.size + 1) (by simp <;> omega)
  obtain ⟨cc, hzc⟩ := gb_at hg (b := w.heap.size + 1 + 1) (by simp <;> omega)
  have S1a := Lib.hid (S1.out.after hg); have S2a := Lib.hid (S2.out.after hg); have HG1 := Lib.hid (gb_trans HG0.out hg); have HR1 := Lib.hid (block_kept hg HR0.out rfl); clear hg S1 S2 HG0 HR0
  have FIN : ∀ (u : World) (r a b : Int), w.grownBy u none → u.heap[w.heap.size + 1 + 1 + 1]? = some (.cells #[.int .i64 0, .int .i64 0] 129 (0, 0)) → w.grownBy (u.setRow (w.heap.size + 1 + 1 + 1) #[.int .i64 a, .int .i64 b]) none ∧ (u.setRow (w.heap.size + 1 + 1 + 1) #[.int .i64 a, .int .i64 b]).heap[w.heap.size + 1 + 1 + 1]? = some (.cells #[.int .i64 a, .int .i64 b] 129 (0, 0)) :=
    fun u r a b hg hR => ⟨gb_setRow hg (.inl (by omega)), setRow_at hR⟩
  have FN := Lib.hid FIN; clear FIN
  by_cases hok : tOk step ls hs
  rotate_left
  · have he : tE step ls hs = 21 := (tE_bad hok).symm
    have hR := HR1.out
    obtain ⟨k1, k2⟩ := FN.out w1 0 0 0 HG1.out HR1.out
    obtain ⟨e0, e1⟩ := cells2 k2
    have K1 := Lib.hid k1; clear k1 k2
    go_wp2_with (with_reducible refine wpList_store_row rfl _ _ _ rfl (w.heap.size + 1 + 1 + 1) #[.int .i64 0, .int .i64 0] rfl rfl _ _ hR (by kernel_rfl) rfl (by simp [Value.oneCell']) ?_)
    exact bodyPost_ret (v := .tuple #[.agg #[.int .i64 0, .int .i64 0], .int .i64 21]) (by simp [results, Tryz.results78, go_sem, e0, e1]) rfl ⟨congrArg Ending.returned (zn_err 21 (by simp [znE, hok]) (by omega)), K1.out⟩
  have he : tE step ls hs = 0 := (tE_ok hok).symm
  have HOK := Lib.hid hok; clear hok
  go_wp2_with fail
  (with_reducible refine (rvalidBox_any _ _ _ _ _ _ _).mono ?_)
  rintro r w2 ⟨rfl, hg2⟩
  obtain ⟨ca2, hza2⟩ := gb_at hg2 hza
  obtain ⟨cb2, hzb2⟩ := gb_at hg2 hzb
  obtain ⟨cc2, hzc2⟩ := gb_at hg2 hzc
  have S1b := Lib.hid (S1a.out.after hg2); have S2b := Lib.hid (S2a.out.after hg2); have HG2 := Lib.hid (gb_trans HG1.out hg2); have HR2 := Lib.hid (block_kept hg2 HR1.out rfl); clear hg2 S1a S2a HG1 HR1 he
  cases hv0 : bP x0 y0 z0 x1 y1 z1
  · have hR := HR2.out
    obtain ⟨k1, k2⟩ := FN.out w2 0 0 0 HG2.out HR2.out
    obtain ⟨e0, e1⟩ := cells2 k2
    have K1 := Lib.hid k1; clear k1 k2
    go_wp2_with (with_reducible refine wpList_store_row rfl _ _ _ rfl (w.heap.size + 1 + 1 + 1) #[.int .i64 0, .int .i64 0] rfl rfl _ _ hR (by kernel_rfl) rfl (by simp [Value.oneCell']) ?_)
    exact bodyPost_ret (v := .tuple #[.agg #[.int .i64 0, .int .i64 0], .int .i64 20]) (by simp [results, Tryz.results78, go_sem, e0, e1]) rfl ⟨congrArg Ending.returned (zn_err 20 (by simp [znE, HOK.out, hv0]) (by omega)), K1.out⟩
  have HV0 := Lib.hid hv0; clear hv0
  go_wp2_with fail
  (with_reducible refine (rvalidPhase_any _ _ _ _ _ _ _).mono ?_)
  rintro r w3 ⟨rfl, hg3⟩
  obtain ⟨ca3, hza3⟩ := gb_at hg3 hza2
  obtain ⟨cb3, hzb3⟩ := gb_at hg3 hzb2
  obtain ⟨cc3, hzc3⟩ := gb_at hg3 hzc2
  have S1c := Lib.hid (S1b.out.after hg3); have S2c := Lib.hid (S2b.out.after hg3); have HG3 := Lib.hid (gb_trans HG2.out hg3); have HR3 := Lib.hid (block_kept hg3 HR2.out rfl); clear hg3 S1b S2b HG2 HR2
  cases hv1 : phP px py pz e l n
  · have hR := HR3.out
    obtain ⟨k1, k2⟩ := FN.out w3 0 0 0 HG3.out HR3.out
    obtain ⟨e0, e1⟩ := cells2 k2
    have K1 := Lib.hid k1; clear k1 k2
    go_wp2_with (with_reducible refine wpList_store_row rfl _ _ _ rfl (w.heap.size + 1 + 1 + 1) #[.int .i64 0, .int .i64 0] rfl rfl _ _ hR (by kernel_rfl) rfl (by simp [Value.oneCell']) ?_)
    exact bodyPost_ret (v := .tuple #[.agg #[.int .i64 0, .int .i64 0], .int .i64 23]) (by simp [results, Tryz.results78, go_sem, e0, e1]) rfl ⟨congrArg Ending.returned (zn_err 23 (by simp [znE, HOK.out, HV0.out, hv1]) (by omega)), K1.out⟩
  have HV1 := Lib.hid hv1; clear hv1
  go_wp2_with fail
  (with_reducible refine (rbinterval_any _ _ _ ls hs _ _ _ _ _ _ _ _ _ _ S1c.out S2c.out).mono ?_)
  rintro r w4 ⟨rfl, hg4⟩
  obtain ⟨cc4, hzc4⟩ := gb_at hg4 hzc3
  have HG4 := Lib.hid (gb_trans HG3.out hg4); have HR4 := Lib.hid (block_kept hg4 HR3.out rfl); clear hg4 S1c S2c HG3 HR3 cb cb2 cb3 hzb hzb2 hzb3 ca ca2 ca3 hza hza2 hza3
  rw [show bndV step ls hs x0 y0 z0 x1 y1 z1 px py pz = .tuple #[.int .i64 (bndA step ls hs x0 y0 z0 x1 y1 z1 px py pz), .int .i64 (bndB step ls hs x0 y0 z0 x1 y1 z1 px py pz), .int .i64 (bndE step ls hs x0 y0 z0 x1 y1 z1 px py pz)] from rfl]
  have HE : Hid (znE step ls hs x0 y0 z0 x1 y1 z1 px py pz e l n = bndE step ls hs x0 y0 z0 x1 y1 z1 px py pz) := Lib.hid (by simp [znE, HOK.out, HV0.out, HV1.out])
  obtain ⟨bb1, bb2, bb3, bb4⟩ := bnd_bounds step ls hs x0 y0 z0 x1 y1 z1 px py pz
  have HZ := Lib.hid (zn_ok (step := step) (ls := ls) (hs := hs) (x0 := x0) (y0 := y0) (z0 := z0) (x1 := x1) (y1 := y1) (z1 := z1) (px := px) (py := py) (pz := pz) (e := e) (l := l) (n := n))
  obtain ⟨-, p1, p2, p3, -, -⟩ := phP_iff.1 HV1.out
  generalize bndA step ls hs x0 y0 z0 x1 y1 z1 px py pz = ba at *
  generalize bndB step ls hs x0 y0 z0 x1 y1 z1 px py pz = bb at *
  generalize bndE step ls hs x0 y0 z0 x1 y1 z1 px py pz = be at *
  by_cases hbe : be = 0
  · subst hbe
    have hR := HR4.out
    obtain ⟨k1, k2⟩ := FN.out w4 0 (e - bb) (l - ba) HG4.out HR4.out
    obtain ⟨e0, e1⟩ := cells2 k2
    have K1 := Lib.hid k1; clear k1 k2
    go_wp2_with (with_reducible refine wpList_store_row rfl _ _ _ rfl (w.heap.size + 1 + 1 + 1) #[.int .i64 (e - bb), .int .i64 (l - ba)] rfl rfl _ _ hR (by kernel_rfl) rfl (by simp [Value.oneCell']) ?_)
    exact bodyPost_ret (v := .tuple #[.agg #[.int .i64 (e - bb), .int .i64 (l - ba)], .int .i64 0]) (by simp [results, Tryz.results78, go_sem, e0, e1]) rfl ⟨congrArg Ending.returned (HZ.out HE.out), K1.out⟩
  · have hR := HR4.out
    obtain ⟨k1, k2⟩ := FN.out w4 0 0 0 HG4.out HR4.out
    obtain ⟨e0, e1⟩ := cells2 k2
    have K1 := Lib.hid k1; clear k1 k2
    go_wp2_with (with_reducible refine wpList_store_row rfl _ _ _ rfl (w.heap.size + 1 + 1 + 1) #[.int .i64 0, .int .i64 0] rfl rfl _ _ hR (by kernel_rfl) rfl (by simp [Value.oneCell']) ?_)
    exact bodyPost_ret (v := .tuple #[.agg #[.int .i64 0, .int .i64 0], .int .i64 be]) (by simp [results, Tryz.results78, go_sem, e0, e1]) rfl ⟨congrArg Ending.returned (zn_err be HE.out hbe), K1.out⟩
end LRefD
end Go.Proofs.YtnmjefgldoaneaaGreatDoor
