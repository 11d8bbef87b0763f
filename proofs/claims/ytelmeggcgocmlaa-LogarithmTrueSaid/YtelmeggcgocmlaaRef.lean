/- The reference of chapter 25: Lower, Upper, Between. -/
import Derived.Test.YtelmeggcgocmlaaTrv
import Derived.Test.YtelmeggcgocmlaaBnd
import Derived.Test.YtelmeggcgocmlaaMem
import Derived.Test.YtelmeggcgocmlaaGeoP
import Derived.Test.YtelmeggcgocmlaaBase
import Derived.Test.YtelmeggcgocmlaaRgMade
namespace Go.Proofs.Ytelmeggcgocmlaa
set_option linter.all false
section LRefT
open Go.RowKit

set_option maxRecDepth 100000 in
set_option maxHeartbeats 1000000 in
theorem rlower_any (step d : Int) (vl vh : Value) (ls hs : List Int) (w : World) (h1 : Sl w vl ls) (h2 : Sl w vh hs) (ht : tOk step ls hs) (h0 : 0 ≤ d) (hd : d ≤ reachS step ls) :
    Calls Try.prog 74 #[.agg #[.int .i64 step, vl, vh], .int .i64 d] w fun e w' => e = .returned (.int .i64 (at0 ls (loI step d))) ∧ w.grownBy w' none := by
  have hr := (reachS_le ht).2.1
  obtain ⟨t1, t2, t3, t4, t5, -⟩ := ht
  have hdd : -9223372036854775808 ≤ d ∧ d ≤ 267386880 := by omega
  unfold reachS at hd
  obtain ⟨di1, di2⟩ := loI_spec (d := d) (n := ls.length) t1 h0 hd t4
  obtain ⟨b1, off1, cap1, rfl, hb1, hcap1, hcapb1, hcell1⟩ := h1.block (by omega)
  obtain ⟨ha, hn, hc, rfl⟩ : ∃ a n c, vh = .slice a n c := by rcases h2 with ⟨_, a, cap, rfl⟩ | ⟨b, off, cap, rfl, _⟩ <;> exact ⟨_, _, _, rfl⟩
  have hl1 := hcell1 _ di2
  clear h1 h2 hcell1
  generalize at0 ls (loI step d) = y at *
  generalize loI step d = i at *
  generalize ls.length = n at *
  clear hd hr t3
  have hg0 := gb_alloc (gb_refl w none) (.cells #[.int .i64 step, .slice (some ⟨b1, off1, none⟩) n cap1, .slice ha hn hc] 46)
  have hl2 := (gb_cell hg0 (b := b1) (o := off1 + i) hb1 (by simp)).trans hl1
  have HT := Lib.hid (heap_alloc_new w (.cells #[.int .i64 step, .slice (some ⟨b1, off1, none⟩) n cap1, .slice ha hn hc] 46))
  have hbz : b1 < (w.alloc (.cells #[.int .i64 step, .slice (some ⟨b1, off1, none⟩) n cap1, .slice ha hn hc] 46)).heap.size := by simp; omega
  clear hl1
  go_enter Try.func74, Try.ntmps74
  go_wp2_with fail
  have HG := Lib.hid hg0; clear hg0
  have hzw := block_lt' HT.out
  obtain ⟨c0, c1, c2⟩ := cells3 HT.out
  generalize w.alloc (.cells #[.int .i64 step, .slice (some ⟨b1, off1, none⟩) n cap1, .slice ha hn hc] 46) = w1 at *
  have e1 := fun (x : Up w1) (o : Nat) => ever_cell x (b := w.heap.size) (o := o) hzw
  have e2 := fun (x : Up w1) (o : Nat) => ever_cell x (b := b1) (o := o) hbz
  (refine wp_region_grown (by kernel_rfl) (by kernel_rfl) ?_; (repeat (go_big_quiet_step (fail))); refine wpQuiet_nil ?_; intro wq hq)
  go_wp2
  go_ret
  exact ⟨rfl, gb_trans HG.out hq⟩

set_option maxRecDepth 100000 in
set_option maxHeartbeats 1000000 in
theorem rupper_any (step d : Int) (vl vh : Value) (ls hs : List Int) (w : World) (h1 : Sl w vl ls) (h2 : Sl w vh hs) (ht : tOk step ls hs) (h0 : 0 ≤ d) (hd : d ≤ reachS step ls) :
    Calls Try.prog 76 #[.agg #[.int .i64 step, vl, vh], .int .i64 d] w fun e w' => e = .returned (.int .i64 (at0 hs (upI step d))) ∧ w.grownBy w' none := by
  have hr := (reachS_le ht).2.1
  obtain ⟨t1, t2, t3, t4, t5, -⟩ := ht
  have hdd : -9223372036854775808 ≤ d ∧ d ≤ 267386880 := by omega
  unfold reachS at hd
  obtain ⟨di1, di2⟩ := upI_spec (d := d) (n := ls.length) t1 h0 hd t4
  rw [t3] at di2
  obtain ⟨b1, off1, cap1, rfl, hb1, hcap1, hcapb1, hcell1⟩ := h2.block (by omega)
  obtain ⟨ha, hn, hc, rfl⟩ : ∃ a n c, vl = .slice a n c := by rcases h1 with ⟨_, a, cap, rfl⟩ | ⟨b, off, cap, rfl, _⟩ <;> exact ⟨_, _, _, rfl⟩
  have hl1 := hcell1 _ di2
  clear h1 h2 hcell1
  have wd : IntKind.i64.wrap (d + step) = d + step := by rw [IntKind.wrap_i64]; omega
  obtain ⟨q, hq⟩ : ∃ q, q = d + step - 1 := ⟨_, rfl⟩
  rw [← hq] at di1
  have we : IntKind.i64.wrap (d + step - 1) = q := by rw [IntKind.wrap_i64]; omega
  have hq0 : 0 ≤ q ∧ q ≤ 1000000000 := by omega
  clear hq
  generalize at0 hs (upI step d) = y at *
  generalize upI step d = i at *
  generalize hs.length = n at *
  clear hd hr t3
  have hg0 := gb_alloc (gb_refl w none) (.cells #[.int .i64 step, .slice ha hn hc, .slice (some ⟨b1, off1, none⟩) n cap1] 46)
  have hl2 := (gb_cell hg0 (b := b1) (o := off1 + i) hb1 (by simp)).trans hl1
  have HT := Lib.hid (heap_alloc_new w (.cells #[.int .i64 step, .slice ha hn hc, .slice (some ⟨b1, off1, none⟩) n cap1] 46))
  have hbz : b1 < (w.alloc (.cells #[.int .i64 step, .slice ha hn hc, .slice (some ⟨b1, off1, none⟩) n cap1] 46)).heap.size := by simp; omega
  clear hl1
  go_enter Try.func76, Try.ntmps76
  go_wp2_with fail
  have HG := Lib.hid hg0; clear hg0
  have hzw := block_lt' HT.out
  obtain ⟨c0, c1, c2⟩ := cells3 HT.out
  generalize w.alloc (.cells #[.int .i64 step, .slice ha hn hc, .slice (some ⟨b1, off1, none⟩) n cap1] 46) = w1 at *
  have e1 := fun (x : Up w1) (o : Nat) => ever_cell x (b := w.heap.size) (o := o) hzw
  have e2 := fun (x : Up w1) (o : Nat) => ever_cell x (b := b1) (o := o) hbz
  (refine wp_region_grown (by kernel_rfl) (by kernel_rfl) ?_; (repeat (go_big_quiet_step (fail))); refine wpQuiet_nil ?_; intro wq hq)
  go_wp2
  go_ret
  exact ⟨rfl, gb_trans HG.out hq⟩

theorem rReachS_any (step : Int) (vl vh : Value) (ls hs : List Int) (w : World) (h1 : Sl w vl ls) (h2 : Sl w vh hs) (h : tOk step ls hs) :
    Calls Try.prog 36 #[.agg #[.int .i64 step, vl, vh]] w fun e w' => e = .returned (.int .i64 (reachS step ls)) ∧ w.grownBy w' none := by
  have := rReach_any step vl vh ls hs w h1 h2
  rwa [show reachV step ls hs = reachS step ls by simp [reachV, h]] at this

set_option maxRecDepth 100000 in
set_option maxHeartbeats 1000000 in
theorem rbetween_any (step near far : Int) (vl vh : Value) (ls hs : List Int) (w : World) (h1 : Sl w vl ls) (h2 : Sl w vh hs) (hf : far ≤ 9223372036854775807) :
    Calls Try.prog 39 #[.agg #[.int .i64 step, vl, vh], .int .i64 near, .int .i64 far] w fun e w' => e = .returned (btw step ls hs near far) ∧ w.grownBy w' none := by
  go_enter Try.func39, Try.ntmps39
  have hg0 := gb_alloc (gb_refl w none) (.cells #[.int .i64 step, vl, vh] 46)
  go_wp2_with fail
  (with_reducible refine (rvalidate_any _ _ _ ls hs _ (h1.after hg0) (h2.after hg0)).mono ?_)
  rintro e w1 ⟨rfl, hg⟩
  obtain ⟨cb, hz⟩ := gb_at hg (b := w.heap.size) (by simp)
  have hg1 := gb_trans hg0 hg
  have S1 := Lib.hid (h1.after hg1); have S2 := Lib.hid (h2.after hg1); have HG := Lib.hid hg1; clear hg hg0 hg1 h1 h2
  by_cases hok : tOk step ls hs
  rotate_left
  · have he : tE step ls hs = 21 := (tE_bad hok).symm
    go_wp2
    refine bodyPost_ret (v := .tuple #[.int .i64 0, .int .i64 0, .int .i64 21]) (by simp [results, Try.results39, go_sem]) rfl ⟨btw_err (by decide) (by simp [btwE, hok]), HG.out⟩
  have he : tE step ls hs = 0 := (tE_ok hok).symm
  have HOK := Lib.hid hok; clear hok
  by_cases c1 : near < 0
  · go_wp2
    refine bodyPost_ret (v := .tuple #[.int .i64 0, .int .i64 0, .int .i64 2]) (by simp [results, Try.results39, go_sem]) rfl ⟨btw_err (by decide) (by simp [btwE, HOK.out, c1]), HG.out⟩
  by_cases c2 : far < near
  · go_wp2
    refine bodyPost_ret (v := .tuple #[.int .i64 0, .int .i64 0, .int .i64 2]) (by simp [results, Try.results39, go_sem]) rfl ⟨btw_err (by decide) (by simp [btwE, HOK.out, c2]), HG.out⟩
  have hnt := fun (x : Up w1) (o : Nat) => ever_cell x (b := w.heap.size) (o := o) hz
  go_wp2_with fail
  (refine wp_region_grown (by kernel_rfl) (by kernel_rfl) ?_; (repeat (go_big_quiet_step (first
    | (go_at_call 73; exact Calls.grown_same (rceil24_any far _ hf))
    | (go_at_call 36; exact Calls.grown_of (rReachS_any _ _ _ ls hs _ (S1.out.after (ever_up _)) (S2.out.after (ever_up _)) HOK.out))))); refine wpQuiet_nil ?_; intro wq hq)
  obtain ⟨wt, hzt⟩ := gb_at hq (b := w.heap.size) hz
  have HG2 := Lib.hid (gb_trans HG.out hq)
  have S1q := Lib.hid (S1.out.after hq); have S2q := Lib.hid (S2.out.after hq); clear S1 S2 HG hnt hq
  by_cases c3 : reachS step ls < ceilI far
  · go_wp2
    refine bodyPost_ret (v := .tuple #[.int .i64 0, .int .i64 0, .int .i64 22]) (by simp [results, Try.results39, go_sem]) rfl ⟨btw_err (by decide) (by simp [btwE, HOK.out, c3]; omega), HG2.out⟩
  have HE := Lib.hid (show btwE step ls hs near far = 0 from by simp [btwE, HOK.out, c3]; omega)
  have hm := floorI_mono (a := near) (b := far) (by omega)
  have hge := ceilI_ge far
  have hff := (floorI_le (n := near) (by omega)).1
  have hcc := (ceilI_le hf).1
  have HLO := Lib.hid (fun (u : World) (s1 : Sl u vl ls) (s2 : Sl u vh hs) => rlower_any step (floorI near) vl vh ls hs u s1 s2 HOK.out hff (by omega))
  have HUP := Lib.hid (fun (u : World) (s1 : Sl u vl ls) (s2 : Sl u vh hs) => rupper_any step (ceilI far) vl vh ls hs u s1 s2 HOK.out hcc (by omega))
  have HX := Lib.hid (btw_ok (step := step) (ls := ls) (hs := hs) HE.out rfl rfl)
  clear hm hge hff hcc
  have hnt := fun (x : Up wq) (o : Nat) => ever_cell x (b := w.heap.size) (o := o) hzt
  go_wp2_with fail
  (refine wp_region_grown (by kernel_rfl) (by kernel_rfl) ?_; (repeat (go_big_quiet_step (first
    | (go_at_call 73; exact Calls.grown_same (rceil24_any far _ hf))
    | (go_at_call 75; exact Calls.grown_same (rfloor24_any near _ (by omega)))
    | (go_at_call 74; exact Calls.grown_of (HLO.out _ (S1q.out.after (ever_up _)) (S2q.out.after (ever_up _))))
    | (go_at_call 76; exact Calls.grown_of (HUP.out _ (S1q.out.after (ever_up _)) (S2q.out.after (ever_up _))))))); refine wpQuiet_nil ?_; intro wq hq)
  go_wp2
  exact bodyPost_ret (v := .tuple #[.int .i64 (at0 ls (loI step (floorI near))), .int .i64 (at0 hs (upI step (ceilI far))), .int .i64 0]) (by simp [results, Try.results39, go_sem]) rfl ⟨HX.out, gb_trans HG2.out hq⟩
end LRefT
section LRefA
open Go.RowKit

set_option maxHeartbeats 1000000 in
theorem rvalid_any (x y z : Int) (w : World) :
    Calls Try.prog 57 #[.agg #[.int .i64 x, .int .i64 y, .int .i64 z]] w fun e w' => e = .returned (.bool (vP x y z)) ∧ w.grownBy w' none := by
  rcases three x (-1048576) 1048576 with hx | ⟨hx1, hx2⟩ | ⟨hx1, hx2⟩
  rotate_left 2
  rcases three y (-1048576) 1048576 with hy | ⟨hy1, hy2⟩ | ⟨hy1, hy2⟩
  rotate_left 2
  rcases three z (-16384) 1048576 with hz | ⟨hz1, hz2⟩ | ⟨hz1, hz2⟩
  all_goals
    go_enter Try.func57, Try.ntmps57
    go_wp2
  all_goals
    go_ret
    refine ⟨ret_bool (by unfold vP; simp; omega), ?_⟩
    repeat (first | exact gb_refl _ _ | refine gb_alloc ?_ _)

set_option maxHeartbeats 1000000 in
theorem rvalidBox_any (x0 y0 z0 x1 y1 z1 : Int) (w : World) :
    Calls Try.prog 12 #[.agg #[.int .i64 x0, .int .i64 y0, .int .i64 z0, .int .i64 x1, .int .i64 y1, .int .i64 z1]] w fun e w' => e = .returned (.bool (bP x0 y0 z0 x1 y1 z1)) ∧ w.grownBy w' none := by
  go_enter Try.func12, Try.ntmps12
  go_wp2_with fail
  (with_reducible refine (rvalid_any _ _ _ _).mono ?_)
  rintro e w1 ⟨rfl, hg1⟩
  obtain ⟨cb, hz⟩ := gb_at hg1 (b := w.heap.size) (by simp)
  have HG1 := Lib.hid (gb_trans (gb_alloc (gb_refl _ _) _) hg1); clear hg1
  cases hv0 : vP x0 y0 z0
  · go_wp2
    go_ret
    exact ⟨ret_bool (by simp [bP, hv0]), HG1.out⟩
  go_wp2_with fail
  (with_reducible refine (rvalid_any _ _ _ _).mono ?_)
  rintro e w2 ⟨rfl, hg2⟩
  obtain ⟨cb2, hz2⟩ := gb_at hg2 hz
  have HG2 := Lib.hid (gb_trans HG1.out hg2); clear hg2 HG1
  cases hv1 : vP x1 y1 z1
  · go_wp2
    go_ret
    exact ⟨ret_bool (by simp [bP, hv1]), HG2.out⟩
  have HV0 := Lib.hid hv0; have HV1 := Lib.hid hv1; clear hv0 hv1
  rcases Int.lt_or_le x1 x0 with hx | hx
  rotate_left
  rcases Int.lt_or_le y1 y0 with hy | hy
  rotate_left
  rcases Int.lt_or_le z1 z0 with hz | hz
  all_goals
    go_wp2
    go_ret
    refine ⟨ret_bool (by simp [bP, HV0.out, HV1.out]; omega), HG2.out⟩

theorem rsq_any (n : Int) (w : World) (h1 : -4194304 ≤ n) (h2 : n ≤ 4194304) :
    Calls Try.prog 61 #[.int .i64 n] w fun e w' => e = .returned (.int .i64 (n * n)) ∧ w = w' := by
  obtain ⟨s0, s1, s2⟩ := sq_small (d := n) h1 h2
  generalize hq : n * n = q at *
  go_enter Try.func61, Try.ntmps61
  go_wp2
  go_ret
  exact ⟨rfl, rfl⟩
theorem rnear_any (x lo hi : Int) (w : World) (h1 : -2000000 ≤ x) (h2 : x ≤ 2000000) (h3 : -2000000 ≤ lo) (h4 : lo ≤ 2000000) (h5 : -2000000 ≤ hi) (h6 : hi ≤ 2000000) :
    Calls Try.prog 62 #[.int .i64 lo, .int .i64 hi, .int .i64 x] w fun e w' => e = .returned (.int .i64 (nearS x lo hi)) ∧ w = w' := by
  go_enter Try.func62, Try.ntmps62
  go_wp2
  all_goals
    go_ret
    exact ⟨ret_int (by unfold nearS; omega), rfl⟩
theorem rfar_any (x lo hi : Int) (w : World) (h1 : -2000000 ≤ x) (h2 : x ≤ 2000000) (h3 : -2000000 ≤ lo) (h4 : lo ≤ 2000000) (h5 : -2000000 ≤ hi) (h6 : hi ≤ 2000000) :
    Calls Try.prog 64 #[.int .i64 lo, .int .i64 hi, .int .i64 x] w fun e w' => e = .returned (.int .i64 (farS x lo hi)) ∧ w = w' := by
  go_enter Try.func64, Try.ntmps64
  go_wp2
  go_ret
  exact ⟨ret_int (by unfold farS; omega), rfl⟩
theorem rmiddle_any (a b : Int) (w : World) (h1 : -2000000 ≤ a) (h2 : a ≤ b) (h3 : b ≤ 2000000) :
    Calls Try.prog 58 #[.int .i64 a, .int .i64 b] w fun e w' => e = .returned (.int .i64 (midI a b)) ∧ w = w' := by
  go_enter Try.func58, Try.ntmps58
  go_wp2
  go_ret
  exact ⟨ret_int (by unfold midI; omega), rfl⟩

def sgn (a b : Int) : Int := if a < b then -1 else if b < a then 1 else 0
def cmpP (x0 y0 z0 x1 y1 z1 : Int) : Int := if sgn x0 x1 ≠ 0 then sgn x0 x1 else if sgn y0 y1 ≠ 0 then sgn y0 y1 else sgn z0 z1

set_option maxHeartbeats 2000000 in
theorem rcontains_any (x0 y0 z0 x1 y1 z1 px py pz : Int) (w : World) :
    Calls Try.prog 23 #[.agg #[.int .i64 x0, .int .i64 y0, .int .i64 z0, .int .i64 x1, .int .i64 y1, .int .i64 z1], .agg #[.int .i64 px, .int .i64 py, .int .i64 pz]] w fun e w' => e = .returned (.bool (conP x0 y0 z0 x1 y1 z1 px py pz)) ∧ w.grownBy w' none := by
  have hv : conP x0 y0 z0 x1 y1 z1 px py pz = (bP x0 y0 z0 x1 y1 z1 && decide (x0 ≤ px ∧ px ≤ x1 ∧ y0 ≤ py ∧ py ≤ y1 ∧ z0 ≤ pz ∧ pz ≤ z1)) := by
    rw [Bool.eq_iff_iff, conP_iff, Bool.and_eq_true, decide_eq_true_eq]
    constructor
    · rintro ⟨h1, h2, h3⟩; exact ⟨h1, h3⟩
    · rintro ⟨h1, h3⟩
      obtain ⟨v0, v1, o0, o1, o2⟩ := bP_iff h1
      have a := vP_iff v0; have b := vP_iff v1
      exact ⟨h1, vP_mk (by omega), h3⟩
  have HV := Lib.hid hv; clear hv
  go_enter Try.func23, Try.ntmps23
  go_wp2_with fail
  (with_reducible refine (rvalidBox_any _ _ _ _ _ _ _).mono ?_)
  rintro e w1 ⟨rfl, hg1⟩
  obtain ⟨ca, hza⟩ := gb_at hg1 (b := w.heap.size) (by first | omega | (simp <;> omega))
  obtain ⟨cb, hzb⟩ := gb_at hg1 (b := w.heap.size + 1) (by first | omega | (simp <;> omega))
  have HG1 := Lib.hid (gb_trans (gb_alloc (gb_alloc (gb_refl _ _) _) _) hg1); clear hg1
  cases hv0 : bP x0 y0 z0 x1 y1 z1
  · go_wp2
    go_ret
    exact ⟨ret_bool (by rw [HV.out, hv0]; rfl), HG1.out⟩
  have H0 := Lib.hid hv0; clear hv0
  rcases three px x0 x1 with hx | ⟨hx1, hx2⟩ | ⟨hx1, hx2⟩
  rotate_left 2
  rcases three py y0 y1 with hy | ⟨hy1, hy2⟩ | ⟨hy1, hy2⟩
  rotate_left 2
  rcases three pz z0 z1 with hz | ⟨hz1, hz2⟩ | ⟨hz1, hz2⟩
  all_goals
    go_wp2
    go_ret
    refine ⟨ret_bool (by rw [HV.out, H0.out, Bool.true_and, Bool.eq_iff_iff]; simp only [decide_eq_true_eq, Bool.false_eq_true]; exact ⟨fun h => by first | exact h.elim | exact ⟨by omega, by omega, by omega, by omega, by omega, by omega⟩, fun ⟨h1, h2, h3, h4, h5, h6⟩ => by first | exact True.intro | rfl | omega⟩), HG1.out⟩

theorem rwithin_any (a0 b0 c0 a1 b1 c1 x0 y0 z0 x1 y1 z1 : Int) (w : World) :
    Calls Try.prog 25 #[.agg #[.int .i64 a0, .int .i64 b0, .int .i64 c0, .int .i64 a1, .int .i64 b1, .int .i64 c1], .agg #[.int .i64 x0, .int .i64 y0, .int .i64 z0, .int .i64 x1, .int .i64 y1, .int .i64 z1]] w fun e w' => e = .returned (.bool (wiP a0 b0 c0 a1 b1 c1 x0 y0 z0 x1 y1 z1)) ∧ w.grownBy w' none := by
  go_enter Try.func25, Try.ntmps25
  go_wp2_with fail
  (with_reducible refine (rvalidBox_any _ _ _ _ _ _ _).mono ?_)
  rintro e w1 ⟨rfl, hg1⟩
  obtain ⟨ca, hza⟩ := gb_at hg1 (b := w.heap.size) (by first | omega | (simp <;> omega))
  obtain ⟨cb, hzb⟩ := gb_at hg1 (b := w.heap.size + 1) (by first | omega | (simp <;> omega))
  have HG1 := Lib.hid (gb_trans (gb_alloc (gb_alloc (gb_refl _ _) _) _) hg1); clear hg1
  cases hv0 : bP a0 b0 c0 a1 b1 c1
  · go_wp2
    go_ret
    exact ⟨ret_bool (by simp [wiP, hv0]), HG1.out⟩
  go_wp2_with fail
  (with_reducible refine (rcontains_any _ _ _ _ _ _ _ _ _ _).mono ?_)
  rintro e w2 ⟨rfl, hg2⟩
  obtain ⟨ca2, hza2⟩ := gb_at hg2 hza
  obtain ⟨cb2, hzb2⟩ := gb_at hg2 hzb
  have HG2 := Lib.hid (gb_trans HG1.out hg2); clear hg2 HG1
  cases hv1 : conP x0 y0 z0 x1 y1 z1 a0 b0 c0
  · go_wp2
    go_ret
    exact ⟨ret_bool (by simp [wiP, hv1]), HG2.out⟩
  have H0 := Lib.hid hv0; have H1 := Lib.hid hv1; clear hv0 hv1
  go_wp2_with fail
  (with_reducible refine (rcontains_any _ _ _ _ _ _ _ _ _ _).mono ?_)
  rintro e w3 ⟨rfl, hg3⟩
  have HG3 := Lib.hid (gb_trans HG2.out hg3); clear hg3 HG2
  go_wp2
  go_ret
  exact ⟨ret_bool (by simp [wiP, H0.out, H1.out]), HG3.out⟩

set_option maxHeartbeats 1000000 in
theorem rpoints_any (x0 y0 z0 x1 y1 z1 : Int) (w : World) :
    Calls Try.prog 14 #[.agg #[.int .i64 x0, .int .i64 y0, .int .i64 z0, .int .i64 x1, .int .i64 y1, .int .i64 z1]] w fun e w' => e = .returned (.int .i64 (ptsP x0 y0 z0 x1 y1 z1)) ∧ w.grownBy w' none := by
  go_enter Try.func14, Try.ntmps14
  go_wp2_with fail
  (with_reducible refine (rvalidBox_any _ _ _ _ _ _ _).mono ?_)
  rintro e w1 ⟨rfl, hg1⟩
  obtain ⟨ca, hza⟩ := gb_at hg1 (b := w.heap.size) (by first | omega | (simp <;> omega))
  have HG1 := Lib.hid (gb_trans (gb_alloc (gb_refl _ _) _) hg1); clear hg1
  cases hv0 : bP x0 y0 z0 x1 y1 z1
  · go_wp2
    go_ret
    exact ⟨ret_int (by simp [ptsP, hv0]), HG1.out⟩
  have HE := Lib.hid (show ptsP x0 y0 z0 x1 y1 z1 = (x1 - x0 + 1) * (y1 - y0 + 1) * (z1 - z0 + 1) from by simp [ptsP, hv0, ptsD])
  obtain ⟨b0, b1, b2, b3, b4⟩ := bP_iff hv0
  have hi0 := vP_iff b0
  have hi1 := vP_iff b1
  clear hv0 b0 b1
  obtain ⟨s1, s2, s3, s4⟩ := pts_small (a := x1 - x0 + 1) (b := y1 - y0 + 1) (c := z1 - z0 + 1) (by omega) (by omega) (by omega)
  have wb := IntWalk.wrap64_in ((x1 - x0 + 1) * (y1 - y0 + 1)) (by omega)
  have wc := IntWalk.wrap64_in ((x1 - x0 + 1) * (y1 - y0 + 1) * (z1 - z0 + 1)) (by omega)
  clear s1 s2 s3 s4
  go_wp2
  go_ret
  exact ⟨ret_int (by rw [HE.out]; exact wc), HG1.out⟩
end LRefA
section LRefB
open Go.RowKit Rg

set_option maxRecDepth 100000 in
set_option maxHeartbeats 1000000 in
theorem rsquare_any (x0 y0 z0 x1 y1 z1 : Int) (w : World) :
    Calls Try.prog 78 #[.agg #[.int .i64 x0, .int .i64 y0, .int .i64 z0], .agg #[.int .i64 x1, .int .i64 y1, .int .i64 z1]] w fun e w' => e = .returned (.int .i64 (sqP x0 y0 z0 x1 y1 z1)) ∧ w.grownBy w' none := by
  go_enter Try.func78, Try.ntmps78
  go_wp2_with fail
  (with_reducible refine (rvalid_any _ _ _ _).mono ?_)
  rintro e w1 ⟨rfl, hg1⟩
  obtain ⟨ca, hza⟩ := gb_at hg1 (b := w.heap.size) (by first | omega | (simp <;> omega))
  obtain ⟨cb, hzb⟩ := gb_at hg1 (b := w.heap.size + 1) (by first | omega | (simp <;> omega))
  have HG1 := Lib.hid (gb_trans (gb_alloc (gb_alloc (gb_refl _ _) _) _) hg1); clear hg1
  cases hv0 : vP x0 y0 z0
  · go_wp2
    go_ret
    exact ⟨ret_int (by simp [sqP, hv0]), HG1.out⟩
  go_wp2_with fail
  (with_reducible refine (rvalid_any _ _ _ _).mono ?_)
  rintro e w2 ⟨rfl, hg2⟩
  obtain ⟨ca2, hza2⟩ := gb_at hg2 hza
  obtain ⟨cb2, hzb2⟩ := gb_at hg2 hzb
  have HG2 := Lib.hid (gb_trans HG1.out hg2); clear hg2 HG1
  cases hv1 : vP x1 y1 z1
  · go_wp2
    go_ret
    exact ⟨ret_int (by simp [sqP, hv1]), HG2.out⟩
  have hi0 := vP_iff hv0
  have hi1 := vP_iff hv1
  have HE := Lib.hid (show sqP x0 y0 z0 x1 y1 z1 = (x0 - x1) * (x0 - x1) + (y0 - y1) * (y0 - y1) + (z0 - z1) * (z0 - z1) from by simp [sqP, hv0, hv1, sqD])
  clear hv0 hv1
  obtain ⟨sx0, sx1, -⟩ := sq_small (d := x0 - x1) (by omega) (by omega)
  obtain ⟨sy0, sy1, -⟩ := sq_small (d := y0 - y1) (by omega) (by omega)
  obtain ⟨sz0, sz1, -⟩ := sq_small (d := z0 - z1) (by omega) (by omega)
  have CX := Lib.hid (fun (u : World) => rsq_any (x0 - x1) u (by omega) (by omega))
  have CY := Lib.hid (fun (u : World) => rsq_any (y0 - y1) u (by omega) (by omega))
  have CZ := Lib.hid (fun (u : World) => rsq_any (z0 - z1) u (by omega) (by omega))
  generalize (x0 - x1) * (x0 - x1) = sx at *
  generalize (y0 - y1) * (y0 - y1) = sy at *
  generalize (z0 - z1) * (z0 - z1) = sz at *
  have hnt := fun (x : Up w2) (o : Nat) => ever_cell x (b := w.heap.size) (o := o) hza2
  have hnu := fun (x : Up w2) (o : Nat) => ever_cell x (b := w.heap.size + 1) (o := o) hzb2
  go_wp2_with fail
  (refine wp_region_grown (by kernel_rfl) (by kernel_rfl) ?_; (repeat (go_big_quiet_step (first | (go_at_call 61; first | (with_reducible exact Calls.grown_same (CX.out _)) | (with_reducible exact Calls.grown_same (CY.out _)) | (with_reducible exact Calls.grown_same (CZ.out _)))))); refine wpQuiet_nil ?_; intro wq hq)
  go_wp2
  go_ret
  exact ⟨ret_int (by rw [HE.out]), gb_trans HG2.out hq⟩

set_option maxRecDepth 100000 in
set_option maxHeartbeats 2000000 in
theorem rNear_any (x0 y0 z0 x1 y1 z1 px py pz : Int) (w : World) :
    Calls Try.prog 19 #[.agg #[.int .i64 x0, .int .i64 y0, .int .i64 z0, .int .i64 x1, .int .i64 y1, .int .i64 z1], .agg #[.int .i64 px, .int .i64 py, .int .i64 pz]] w fun e w' => e = .returned (.int .i64 (nearP x0 y0 z0 x1 y1 z1 px py pz)) ∧ w.grownBy w' none := by
  go_enter Try.func19, Try.ntmps19
  go_wp2_with fail
  (with_reducible refine (rvalidBox_any _ _ _ _ _ _ _).mono ?_)
  rintro e w1 ⟨rfl, hg1⟩
  obtain ⟨ca, hza⟩ := gb_at hg1 (b := w.heap.size) (by first | omega | (simp <;> omega))
  obtain ⟨cb, hzb⟩ := gb_at hg1 (b := w.heap.size + 1) (by first | omega | (simp <;> omega))
  have HG1 := Lib.hid (gb_trans (gb_alloc (gb_alloc (gb_refl _ _) _) _) hg1); clear hg1
  cases hv0 : bP x0 y0 z0 x1 y1 z1
  · go_wp2
    go_ret
    exact ⟨ret_int (by simp [nearP, hv0]), HG1.out⟩
  go_wp2_with fail
  (with_reducible refine (rvalid_any _ _ _ _).mono ?_)
  rintro e w2 ⟨rfl, hg2⟩
  obtain ⟨ca2, hza2⟩ := gb_at hg2 hza
  obtain ⟨cb2, hzb2⟩ := gb_at hg2 hzb
  have HG2 := Lib.hid (gb_trans HG1.out hg2); clear hg2 HG1
  cases hv1 : vP px py pz
  · go_wp2
    go_ret
    exact ⟨ret_int (by simp [nearP, hv1]), HG2.out⟩
  have HE := Lib.hid (show nearP x0 y0 z0 x1 y1 z1 px py pz = nearS px x0 x1 * nearS px x0 x1 + nearS py y0 y1 * nearS py y0 y1 + nearS pz z0 z1 * nearS pz z0 z1 from by simp [nearP, hv0, hv1, nearD])
  obtain ⟨b0, b1, b2, b3, b4⟩ := bP_iff hv0
  have hi0 := vP_iff b0
  have hi1 := vP_iff b1
  have hi2 := vP_iff hv1
  clear hv0 hv1 b0 b1
  have bx : 0 ≤ nearS px x0 x1 ∧ nearS px x0 x1 ≤ 4194304 := by unfold nearS; omega
  have by' : 0 ≤ nearS py y0 y1 ∧ nearS py y0 y1 ≤ 4194304 := by unfold nearS; omega
  have bz : 0 ≤ nearS pz z0 z1 ∧ nearS pz z0 z1 ≤ 4194304 := by unfold nearS; omega
  have NX := Lib.hid (fun (u : World) => rnear_any px x0 x1 u (by omega) (by omega) (by omega) (by omega) (by omega) (by omega))
  have NY := Lib.hid (fun (u : World) => rnear_any py y0 y1 u (by omega) (by omega) (by omega) (by omega) (by omega) (by omega))
  have NZ := Lib.hid (fun (u : World) => rnear_any pz z0 z1 u (by omega) (by omega) (by omega) (by omega) (by omega) (by omega))
  clear hi0 hi1 hi2 b2 b3 b4
  generalize nearS px x0 x1 = sx at *
  generalize nearS py y0 y1 = sy at *
  generalize nearS pz z0 z1 = sz at *
  have CX := Lib.hid (fun (u : World) => rsq_any sx u (by omega) (by omega))
  have CY := Lib.hid (fun (u : World) => rsq_any sy u (by omega) (by omega))
  have CZ := Lib.hid (fun (u : World) => rsq_any sz u (by omega) (by omega))
  obtain ⟨sx0, sx1, -⟩ := sq_small (d := sx) (by omega) (by omega)
  obtain ⟨sy0, sy1, -⟩ := sq_small (d := sy) (by omega) (by omega)
  obtain ⟨sz0, sz1, -⟩ := sq_small (d := sz) (by omega) (by omega)
  generalize sx * sx = tx at *
  generalize sy * sy = ty at *
  generalize sz * sz = tz at *
  have hnt := fun (x : Up w2) (o : Nat) => ever_cell x (b := w.heap.size) (o := o) hza2
  have hnu := fun (x : Up w2) (o : Nat) => ever_cell x (b := w.heap.size + 1) (o := o) hzb2
  go_wp2_with fail
  (refine wp_region_grown (by kernel_rfl) (by kernel_rfl) ?_; (repeat (go_big_quiet_step (first
    | (go_at_call 62; first | (with_reducible exact Calls.grown_same (NX.out _)) | (with_reducible exact Calls.grown_same (NY.out _)) | (with_reducible exact Calls.grown_same (NZ.out _)))
    | (go_at_call 61; first | (with_reducible exact Calls.grown_same (CX.out _)) | (with_reducible exact Calls.grown_same (CY.out _)) | (with_reducible exact Calls.grown_same (CZ.out _)))))); refine wpQuiet_nil ?_; intro wq hq)
  go_wp2
  go_ret
  exact ⟨ret_int (by rw [HE.out]), gb_trans HG2.out hq⟩

set_option maxRecDepth 100000 in
set_option maxHeartbeats 2000000 in
theorem rFar_any (x0 y0 z0 x1 y1 z1 px py pz : Int) (w : World) :
    Calls Try.prog 21 #[.agg #[.int .i64 x0, .int .i64 y0, .int .i64 z0, .int .i64 x1, .int .i64 y1, .int .i64 z1], .agg #[.int .i64 px, .int .i64 py, .int .i64 pz]] w fun e w' => e = .returned (.int .i64 (farP x0 y0 z0 x1 y1 z1 px py pz)) ∧ w.grownBy w' none := by
  go_enter Try.func21, Try.ntmps21
  go_wp2_with fail
  (with_reducible refine (rvalidBox_any _ _ _ _ _ _ _).mono ?_)
  rintro e w1 ⟨rfl, hg1⟩
  obtain ⟨ca, hza⟩ := gb_at hg1 (b := w.heap.size) (by first | omega | (simp <;> omega))
  obtain ⟨cb, hzb⟩ := gb_at hg1 (b := w.heap.size + 1) (by first | omega | (simp <;> omega))
  have HG1 := Lib.hid (gb_trans (gb_alloc (gb_alloc (gb_refl _ _) _) _) hg1); clear hg1
  cases hv0 : bP x0 y0 z0 x1 y1 z1
  · go_wp2
    go_ret
    exact ⟨ret_int (by simp [farP, hv0]), HG1.out⟩
  go_wp2_with fail
  (with_reducible refine (rvalid_any _ _ _ _).mono ?_)
  rintro e w2 ⟨rfl, hg2⟩
  obtain ⟨ca2, hza2⟩ := gb_at hg2 hza
  obtain ⟨cb2, hzb2⟩ := gb_at hg2 hzb
  have HG2 := Lib.hid (gb_trans HG1.out hg2); clear hg2 HG1
  cases hv1 : vP px py pz
  · go_wp2
    go_ret
    exact ⟨ret_int (by simp [farP, hv1]), HG2.out⟩
  have HE := Lib.hid (show farP x0 y0 z0 x1 y1 z1 px py pz = farS px x0 x1 * farS px x0 x1 + farS py y0 y1 * farS py y0 y1 + farS pz z0 z1 * farS pz z0 z1 from by simp [farP, hv0, hv1, farD])
  obtain ⟨b0, b1, b2, b3, b4⟩ := bP_iff hv0
  have hi0 := vP_iff b0
  have hi1 := vP_iff b1
  have hi2 := vP_iff hv1
  clear hv0 hv1 b0 b1
  have bx : -4194304 ≤ farS px x0 x1 ∧ farS px x0 x1 ≤ 4194304 := by unfold farS; omega
  have by' : -4194304 ≤ farS py y0 y1 ∧ farS py y0 y1 ≤ 4194304 := by unfold farS; omega
  have bz : -4194304 ≤ farS pz z0 z1 ∧ farS pz z0 z1 ≤ 4194304 := by unfold farS; omega
  have NX := Lib.hid (fun (u : World) => rfar_any px x0 x1 u (by omega) (by omega) (by omega) (by omega) (by omega) (by omega))
  have NY := Lib.hid (fun (u : World) => rfar_any py y0 y1 u (by omega) (by omega) (by omega) (by omega) (by omega) (by omega))
  have NZ := Lib.hid (fun (u : World) => rfar_any pz z0 z1 u (by omega) (by omega) (by omega) (by omega) (by omega) (by omega))
  clear hi0 hi1 hi2 b2 b3 b4
  generalize farS px x0 x1 = sx at *
  generalize farS py y0 y1 = sy at *
  generalize farS pz z0 z1 = sz at *
  have CX := Lib.hid (fun (u : World) => rsq_any sx u (by omega) (by omega))
  have CY := Lib.hid (fun (u : World) => rsq_any sy u (by omega) (by omega))
  have CZ := Lib.hid (fun (u : World) => rsq_any sz u (by omega) (by omega))
  obtain ⟨sx0, sx1, -⟩ := sq_small (d := sx) (by omega) (by omega)
  obtain ⟨sy0, sy1, -⟩ := sq_small (d := sy) (by omega) (by omega)
  obtain ⟨sz0, sz1, -⟩ := sq_small (d := sz) (by omega) (by omega)
  generalize sx * sx = tx at *
  generalize sy * sy = ty at *
  generalize sz * sz = tz at *
  have hnt := fun (x : Up w2) (o : Nat) => ever_cell x (b := w.heap.size) (o := o) hza2
  have hnu := fun (x : Up w2) (o : Nat) => ever_cell x (b := w.heap.size + 1) (o := o) hzb2
  go_wp2_with fail
  (refine wp_region_grown (by kernel_rfl) (by kernel_rfl) ?_; (repeat (go_big_quiet_step (first
    | (go_at_call 64; first | (with_reducible exact Calls.grown_same (NX.out _)) | (with_reducible exact Calls.grown_same (NY.out _)) | (with_reducible exact Calls.grown_same (NZ.out _)))
    | (go_at_call 61; first | (with_reducible exact Calls.grown_same (CX.out _)) | (with_reducible exact Calls.grown_same (CY.out _)) | (with_reducible exact Calls.grown_same (CZ.out _)))))); refine wpQuiet_nil ?_; intro wq hq)
  go_wp2
  go_ret
  exact ⟨ret_int (by rw [HE.out]), gb_trans HG2.out hq⟩

set_option maxRecDepth 100000 in
set_option maxHeartbeats 2000000 in
theorem rcenter_any (x0 y0 z0 x1 y1 z1 : Int) (w : World) :
    Calls Try.prog 16 #[.agg #[.int .i64 x0, .int .i64 y0, .int .i64 z0, .int .i64 x1, .int .i64 y1, .int .i64 z1]] w fun e w' => e = .returned (.agg #[.int .i64 (cen (bP x0 y0 z0 x1 y1 z1) x0 x1), .int .i64 (cen (bP x0 y0 z0 x1 y1 z1) y0 y1), .int .i64 (cen (bP x0 y0 z0 x1 y1 z1) z0 z1)]) ∧ w.grownBy w' none := by
  go_enter Try.func16, Try.ntmps16
  go_wp2_with fail
  (with_reducible refine (rvalidBox_any _ _ _ _ _ _ _).mono ?_)
  rintro e w1 ⟨rfl, hg1⟩
  obtain ⟨ca, hza⟩ := gb_at hg1 (b := w.heap.size) (by first | omega | (simp <;> omega))
  have hR : w1.heap[w.heap.size + 1]? = some (.cells #[.int .i64 0, .int .i64 0, .int .i64 0] 23 (0, 0)) := block_kept hg1 (by simpa using heap_alloc_new (w.alloc _) _) rfl
  have HG1 := Lib.hid (gb_trans (gb_alloc (gb_alloc (gb_refl _ _) _) _) hg1); clear hg1
  cases hv0 : bP x0 y0 z0 x1 y1 z1
  · have HN := Lib.hid (setRow_at (cs := #[.int .i64 0, .int .i64 0, .int .i64 0]) hR)
    have HGE := Lib.hid (gb_setRow (cs := #[.int .i64 0, .int .i64 0, .int .i64 0]) HG1.out (g := w.heap.size + 1) (.inl (by omega)))
    have HRR := Lib.hid hR
    clear hR
    go_wp2_with (with_reducible refine wpList_store_row rfl _ _ _ rfl (w.heap.size + 1) #[.int .i64 0, .int .i64 0, .int .i64 0] rfl rfl _ _ HRR.out (by kernel_rfl) rfl (by simp [Value.oneCell']) ?_)
    obtain ⟨e0, e1, e2⟩ := cells3 HN.out
    refine bodyPost_ret (v := .agg #[.int .i64 0, .int .i64 0, .int .i64 0]) (by simp [results, Try.results16, go_sem, e0, e1, e2]) rfl ⟨by simp [cen, hv0], HGE.out⟩
  have HE := Lib.hid (show (Value.agg #[.int .i64 (cen (bP x0 y0 z0 x1 y1 z1) x0 x1), .int .i64 (cen (bP x0 y0 z0 x1 y1 z1) y0 y1), .int .i64 (cen (bP x0 y0 z0 x1 y1 z1) z0 z1)]) = .agg #[.int .i64 (midI x0 x1), .int .i64 (midI y0 y1), .int .i64 (midI z0 z1)] from by simp [cen, hv0])
  obtain ⟨b0, b1, b2, b3, b4⟩ := bP_iff hv0
  have hi0 := vP_iff b0
  have hi1 := vP_iff b1
  clear hv0 b0 b1
  have CX := Lib.hid (fun (u : World) => same_grown (rmiddle_any x0 x1 u (by omega) (by omega) (by omega)))
  have CY := Lib.hid (fun (u : World) => same_grown (rmiddle_any y0 y1 u (by omega) (by omega) (by omega)))
  have CZ := Lib.hid (fun (u : World) => same_grown (rmiddle_any z0 z1 u (by omega) (by omega) (by omega)))
  clear hi0 hi1 b2 b3 b4
  generalize midI x0 x1 = mx at *
  generalize midI y0 y1 = my at *
  generalize midI z0 z1 = mz at *
  have q0 : w1.cell? ⟨w.heap.size, 0, none⟩ = some (.int .i64 x0) := by rw [ca, cell_old _ _ _ (by simp), cell_new]; rfl
  have q1 : w1.cell? ⟨w.heap.size, 1, none⟩ = some (.int .i64 y0) := by rw [ca, cell_old _ _ _ (by simp), cell_new]; rfl
  have q2 : w1.cell? ⟨w.heap.size, 2, none⟩ = some (.int .i64 z0) := by rw [ca, cell_old _ _ _ (by simp), cell_new]; rfl
  have q3 : w1.cell? ⟨w.heap.size, 3, none⟩ = some (.int .i64 x1) := by rw [ca, cell_old _ _ _ (by simp), cell_new]; rfl
  have q4 : w1.cell? ⟨w.heap.size, 4, none⟩ = some (.int .i64 y1) := by rw [ca, cell_old _ _ _ (by simp), cell_new]; rfl
  have q5 : w1.cell? ⟨w.heap.size, 5, none⟩ = some (.int .i64 z1) := by rw [ca, cell_old _ _ _ (by simp), cell_new]; rfl
  clear ca
  have cq := Made.cells hza
  have HR1 := Lib.hid hR; clear hR
  go_wp2_with fail
  refine Rg.region (Made w1) Makes (fun k => if k = 6 then some (isV (.int .i64 mx)) else if k = 13 then some (isV (.int .i64 my)) else if k = 20 then some (isV (.int .i64 mz)) else none)
    (fun _ => false) 0 22 (by kernel_rfl) (by kernel_rfl) (by kernel_rfl) (by kernel_rfl) (by kernel_rfl) (by kernel_rfl) (by kernel_rfl) Makes.size (Made.start w1) (fun hne => ?_)
  (repeat (refine rLexL_quiet (by rfl) (by rfl) (by rfl) (by rfl) ?_; go_big_quiet_step (fail); refine wpQuiet_nil ?_))
  refine rg_fix (.int .i64 mx) 58 #[.int .i64 x0, .int .i64 x1] rfl rfl rfl (fun _ => by go_simp) (fun u hu => CX.out u) ?_
  simp only [Act.put, List.setIfInBounds_toArray, List.set_cons_zero, List.set_cons_succ]
  (repeat (refine rLexL_quiet (by rfl) (by rfl) (by rfl) (by rfl) ?_; go_big_quiet_step (fail); refine wpQuiet_nil ?_))
  refine rg_fix (.int .i64 my) 58 #[.int .i64 y0, .int .i64 y1] rfl rfl rfl (fun _ => by go_simp) (fun u hu => CY.out u) ?_
  simp only [Act.put, List.setIfInBounds_toArray, List.set_cons_zero, List.set_cons_succ]
  (repeat (refine rLexL_quiet (by rfl) (by rfl) (by rfl) (by rfl) ?_; go_big_quiet_step (fail); refine wpQuiet_nil ?_))
  refine rg_fix (.int .i64 mz) 58 #[.int .i64 z0, .int .i64 z1] rfl rfl rfl (fun _ => by go_simp) (fun u hu => CZ.out u) ?_
  simp only [Act.put, List.setIfInBounds_toArray, List.set_cons_zero, List.set_cons_succ]
  (repeat (refine rLexL_quiet (by rfl) (by rfl) (by rfl) (by rfl) ?_; go_big_quiet_step (fail); refine wpQuiet_nil ?_))
  rintro wq hq hf hD
  have hR2 := block_kept hq HR1.out rfl
  refine wpList_store_row rfl _ _ _ rfl (w.heap.size + 1) #[.int .i64 mx, .int .i64 my, .int .i64 mz] rfl rfl _ _ hR2 (by kernel_rfl) rfl (by simp [Value.oneCell']) ?_
  have HN := Lib.hid (setRow_at (cs := #[.int .i64 mx, .int .i64 my, .int .i64 mz]) hR2)
  have HGE := Lib.hid (gb_setRow (cs := #[.int .i64 mx, .int .i64 my, .int .i64 mz]) (gb_trans HG1.out hq) (g := w.heap.size + 1) (.inl (by omega)))
  clear hf hD hq hne hR2
  refine wpList_nil ?_
  simp only [Act.put, List.setIfInBounds_toArray, List.set_cons_zero, List.set_cons_succ]
  obtain ⟨e0, e1, e2⟩ := cells3 HN.out
  go_wp2_with fail
  refine bodyPost_ret (v := .agg #[.int .i64 mx, .int .i64 my, .int .i64 mz]) (by simp [results, Try.results16, go_sem, e0, e1, e2]) rfl ⟨by rw [HE.out], HGE.out⟩

end LRefB
section LRefD
open Go.RowKit Rg

end LRefD
end Go.Proofs.Ytelmeggcgocmlaa
