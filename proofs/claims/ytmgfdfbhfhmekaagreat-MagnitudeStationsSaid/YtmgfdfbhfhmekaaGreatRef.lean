/- The reference of chapter 25: Lower, Upper, Between. -/
import Derived.Test.YtmgfdfbhfhmekaaGreatTrv
import Derived.Test.YtmgfdfbhfhmekaaGreatBnd
import Derived.Test.YtmgfdfbhfhmekaaGreatMem
import Derived.Test.YtmgfdfbhfhmekaaGreatGeoP
import Derived.Test.YtmgfdfbhfhmekaaGreatBase
import Derived.Test.YtmgfdfbhfhmekaaGreatRgMade
namespace Go.Proofs.YtmgfdfbhfhmekaaGreat
set_option linter.all false
section LRefT
open Go.RowKit

set_option maxRecDepth 100000 in
set_option maxHeartbeats 1000000 in
theorem rlower_any (step d : Int) (vl vh : Value) (ls hs : List Int) (w : World) (h1 : Sl w vl ls) (h2 : Sl w vh hs) (ht : tOk step ls hs) (h0 : 0 ≤ d) (hd : d ≤ reachS step ls) :
    Calls Tryz.prog 56 #[.agg #[.int .i64 step, vl, vh], .int .i64 d] w fun e w' => e = .returned (.int .i64 (at0 ls (loI step d))) ∧ w.grownBy w' none := by
  have hr := (reachS_le ht).2.1
  obtain ⟨t1, t2, t3, t4, t5, -⟩ := ht
  have hdd : -9223372036854775808 ≤ d ∧ d ≤ 267386880 := by omega
  unfold reachS at hd
  obtain ⟨di1, di2⟩ := loI_spec (d := d) (n := ls.length) t1 h0 hd t4
  obtain ⟨b1, off1, cap1, rfl, hb1, hcap1, hcapb1, hcell1⟩ := h1.block (by omega)
  obtain ⟨ha, hn, hc, rfl⟩ : ∃ a n c, vh = .slice a n c := by rcases h2 with ⟨_, a, cap, rfl⟩ | ⟨b, off, cap, rfl, _⟩ <;> exact ⟨_, _, _, rfl⟩
  have hl1 := hcell1 _ di2
  clear h1 h2 hcell1
  generalize at0 ls (loI step d) = y at *
  generalize loI step d = i at *
  generalize ls.length = n at *
  clear hd hr t3
  have hg0 := gb_alloc (gb_refl w none) (.cells #[.int .i64 step, .slice (some ⟨b1, off1, none⟩) n cap1, .slice ha hn hc] 24)
  have hl2 := (gb_cell hg0 (b := b1) (o := off1 + i) hb1 (by simp)).trans hl1
  have HT := Lib.hid (heap_alloc_new w (.cells #[.int .i64 step, .slice (some ⟨b1, off1, none⟩) n cap1, .slice ha hn hc] 24))
  have hbz : b1 < (w.alloc (.cells #[.int .i64 step, .slice (some ⟨b1, off1, none⟩) n cap1, .slice ha hn hc] 24)).heap.size := by simp; omega
  clear hl1
  go_enter Tryz.func56, Tryz.ntmps56
  go_wp2_with fail
  have HG := Lib.hid hg0; clear hg0
  have hzw := block_lt' HT.out
  obtain ⟨c0, c1, c2⟩ := cells3 HT.out
  generalize w.alloc (.cells #[.int .i64 step, .slice (some ⟨b1, off1, none⟩) n cap1, .slice ha hn hc] 24) = w1 at *
  have e1 := fun (x : Up w1) (o : Nat) => ever_cell x (b := w.heap.size) (o := o) hzw
  have e2 := fun (x : Up w1) (o : Nat) => ever_cell x (b := b1) (o := o) hbz
  (refine wp_region_grown (by kernel_rfl) (by kernel_rfl) ?_; (repeat (go_big_quiet_step (fail))); refine wpQuiet_nil ?_; intro wq hq)
  go_wp2
  go_ret
  exact ⟨rfl, gb_trans HG.out hq⟩

set_option maxRecDepth 100000 in
set_option maxHeartbeats 1000000 in
theorem rupper_any (step d : Int) (vl vh : Value) (ls hs : List Int) (w : World) (h1 : Sl w vl ls) (h2 : Sl w vh hs) (ht : tOk step ls hs) (h0 : 0 ≤ d) (hd : d ≤ reachS step ls) :
    Calls Tryz.prog 58 #[.agg #[.int .i64 step, vl, vh], .int .i64 d] w fun e w' => e = .returned (.int .i64 (at0 hs (upI step d))) ∧ w.grownBy w' none := by
  have hr := (reachS_le ht).2.1
  obtain ⟨t1, t2, t3, t4, t5, -⟩ := ht
  have hdd : -9223372036854775808 ≤ d ∧ d ≤ 267386880 := by omega
  unfold reachS at hd
  obtain ⟨di1, di2⟩ := upI_spec (d := d) (n := ls.length) t1 h0 hd t4
  rw [t3] at di2
  obtain ⟨b1, off1, cap1, rfl, hb1, hcap1, hcapb1, hcell1⟩ := h2.block (by omega)
  obtain ⟨ha, hn, hc, rfl⟩ : ∃ a n c, vl = .slice a n c := by rcases h1 with ⟨_, a, cap, rfl⟩ | ⟨b, off, cap, rfl, _⟩ <;> exact ⟨_, _, _, rfl⟩
  have hl1 := hcell1 _ di2
  clear h1 h2 hcell1
  have wd : IntKind.i64.wrap (d + step) = d + step := by rw [IntKind.wrap_i64]; omega
  obtain ⟨q, hq⟩ : ∃ q, q = d + step - 1 := ⟨_, rfl⟩
  rw [← hq] at di1
  have we : IntKind.i64.wrap (d + step - 1) = q := by rw [IntKind.wrap_i64]; omega
  have hq0 : 0 ≤ q ∧ q ≤ 1000000000 := by omega
  clear hq
  generalize at0 hs (upI step d) = y at *
  generalize upI step d = i at *
  generalize hs.length = n at *
  clear hd hr t3
  have hg0 := gb_alloc (gb_refl w none) (.cells #[.int .i64 step, .slice ha hn hc, .slice (some ⟨b1, off1, none⟩) n cap1] 24)
  have hl2 := (gb_cell hg0 (b := b1) (o := off1 + i) hb1 (by simp)).trans hl1
  have HT := Lib.hid (heap_alloc_new w (.cells #[.int .i64 step, .slice ha hn hc, .slice (some ⟨b1, off1, none⟩) n cap1] 24))
  have hbz : b1 < (w.alloc (.cells #[.int .i64 step, .slice ha hn hc, .slice (some ⟨b1, off1, none⟩) n cap1] 24)).heap.size := by simp; omega
  clear hl1
  go_enter Tryz.func58, Tryz.ntmps58
  go_wp2_with fail
  have HG := Lib.hid hg0; clear hg0
  have hzw := block_lt' HT.out
  obtain ⟨c0, c1, c2⟩ := cells3 HT.out
  generalize w.alloc (.cells #[.int .i64 step, .slice ha hn hc, .slice (some ⟨b1, off1, none⟩) n cap1] 24) = w1 at *
  have e1 := fun (x : Up w1) (o : Nat) => ever_cell x (b := w.heap.size) (o := o) hzw
  have e2 := fun (x : Up w1) (o : Nat) => ever_cell x (b := b1) (o := o) hbz
  (refine wp_region_grown (by kernel_rfl) (by kernel_rfl) ?_; (repeat (go_big_quiet_step (fail))); refine wpQuiet_nil ?_; intro wq hq)
  go_wp2
  go_ret
  exact ⟨rfl, gb_trans HG.out hq⟩

theorem rReachS_any (step : Int) (vl vh : Value) (ls hs : List Int) (w : World) (h1 : Sl w vl ls) (h2 : Sl w vh hs) (h : tOk step ls hs) :
    Calls Tryz.prog 55 #[.agg #[.int .i64 step, vl, vh]] w fun e w' => e = .returned (.int .i64 (reachS step ls)) ∧ w.grownBy w' none := by
  have := rReach_any step vl vh ls hs w h1 h2
  rwa [show reachV step ls hs = reachS step ls by simp [reachV, h]] at this

set_option maxRecDepth 100000 in
set_option maxHeartbeats 1000000 in
theorem rbetween_any (step near far : Int) (vl vh : Value) (ls hs : List Int) (w : World) (h1 : Sl w vl ls) (h2 : Sl w vh hs) (hf : far ≤ 9223372036854775807) :
    Calls Tryz.prog 30 #[.agg #[.int .i64 step, vl, vh], .int .i64 near, .int .i64 far] w fun e w' => e = .returned (btw step ls hs near far) ∧ w.grownBy w' none := by
  go_enter Tryz.func30, Tryz.ntmps30
  have hg0 := gb_alloc (gb_refl w none) (.cells #[.int .i64 step, vl, vh] 24)
  go_wp2_with fail
  (with_reducible refine (rvalidate_any _ _ _ ls hs _ (h1.after hg0) (h2.after hg0)).mono ?_)
  rintro e w1 ⟨rfl, hg⟩
  obtain ⟨cb, hz⟩ := gb_at hg (b := w.heap.size) (by simp)
  have hg1 := gb_trans hg0 hg
  have S1 := Lib.hid (h1.after hg1); have S2 := Lib.hid (h2.after hg1); have HG := Lib.hid hg1; clear hg hg0 hg1 h1 h2
  by_cases hok : tOk step ls hs
  rotate_left
  · have he : tE step ls hs = 21 := (tE_bad hok).symm
    go_wp2
    refine bodyPost_ret (v := .tuple #[.int .i64 0, .int .i64 0, .int .i64 21]) (by simp [results, Tryz.results30, go_sem]) rfl ⟨btw_err (by decide) (by simp [btwE, hok]), HG.out⟩
  have he : tE step ls hs = 0 := (tE_ok hok).symm
  have HOK := Lib.hid hok; clear hok
  by_cases c1 : near < 0
  · go_wp2
    refine bodyPost_ret (v := .tuple #[.int .i64 0, .int .i64 0, .int .i64 2]) (by simp [results, Tryz.results30, go_sem]) rfl ⟨btw_err (by decide) (by simp [btwE, HOK.out, c1]), HG.out⟩
  by_cases c2 : far < near
  · go_wp2
    refine bodyPost_ret (v := .tuple #[.int .i64 0, .int .i64 0, .int .i64 2]) (by simp [results, Tryz.results30, go_sem]) rfl ⟨btw_err (by decide) (by simp [btwE, HOK.out, c2]), HG.out⟩
  have hnt := fun (x : Up w1) (o : Nat) => ever_cell x (b := w.heap.size) (o := o) hz
  go_wp2_with fail
  (refine wp_region_grown (by kernel_rfl) (by kernel_rfl) ?_; (repeat (go_big_quiet_step (first
    | (go_at_call 54; exact Calls.grown_same (rceil24_any far _ hf))
    | (go_at_call 55; exact Calls.grown_of (rReachS_any _ _ _ ls hs _ (S1.out.after (ever_up _)) (S2.out.after (ever_up _)) HOK.out))))); refine wpQuiet_nil ?_; intro wq hq)
  obtain ⟨wt, hzt⟩ := gb_at hq (b := w.heap.size) hz
  have HG2 := Lib.hid (gb_trans HG.out hq)
  have S1q := Lib.hid (S1.out.after hq); have S2q := Lib.hid (S2.out.after hq); clear S1 S2 HG hnt hq
  by_cases c3 : reachS step ls < ceilI far
  · go_wp2
    refine bodyPost_ret (v := .tuple #[.int .i64 0, .int .i64 0, .int .i64 22]) (by simp [results, Tryz.results30, go_sem]) rfl ⟨btw_err (by decide) (by simp [btwE, HOK.out, c3]; omega), HG2.out⟩
  have HE := Lib.hid (show btwE step ls hs near far = 0 from by simp [btwE, HOK.out, c3]; omega)
  have hm := floorI_mono (a := near) (b := far) (by omega)
  have hge := ceilI_ge far
  have hff := (floorI_le (n := near) (by omega)).1
  have hcc := (ceilI_le hf).1
  have HLO := Lib.hid (fun (u : World) (s1 : Sl u vl ls) (s2 : Sl u vh hs) => rlower_any step (floorI near) vl vh ls hs u s1 s2 HOK.out hff (by omega))
  have HUP := Lib.hid (fun (u : World) (s1 : Sl u vl ls) (s2 : Sl u vh hs) => rupper_any step (ceilI far) vl vh ls hs u s1 s2 HOK.out hcc (by omega))
  have HX := Lib.hid (btw_ok (step := step) (ls := ls) (hs := hs) HE.out rfl rfl)
  clear hm hge hff hcc
  have hnt := fun (x : Up wq) (o : Nat) => ever_cell x (b := w.heap.size) (o := o) hzt
  go_wp2_with fail
  (refine wp_region_grown (by kernel_rfl) (by kernel_rfl) ?_; (repeat (go_big_quiet_step (first
    | (go_at_call 54; exact Calls.grown_same (rceil24_any far _ hf))
    | (go_at_call 57; exact Calls.grown_same (rfloor24_any near _ (by omega)))
    | (go_at_call 56; exact Calls.grown_of (HLO.out _ (S1q.out.after (ever_up _)) (S2q.out.after (ever_up _))))
    | (go_at_call 58; exact Calls.grown_of (HUP.out _ (S1q.out.after (ever_up _)) (S2q.out.after (ever_up _))))))); refine wpQuiet_nil ?_; intro wq hq)
  go_wp2
  exact bodyPost_ret (v := .tuple #[.int .i64 (at0 ls (loI step (floorI near))), .int .i64 (at0 hs (upI step (ceilI far))), .int .i64 0]) (by simp [results, Tryz.results30, go_sem]) rfl ⟨HX.out, gb_trans HG2.out hq⟩
end LRefT
section LRefA
open Go.RowKit

def sgn (a b : Int) : Int := if a < b then -1 else if b < a then 1 else 0
def cmpP (x0 y0 z0 x1 y1 z1 : Int) : Int := if sgn x0 x1 ≠ 0 then sgn x0 x1 else if sgn y0 y1 ≠ 0 then sgn y0 y1 else sgn z0 z1

end LRefA
section LRefB
open Go.RowKit Rg

end LRefB
section LRefD
open Go.RowKit Rg

end LRefD
end Go.Proofs.YtmgfdfbhfhmekaaGreat
