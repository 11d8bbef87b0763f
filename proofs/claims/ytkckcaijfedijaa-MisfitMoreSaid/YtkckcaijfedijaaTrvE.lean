/- Layer 25: Between. -/
import Derived.Test.YtkckcaijfedijaaTrvD
import Derived.Test.YtkckcaijfedijaaGrown
namespace Go.Proofs.Ytkckcaijfedijaa
set_option linter.all false
open Go.RowKit

set_option maxHeartbeats 1000000 in
theorem between_any (step near far : Int) (vl vh : Value) (ls hs : List Int) (w : World) (h1 : Sl w vl ls) (h2 : Sl w vh hs) (hf : far ≤ 9223372036854775807) :
    Calls Try.prog 66 #[.agg #[.int .i64 step, vl, vh], .int .i64 near, .int .i64 far] w fun e w' => e = .returned (btw step ls hs near far) ∧ w.grownBy w' none := by
  go_enter Try.func66, Try.ntmps66
  have hg0 := gb_alloc (gb_refl w none) (.cells #[.int .i64 step, vl, vh] 24)
  go_wp2_with fail
  (with_reducible refine (validate_any _ _ _ ls hs _ (h1.after hg0) (h2.after hg0)).mono ?_)
  rintro e w1 ⟨rfl, hg⟩
  obtain ⟨cb, hz⟩ := gb_at hg (b := w.heap.size) (by simp)
  have hg1 := gb_trans hg0 hg
  have S1 := Lib.hid (h1.after hg1); have S2 := Lib.hid (h2.after hg1); have HG := Lib.hid hg1; clear hg hg0 hg1 h1 h2
  by_cases hok : tOk step ls hs
  rotate_left
  · have he : tE step ls hs = 21 := (tE_bad hok).symm
    go_wp2
    refine bodyPost_ret (v := .tuple #[.int .i64 0, .int .i64 0, .int .i64 21]) (by simp [results, Try.results66, go_sem]) rfl ⟨btw_err (by decide) (by simp [btwE, hok]), HG.out⟩
  have he : tE step ls hs = 0 := (tE_ok hok).symm
  have HOK := Lib.hid hok; clear hok
  by_cases c1 : near < 0
  · go_wp2
    refine bodyPost_ret (v := .tuple #[.int .i64 0, .int .i64 0, .int .i64 2]) (by simp [results, Try.results66, go_sem]) rfl ⟨btw_err (by decide) (by simp [btwE, HOK.out, c1]), HG.out⟩
  by_cases c2 : far < near
  · go_wp2
    refine bodyPost_ret (v := .tuple #[.int .i64 0, .int .i64 0, .int .i64 2]) (by simp [results, Try.results66, go_sem]) rfl ⟨btw_err (by decide) (by simp [btwE, HOK.out, c2]), HG.out⟩
  go_wp2_with fail
  (with_reducible refine (gceil_any far w1 hf).mono ?_)
  rintro e w2 ⟨rfl, rfl⟩
  have S1' := Lib.hid (S1.out.after (gb_alloc (gb_refl w1 none) (.cells #[.int .i64 (ceilI far)] 3)))
  have S2' := Lib.hid (S2.out.after (gb_alloc (gb_refl w1 none) (.cells #[.int .i64 (ceilI far)] 3)))
  have hnd := fun (x : Up (w1.alloc (.cells #[.int .i64 (ceilI far)] 3))) => ever_cell x (b := w1.heap.size) (o := 0) (by simp)
  have hnt := fun (x : Up (w1.alloc (.cells #[.int .i64 (ceilI far)] 3))) (o : Nat) => ever_cell x (b := w.heap.size) (o := o) (by simp; omega)
  go_wp2_with fail
  (refine wp_region_grown (by kernel_rfl) (by kernel_rfl) ?_; (repeat (go_big_quiet_step (first | (go_at_call 87; exact Calls.grown_of (reach_any _ _ _ ls hs _ (S1'.out.after (ever_up _)) HOK.out))))); refine wpQuiet_nil ?_; intro wq hq)
  obtain ⟨wt, hzt⟩ := gb_at hq (b := w.heap.size) (by simp; omega)
  obtain ⟨wd, hzd⟩ := gb_at hq (b := w1.heap.size) (by simp)
  have HG2 := Lib.hid (gb_trans (gb_alloc HG.out _) hq)
  have S1q := Lib.hid (S1'.out.after hq); have S2q := Lib.hid (S2'.out.after hq); clear S1' S2' S1 S2 HG hnd hnt hq
  by_cases c3 : reachS step ls < ceilI far
  · go_wp2
    refine bodyPost_ret (v := .tuple #[.int .i64 0, .int .i64 0, .int .i64 22]) (by simp [results, Try.results66, go_sem]) rfl ⟨btw_err (by decide) (by simp [btwE, HOK.out, c3]; omega), HG2.out⟩
  have HE := Lib.hid (show btwE step ls hs near far = 0 from by simp [btwE, HOK.out, c3]; omega)
  obtain ⟨q1, q2, q3, q4⟩ := between_fits HOK.out (by omega) (by omega) hf (by omega)
  obtain ⟨t1, t2, t3, t4, t5, -⟩ := HOK.out
  have HC3 := Lib.hid c3; clear c3 he
  obtain ⟨u1, u2⟩ := floorI_le (n := near) (by omega)
  obtain ⟨v1, v2⟩ := ceilI_le hf
  obtain ⟨b1, off1, cap1, rfl, hb1, hcap1, hcapb1, hcell1⟩ := S1q.out.block (by omega)
  obtain ⟨b2, off2, cap2, rfl, hb2, hcap2, hcapb2, hcell2⟩ := S2q.out.block (by omega)
  have hl1 := hcell1 _ q2
  have HQ3 := Lib.hid q3
  have HC1 := Lib.hid hcell1; have HC2 := Lib.hid hcell2; clear hcell1 hcell2 S1q S2q q3
  generalize hi1 : loI step (floorI near) = i1 at *
  have HI1 := Lib.hid hi1; clear hi1
  generalize hn : ls.length = n at *
  have HN := Lib.hid hn; clear hn
  rw [← t3] at HC2 hcap2
  have HN2 := Lib.hid t3
  rw [← t3] at cb ⊢; clear t3
  go_wp2_with fail
  (with_reducible refine (search_any n step (ceilI far) w.heap.size w1.heap.size wq (by omega) (by omega) t2 ?_ ?_).mono ?_)
  · rw [wt, World.cell?_of_block (heap_alloc_old w1 _ hz), cb, cell_new]; rfl
  · rw [wd, cell_new]; rfl
  rintro e w2 ⟨u, rfl, hu1, hu2, hu3, rfl⟩
  have hu4 : u < n := by
    rcases Nat.lt_or_ge u n with h | h
    · exact h
    · have := hu2 (by omega)
      have h3 := HC3.out
      unfold reachS at h3
      rw [HN.out] at h3
      rw [show u = n from by omega] at this
      rw [Int.mul_comm] at this
      omega
  have HU := Lib.hid (upI_unique t1 v1 hu2 (hu3 hu4))
  have hl2 := HC2.out u (by omega)
  clear hu2 hu3 HC3
  go_wp2_with fail
  (refine wp_region_grown (by kernel_rfl) (by kernel_rfl) ?_; (repeat (go_big_quiet_step (first | (go_at_call 90; exact Calls.grown_same (gfloor_any near _ (by omega)))))); refine wpQuiet_nil ?_; intro wq hq)
  go_wp2
  refine bodyPost_ret (v := .tuple #[.int .i64 (at0 ls i1), .int .i64 (at0 hs u), .int .i64 0]) (by simp [results, Try.results66, go_sem]) rfl ⟨btw_ok HE.out HI1.out.symm HU.out, gb_trans HG2.out hq⟩
end Go.Proofs.Ytkckcaijfedijaa
