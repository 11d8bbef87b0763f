/- The walk of LogarithmSteps. -/
import Derived.Test.YtlkhdephpnjkmaaAwake31
import Derived.Test.YtlkhdephpnjkmaaFrom
import Derived.Deep.RegionWith
import Derived.Deep.DeepCutAuto
namespace Go.Proofs.Ytlkhdephpnjkmaa
open Go.RowKit

def logE (x : Int) : Int × Int := if x < 1 then (0, 2) else (logS x.toNat, 0)
theorem log_all (x : Int) (w : World) (h : x ≤ 9223372036854775807) :
    Calls Try.prog 12 #[.int .i64 x] w fun e w' => e = .returned (.tuple #[.int .i64 (logE x).1, .int .i64 (logE x).2]) ∧ w = w' := by
  by_cases h1 : x < 1
  · rw [show logE x = (0, 2) from by simp [logE, h1]]; exact log_bad x w h1
  · obtain ⟨n, rfl⟩ := Int.eq_ofNat_of_zero_le (show 0 ≤ x by omega)
    rw [show logE n = (logS n, 0) from by simp [logE]; omega]; exact log_any n w (by omega) (by omega)
theorem rlog_all (x : Int) (w : World) (h : x ≤ 9223372036854775807) :
    Calls Try.prog 13 #[.int .i64 x] w fun e w' => e = .returned (.tuple #[.int .i64 (logE x).1, .int .i64 (logE x).2]) ∧ w = w' := by
  by_cases h1 : x < 1
  · rw [show logE x = (0, 2) from by simp [logE, h1]]; exact rlog_bad x w h1
  · obtain ⟨n, rfl⟩ := Int.eq_ofNat_of_zero_le (show 0 ≤ x by omega)
    rw [show logE n = (logS n, 0) from by simp [logE]; omega]; exact rlog_any n w (by omega) (by omega)

def natE (xs : List Int) : Int × Int := if validS xs = false then (0, 1) else if xs = [] then (0, 2) else (logNatS xs, 0)
theorem lognat_all (xs : List Int) (v : Value) (w : World) (hs : Sl w v xs) :
    Calls Try.prog 18 #[v] w fun e w' => e = .returned (.tuple #[.int .i64 (natE xs).1, .int .i64 (natE xs).2]) ∧ ∃ n, w' = w.drewN n := by
  cases h1 : validS xs
  · rw [show natE xs = (0, 1) from by simp [natE, h1]]; exact (lognat_bad xs v w hs h1).mono fun e w' ⟨a, b⟩ => ⟨a, 0, b.symm⟩
  · by_cases h2 : xs = []
    · subst h2; exact (lognat_nil v w hs).mono fun e w' ⟨a, b⟩ => ⟨a, 0, b.symm⟩
    · rw [show natE xs = (logNatS xs, 0) from by simp [natE, h1, h2]]; exact lognat_any xs v w hs h1 (List.length_pos_iff.2 h2)
theorem rlognat_all (xs : List Int) (v : Value) (w : World) (hs : Sl w v xs) :
    Calls Try.prog 19 #[v] w fun e w' => e = .returned (.tuple #[.int .i64 (natE xs).1, .int .i64 (natE xs).2]) ∧ ∃ n, w' = w.drewN n := by
  cases h1 : validS xs
  · rw [show natE xs = (0, 1) from by simp [natE, h1]]; exact (rlognat_bad xs v w hs h1).mono fun e w' ⟨a, b⟩ => ⟨a, 0, b.symm⟩
  · by_cases h2 : xs = []
    · subst h2; exact (rlognat_nil v w hs).mono fun e w' ⟨a, b⟩ => ⟨a, 0, b.symm⟩
    · rw [show natE xs = (logNatS xs, 0) from by simp [natE, h1, h2]]; exact rlognat_any xs v w hs h1 (List.length_pos_iff.2 h2)

/-- The four numbers of the second loop, as slices of ints. -/
def Four (w : World) (u : Value) (wc : World) : Prop :=
  ∃ b, u = .slice (some ⟨b, 0, none⟩) 4 4 ∧ (∀ i, i < 4 → ∃ v xs, wc.cell? ⟨b, i, none⟩ = some v ∧ Sl wc v xs ∧ v.oneCell' = true) ∧ w.grownBy wc none

set_option maxRecDepth 100000 in
set_option maxHeartbeats 1600000 in
theorem logarithmSteps_walk (w : World) (x0 : Int) (_h1 : -9223372036854775808 ≤ x0) (_h2 : x0 ≤ 9223372036854775807)
    (v1 : Value) (raw : List Int) (hraw : Sl w v1 raw) (_hr1 : ∀ x ∈ raw, -9223372036854775808 ≤ x ∧ x ≤ 9223372036854775807)
    (v : Value) (xs : List Int) (hs : Sl w v xs) (_hr : ∀ x ∈ xs, -9223372036854775808 ≤ x ∧ x ≤ 9223372036854775807) :
    Calls Try.prog 3 #[.int .i64 x0, v1, v] w fun e w' => e = .returned (.bool true) ∧ Below w.heap.size w w' := by
  have hlen : ∃ a c, v1 = .slice a raw.length c := by
    rcases hraw with ⟨rfl, a, c, rfl⟩ | ⟨b, off, c, rfl, _⟩ <;> exact ⟨_, _, rfl⟩
  obtain ⟨a1, c1, rfl⟩ := hlen
  have HS0 := Lib.hid hs; have HR := Lib.hid hraw; clear hs hraw _hr _hr1
  by_cases h100 : 100 < raw.length
  · go_enter Try.func3, Try.ntmps3
    go_wp2_with fail
    (with_reducible refine (awake_any _).mono ?_)
    rintro e w9 ⟨rfl, hg⟩
    have HG9 := Lib.hid hg; clear hg
    go_wp2
    go_ret
    exact ⟨rfl, gb_end HG9.out⟩
  go_enter Try.func3, Try.ntmps3
  go_wp2_with fail
  (with_reducible refine (new_any w v xs HS0.out).mono ?_)
  rintro e w1 ⟨rfl, hs, hg⟩
  have HS1 := Lib.hid hs; have HG1 := Lib.hid hg; clear hs hg HS0
  go_wp2_with fail
  (with_reducible refine (n_any w.heap.size _ w.heap.size 8 HS1.out (by omega) (by omega)).mono ?_)
  rintro e w2 ⟨k0, rfl, ⟨hk0, hk1⟩, hs, hg⟩
  obtain ⟨k, rfl⟩ := Int.eq_ofNat_of_zero_le hk0
  have HS2 := Lib.hid hs; have HG2 := Lib.hid (gb_new HG1.out hg (by simp)); clear hs hg HS1 HG1
  have hp := HS2.out.lt
  go_wp2
  go_loopw [8, 9] (fun g c wr => ∃ (j : Nat) (ys : List Int), j ≤ k + 1 ∧ c = .int .i64 ((k + 1 - j : Nat) : Int) ∧ ys.length = j ∧ wr.ownsRow (w.heap.size + 1) 3 1 g ys.length (ys.map (Value.int .i64)) ∧ Src w.heap.size wr w.heap.size ∧ w.grownBy wr none) (fun _ c _ => (intOf c).toNat)
  case atStart => exact ⟨0, [], by omega, by go_num, rfl, World.ownsRow_nil _ _ _ _, HS2.out, HG2.out⟩
  case round =>
    obtain ⟨j, ys, hj, rfl, hyl, hown, hsr, hgr⟩ := hrel
    have hsz := hgr.size
    have hsl := hsr.lt
    have HSR := Lib.hid hsr; clear hsr
    by_cases h0 : 0 < k + 1 - j
    · obtain ⟨d, hd⟩ : ∃ d, k + 1 - j = d + 1 := ⟨k - j, by omega⟩
      have hj5 : ys.length ≤ 7 := by omega
      have hdd : d ≤ 7 := by omega
      rw [hd] at h0 ⊢
      have HD := Lib.hid hd; clear hd
      have HYL := Lib.hid hyl; clear hyl
      go_wp2_with fail
      (with_reducible refine (n_any w.heap.size _ w.heap.size 1073741824 HSR.out (by omega) (by omega)).mono ?_)
      rintro e w3 ⟨z, rfl, ⟨hz0, hz1⟩, hs, hg⟩
      have hown3 := owns_keepp hown hg (by omega)
      have HS3 := Lib.hid hs; have HG3 := Lib.hid (gb_new hgr hg (by simp)); clear hs hg hown hgr
      go_wp2_with (at_builtin; refine wpList_push rfl _ _ 26 rfl (w.heap.size + 1) 3 (.int .i64 0) 1 8 Try.underlying26 Try.infoInt rfl (by decide) (by decide) _ _ _ rfl (hown3.alloc _) w3.heap.size 1 [.int .i64 z] 3 rfl (heap_alloc_new _ _) rfl (one_cell_int _) (by omega) (by simp; have := HS3.out.lt; omega) ?_; intro v' w5 hown' hg')
      have R1 := Lib.hid (owns_snoc hown' rfl)
      have R2 := Lib.hid (push_grown HG3.out hown3 (by omega) hg')
      have R3 := Lib.hid ((HS3.out.later (gb_alloc (gb_refl w3 none) _) (by simp)).later hg' (fun q hq => by have := (hown3.lt q hq).1; omega))
      clear hown' hg' hown3
      go_roundw
      case rel => exact ⟨j + 1, ys ++ [z], by have := HD.out; omega, by have := HD.out; rw [show k + 1 - (j + 1) = d from by omega], by have := HYL.out; simp; omega, R1.out, R3.out, R2.out⟩
      case measure => simp [intOf]
    · obtain rfl : j = k + 1 := by omega
      rw [Nat.sub_self]
      have hyl9 : ys.length ≤ 8 := by omega
      clear h0 hj hyl
      go_wp2_with fail
      (with_reducible refine (n_any w.heap.size _ w.heap.size 1073741823 HSR.out (by omega) (by omega)).mono ?_)
      rintro e w3 ⟨z, rfl, ⟨hz0, hz1⟩, hs, hg⟩
      have hown3 := owns_keepp hown hg (by omega)
      have HS3 := Lib.hid hs; have HG3 := Lib.hid (gb_new hgr hg (by simp)); clear hs hg hown hgr HSR
      go_wp2_with (at_builtin; refine wpList_push rfl _ _ 26 rfl (w.heap.size + 1) 3 (.int .i64 0) 1 8 Try.underlying26 Try.infoInt rfl (by decide) (by decide) _ _ _ rfl (hown3.alloc _) w3.heap.size 1 [.int .i64 (1 + z)] 3 rfl (heap_alloc_new _ _) rfl (one_cell_int _) (by omega) (by simp; have := HS3.out.lt; omega) ?_; intro v' w5 hown' hg')
      have R1 := Lib.hid (owns_snoc hown' rfl)
      have R2 := Lib.hid (push_grown HG3.out hown3 (by omega) hg')
      have R3 := Lib.hid ((HS3.out.later (gb_alloc (gb_refl w3 none) _) (by simp)).later hg' (fun q hq => by have := (hown3.lt q hq).1; omega))
      clear hown' hg' hown3
      obtain ⟨g8, c8, rfl, hgB, hgs, hcap, hcap2, _⟩ := owns_at R1.out (by simp)
      (with_reducible refine (n_any w.heap.size _ w.heap.size 5000 R3.out (by omega) (by omega)).mono ?_)
      rintro e w6 ⟨y1, rfl, ⟨hy10, hy11⟩, hs, hg⟩
      have hown6 := owns_keepp R1.out hg (by omega)
      have HS6 := Lib.hid hs; have HG6 := Lib.hid (gb_new R2.out hg (by simp)); clear hs hg R1 R2 R3 HS3 HG3
      go_wp2_with fail
      (with_reducible refine (n_any w.heap.size _ w.heap.size 1099511627776 HS6.out (by omega) (by omega)).mono ?_)
      rintro e w7 ⟨y2, rfl, ⟨hy20, hy21⟩, hs, hg⟩
      have HO7 := Lib.hid (owns_keepp hown6 hg (by omega))
      have HS7 := Lib.hid hs; have HG7 := Lib.hid (gb_new HG6.out hg (by simp)); clear hs hg hown6 HS6 HG6
      go_wp2_with fail
      have hc8 : ∀ i, i < 5 → ∃ z, (w7.alloc (.cells #[.int .i64 x0, .int .i64 y1, .int .i64 y2, .int .i64 0, .int .i64 (-1)] 3)).cell? ⟨w7.heap.size, i, none⟩ = some (.int .i64 z) ∧ z ≤ 9223372036854775807 := by
        intro i hi
        rw [cell_new]
        match i, hi with
        | 0, _ => exact ⟨x0, rfl, by omega⟩
        | 1, _ => exact ⟨y1, rfl, by omega⟩
        | 2, _ => exact ⟨y2, rfl, by omega⟩
        | 3, _ => exact ⟨0, rfl, by omega⟩
        | 4, _ => exact ⟨-1, rfl, by omega⟩
      have HC8 := Lib.hid hc8; clear hc8
      have HS8 := Lib.hid (HS7.out.later (gb_alloc (gb_refl w7 none) (.cells #[.int .i64 x0, .int .i64 y1, .int .i64 y2, .int .i64 0, .int .i64 (-1)] 3)) (by simp))
      have HG8 := Lib.hid (gb_alloc HG7.out (.cells #[.int .i64 x0, .int .i64 y1, .int .i64 y2, .int .i64 0, .int .i64 (-1)] 3))
      have HO8 := Lib.hid (HO7.out.alloc (.cells #[.int .i64 x0, .int .i64 y1, .int .i64 y2, .int .i64 0, .int .i64 (-1)] 3))
      generalize w7.alloc (.cells #[.int .i64 x0, .int .i64 y1, .int .i64 y2, .int .i64 0, .int .i64 (-1)] 3) = w8 at *
      clear HS7 HG7 HO7
      go_loop [53] (fun i => ∃ j : Nat, j ≤ 5 ∧ i = .int .i64 j) (fun i => 5 - (intOf i).toNat)
      case atStart => exact ⟨0, by omega, rfl⟩
      case round =>
        obtain ⟨j, hj, rfl⟩ := hrel
        by_cases h5 : j < 5
        · obtain ⟨z, hz, hzm⟩ := HC8.out j h5
          go_wp2_with (first
            | (go_at_call 12; refine (log_all z _ hzm).mono ?_; rintro e w' ⟨rfl, rfl⟩)
            | (go_at_call 13; refine (rlog_all z _ hzm).mono ?_; rintro e w' ⟨rfl, rfl⟩)
            | (go_at_call 14; refine (floor_any z _).mono ?_; rintro e w' ⟨rfl, rfl⟩)
            | (go_at_call 15; refine (rfloor_any z _).mono ?_; rintro e w' ⟨rfl, rfl⟩)
            | (go_at_call 16; refine (ceil_any z _).mono ?_; rintro e w' ⟨rfl, rfl⟩)
            | (go_at_call 17; refine (rceil_any z _).mono ?_; rintro e w' ⟨rfl, rfl⟩))
          go_round
          case rel => exact ⟨j + 1, by omega, by go_num⟩
          case measure => simp [intOf]; omega
        · go_upto_region 18 with (fail)
          clear HC8 hj h5
          have hcap' : ys.length + 1 ≤ c8 := by simpa using hcap
          go_cut [102, 103, 104] (fun u n i wc => Four w u wc ∧ n = .int .i64 4 ∧ i = .int .i64 0)
          case first =>
            go_region_with (first
              | (go_at_call_of 11 (Value.int .i64 4); refine (n_any w.heap.size _ w.heap.size 4 ?_ (by omega) (by omega)).mono ?_; assumption; rintro e w10 ⟨t2, rfl, ⟨ht20, ht21⟩, hs10, hg10⟩)
              | (go_at_call 11; go_must (refine (n_any w.heap.size _ w.heap.size _ ?_ ?_ ?_).mono ?_; exact HS8.out.later (gb_drew (gb_refl w8 none)) (by simp); (omega); (omega); rintro e w9 ⟨t1, rfl, ⟨ht10, ht11⟩, hs9, hg9⟩; obtain ⟨tn, rfl⟩ := Int.eq_ofNat_of_zero_le ht10; have q1 : IntKind.i64.wrap (1 + (tn : Int)) = 1 + (tn : Int) := IntWalk.i64_in _ (by omega); have q2 : (0 : Int) ≤ 1 + (tn : Int) := (by omega); have q3 : (1 : Int) + (tn : Int) ≤ (c8 : Int) := (by omega); have q4 : (1 + (tn : Int)).toNat = 1 + tn := (by omega); have q5 : 1 + tn ≤ c8 := (by omega))))
            go_wp2_with fail
            go_meet
            case rel =>
              have hg10' : w8.grownBy w10 (some w.heap.size) := gb_trans (gb_drew (gb_refl w8 _) : w8.grownBy w8.drew (some w.heap.size)) (gb_trans hg9 hg10)
              have hgw : w.grownBy w10 none := gb_new HG8.out hg10' (by simp)
              have ho := owns_keepp HO8.out hg10' (by omega)
              refine ⟨⟨(w10.alloc (.cells #[.int .i64 t2] 3)).heap.size, by simp, ?_, gb_alloc (gb_alloc hgw _) _⟩, rfl, rfl⟩
              have g1 := gb_alloc (gb_alloc (gb_refl w10 none) (.cells #[.int .i64 t2] 3)) (.cells #[.slice a1 raw.length c1, .slice (some ⟨g8, 0, none⟩) (ys.length + 1) c8, .slice (some ⟨g8, 0, none⟩) (1 + tn) c8, .slice (some ⟨w10.heap.size, 0, none⟩) 1 1] 26)
              have hgood : Sl w10 (.slice (some ⟨g8, 0, none⟩) (ys.length + 1) c8) (ys ++ [1 + z]) := by
                have := Sl_of_owns ho rfl
                simpa using this
              intro i hi
              rw [cell_new]
              match i, hi with
              | 0, _ => exact ⟨_, _, rfl, HR.out.later (gb_trans hgw g1) (by simp), rfl⟩
              | 1, _ => exact ⟨_, _, rfl, hgood.later g1 (by simp), rfl⟩
              | 2, _ => exact ⟨_, _, rfl, (hgood.take (m := 1 + tn) (by omega)).later g1 (by simp), rfl⟩
              | 3, _ => exact ⟨_, _, rfl, (Sl.one w10 t2 3).later (gb_alloc (gb_refl _ none) _) (by simp), rfl⟩
          case rest =>
            obtain ⟨⟨b, rfl, hcells, hgw⟩, rfl, rfl⟩ := hcut
            have HC := Lib.hid hcells; have HGW := Lib.hid hgw
            have hbl : b < wc.heap.size := by obtain ⟨v0, _, h0, _⟩ := hcells 0 (by omega); exact World.block_lt_of_cell? wc _ h0
            clear hcells hgw
            go_wp2_with fail
            go_loopw [104] (fun i wr => ∃ j : Nat, j ≤ 4 ∧ i = .int .i64 j ∧ wc.grownBy wr none) (fun i _ => 4 - (intOf i).toNat)
            case atStart => exact ⟨0, by omega, rfl, gb_refl _ _⟩
            case round =>
              obtain ⟨j, hj, rfl, hgr⟩ := hrel
              by_cases h4 : j < 4
              · obtain ⟨vx, zs, hcell, hsl, hone⟩ := HC.out j h4
                have hcell' := (gb_cell (o := j) hgr hbl (by simp)).trans hcell
                have HSL := Lib.hid (hsl.later hgr (by simp))
                have HGR := Lib.hid hgr
                clear hcell hsl hgr
                go_wp2_with fail
                (with_reducible refine (lognat_all zs vx _ HSL.out).mono ?_)
                rintro e w' ⟨rfl, n1, rfl⟩
                have HSL1 := Lib.hid (HSL.out.later (gb_drewN (gb_refl _ none) n1) (by simp))
                go_wp2_with fail
                (with_reducible refine (rlognat_all zs vx _ HSL1.out).mono ?_)
                rintro e w' ⟨rfl, n2, rfl⟩
                go_wp2_with fail
                go_roundw
                case rel => exact ⟨j + 1, by omega, by go_num, gb_drewN HGR.out _⟩
                case measure => simp [intOf]; omega
              · have HGR := Lib.hid (gb_trans HGW.out hgr)
                clear hgr
                go_wp2_with fail
                (with_reducible refine (awake_any _).mono ?_)
                rintro e w9 ⟨rfl, hg⟩
                have HG9 := Lib.hid (gb_trans HGR.out hg); clear hg
                go_wp2
                go_ret
                exact ⟨rfl, gb_end HG9.out⟩
end Go.Proofs.Ytlkhdephpnjkmaa
