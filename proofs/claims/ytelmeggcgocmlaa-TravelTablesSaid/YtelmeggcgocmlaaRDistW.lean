/- ref25.Distances: the walk. Written by gen_rdist.py. -/
import Derived.Test.YtelmeggcgocmlaaRDist
namespace Go.Proofs.Ytelmeggcgocmlaa
set_option linter.all false
open Go.RowKit

set_option maxRecDepth 100000 in
set_option maxHeartbeats 4000000 in
theorem rdistances_any (step t : Int) (vl vh : Value) (ls hs : List Int) (w : World) (h1 : Sl w vl ls) (h2 : Sl w vh hs) :
    Calls Try.prog 43 #[.agg #[.int .i64 step, vl, vh], .int .i64 t] w fun e w' => e = .returned (dV step ls hs t) ∧ w.grownBy w' none := by
  obtain ⟨a1, c1, rfl⟩ := h1.shape; obtain ⟨a2, c2, rfl⟩ := h2.shape
  have hg0 := gb_alloc (gb_refl w none) (.cells #[.int .i64 step, .slice a1 ls.length c1, .slice a2 hs.length c2] 46)
  have K0 := Lib.hid (heap_alloc_new w (.cells #[.int .i64 step, .slice a1 ls.length c1, .slice a2 hs.length c2] 46))
  have S1 := Lib.hid (h1.after hg0); have S2 := Lib.hid (h2.after hg0); have HG0 := Lib.hid hg0
  clear h1 h2 hg0
  go_enter Try.func43, Try.ntmps43
  obtain ⟨t0_, t1_, t2_⟩ := cells3 K0.out
  go_wp2_with fail
  generalize w.alloc (.cells #[.int .i64 step, .slice a1 ls.length c1, .slice a2 hs.length c2] 46) = w1 at *
  (with_reducible refine (rvalidate_any _ _ _ ls hs w1 S1.out S2.out).mono ?_)
  rintro e w2 ⟨rfl, hg⟩
  clear t0_ t1_ t2_
  have K2 := Lib.hid (block_kept hg K0.out rfl); have A1 := Lib.hid (S1.out.after hg); have A2 := Lib.hid (S2.out.after hg); have HG2 := Lib.hid (gb_trans HG0.out hg)
  clear hg K0 S1 S2 HG0
  by_cases hok : tOk step ls hs
  rotate_left
  · have he : tE step ls hs = 21 := (tE_bad hok).symm
    have HD := Lib.hid (dV_err (t := t) (by decide : (21 : Int) ≠ 0) (show dE step ls hs t = 21 by unfold dE; rw [if_pos hok]))
    go_wp2
    refine bodyPost_ret (v := .tuple #[.int .i64 0, .int .i64 0, .int .i64 21]) (by simp [results, Try.results43, go_sem]) rfl ⟨HD.out, HG2.out⟩
  have he : tE step ls hs = 0 := (tE_ok hok).symm
  have HOK := Lib.hid hok
  have hr := (reachS_le hok).2.1
  have hln : ls.length ≤ 256 ∧ 1 ≤ step ∧ step ≤ 1048576 := ⟨hok.2.2.2.2.1, hok.1, hok.2.1⟩
  have HP := Lib.hid (foundD_plain t hok)
  have RE := Lib.hid (fun (u : World) (hu : w2.grownBy u none) => rReachS_any step _ _ ls hs u (A1.out.after hu) (A2.out.after hu) hok)
  have LO := Lib.hid (fun (d : Int) (h0 : 0 ≤ d) (hd : d ≤ reachS step ls) (u : World) (hu : w2.grownBy u none) => rlower_any step d _ _ ls hs u (A1.out.after hu) (A2.out.after hu) hok h0 hd)
  have UP := Lib.hid (fun (d : Int) (h0 : 0 ≤ d) (hd : d ≤ reachS step ls) (u : World) (hu : w2.grownBy u none) => rupper_any step d _ _ ls hs u (A1.out.after hu) (A2.out.after hu) hok h0 hd)
  clear hok
  have hfd0 : foundD step ls hs t 0 = (-1, -1) := rfl
  go_wp2_with fail
  go_loopw [7, 8, 9] (fun f tt k wr => ∃ K : Nat, K ≤ ls.length ∧ k = .int .i64 K ∧ f = .int .i64 (foundD step ls hs t K).1 ∧ tt = .int .i64 (foundD step ls hs t K).2 ∧ w2.grownBy wr none) (fun _ _ k _ => ls.length - (intOf k).toNat)
  case atStart => exact ⟨0, by omega, rfl, by rw [hfd0], by rw [hfd0], gb_refl _ _⟩
  case round =>
    obtain ⟨K, hK, rfl, rfl, rfl, hgr⟩ := hrel
    have T_ := Lib.hid (block_kept hgr K2.out rfl)
    obtain ⟨t0_, t1_, t2_⟩ := cells3 T_.out
    by_cases hlt : K < ls.length
    rotate_left
    · have hKn : K = ls.length := by omega
      have hlt' : decide ((K : Int) < (ls.length : Int)) = false := decide_eq_false (by omega)
      have HGE := Lib.hid (gb_trans HG2.out hgr)
      rw [hKn] at *
      rcases HP.out with ⟨e, hf, h0⟩ | ⟨e, hf⟩
      · rw [hf]
        have HD := Lib.hid (dV_ok (step := step) (ls := ls) (hs := hs) (t := t) e rfl rfl)
        have h0' : decide (dLeast step hs t < 0) = false := decide_eq_false (by omega)
        simp only []
        generalize dLeast step hs t = da at *
        generalize dMost step ls t = db at *
        clear HP hf e
        go_wp2
        refine bodyPost_ret (v := .tuple #[.int .i64 da, .int .i64 db, .int .i64 0]) (by simp [results, Try.results43, go_sem]) rfl ⟨HD.out, HGE.out⟩
      · rw [hf]
        have HD := Lib.hid (dV_err (t := t) (by decide : (24 : Int) ≠ 0) e)
        clear HP hf e
        go_wp2
        refine bodyPost_ret (v := .tuple #[.int .i64 0, .int .i64 0, .int .i64 24]) (by simp [results, Try.results43, go_sem]) rfl ⟨HD.out, HGE.out⟩
    have HFS := Lib.hid (foundD_succ step ls hs t K)
    have hkp := mul_small (a := (K : Int)) (b := step) (A := 256) (B := 1048576) (by omega) (by omega) (by omega) (by omega)
    unfold triD at HFS
    generalize hq_ : (K : Int) * step = kp at *
    have hw0 : wrap64 kp = kp := by unfold wrap64; omega
    have hw1 : wrap64 (kp - 1) = kp - 1 := by unfold wrap64; omega
    have hw2 : wrap64 (kp + 1) = kp + 1 := by unfold wrap64; omega
    have HGR := Lib.hid hgr
    have HB := Lib.hid (show (wr.alloc (.cells #[.int .i64 (kp - 1), .int .i64 kp, .int .i64 (kp + 1)] 3)).heap[wr.heap.size]? = some (.cells (([kp - 1, kp, kp + 1] : List Int).map (Value.int .i64)).toArray 3 (0, 0)) from heap_alloc_new _ _)
    have HG3 := Lib.hid (gb_alloc hgr (.cells #[.int .i64 (kp - 1), .int .i64 kp, .int .i64 (kp + 1)] 3))
    have hd1 : decide ((K : Int) < (ls.length : Int)) = true := decide_eq_true (by omega)
    have HD0 : Hid (∀ d ∈ [kp - 1, kp, kp + 1], -1 ≤ d ∧ d ≤ 268435457) := Lib.hid (by intro d hd; simp at hd; omega)
    generalize foundD step ls hs t K = s0 at *
    clear hgr
    go_wp2_with fail
    generalize wr.alloc (.cells #[.int .i64 (kp - 1), .int .i64 kp, .int .i64 (kp + 1)] 3) = w3 at *
    generalize wr.heap.size = lb at *
    obtain ⟨L, hL, hL3⟩ : ∃ L : List Int, L = [kp - 1, kp, kp + 1] ∧ L.length = 3 := ⟨_, rfl, rfl⟩
    rw [← hL] at HB HFS HD0
    clear hL t0_ t1_ t2_ hw0 hw1 hw2 hkp hq_ T_
    have hs00 : s0 = (L.take 0).foldl (updD (validD step ls hs t)) s0 := rfl
    go_loopw [7, 8, 38] (fun f tt i wr => ∃ (j : Nat) (s : Int × Int), j ≤ 3 ∧ s = (L.take j).foldl (updD (validD step ls hs t)) s0 ∧ i = .int .i64 j ∧ f = .int .i64 s.1 ∧ tt = .int .i64 s.2 ∧ w3.grownBy wr none) (fun _ _ i _ => 3 - (intOf i).toNat)
    case atStart => exact ⟨0, s0, by omega, rfl, rfl, rfl, rfl, gb_refl _ _⟩
    case round =>
      obtain ⟨j, ⟨sa, sb⟩, hj, hsj, rfl, rfl, rfl, hgr⟩ := hrel
      by_cases hlj : j < 3
      rotate_left
      · have hj3 : j = 3 := by omega
        have hd2 : decide ((j : Int) < 3) = false := decide_eq_false (by omega)
        have hs1 : foundD step ls hs t (K + 1) = (sa, sb) := by rw [HFS.out, hsj, hj3, ← hL3, List.take_length]
        have HGN := Lib.hid (gb_trans HG3.out hgr)
        simp only []
        clear hsj hj3
        go_wp2_with fail
        go_roundw
        case rel => exact ⟨K + 1, by omega, by go_num, by rw [hs1], by rw [hs1], HGN.out⟩
        case measure => simp [intOf]; omega
      have hd2 : decide ((j : Int) < 3) = true := decide_eq_true (by omega)
      have hjL : j < L.length := by omega
      have r0_ := row1 (block_kept hgr HB.out rfl) j hjL
      have hst := fold_take (updD (validD step ls hs t)) s0 L j hjL
      rw [← hsj] at hst
      have hdm := HD0.out _ (List.getElem_mem hjL)
      rw [show L[j]?.getD 0 = L[j] by simp [hjL]] at r0_
      have HST := Lib.hid hst
      generalize L[j] = d at *
      have HG4 := Lib.hid (gb_trans HG3.out hgr)
      have T_ := Lib.hid (block_kept HG4.out K2.out rfl)
      have HGJ := Lib.hid hgr
      clear hst hsj hgr
      simp only []
      by_cases h0 : d < 0
      · have HV : Hid (updD (validD step ls hs t) (sa, sb) d = (sa, sb)) := Lib.hid (by unfold updD; rw [if_neg (by unfold validD; simp; omega)])
        have HGN := Lib.hid (HGJ.out)
        have HST' := Lib.hid (HST.out.trans HV.out)
        clear HST HV
        go_wp2_with fail
        go_roundw
        case rel => exact ⟨j + 1, (sa, sb), by omega, HST'.out.symm, by go_num, rfl, rfl, HGN.out⟩
        case measure => simp [intOf]; omega
      have h0' : decide (d < 0) = false := decide_eq_false h0
      obtain ⟨t0_, t1_, t2_⟩ := cells3 T_.out
      go_wp2_with fail
      (with_reducible refine (RE.out wr HG4.out).mono ?_)
      rintro r w5 ⟨rfl, hg⟩
      clear t0_ t1_ t2_
      have HG5 := Lib.hid (gb_trans HG4.out hg); have T5 := Lib.hid (block_kept hg T_.out rfl); have HGJ5 := Lib.hid (gb_trans HGJ.out hg)
      clear hg HG4 T_ HGJ
      by_cases h1 : reachS step ls < d
      · have HV : Hid (updD (validD step ls hs t) (sa, sb) d = (sa, sb)) := Lib.hid (by unfold updD; rw [if_neg (by unfold validD; simp; omega)])
        have HGN := Lib.hid (HGJ5.out)
        have HST' := Lib.hid (HST.out.trans HV.out)
        clear HST HV
        go_wp2_with fail
        go_roundw
        case rel => exact ⟨j + 1, (sa, sb), by omega, HST'.out.symm, by go_num, rfl, rfl, HGN.out⟩
        case measure => simp [intOf]; omega
      have h1' : decide (reachS step ls < d) = false := decide_eq_false h1
      obtain ⟨t0_, t1_, t2_⟩ := cells3 T5.out
      go_wp2_with fail
      (with_reducible refine (LO.out d (by omega) (by omega) w5 HG5.out).mono ?_)
      rintro r w6 ⟨rfl, hg⟩
      clear t0_ t1_ t2_
      have HG6 := Lib.hid (gb_trans HG5.out hg); have T6 := Lib.hid (block_kept hg T5.out rfl); have HGJ6 := Lib.hid (gb_trans HGJ5.out hg)
      clear hg HG5 T5 HGJ5
      have UPd := Lib.hid (UP.out d (by omega) (by omega) w6 HG6.out)
      have HVD : Hid (validD step ls hs t d = (decide (at0 ls (loI step d) ≤ t) && decide (t ≤ at0 hs (upI step d)))) := Lib.hid (by
        unfold validD
        rw [decide_eq_true (by omega : 0 ≤ d), decide_eq_true (by omega : d ≤ reachS step ls)]; simp)
      generalize at0 ls (loI step d) = lo at *
      generalize at0 hs (upI step d) = hi at *
      by_cases h2 : t < lo
      · have HV : Hid (updD (validD step ls hs t) (sa, sb) d = (sa, sb)) := Lib.hid (by unfold updD; rw [if_neg (by rw [HVD.out]; simp; omega)])
        have HGN := Lib.hid (HGJ6.out)
        have HST' := Lib.hid (HST.out.trans HV.out)
        clear HST HV
        go_wp2_with fail
        go_roundw
        case rel => exact ⟨j + 1, (sa, sb), by omega, HST'.out.symm, by go_num, rfl, rfl, HGN.out⟩
        case measure => simp [intOf]; omega
      have h2' : decide (t < lo) = false := decide_eq_false h2
      obtain ⟨t0_, t1_, t2_⟩ := cells3 T6.out
      go_wp2_with fail
      (with_reducible refine UPd.out.mono ?_)
      rintro r w7 ⟨rfl, hg⟩
      clear t0_ t1_ t2_ UPd
      have HGJ7 := Lib.hid (gb_trans HGJ6.out hg)
      clear hg HG6 T6 HGJ6
      by_cases h3 : hi < t
      · have HV : Hid (updD (validD step ls hs t) (sa, sb) d = (sa, sb)) := Lib.hid (by unfold updD; rw [if_neg (by rw [HVD.out]; simp; omega)])
        have HGN := Lib.hid (HGJ7.out)
        have HST' := Lib.hid (HST.out.trans HV.out)
        clear HST HV
        go_wp2_with fail
        go_roundw
        case rel => exact ⟨j + 1, (sa, sb), by omega, HST'.out.symm, by go_num, rfl, rfl, HGN.out⟩
        case measure => simp [intOf]; omega
      have h3' : decide (hi < t) = false := decide_eq_false h3
      have HVT : Hid (validD step ls hs t d = true) := Lib.hid (by rw [HVD.out]; simp; omega)
      by_cases h4 : sa < 0
      · have HV : Hid (updD (validD step ls hs t) (sa, sb) d = (d, max sb d)) := Lib.hid (by unfold updD; rw [if_pos HVT.out]; simp only []; rw [if_pos h4]; exact Prod.ext (by show min d d = d; omega) rfl)
        have HST' := Lib.hid (HST.out.trans HV.out)
        clear HST HV HVD HVT
        go_wp2_with fail
        go_roundw
        case rel => exact ⟨j + 1, (d, max sb d), by omega, HST'.out.symm, by go_num, rfl, rfl, HGJ7.out⟩
        case measure => simp [intOf]; omega
      · have h4' : decide (sa < 0) = false := decide_eq_false h4
        have HV : Hid (updD (validD step ls hs t) (sa, sb) d = (min sa d, max sb d)) := Lib.hid (by unfold updD; rw [if_pos HVT.out]; simp only []; rw [if_neg h4])
        have HST' := Lib.hid (HST.out.trans HV.out)
        clear HST HV HVD HVT
        go_wp2_with fail
        go_roundw
        case rel => exact ⟨j + 1, (min sa d, max sb d), by omega, HST'.out.symm, by go_num, rfl, rfl, HGJ7.out⟩
        case measure => simp [intOf]; omega
end Go.Proofs.Ytelmeggcgocmlaa
