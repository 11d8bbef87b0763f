/- ref18: terms, total. -/
import Derived.Test.YtmgfdfbhfhmekaaGreatRsp
import Derived.Test.YtmgfdfbhfhmekaaGreatRsp2
import Derived.Test.YtmgfdfbhfhmekaaGreatR17M
import Derived.Test.YtmgfdfbhfhmekaaGreatGain
import Derived.Test.YtmgfdfbhfhmekaaGreatGainE
namespace Go.Proofs.YtmgfdfbhfhmekaaGreat
set_option linter.all false
section LR18
open Go.RowKit Rg

theorem in18_any (n lo hi : Int) (w : World) :
    Calls Tryz.prog 51 #[.int .i64 n, .int .i64 lo, .int .i64 hi] w fun e w' => e = .returned (.bool (decide (lo ≤ n) && decide (n ≤ hi))) ∧ w = w' := by
  by_cases h1 : lo ≤ n
  · go_enter Tryz.func51, Tryz.ntmps51
    go_wp2
    go_ret
    exact ⟨by simp [h1], rfl⟩
  · go_enter Tryz.func51, Tryz.ntmps51
    go_wp2
    go_ret
    exact ⟨by simp; omega, rfl⟩
set_option maxHeartbeats 400000 in
theorem rterms_any (xs : List Int) (v : Value) (w : World) (hs : Sl w v xs) :
    Calls Tryz.prog 92 #[v] w fun e w' => e = .returned (.bool (termsOk xs)) ∧ w = w' := by
  rcases hs with ⟨rfl, a, cap, rfl⟩ | ⟨b, off, cap, rfl, hb, hcap, hcap2, hc⟩
  · go_enter Tryz.func92, Tryz.ntmps92
    go_wp2
    go_rounds 1
    go_ret
    exact ⟨rfl, rfl⟩
  · have HC := Lib.hid hc; clear hc
    go_enter Tryz.func92, Tryz.ntmps92
    go_wp2
    go_loop [3] (fun i => ∃ k : Nat, k ≤ xs.length ∧ i = .int .i64 k ∧ ∀ j (h : j < xs.length), j < k → (decide (-1048576 ≤ xs[j]) && decide (xs[j] ≤ 1048576)) = true) (fun i => xs.length - (intOf i).toNat)
    case atStart => exact ⟨0, by omega, rfl, fun j h h2 => by omega⟩
    case round =>
      obtain ⟨k, hk, rfl, hok⟩ := hrel
      have HOK := Lib.hid hok
      clear hok
      by_cases hlt : k < xs.length
      · have hcell := HC.out k hlt
        have e : xs[k]?.getD 0 = xs[k] := by rw [List.getElem?_eq_getElem hlt]; rfl
        rw [e] at hcell
        clear e
        have IN := Lib.hid (in18_any xs[k] (-1048576) 1048576 w)
        obtain ⟨bb, hbb⟩ : ∃ bb, (decide (-1048576 ≤ xs[k]) && decide (xs[k] ≤ 1048576)) = bb := ⟨_, rfl⟩
        rw [hbb] at IN
        have HBB := Lib.hid hbb
        clear hbb
        obtain ⟨x, hx⟩ : ∃ x, xs[k] = x := ⟨_, rfl⟩
        have HX := Lib.hid hx
        rw [hx] at hcell IN HBB
        clear hx
        go_wp2_with fail
        (with_reducible refine IN.out.mono ?_)
        rintro e w' ⟨rfl, rfl⟩
        cases bb
        · go_wp2
          go_ret
          refine ⟨?_, rfl⟩
          have : termsOk xs = false := by
            cases hq : termsOk xs with
            | false => rfl
            | true =>
              unfold termsOk at hq
              have h1 := (List.all_eq_true.1 hq) xs[k] (List.getElem_mem hlt)
              rw [HX.out] at h1
              have h2 := HBB.out
              simp [inB] at h1 h2
              omega
          rw [this]; rfl
        · go_wp2
          go_round
          case rel => exact ⟨k + 1, by omega, by go_num, fun j h h2 => by
            by_cases hj : j < k
            · exact HOK.out j h hj
            · obtain rfl : j = k := by omega
              rw [HX.out]; exact HBB.out⟩
          case measure => simp [intOf]; omega
      · go_wp2
        go_ret
        refine ⟨?_, rfl⟩
        have : termsOk xs = true := by
          unfold termsOk
          rw [List.all_eq_true]
          intro x hx
          obtain ⟨j, hj, rfl⟩ := List.getElem_of_mem hx
          have := HOK.out j hj (by omega)
          simpa [inB] using this
        rw [this]; rfl
set_option maxHeartbeats 400000 in
theorem rtotal_any (xs : List Int) (v : Value) (w : World) (hs : Sl w v xs) (ht : termsOk xs = true) (hl : xs.length ≤ 1000) :
    Calls Tryz.prog 74 #[v] w fun e w' => e = .returned (.int .i64 (sumL xs)) ∧ w = w' := by
  rcases hs with ⟨rfl, a, cap, rfl⟩ | ⟨b, off, cap, rfl, hb, hcap, hcap2, hc⟩
  · go_enter Tryz.func74, Tryz.ntmps74
    go_wp2
    go_rounds 1
    go_ret
    exact ⟨rfl, rfl⟩
  · have HC := Lib.hid hc; have HT := Lib.hid ht; clear hc ht
    go_enter Tryz.func74, Tryz.ntmps74
    go_wp2
    go_loop [3, 4] (fun n i => ∃ k : Nat, k ≤ xs.length ∧ i = .int .i64 k ∧ n = .int .i64 (sumL (xs.take k))) (fun _ i => xs.length - (intOf i).toNat)
    case atStart => exact ⟨0, by omega, rfl, rfl⟩
    case round =>
      obtain ⟨k, hk, rfl, rfl⟩ := hrel
      by_cases hlt : k < xs.length
      · have hcell := HC.out k hlt
        have e : xs[k]?.getD 0 = xs[k] := by rw [List.getElem?_eq_getElem hlt]; rfl
        rw [e] at hcell
        clear e
        have hs1 := sumL_in (termsOk_take HT.out (k + 1))
        have hs0 := sumL_take hlt
        have hlk : ((xs.take (k + 1)).length : Int) ≤ 1000 := by rw [List.length_take]; omega
        have hw_ : IntKind.i64.wrap (sumL (xs.take k) + xs[k]) = sumL (xs.take (k + 1)) := by rw [← hs0, IntKind.wrap_i64]; omega
        have HW := Lib.hid hw_
        clear hs1 hs0 hlk hw_
        generalize xs[k] = x at *
        generalize sumL (xs.take k) = y at *
        have hw_ := HW.out
        go_wp2
        go_round
        case rel => exact ⟨k + 1, by omega, by go_num, rfl⟩
        case measure => simp [intOf]; omega
      · go_wp2
        go_ret
        exact ⟨by rw [List.take_of_length_le (by omega)]; rfl, rfl⟩
end LR18
section LR18t
open Go.RowKit Rg

theorem rin18_any (n lo hi : Int) (w : World) :
    Calls Tryz.prog 51 #[.int .i64 n, .int .i64 lo, .int .i64 hi] w fun e w' => e = .returned (.bool (inB n lo hi)) ∧ w = w' := in18_any n lo hi w
theorem Stg.ok_eq18 (kind n0 n1 n2 d0 d1 d2 : Int) (taps : List Int) (fac sh : Int) : Stg.ok ⟨kind, n0, n1, n2, d0, d1, d2, taps, fac, sh⟩ = (if kind = 0 then (decide (taps.length = 0) && decide (fac = 0) && decide (sh = 0)) && inB n0 1 1048576 && inB d0 1 1048576 && (n1 == 0) && (n2 == 0) && (d1 == 0) && (d2 == 0)
    else if kind = 1 then (decide (taps.length = 0) && decide (fac = 0) && decide (sh = 0)) && termsOk [n0, n1, n2] && termsOk [d0, d1, d2] && (d0 != 0)
    else if kind = 2 then eqA n0 n1 n2 0 0 0 && eqA d0 d1 d2 0 0 0 && inB taps.length 1 128 && termsOk taps && (sumL taps != 0) && inB fac 1 64 && inB sh 0 40 else false) := by
  rw [Stg.ok_eq]
  by_cases h0 : kind = 0
  · rw [if_pos h0, if_pos h0]
    unfold eqA
    rw [Bool.eq_iff_iff]
    simp only [Bool.and_eq_true, decide_eq_true_eq, beq_iff_eq, true_and]
    constructor
    · rintro ⟨⟨⟨⟨a, ⟨b1, b2⟩⟩, ⟨c1, c2⟩⟩, d⟩, e⟩; exact ⟨⟨⟨⟨⟨⟨a, d⟩, e⟩, b1⟩, b2⟩, c1⟩, c2⟩
    · rintro ⟨⟨⟨⟨⟨⟨a, d⟩, e⟩, b1⟩, b2⟩, c1⟩, c2⟩; exact ⟨⟨⟨⟨a, ⟨b1, b2⟩⟩, ⟨c1, c2⟩⟩, d⟩, e⟩
  · rw [if_neg h0, if_neg h0]
set_option maxRecDepth 100000 in
set_option maxHeartbeats 4000000 in
theorem rvstage_any (s : Stg) (tv : Value) (w : World) (hs : Sl w tv s.taps) :
    Calls Tryz.prog 71 #[s.val tv] w fun e w' => e = .returned (.bool s.ok) ∧ w.grownBy w' none := by
  obtain ⟨kind, n0, n1, n2, d0, d1, d2, taps, fac, sh⟩ := s
  have HG := Lib.hid (gb_alloc (gb_refl w none) (.cells #[.int .i64 kind, .int .i64 n0, .int .i64 n1, .int .i64 n2, .int .i64 d0, .int .i64 d1, .int .i64 d2, tv, .int .i64 fac, .int .i64 sh] 53))
  have HN := Lib.hid (heap_alloc_new w (.cells #[.int .i64 kind, .int .i64 n0, .int .i64 n1, .int .i64 n2, .int .i64 d0, .int .i64 d1, .int .i64 d2, tv, .int .i64 fac, .int .i64 sh] 53))
  dsimp only at hs
  obtain ⟨ta, tc, rfl⟩ := hs.shape
  have TM := Lib.hid (rterms_any taps _ _ (hs.after HG.out))
  have SM := Lib.hid (fun a b => rtotal_any taps _ _ (hs.after HG.out) a b)
  clear hs
  obtain ⟨p, hp⟩ : ∃ p, (decide (taps.length = 0) && decide (fac = 0) && decide (sh = 0)) = p := ⟨_, rfl⟩
  obtain ⟨m1, hm1⟩ : ∃ p, (n1 == 0) = p := ⟨_, rfl⟩
  obtain ⟨m2, hm2⟩ : ∃ p, (n2 == 0) = p := ⟨_, rfl⟩
  obtain ⟨m3, hm3⟩ : ∃ p, (d1 == 0) = p := ⟨_, rfl⟩
  obtain ⟨m4, hm4⟩ : ∃ p, (d2 == 0) = p := ⟨_, rfl⟩
  obtain ⟨un, hun⟩ : ∃ p, inB n0 1 1048576 = p := ⟨_, rfl⟩
  obtain ⟨ud, hud⟩ : ∃ p, inB d0 1 1048576 = p := ⟨_, rfl⟩
  obtain ⟨tn, htn⟩ : ∃ p, termsOk [n0, n1, n2] = p := ⟨_, rfl⟩
  obtain ⟨td, htd⟩ : ∃ p, termsOk [d0, d1, d2] = p := ⟨_, rfl⟩
  obtain ⟨z, hz⟩ : ∃ p, (d0 != 0) = p := ⟨_, rfl⟩
  obtain ⟨an, han⟩ : ∃ p, eqA n0 n1 n2 0 0 0 = p := ⟨_, rfl⟩
  obtain ⟨ad, had⟩ : ∃ p, eqA d0 d1 d2 0 0 0 = p := ⟨_, rfl⟩
  obtain ⟨c, hc⟩ : ∃ p, inB taps.length 1 128 = p := ⟨_, rfl⟩
  obtain ⟨tt, htt⟩ : ∃ p, termsOk taps = p := ⟨_, rfl⟩
  obtain ⟨s0, hs0⟩ : ∃ p, (sumL taps != 0) = p := ⟨_, rfl⟩
  obtain ⟨f, hf⟩ : ∃ p, inB fac 1 64 = p := ⟨_, rfl⟩
  obtain ⟨g, hg⟩ : ∃ p, inB sh 0 40 = p := ⟨_, rfl⟩
  have HOK : Hid (Stg.ok ⟨kind, n0, n1, n2, d0, d1, d2, taps, fac, sh⟩ = (if kind = 0 then p && un && ud && m1 && m2 && m3 && m4 else if kind = 1 then p && tn && td && z else if kind = 2 then an && ad && c && tt && s0 && f && g else false)) := Lib.hid (by
    rw [Stg.ok_eq18, hp, hun, hud, hm1, hm2, hm3, hm4, htn, htd, hz, han, had, hc, htt, hs0, hf, hg])
  generalize Stg.ok ⟨kind, n0, n1, n2, d0, d1, d2, taps, fac, sh⟩ = ok at *
  simp only [Stg.val]
  rw [htt] at TM
  have SM2 : Hid (tt = true → c = true → Calls Tryz.prog 74 #[.slice ta taps.length tc] (w.alloc (.cells #[.int .i64 kind, .int .i64 n0, .int .i64 n1, .int .i64 n2, .int .i64 d0, .int .i64 d1, .int .i64 d2, .slice ta taps.length tc, .int .i64 fac, .int .i64 sh] 53)) fun e w' => e = .returned (.int .i64 (sumL taps)) ∧ (w.alloc (.cells #[.int .i64 kind, .int .i64 n0, .int .i64 n1, .int .i64 n2, .int .i64 d0, .int .i64 d1, .int .i64 d2, .slice ta taps.length tc, .int .i64 fac, .int .i64 sh] 53)) = w') := Lib.hid (fun a b => SM.out (htt.trans a) (by have := hc.trans b; rw [inB_iff] at this; omega))
  clear SM htt
  have HP : Hid ((decide (taps.length = 0) && decide (fac = 0) && decide (sh = 0)) = p) := Lib.hid hp
  clear hp
  obtain ⟨q0_, q1_, q2_, q3_, q4_, q5_, q6_, q7_, q8_, q9_⟩ := cells10 HN.out
  have hbl := block_lt' HN.out
  have TN := Lib.hid (rterms_any _ _ _ (sl3 hbl q1_ q2_ q3_))
  have TD := Lib.hid (rterms_any _ _ _ (sl3 hbl q4_ q5_ q6_))
  rw [htn] at TN; rw [htd] at TD
  clear htn htd
  go_enter Tryz.func71, Tryz.ntmps71
  go_upto_region 1 with fail
  generalize w.alloc (.cells #[.int .i64 kind, .int .i64 n0, .int .i64 n1, .int .i64 n2, .int .i64 d0, .int .i64 d1, .int .i64 d2, .slice ta taps.length tc, .int .i64 fac, .int .i64 sh] 53) = w1 at *
  generalize w.heap.size = b at *
  go_cut [3] from 4 to 17 (fun v wc => v = .bool p ∧ wc = w1)
  case first =>
    by_cases h1 : taps.length = 0
    · have t1_ : ((taps.length : Int) == 0) = true := by simpa using h1
      by_cases h2 : fac = 0
      · have t2_ : (fac == 0) = true := by simpa using h2
        have HE : Hid (p = (sh == 0)) := Lib.hid (by rw [← HP.out, decide_eq_true h1, decide_eq_true h2, int_beq]; rfl)
        clear h1 h2
        go_wp2
        go_meet
        case rel => exact ⟨by rw [HE.out], rfl⟩
      · have t2_ : (fac == 0) = false := by simpa using h2
        have HE : Hid (p = false) := Lib.hid (by rw [← HP.out, decide_eq_false h2]; simp)
        clear h1 h2
        go_wp2
        go_meet
        case rel => exact ⟨by rw [HE.out], rfl⟩
    · have t1_ : ((taps.length : Int) == 0) = false := by simpa using h1
      have HE : Hid (p = false) := Lib.hid (by rw [← HP.out, decide_eq_false h1]; simp)
      clear h1
      go_wp2
      go_meet
      case rel => exact ⟨by rw [HE.out], rfl⟩
  case rest =>
  obtain ⟨rfl, hwc⟩ := hcut
  obtain rfl : w1 = wc := hwc.symm
  clear HP HN
  by_cases h0 : kind = 0
  · subst h0
    rw [if_pos rfl] at HOK
    clear TM SM2 TN TD hz han had hc hs0 hf hg
    cases p
    · go_wp2_with (first
        | (go_at_call 51; refine (rin18_any _ _ _ _).mono ?_; rintro e w' ⟨rfl, rfl⟩))
      go_ret
      exact ⟨by rw [HOK.out]; rfl, HG.out⟩
    cases un
    · go_wp2_with (first
        | (go_at_call 51; refine (rin18_any _ _ _ _).mono ?_; rintro e w' ⟨rfl, rfl⟩))
      go_ret
      exact ⟨by rw [HOK.out]; rfl, HG.out⟩
    cases ud
    · go_wp2_with (first
        | (go_at_call 51; refine (rin18_any _ _ _ _).mono ?_; rintro e w' ⟨rfl, rfl⟩))
      go_ret
      exact ⟨by rw [HOK.out]; rfl, HG.out⟩
    cases m1
    · go_wp2_with (first
        | (go_at_call 51; refine (rin18_any _ _ _ _).mono ?_; rintro e w' ⟨rfl, rfl⟩))
      go_ret
      exact ⟨by rw [HOK.out]; rfl, HG.out⟩
    cases m2
    · go_wp2_with (first
        | (go_at_call 51; refine (rin18_any _ _ _ _).mono ?_; rintro e w' ⟨rfl, rfl⟩))
      go_ret
      exact ⟨by rw [HOK.out]; rfl, HG.out⟩
    cases m3
    · go_wp2_with (first
        | (go_at_call 51; refine (rin18_any _ _ _ _).mono ?_; rintro e w' ⟨rfl, rfl⟩))
      go_ret
      exact ⟨by rw [HOK.out]; rfl, HG.out⟩
    cases m4
    · go_wp2_with (first
        | (go_at_call 51; refine (rin18_any _ _ _ _).mono ?_; rintro e w' ⟨rfl, rfl⟩))
      go_ret
      exact ⟨by rw [HOK.out]; rfl, HG.out⟩
    go_wp2_with (first
        | (go_at_call 51; refine (rin18_any _ _ _ _).mono ?_; rintro e w' ⟨rfl, rfl⟩))
    go_ret
    exact ⟨by rw [HOK.out]; rfl, HG.out⟩
  have h0_ : (kind == 0) = false := by simpa using h0
  rw [if_neg h0] at HOK
  clear h0 hun hud hm1 hm2 hm3 hm4
  by_cases h1 : kind = 1
  · subst h1
    rw [if_pos rfl] at HOK
    clear TM SM2 han had hc hs0 hf hg
    cases p
    · go_wp2_with (first
        | (go_at_call 92; first | (with_reducible refine TN.out.mono ?_) | (with_reducible refine TD.out.mono ?_); rintro e w' ⟨rfl, rfl⟩))
      go_ret
      exact ⟨by rw [HOK.out]; rfl, HG.out⟩
    cases tn
    · go_wp2_with (first
        | (go_at_call 92; first | (with_reducible refine TN.out.mono ?_) | (with_reducible refine TD.out.mono ?_); rintro e w' ⟨rfl, rfl⟩))
      go_ret
      exact ⟨by rw [HOK.out]; rfl, HG.out⟩
    cases td
    · go_wp2_with (first
        | (go_at_call 92; first | (with_reducible refine TN.out.mono ?_) | (with_reducible refine TD.out.mono ?_); rintro e w' ⟨rfl, rfl⟩))
      go_ret
      exact ⟨by rw [HOK.out]; rfl, HG.out⟩
    cases z
    · go_wp2_with (first
        | (go_at_call 92; first | (with_reducible refine TN.out.mono ?_) | (with_reducible refine TD.out.mono ?_); rintro e w' ⟨rfl, rfl⟩))
      go_ret
      exact ⟨by rw [HOK.out]; rfl, HG.out⟩
    go_wp2_with (first
      | (go_at_call 92; first | (with_reducible refine TN.out.mono ?_) | (with_reducible refine TD.out.mono ?_); rintro e w' ⟨rfl, rfl⟩))
    go_ret
    exact ⟨by rw [HOK.out]; rfl, HG.out⟩
  have h1_ : (kind == 1) = false := by simpa using h1
  rw [if_neg h1] at HOK
  clear h1 TN TD hz
  by_cases h2 : kind = 2
  · subst h2
    rw [if_pos rfl] at HOK
    cases an
    · go_wp2_with (first
        | (go_at_call 51; refine (rin18_any _ _ _ _).mono ?_; rintro e w' ⟨rfl, rfl⟩)
        | (go_at_call 92; (with_reducible refine TM.out.mono ?_); rintro e w' ⟨rfl, rfl⟩)
        | (go_at_call 74; (with_reducible refine (SM2.out rfl rfl).mono ?_); rintro e w' ⟨rfl, rfl⟩))
      go_ret
      exact ⟨by rw [HOK.out]; rfl, HG.out⟩
    cases ad
    · go_wp2_with (first
        | (go_at_call 51; refine (rin18_any _ _ _ _).mono ?_; rintro e w' ⟨rfl, rfl⟩)
        | (go_at_call 92; (with_reducible refine TM.out.mono ?_); rintro e w' ⟨rfl, rfl⟩)
        | (go_at_call 74; (with_reducible refine (SM2.out rfl rfl).mono ?_); rintro e w' ⟨rfl, rfl⟩))
      go_ret
      exact ⟨by rw [HOK.out]; rfl, HG.out⟩
    cases c
    · go_wp2_with (first
        | (go_at_call 51; refine (rin18_any _ _ _ _).mono ?_; rintro e w' ⟨rfl, rfl⟩)
        | (go_at_call 92; (with_reducible refine TM.out.mono ?_); rintro e w' ⟨rfl, rfl⟩)
        | (go_at_call 74; (with_reducible refine (SM2.out rfl rfl).mono ?_); rintro e w' ⟨rfl, rfl⟩))
      go_ret
      exact ⟨by rw [HOK.out]; rfl, HG.out⟩
    cases tt
    · go_wp2_with (first
        | (go_at_call 51; refine (rin18_any _ _ _ _).mono ?_; rintro e w' ⟨rfl, rfl⟩)
        | (go_at_call 92; (with_reducible refine TM.out.mono ?_); rintro e w' ⟨rfl, rfl⟩)
        | (go_at_call 74; (with_reducible refine (SM2.out rfl rfl).mono ?_); rintro e w' ⟨rfl, rfl⟩))
      go_ret
      exact ⟨by rw [HOK.out]; rfl, HG.out⟩
    have SM3 := Lib.hid (SM2.out rfl rfl)
    clear SM2
    cases s0
    · go_wp2_with (first
        | (go_at_call 51; refine (rin18_any _ _ _ _).mono ?_; rintro e w' ⟨rfl, rfl⟩)
        | (go_at_call 92; (with_reducible refine TM.out.mono ?_); rintro e w' ⟨rfl, rfl⟩)
        | (go_at_call 74; (with_reducible refine SM3.out.mono ?_); rintro e w' ⟨rfl, rfl⟩))
      go_ret
      exact ⟨by rw [HOK.out]; rfl, HG.out⟩
    cases f
    · go_wp2_with (first
        | (go_at_call 51; refine (rin18_any _ _ _ _).mono ?_; rintro e w' ⟨rfl, rfl⟩)
        | (go_at_call 92; (with_reducible refine TM.out.mono ?_); rintro e w' ⟨rfl, rfl⟩)
        | (go_at_call 74; (with_reducible refine SM3.out.mono ?_); rintro e w' ⟨rfl, rfl⟩))
      go_ret
      exact ⟨by rw [HOK.out]; rfl, HG.out⟩
    cases g
    · go_wp2_with (first
        | (go_at_call 51; refine (rin18_any _ _ _ _).mono ?_; rintro e w' ⟨rfl, rfl⟩)
        | (go_at_call 92; (with_reducible refine TM.out.mono ?_); rintro e w' ⟨rfl, rfl⟩)
        | (go_at_call 74; (with_reducible refine SM3.out.mono ?_); rintro e w' ⟨rfl, rfl⟩))
      go_ret
      exact ⟨by rw [HOK.out]; rfl, HG.out⟩
    go_wp2_with (first
      | (go_at_call 51; refine (rin18_any _ _ _ _).mono ?_; rintro e w' ⟨rfl, rfl⟩)
      | (go_at_call 92; (with_reducible refine TM.out.mono ?_); rintro e w' ⟨rfl, rfl⟩)
      | (go_at_call 74; (with_reducible refine SM3.out.mono ?_); rintro e w' ⟨rfl, rfl⟩))
    go_ret
    exact ⟨by rw [HOK.out]; rfl, HG.out⟩
  have h2_ : (kind == 2) = false := by simpa using h2
  rw [if_neg h2] at HOK
  clear h2 TM SM2 han had hc hs0 hf hg
  go_wp2
  go_ret
  exact ⟨by rw [HOK.out]; rfl, HG.out⟩
end LR18t
section LR18u
open Go.RowKit Rg

set_option maxRecDepth 100000 in
set_option maxHeartbeats 2000000 in
theorem rrvalid_any (L : List Stv) (v : Value) (w : World) (hs : StIn w v L) :
    Calls Tryz.prog 50 #[.agg #[v]] w fun e w' => e = .returned (.bool (rspOk (L.map Stv.s))) ∧ w.grownBy w' none := by
  have HS := Lib.hid hs
  obtain ⟨a, c, rfl⟩ := hs.1.slice
  have hlen : L.length ≤ 9223372036854775807 := by
    by_cases h0 : L.length = 0
    · omega
    · obtain ⟨b', off', cap', e, -, h1, h2, -⟩ := hs.1.block (by omega); omega
  have G1 := Lib.hid (gb_alloc (gb_refl w none) (.cells #[.slice a L.length c] 29))
  have B1 := Lib.hid (heap_alloc_new w (.cells #[.slice a L.length c] 29))
  have HR : Hid (rspOk (L.map Stv.s) = (decide (L.length ≤ 8) && rspR 1 (L.map Stv.s))) := Lib.hid (by rw [rspR_eq]; unfold rspOk; simp [Bool.and_assoc])
  have HR0 : Hid (rspR 1 ((L.drop 0).map Stv.s) = rspR 1 (L.map Stv.s)) := Lib.hid rfl
  clear hs
  generalize rspOk (L.map Stv.s) = ok at *
  generalize hF : rspR 1 (L.map Stv.s) = F at *
  clear hF
  generalize hn : L.length = N at *
  have HNL := Lib.hid hn; clear hn
  go_enter Tryz.func50, Tryz.ntmps50
  go_wp2_with fail
  generalize w.alloc (.cells #[.slice a N c] 29) = w1 at *
  generalize w.heap.size = z at *
  go_loopw [3, 4] (fun n i wr => ∃ (k : Nat) (m : Int), k ≤ N ∧ i = .int .i64 k ∧ n = .int .i64 m ∧ 1 ≤ m ∧ m ≤ 64 ∧ rspR m ((L.drop k).map Stv.s) = F ∧ w1.grownBy wr none) (fun _ i _ => N - (intOf i).toNat)
  case atStart => exact ⟨0, 1, by omega, rfl, rfl, by omega, by omega, HR0.out, gb_refl _ _⟩
  case round =>
    obtain ⟨k, m, hk, rfl, rfl, hm1, hm2, hp, hgr⟩ := hrel
    have HG := Lib.hid hgr
    have q0_ := cell_of (block_kept hgr B1.out rfl) 0 _ rfl
    have hz_ := block_lt' (block_kept hgr B1.out rfl)
    by_cases hlt : k < N
    · have hkL : k < L.length := by have := HNL.out; omega
      have hS := HS.out.after (gb_trans G1.out hgr)
      rw [← HNL.out] at hS
      obtain ⟨b, off, cap, e⟩ := hS.1.some (by omega)
      simp only [Value.slice.injEq, true_and] at e
      obtain ⟨rfl, rfl⟩ := e
      obtain ⟨hbl, c0_, c1_, c2_, c3_, c4_, c5_, c6_, c7_, c8_, c9_⟩ := hS.at k hkL
      obtain ⟨ta, tc, htv⟩ := (hS.2 _ (List.getElem_mem hkL)).shape
      rw [List.drop_eq_getElem_cons hkL, List.map_cons] at hp
      have VS := Lib.hid (rvstage_any L[k].s L[k].tv wr (hS.2 _ (List.getElem_mem hkL)))
      have hnk : N = L.length := HNL.out.symm
      clear hgr hS
      rw [← hnk] at *
      clear hnk
      generalize hRR : (L.drop (k + 1)).map Stv.s = R at *
      have HRR := Lib.hid hRR
      clear hRR
      generalize L[k] = x at *
      obtain ⟨⟨kind, n0, n1, n2, d0, d1, d2, taps, fac, sh⟩, tv⟩ := x
      simp only [] at *
      subst htv
      simp only [Stg.val] at VS
      have HOF := Lib.hid (@ok_factor ⟨kind, n0, n1, n2, d0, d1, d2, taps, fac, sh⟩)
      have HP : Hid ((if Stg.ok ⟨kind, n0, n1, n2, d0, d1, d2, taps, fac, sh⟩ = true then (if kind = 2 then (if 64 < m * fac then false else rspR (m * fac) R) else rspR m R) else false) = F) := Lib.hid hp
      clear hp
      generalize Stg.ok ⟨kind, n0, n1, n2, d0, d1, d2, taps, fac, sh⟩ = sok at *
      go_wp2_with fail
      (with_reducible refine VS.out.mono ?_)
      rintro e w2 ⟨rfl, hg⟩
      have G2 := Lib.hid (gb_trans HG.out hg)
      have c0' := (gb_cell hg hbl (by simp)).trans c0_
      have c8' := (gb_cell hg hbl (by simp)).trans c8_
      have q0' := (gb_cell hg hz_ (by simp)).trans q0_
      have hbl' := Nat.lt_of_lt_of_le hbl hg.size
      have hz' := Nat.lt_of_lt_of_le hz_ hg.size
      clear hg VS c0_ c1_ c2_ c3_ c4_ c5_ c6_ c7_ c8_ c9_ q0_ hz_ hbl HG
      have GO := Lib.hid (gb_trans G1.out G2.out)
      cases sok
      · have HE : Hid (ok = false) := Lib.hid (by rw [HR.out, ← HP.out]; simp)
        go_wp2
        go_ret
        exact ⟨by rw [HE.out]; rfl, GO.out⟩
      have HP2 : Hid ((if kind = 2 then (if 64 < m * fac then false else rspR (m * fac) R) else rspR m R) = F) := Lib.hid (by rw [← HP.out]; simp)
      clear HP
      by_cases h2 : kind = 2
      · subst h2
        have hf : 1 ≤ fac ∧ fac ≤ 64 := HOF.out rfl rfl
        rw [if_pos rfl] at HP2
        have hq0 : 1 * 1 ≤ m * fac := Int.mul_le_mul (by omega) (by omega) (by omega) (by omega)
        have hq1 : m * fac ≤ 64 * 64 := Int.mul_le_mul (by omega) (by omega) (by omega) (by omega)
        generalize hq : m * fac = q at *
        have hwq : IntKind.i64.wrap q = q := by rw [IntKind.wrap_i64]; omega
        by_cases h64 : 64 < q
        · have h64' : decide (q > 64) = true := decide_eq_true h64
          rw [if_pos h64] at HP2
          have HE : Hid (ok = false) := Lib.hid (by rw [HR.out, ← HP2.out]; simp)
          clear h64 hf HOF HP2
          go_wp2
          go_ret
          exact ⟨by rw [HE.out]; rfl, GO.out⟩
        · have h64' : decide (q > 64) = false := decide_eq_false h64
          rw [if_neg h64] at HP2
          have H64 : Hid (q ≤ 64) := Lib.hid (by omega)
          clear h64 hf HOF
          go_wp2
          go_roundw
          case rel => exact ⟨k + 1, q, by omega, by go_num, rfl, by omega, H64.out, by rw [HRR.out]; exact HP2.out, G2.out⟩
          case measure => simp [intOf]; omega
      · have h2' : (kind == 2) = false := by simpa using h2
        rw [if_neg h2] at HP2
        clear h2 HOF
        go_wp2
        go_roundw
        case rel => exact ⟨k + 1, m, by omega, by go_num, rfl, hm1, hm2, by rw [HRR.out]; exact HP2.out, G2.out⟩
        case measure => simp [intOf]; omega
    · have hd_ : decide ((k : Int) < (N : Int)) = false := decide_eq_false (by omega)
      have HE : Hid (ok = decide (N ≤ 8)) := Lib.hid (by
        have h2 := HNL.out
        rw [List.drop_of_length_le (by omega)] at hp
        rw [HR.out, ← hp]; simp [rspR])
      have GO := Lib.hid (gb_trans G1.out hgr)
      clear hgr hp
      by_cases h8 : N ≤ 8
      · have h8' : decide ((N : Int) ≤ 8) = true := decide_eq_true (by omega)
        rw [decide_eq_true h8] at HE
        clear h8
        go_wp2
        go_ret
        exact ⟨by rw [HE.out]; rfl, GO.out⟩
      · have h8' : decide ((N : Int) ≤ 8) = false := decide_eq_false (by omega)
        rw [decide_eq_false h8] at HE
        clear h8
        go_wp2
        go_ret
        exact ⟨by rw [HE.out]; rfl, GO.out⟩
end LR18u
section LR18g
open Go.RowKit Rg

theorem rsquare_nat (x : Int) (w : World) (hx : x.natAbs ≤ 4611686018427387904) :
    Calls Tryz.prog 72 #[.int .i64 x] w fun e w' => ∃ v, e = .returned v ∧ Sl w' v (natL (sqN x)) ∧ w.grownBy w' none := by
  have hw_ : IntKind.i64.wrap (-x) = -x := by rw [IntKind.wrap_i64]; omega
  have hm_ : max x (-x) = ((x.natAbs : Nat) : Int) := by omega
  have F := Lib.hid (rfrom_nat x.natAbs w (by omega))
  have MU := Lib.hid (fun (u : World) (v : Value) (hs : Sl u v (natL x.natAbs)) => rMul_nat (natL x.natAbs) (natL x.natAbs) v v x.natAbs x.natAbs u hs hs (natL_is _) (natL_is _) (natL_lt64 (by have := bpow_le (show 3 ≤ 64 by omega); unfold bpow at *; omega)) (natL_lt64 (by have := bpow_le (show 3 ≤ 64 by omega); unfold bpow at *; omega)) (by
    have h1 : x.natAbs * x.natAbs ≤ 4611686018427387904 * 4611686018427387904 := Nat.mul_le_mul hx hx
    have h2 : ((x.natAbs : Nat) : Int) * ((x.natAbs : Nat) : Int) = ((x.natAbs * x.natAbs : Nat) : Int) := by simp
    have := bpow_le (show 5 ≤ 64 by omega)
    rw [h2]
    unfold bpow at *
    omega))
  have HQ : Hid (((x.natAbs : Nat) : Int) * ((x.natAbs : Nat) : Int) = ((sqN x : Nat) : Int)) := Lib.hid (by unfold sqN; simp)
  clear hx
  generalize x.natAbs = n at *
  go_enter Tryz.func72, Tryz.ntmps72
  go_wp2_with fail
  (with_reducible refine F.out.mono ?_)
  rintro e w1 ⟨v1, rfl, hs, hg⟩
  have M1 := Lib.hid (MU.out w1 v1 hs); have G1 := Lib.hid hg
  obtain ⟨a1, c1, rfl⟩ := hs.shape
  clear hs hg F MU
  go_wp2_with fail
  (with_reducible refine M1.out.mono ?_)
  rintro e w2 ⟨v2, zs, rfl, hs, hz, -, hg⟩
  have S2 := Lib.hid hs; have G2 := Lib.hid (gb_trans G1.out hg)
  rw [HQ.out] at hz
  have Z2 := Lib.hid hz.eq
  obtain ⟨a2, c2, rfl⟩ := hs.shape
  clear hs hg hz M1 G1
  go_wp2_with fail
  go_ret
  exact ⟨_, rfl, by rw [← Z2.out]; exact S2.out, G2.out⟩

set_option maxRecDepth 100000 in
set_option maxHeartbeats 2000000 in
theorem rmagnitude_nat (a b c num den : Int) (w : World) (ha : a.natAbs ≤ 1048576) (hb : b.natAbs ≤ 1048576) (hc : c.natAbs ≤ 1048576) (hn : num.natAbs ≤ 65536) (hd : den.natAbs ≤ 65536) :
    Calls Tryz.prog 73 #[.agg #[.int .i64 a, .int .i64 b, .int .i64 c], .int .i64 num, .int .i64 den] w fun e w' => ∃ v, e = .returned v ∧ Sl w' v (natL (polN a b c num den)) ∧ w.grownBy w' none := by
  obtain ⟨p1, p2, p3, p4, p5, p6, p7⟩ := pol_in ha hb hc hn hd
  have SA := Lib.hid (fun u => rsquare_nat (a * den * den - c * num * num) u (by omega))
  have SB := Lib.hid (fun u => rsquare_nat (b * num * den) u (by omega))
  have HP : Hid (polN a b c num den = sqN (a * den * den - c * num * num) + sqN (b * num * den)) := Lib.hid rfl
  have q1 := sqN_le p7; have q2 := sqN_le p6
  have AD := Lib.hid (fun (u : World) (v1 v2 : Value) (h1 : Sl u v1 (natL (sqN (a * den * den - c * num * num)))) (h2 : Sl u v2 (natL (sqN (b * num * den)))) => radd_nat _ _ v1 v2 _ _ u h1 h2 (natL_is _) (natL_is _) (natL_lt64 (by have := bpow_le (show 5 ≤ 64 by omega); unfold bpow at *; omega)) (natL_lt64 (by have := bpow_le (show 5 ≤ 64 by omega); unfold bpow at *; omega)) (by have := bpow_le (show 5 ≤ 64 by omega); unfold bpow at *; omega))
  have w1_ : IntKind.i64.wrap (a * den) = a * den := by rw [IntKind.wrap_i64]; omega
  have w2_ : IntKind.i64.wrap (a * den * den) = a * den * den := by rw [IntKind.wrap_i64]; omega
  have w3_ : IntKind.i64.wrap (c * num) = c * num := by rw [IntKind.wrap_i64]; omega
  have w4_ : IntKind.i64.wrap (c * num * num) = c * num * num := by rw [IntKind.wrap_i64]; omega
  have w5_ : IntKind.i64.wrap (b * num) = b * num := by rw [IntKind.wrap_i64]; omega
  have w6_ : IntKind.i64.wrap (b * num * den) = b * num * den := by rw [IntKind.wrap_i64]; omega
  have w7_ : IntKind.i64.wrap (a * den * den - c * num * num) = a * den * den - c * num * num := by rw [IntKind.wrap_i64]; omega
  generalize polN a b c num den = pl at *
  clear p1 p2 p3 p4 p5 p6 p7 q1 q2 ha hb hc hn hd
  have g1 := gb_alloc (gb_refl w none) (.cells #[.int .i64 a, .int .i64 b, .int .i64 c] 51)
  have b1 := heap_alloc_new w (.cells #[.int .i64 a, .int .i64 b, .int .i64 c] 51)
  have G1 := Lib.hid g1
  obtain ⟨c0_, c1_, c2_⟩ := cells3 b1
  have hb1 := block_lt' b1
  clear g1 b1
  go_enter Tryz.func73, Tryz.ntmps73
  go_wp2_with fail
  generalize w.alloc (.cells #[.int .i64 a, .int .i64 b, .int .i64 c] 51) = w1 at *
  generalize w.heap.size = z at *
  have u1_ := Made.cells hb1
  refine Rg.region (Made w1) Makes (fun k => if k = 13 then some (fun _ v u => isNat (sqN (a * den * den - c * num * num)) v u) else if k = 20 then some (fun _ v u => isNat (sqN (b * num * den)) v u) else if k = 21 then some (fun _ v u => ∃ v', v = .tuple #[v', .int .i64 0] ∧ isNat pl v' u) else none) (fun _ => false) 0 27 (by kernel_rfl) (by kernel_rfl) (by kernel_rfl) (by kernel_rfl) (by kernel_rfl) (by kernel_rfl) (by kernel_rfl) Makes.size (Made.start w1) (fun hne => ?_)
  (repeat (refine rLexL_quiet (by rfl) (by rfl) (by rfl) (by rfl) ?_; go_big_quiet_step (fail); refine wpQuiet_nil ?_))
  refine rg_mem (isNat (sqN (a * den * den - c * num * num))) 72 #[.int .i64 (a * den * den - c * num * num)] Made.grown (Makes.none _) rfl rfl rfl (fun v j u u' _ _ hR h => Sl.after h hR) (fun _ => by go_simp) (fun u _ _ => SA.out u) (fun v1 ua _ hv1 => ?_)
  obtain ⟨a1, c1, rfl⟩ := Sl.shape hv1
  simp only [Act.put, List.setIfInBounds_toArray, List.set_cons_zero, List.set_cons_succ]
  (repeat (refine rLexL_quiet (by rfl) (by rfl) (by rfl) (by rfl) ?_; go_big_quiet_step (fail); refine wpQuiet_nil ?_))
  refine rg_mem (isNat (sqN (b * num * den))) 72 #[.int .i64 (b * num * den)] Made.grown (Makes.none _) rfl rfl rfl (fun v j u u' _ _ hR h => Sl.after h hR) (fun _ => by go_simp) (fun u _ _ => SB.out u) (fun v2 ub _ hv2 => ?_)
  obtain ⟨a2, c2, rfl⟩ := Sl.shape hv2
  simp only [Act.put, List.setIfInBounds_toArray, List.set_cons_zero, List.set_cons_succ]
  (repeat (refine rLexL_quiet (by rfl) (by rfl) (by rfl) (by rfl) ?_; go_big_quiet_step (fail); refine wpQuiet_nil ?_))
  refine rg_mem (fun v u => ∃ v', v = .tuple #[v', .int .i64 0] ∧ isNat pl v' u) 94 #[.slice a1 (natL (sqN (a * den * den - c * num * num))).length c1, .slice a2 (natL (sqN (b * num * den))).length c2] Made.grown (Makes.none _) rfl rfl rfl (fun v j u u' _ _ hR h => by obtain ⟨v', e, h⟩ := h; exact ⟨v', e, Sl.after h hR⟩) (fun _ => by go_simp) (fun u _ hd => ?_) (fun v3 uc _ hv3 => ?_)
  · have h1 := hd ⟨13, .data⟩ (by simp) rfl
    have h2 := hd ⟨20, .data⟩ (by simp) rfl
    refine (AD.out u _ _ h1 h2).mono ?_
    rintro e w' ⟨v', zs, rfl, hs, hz, -, hg⟩
    rw [← Int.natCast_add, ← HP.out] at hz
    exact ⟨_, rfl, ⟨v', rfl, by rw [isNat, ← hz.eq]; exact hs⟩, hg⟩
  obtain ⟨v3, rfl, hv3⟩ := hv3
  obtain ⟨a3, c3, rfl⟩ := Sl.shape hv3
  simp only [Act.put, List.setIfInBounds_toArray, List.set_cons_zero, List.set_cons_succ]
  (repeat (refine rLexL_quiet (by rfl) (by rfl) (by rfl) (by rfl) ?_; go_big_quiet_step (fail); refine wpQuiet_nil ?_))
  rintro wq hq hf -
  have h21 : ∃ v', Value.tuple #[.slice a3 (natL pl).length c3, .int .i64 0] = .tuple #[v', .int .i64 0] ∧ isNat pl v' wq := hf 21
  have HF : Hid (Sl wq (.slice a3 (natL pl).length c3) (natL pl)) := Lib.hid (by obtain ⟨v', e, h⟩ := h21; simp at e; rw [e]; exact h)
  have HGQ := Lib.hid (gb_trans G1.out hq)
  clear h21 hf hq
  refine wpList_nil ?_
  go_wp2_with fail
  go_ret
  exact ⟨_, rfl, HF.out, HGQ.out⟩
/-- A gain is returned. -/
def GainR (n d : Nat) (w : World) (e : Ending) (w' : World) : Prop := ∃ v1 v2, e = .returned (.agg #[v1, v2]) ∧ Sl w' v1 (natL n) ∧ Sl w' v2 (natL d) ∧ w.grownBy w' none
set_option maxRecDepth 100000 in
set_option maxHeartbeats 4000000 in
theorem rgain_nat (s : Stg) (tv : Value) (num den : Int) (w : World) (hs : Sl w tv s.taps) (hok : s.ok = true) (hn : num.natAbs ≤ 65536) (hd : den.natAbs ≤ 65536) :
    Calls Tryz.prog 52 #[s.val tv, .int .i64 num, .int .i64 den] w (GainR (s.gn num den) (s.gd num den) w) := by
  obtain ⟨kind, n0, n1, n2, d0, d1, d2, taps, fac, sh⟩ := s
  dsimp only at hs
  obtain ⟨ta, tc, rfl⟩ := hs.shape
  obtain ⟨GN, hGN⟩ : ∃ n, Stg.gn ⟨kind, n0, n1, n2, d0, d1, d2, taps, fac, sh⟩ num den = n := ⟨_, rfl⟩
  obtain ⟨GD, hGD⟩ : ∃ n, Stg.gd ⟨kind, n0, n1, n2, d0, d1, d2, taps, fac, sh⟩ num den = n := ⟨_, rfl⟩
  rw [hGN, hGD]
  have g1 := gb_alloc (gb_refl w none) (.cells #[.int .i64 kind, .int .i64 n0, .int .i64 n1, .int .i64 n2, .int .i64 d0, .int .i64 d1, .int .i64 d2, .slice ta taps.length tc, .int .i64 fac, .int .i64 sh] 53)
  have b1 := heap_alloc_new w (.cells #[.int .i64 kind, .int .i64 n0, .int .i64 n1, .int .i64 n2, .int .i64 d0, .int .i64 d1, .int .i64 d2, .slice ta taps.length tc, .int .i64 fac, .int .i64 sh] 53)
  have l1 : (w.alloc (.cells #[.int .i64 kind, .int .i64 n0, .int .i64 n1, .int .i64 n2, .int .i64 d0, .int .i64 d1, .int .i64 d2, .slice ta taps.length tc, .int .i64 fac, .int .i64 sh] 53)).heap.size = w.heap.size + 1 := by simp
  have SM := Lib.hid (fun (u : World) (hu : w.grownBy u none) (h1 : termsOk taps = true) (h2 : taps.length ≤ 1000) => rtotal_any taps _ _ (hs.after hu) h1 h2)
  have g2 := gb_alloc (gb_refl (w.alloc (.cells #[.int .i64 kind, .int .i64 n0, .int .i64 n1, .int .i64 n2, .int .i64 d0, .int .i64 d1, .int .i64 d2, .slice ta taps.length tc, .int .i64 fac, .int .i64 sh] 53)) none) (.cells #[.slice none 0 0, .slice none 0 0] 68)
  have b2 := heap_alloc_new (w.alloc (.cells #[.int .i64 kind, .int .i64 n0, .int .i64 n1, .int .i64 n2, .int .i64 d0, .int .i64 d1, .int .i64 d2, .slice ta taps.length tc, .int .i64 fac, .int .i64 sh] 53)) (.cells #[.slice none 0 0, .slice none 0 0] 68)
  rw [l1] at b2
  have W2 := Lib.hid (gb_trans g1 g2); have B2 := Lib.hid (block_kept g2 b1 rfl); have O2 := Lib.hid b2
  obtain ⟨q0_, q1_, q2_, q3_, q4_, q5_, q6_, q7_, q8_, q9_⟩ := cells10 B2.out
  have hb2 := block_lt' B2.out; have ho2 := block_lt' O2.out
  clear g1 b1 l1 hs g2 b2
  simp only [Stg.val]
  go_enter Tryz.func52, Tryz.ntmps52
  have hk := hok
  unfold Stg.ok at hk
  dsimp only at hk
  by_cases h0 : kind = 0
  · subst h0
    rw [if_pos rfl] at hk
    simp only [Bool.and_eq_true, inB_iff] at hk
    have hgn : sqN n0 = GN := by rw [← hGN]; rfl
    have hgd : sqN d0 = GD := by rw [← hGD]; rfl
    have SA := Lib.hid (fun u => rsquare_nat n0 u (by omega)); have SB := Lib.hid (fun u => rsquare_nat d0 u (by omega))
    have HPos : Hid (0 < GD) := Lib.hid (by rw [← hgd]; exact Nat.mul_pos (by omega) (by omega))
    rw [hgn] at SA; rw [hgd] at SB
    clear hgn hgd hGN hGD hok hk SM
    go_wp2_with fail
    generalize (w.alloc (.cells #[.int .i64 0, .int .i64 n0, .int .i64 n1, .int .i64 n2, .int .i64 d0, .int .i64 d1, .int .i64 d2, .slice ta taps.length tc, .int .i64 fac, .int .i64 sh] 53)).alloc (.cells #[.slice none 0 0, .slice none 0 0] 68) = w2 at *
    generalize hz : w.heap.size = z at *
    have HZ := Lib.hid hz
    clear hz
    have u1_ := Made.cells hb2
    refine Rg.region (Made w2) Makes (fun k => if k = 3 then some (fun _ v u => isNat GN v u) else if k = 7 then some (fun _ v u => isNat GD v u) else none) (fun _ => false) 0 9 (by kernel_rfl) (by kernel_rfl) (by kernel_rfl) (by kernel_rfl) (by kernel_rfl) (by kernel_rfl) (by kernel_rfl) Makes.size (Made.start w2) (fun hne => ?_)
    (repeat (refine rLexL_quiet (by rfl) (by rfl) (by rfl) (by rfl) ?_; go_big_quiet_step (fail); refine wpQuiet_nil ?_))
    refine rg_mem (isNat GN) 72 #[.int .i64 n0] Made.grown (Makes.none _) rfl rfl rfl (fun v j u u' _ _ hR h => Sl.after h hR) (fun _ => by go_simp) (fun u _ _ => SA.out u) (fun v1 ua _ hv1 => ?_)
    obtain ⟨a1, c1, rfl⟩ := Sl.shape hv1
    simp only [Act.put, List.setIfInBounds_toArray, List.set_cons_zero, List.set_cons_succ]
    (repeat (refine rLexL_quiet (by rfl) (by rfl) (by rfl) (by rfl) ?_; go_big_quiet_step (fail); refine wpQuiet_nil ?_))
    refine rg_mem (isNat GD) 72 #[.int .i64 d0] Made.grown (Makes.none _) rfl rfl rfl (fun v j u u' _ _ hR h => Sl.after h hR) (fun _ => by go_simp) (fun u _ _ => SB.out u) (fun v2 ub _ hv2 => ?_)
    obtain ⟨a2, c2, rfl⟩ := Sl.shape hv2
    simp only [Act.put, List.setIfInBounds_toArray, List.set_cons_zero, List.set_cons_succ]
    (repeat (refine rLexL_quiet (by rfl) (by rfl) (by rfl) (by rfl) ?_; go_big_quiet_step (fail); refine wpQuiet_nil ?_))
    rintro wq hq hf -
    have S1 : Hid (Sl wq (.slice a1 (natL GN).length c1) (natL GN)) := Lib.hid (hf 3)
    have S2 : Hid (Sl wq (.slice a2 (natL GD).length c2) (natL GD)) := Lib.hid (hf 7)
    have OQ := Lib.hid (block_kept hq O2.out rfl); have WQ := Lib.hid (gb_trans W2.out hq)
    clear hf hq hne u1_ q0_ q1_ q2_ q3_ q4_ q5_ q6_ q7_ q8_ q9_ hb2 ho2 O2 W2 B2 SA SB
    have N1 := S1.out.ne_block OQ.out no_ints2; have N2 := S2.out.ne_block OQ.out no_ints2
    have R1 := Lib.hid ((S1.out.setCell (k := 0) (x := .slice a1 (natL GN).length c1) N1).setCell (k := 1) (x := .slice a2 (natL GD).length c2) N1)
    have R2 := Lib.hid ((S2.out.setCell (k := 0) (x := .slice a1 (natL GN).length c1) N2).setCell (k := 1) (x := .slice a2 (natL GD).length c2) N2)
    have hzz : w.heap.size ≤ z + 1 := by have := HZ.out; omega
    have G9 := Lib.hid (gb_setCell (gb_setCell WQ.out (a := ⟨z + 1, 0, none⟩) (.inl hzz) (.slice a1 (natL GN).length c1)) (a := ⟨z + 1, 1, none⟩) (.inl hzz) (.slice a2 (natL GD).length c2))
    have hc3 := block_lt' OQ.out
    have hf0 := frz OQ.out 0; have hf1 := frz OQ.out 1
    obtain ⟨p0_, p1_⟩ := cells2' OQ.out
    clear N1 N2 S1 S2 hzz
    go_wp2_with fail
    exact bodyPost_ret (v := .agg #[.slice a1 (natL GN).length c1, .slice a2 (natL GD).length c2]) (by simp [results, Tryz.results52, go_sem, p0_, p1_]) rfl ⟨_, _, rfl, R1.out, R2.out, G9.out⟩
  rw [if_neg h0] at hk
  by_cases h2 : kind = 2
  · subst h2
    rw [if_neg (by omega), if_pos rfl] at hk
    simp only [Bool.and_eq_true, inB_iff] at hk
    obtain ⟨k, rfl⟩ : ∃ k : Nat, sh = k := ⟨sh.toNat, by omega⟩
    have hts : termsOk taps = true := hk.1.1.1.2
    have hsl := sumL_in hts
    have hgn : sqN (sumL taps) = GN := by rw [← hGN]; rfl
    have hgd : sqN (2 ^ k) = GD := by rw [← hGD]; rfl
    have hp40 : (2 : Nat) ^ k ≤ 2 ^ 40 := Nat.pow_le_pow_right (by omega) (by omega)
    have hpz : ((2 : Int) ^ k) = ((2 ^ k : Nat) : Int) := by simp
    have hp0 : 0 < (2 : Nat) ^ k := Nat.pow_pos (by omega)
    have SA := Lib.hid (fun u => rsquare_nat (sumL taps) u (by omega)); have SB := Lib.hid (fun u => rsquare_nat (2 ^ k) u (by rw [hpz, Int.natAbs_natCast]; omega))
    have HPos : Hid (0 < GD) := Lib.hid (by rw [← hgd, hpz]; unfold sqN; rw [Int.natAbs_natCast]; exact Nat.mul_pos hp0 hp0)
    have hws : wrap64 ((2 : Int) ^ k) = 2 ^ k := by rw [hpz]; exact IntWalk.wrap64_in _ (by omega)
    have SMT := Lib.hid (fun (u : World) (hu : w.grownBy u none) => SM.out u hu hts (by omega))
    rw [hgn] at SA; rw [hgd] at SB
    have hk40 : k ≤ 40 := by omega
    clear hgn hgd hGN hGD hok hk SM hts hsl hp40 hp0 hpz
    generalize hsm : sumL taps = sm at *
    clear hsm
    go_wp2_with fail
    generalize (w.alloc (.cells #[.int .i64 2, .int .i64 n0, .int .i64 n1, .int .i64 n2, .int .i64 d0, .int .i64 d1, .int .i64 d2, .slice ta taps.length tc, .int .i64 fac, .int .i64 k] 53)).alloc (.cells #[.slice none 0 0, .slice none 0 0] 68) = w2 at *
    generalize hz : w.heap.size = z at *
    have HZ := Lib.hid hz
    clear hz
    have u1_ := Made.cells hb2
    refine Rg.region (Made w2) Makes (fun k => if k = 2 then some (isV (.int .i64 sm)) else if k = 3 then some (fun _ v u => isNat GN v u) else if k = 8 then some (fun _ v u => isNat GD v u) else none) (fun _ => false) 0 10 (by kernel_rfl) (by kernel_rfl) (by kernel_rfl) (by kernel_rfl) (by kernel_rfl) (by kernel_rfl) (by kernel_rfl) Makes.size (Made.start w2) (fun hne => ?_)
    (repeat (refine rLexL_quiet (by rfl) (by rfl) (by rfl) (by rfl) ?_; go_big_quiet_step (fail); refine wpQuiet_nil ?_))
    refine rg_fix (.int .i64 sm) 74 #[.slice ta taps.length tc] rfl rfl rfl (fun _ => by go_simp) (fun u hu => same_grown (SMT.out u (gb_trans W2.out hu))) ?_
    simp only [Act.put, List.setIfInBounds_toArray, List.set_cons_zero, List.set_cons_succ]
    (repeat (refine rLexL_quiet (by rfl) (by rfl) (by rfl) (by rfl) ?_; go_big_quiet_step (fail); refine wpQuiet_nil ?_))
    refine rg_mem (isNat GN) 72 #[.int .i64 sm] Made.grown (Makes.none _) rfl rfl rfl (fun v j u u' _ _ hR h => Sl.after h hR) (fun _ => by go_simp) (fun u _ _ => SA.out u) (fun v1 ua _ hv1 => ?_)
    obtain ⟨a1, c1, rfl⟩ := Sl.shape hv1
    simp only [Act.put, List.setIfInBounds_toArray, List.set_cons_zero, List.set_cons_succ]
    (repeat (refine rLexL_quiet (by rfl) (by rfl) (by rfl) (by rfl) ?_; go_big_quiet_step (fail); refine wpQuiet_nil ?_))
    refine rg_mem (isNat GD) 72 #[.int .i64 (2 ^ k)] Made.grown (Makes.none _) rfl rfl rfl (fun v j u u' _ _ hR h => Sl.after h hR) (fun _ => by go_simp) (fun u _ _ => SB.out u) (fun v2 ub _ hv2 => ?_)
    obtain ⟨a2, c2, rfl⟩ := Sl.shape hv2
    simp only [Act.put, List.setIfInBounds_toArray, List.set_cons_zero, List.set_cons_succ]
    (repeat (refine rLexL_quiet (by rfl) (by rfl) (by rfl) (by rfl) ?_; go_big_quiet_step (fail); refine wpQuiet_nil ?_))
    rintro wq hq hf -
    have S1 : Hid (Sl wq (.slice a1 (natL GN).length c1) (natL GN)) := Lib.hid (hf 3)
    have S2 : Hid (Sl wq (.slice a2 (natL GD).length c2) (natL GD)) := Lib.hid (hf 8)
    have OQ := Lib.hid (block_kept hq O2.out rfl); have WQ := Lib.hid (gb_trans W2.out hq)
    clear hf hq hne u1_ q0_ q1_ q2_ q3_ q4_ q5_ q6_ q7_ q8_ q9_ hb2 ho2 O2 W2 B2 SA SB SMT
    have N1 := S1.out.ne_block OQ.out no_ints2; have N2 := S2.out.ne_block OQ.out no_ints2
    have R1 := Lib.hid ((S1.out.setCell (k := 0) (x := .slice a1 (natL GN).length c1) N1).setCell (k := 1) (x := .slice a2 (natL GD).length c2) N1)
    have R2 := Lib.hid ((S2.out.setCell (k := 0) (x := .slice a1 (natL GN).length c1) N2).setCell (k := 1) (x := .slice a2 (natL GD).length c2) N2)
    have hzz : w.heap.size ≤ z + 1 := by have := HZ.out; omega
    have G9 := Lib.hid (gb_setCell (gb_setCell WQ.out (a := ⟨z + 1, 0, none⟩) (.inl hzz) (.slice a1 (natL GN).length c1)) (a := ⟨z + 1, 1, none⟩) (.inl hzz) (.slice a2 (natL GD).length c2))
    have hc3 := block_lt' OQ.out
    have hf0 := frz OQ.out 0; have hf1 := frz OQ.out 1
    obtain ⟨p0_, p1_⟩ := cells2' OQ.out
    clear N1 N2 S1 S2 hzz
    go_wp2_with fail
    exact bodyPost_ret (v := .agg #[.slice a1 (natL GN).length c1, .slice a2 (natL GD).length c2]) (by simp [results, Tryz.results52, go_sem, p0_, p1_]) rfl ⟨_, _, rfl, R1.out, R2.out, G9.out⟩
  obtain rfl : kind = 1 := by
    by_cases h1 : kind = 1
    · exact h1
    · rw [if_neg h1, if_neg h2] at hk; cases hk
  rw [if_pos rfl] at hk
  simp only [Bool.and_eq_true] at hk
  have t1 := termsOk3 hk.1.1.2; have t2 := termsOk3 hk.1.2
  have hgn : polN n0 n1 n2 num den = GN := by rw [← hGN]; rfl
  have hgd : polN d0 d1 d2 num den = GD := by rw [← hGD]; rfl
  have SA := Lib.hid (fun u => rmagnitude_nat n0 n1 n2 num den u t1.1 t1.2.1 t1.2.2 hn hd); have SB := Lib.hid (fun u => rmagnitude_nat d0 d1 d2 num den u t2.1 t2.2.1 t2.2.2 hn hd)
  rw [hgn] at SA; rw [hgd] at SB
  clear hgn hgd hGN hGD hok hk SM t1 t2 hn hd
  go_wp2_with fail
  generalize (w.alloc (.cells #[.int .i64 1, .int .i64 n0, .int .i64 n1, .int .i64 n2, .int .i64 d0, .int .i64 d1, .int .i64 d2, .slice ta taps.length tc, .int .i64 fac, .int .i64 sh] 53)).alloc (.cells #[.slice none 0 0, .slice none 0 0] 68) = w2 at *
  generalize hz : w.heap.size = z at *
  have HZ := Lib.hid hz
  clear hz
  have u1_ := Made.cells hb2
  refine Rg.region (Made w2) Makes (fun k => if k = 4 then some (fun _ v u => isNat GN v u) else if k = 9 then some (fun _ v u => isNat GD v u) else none) (fun _ => false) 0 11 (by kernel_rfl) (by kernel_rfl) (by kernel_rfl) (by kernel_rfl) (by kernel_rfl) (by kernel_rfl) (by kernel_rfl) Makes.size (Made.start w2) (fun hne => ?_)
  (repeat (refine rLexL_quiet (by rfl) (by rfl) (by rfl) (by rfl) ?_; go_big_quiet_step (fail); refine wpQuiet_nil ?_))
  refine rg_mem (isNat GN) 73 #[.agg #[.int .i64 n0, .int .i64 n1, .int .i64 n2], .int .i64 num, .int .i64 den] Made.grown (Makes.none _) rfl rfl rfl (fun v j u u' _ _ hR h => Sl.after h hR) (fun _ => by go_simp) (fun u _ _ => SA.out u) (fun v1 ua _ hv1 => ?_)
  obtain ⟨a1, c1, rfl⟩ := Sl.shape hv1
  simp only [Act.put, List.setIfInBounds_toArray, List.set_cons_zero, List.set_cons_succ]
  (repeat (refine rLexL_quiet (by rfl) (by rfl) (by rfl) (by rfl) ?_; go_big_quiet_step (fail); refine wpQuiet_nil ?_))
  refine rg_mem (isNat GD) 73 #[.agg #[.int .i64 d0, .int .i64 d1, .int .i64 d2], .int .i64 num, .int .i64 den] Made.grown (Makes.none _) rfl rfl rfl (fun v j u u' _ _ hR h => Sl.after h hR) (fun _ => by go_simp) (fun u _ _ => SB.out u) (fun v2 ub _ hv2 => ?_)
  obtain ⟨a2, c2, rfl⟩ := Sl.shape hv2
  simp only [Act.put, List.setIfInBounds_toArray, List.set_cons_zero, List.set_cons_succ]
  (repeat (refine rLexL_quiet (by rfl) (by rfl) (by rfl) (by rfl) ?_; go_big_quiet_step (fail); refine wpQuiet_nil ?_))
  rintro wq hq hf -
  have S1 : Hid (Sl wq (.slice a1 (natL GN).length c1) (natL GN)) := Lib.hid (hf 4)
  have S2 : Hid (Sl wq (.slice a2 (natL GD).length c2) (natL GD)) := Lib.hid (hf 9)
  have OQ := Lib.hid (block_kept hq O2.out rfl); have WQ := Lib.hid (gb_trans W2.out hq)
  clear hf hq hne u1_ q0_ q1_ q2_ q3_ q4_ q5_ q6_ q7_ q8_ q9_ hb2 ho2 O2 W2 B2 SA SB
  have N1 := S1.out.ne_block OQ.out no_ints2; have N2 := S2.out.ne_block OQ.out no_ints2
  have R1 := Lib.hid ((S1.out.setCell (k := 0) (x := .slice a1 (natL GN).length c1) N1).setCell (k := 1) (x := .slice a2 (natL GD).length c2) N1)
  have R2 := Lib.hid ((S2.out.setCell (k := 0) (x := .slice a1 (natL GN).length c1) N2).setCell (k := 1) (x := .slice a2 (natL GD).length c2) N2)
  have hzz : w.heap.size ≤ z + 1 := by have := HZ.out; omega
  have G9 := Lib.hid (gb_setCell (gb_setCell WQ.out (a := ⟨z + 1, 0, none⟩) (.inl hzz) (.slice a1 (natL GN).length c1)) (a := ⟨z + 1, 1, none⟩) (.inl hzz) (.slice a2 (natL GD).length c2))
  have hc3 := block_lt' OQ.out
  have hf0 := frz OQ.out 0; have hf1 := frz OQ.out 1
  obtain ⟨p0_, p1_⟩ := cells2' OQ.out
  clear N1 N2 S1 S2 hzz
  go_wp2_with fail
  exact bodyPost_ret (v := .agg #[.slice a1 (natL GN).length c1, .slice a2 (natL GD).length c2]) (by simp [results, Tryz.results52, go_sem, p0_, p1_]) rfl ⟨_, _, rfl, R1.out, R2.out, G9.out⟩
end LR18g
section LR18n
open Go.RowKit Rg

set_option maxRecDepth 100000 in
set_option maxHeartbeats 8000000 in
theorem rGain_any (L : List Stv) (v : Value) (num den : Int) (w : World) (hs : StIn w v L) :
    Calls Tryz.prog 29 #[.agg #[v], .int .i64 num, .int .i64 den] w (GainE (gainE (L.map Stv.s) num den) w) := by
  obtain ⟨a, c, rfl⟩ := hs.1.slice
  have HE : Hid (gainE (L.map Stv.s) num den = if rspOk (L.map Stv.s) = false then (1, 0, 0) else if (inB num 0 65536 && inB den 1 65536) = false then (2, 0, 0) else gnL num den (L.map Stv.s) 1 1) := Lib.hid rfl
  generalize gainE (L.map Stv.s) num den = E at *
  have HOK : Hid (rspOk (L.map Stv.s) = true → L.length ≤ 8 ∧ L.any badS = false) := Lib.hid (fun h => by
    rw [any_badS]
    simp only [rspOk, Bool.and_eq_true, decide_eq_true_eq, List.length_map] at h
    exact ⟨h.1.1, by rw [h.1.2]; rfl⟩)
  have VA := Lib.hid (fun (u : World) (hu : w.grownBy u none) => rrvalid_any L _ u (hs.after hu))
  have HS := Lib.hid hs
  clear hs
  have g1 := gb_alloc (gb_refl w none) (.cells #[.slice a L.length c] 29)
  have b1 := heap_alloc_new w (.cells #[.slice a L.length c] 29)
  have l1 : (w.alloc (.cells #[.slice a L.length c] 29)).heap.size = w.heap.size + 1 := by simp
  have g2 := gb_alloc (gb_refl (w.alloc (.cells #[.slice a L.length c] 29)) none) (.cells #[.slice none 0 0, .slice none 0 0] 68)
  have b2 := heap_alloc_new (w.alloc (.cells #[.slice a L.length c] 29)) (.cells #[.slice none 0 0, .slice none 0 0] 68)
  rw [l1] at b2
  have W2 := Lib.hid (gb_trans g1 g2); have B2 := Lib.hid (block_kept g2 b1 rfl); have O2 := Lib.hid b2
  have q0_ := cell_of B2.out 0 _ rfl
  have hb2 := block_lt' B2.out
  clear g1 b1 l1 g2 b2
  generalize hn : L.length = n at *
  have HNL := Lib.hid hn; clear hn
  go_enter Tryz.func29, Tryz.ntmps29
  go_wp2_with fail
  generalize (w.alloc (.cells #[.slice a n c] 29)).alloc (.cells #[.slice none 0 0, .slice none 0 0] 68) = w2 at *
  generalize hz : w.heap.size = z at *
  have HZ := Lib.hid hz
  clear hz q0_ hb2
  (with_reducible refine (VA.out w2 W2.out).mono ?_)
  rintro e w3 ⟨rfl, hg⟩
  have W3 := Lib.hid (gb_trans W2.out hg); have B3 := Lib.hid (block_kept hg B2.out rfl); have O3 := Lib.hid (block_kept hg O2.out rfl)
  have HZW : Hid (w.heap.size ≤ z) := Lib.hid (by rw [HZ.out]; exact Nat.le_refl _)
  clear hg W2 B2 O2 VA HZ
  have hzz : w.heap.size ≤ z + 1 := by have := HZW.out; omega
  have GE := Lib.hid (gb_setCell (gb_setCell W3.out (a := ⟨z + 1, 0, none⟩) (.inl hzz) (.slice none 0 0)) (a := ⟨z + 1, 1, none⟩) (.inl hzz) (.slice none 0 0))
  have hbo := block_lt' O3.out
  have hf0 := frz O3.out 0; have hf1 := frz O3.out 1
  obtain ⟨p0_, p1_⟩ := cells2' O3.out
  clear hzz
  obtain ⟨ok, hok⟩ : ∃ b, rspOk (L.map Stv.s) = b := ⟨_, rfl⟩
  rw [hok] at HE HOK ⊢
  clear hok
  cases ok
  · rw [if_pos rfl] at HE
    go_wp2_with fail
    exact bodyPost_ret (v := .tuple #[.agg #[.slice none 0 0, .slice none 0 0], .int .i64 1]) (by simp [results, Tryz.results29, go_sem, p0_, p1_]) rfl (GainE.err HE.out GE.out)
  rw [if_neg (by decide)] at HE
  obtain ⟨hl8, hbad⟩ := HOK.out rfl
  have HL8 : Hid (n ≤ 8) := Lib.hid (by have := HNL.out; omega)
  have HBAD := Lib.hid hbad
  clear hl8 hbad HOK
  obtain ⟨i1, hi1⟩ : ∃ b, inB num 0 65536 = b := ⟨_, rfl⟩
  obtain ⟨i2, hi2⟩ : ∃ b, inB den 1 65536 = b := ⟨_, rfl⟩
  have I1 := Lib.hid (rin18_any num 0 65536); have I2 := Lib.hid (rin18_any den 1 65536)
  have HI : Hid ((i1 && i2) = true → num.natAbs ≤ 65536 ∧ den.natAbs ≤ 65536) := Lib.hid (fun h => by
    rw [← hi1, ← hi2] at h
    simp only [Bool.and_eq_true, inB_iff] at h; omega)
  rw [hi1] at I1 HE; rw [hi2] at I2 HE
  clear hi1 hi2
  cases i1
  · rw [if_pos (show (false && i2) = false from rfl)] at HE
    go_wp2_with fail
    (with_reducible refine (I1.out w3).mono ?_)
    rintro e w' ⟨rfl, rfl⟩
    go_wp2_with fail
    exact bodyPost_ret (v := .tuple #[.agg #[.slice none 0 0, .slice none 0 0], .int .i64 2]) (by simp [results, Tryz.results29, go_sem, p0_, p1_]) rfl (GainE.err HE.out GE.out)
  cases i2
  · rw [if_pos (show (true && false) = false from rfl)] at HE
    go_wp2_with fail
    (with_reducible refine (I1.out w3).mono ?_)
    rintro e w' ⟨rfl, rfl⟩
    go_wp2_with fail
    (with_reducible refine (I2.out w3).mono ?_)
    rintro e w' ⟨rfl, rfl⟩
    go_wp2_with fail
    exact bodyPost_ret (v := .tuple #[.agg #[.slice none 0 0, .slice none 0 0], .int .i64 2]) (by simp [results, Tryz.results29, go_sem, p0_, p1_]) rfl (GainE.err HE.out GE.out)
  rw [if_neg (by decide)] at HE
  have HND := Lib.hid (HI.out rfl)
  clear GE HI
  go_wp2_with fail
  (with_reducible refine (I1.out w3).mono ?_)
  rintro e w' ⟨rfl, rfl⟩
  go_wp2_with fail
  (with_reducible refine (I2.out w3).mono ?_)
  rintro e w' ⟨rfl, rfl⟩
  clear I1 I2 hbo hf0 hf1 p0_ p1_
  have e4 : (w3.alloc (.cells #[.int .i64 1] 3)).heap.size = w3.heap.size + 1 := by simp
  have e5 : ((w3.alloc (.cells #[.int .i64 1] 3)).alloc (.cells #[.int .i64 1] 3)).heap.size = w3.heap.size + 1 + 1 := by simp
  have k4 := gb_alloc (gb_refl w3 none) (.cells #[.int .i64 1] 3)
  have k5 := gb_alloc (gb_refl (w3.alloc (.cells #[.int .i64 1] 3)) none) (.cells #[.int .i64 1] 3)
  have k6 := gb_alloc (gb_refl ((w3.alloc (.cells #[.int .i64 1] 3)).alloc (.cells #[.int .i64 1] 3)) none) (.cells #[.slice (some ⟨w3.heap.size, 0, none⟩) 1 1, .slice (some ⟨w3.heap.size + 1, 0, none⟩) 1 1] 68)
  have n1 : natL 1 = [1] := by rw [natL_pos (by omega)]; simp [natL_zero]
  have s1 : Sl (w3.alloc (.cells #[.int .i64 1] 3)) (.slice (some ⟨w3.heap.size, 0, none⟩) 1 1) (natL 1) := by rw [n1]; exact Sl.one w3 1 3
  have s2 : Sl ((w3.alloc (.cells #[.int .i64 1] 3)).alloc (.cells #[.int .i64 1] 3)) (.slice (some ⟨w3.heap.size + 1, 0, none⟩) 1 1) (natL 1) := by rw [n1, ← e4]; exact Sl.one (w3.alloc (.cells #[.int .i64 1] 3)) 1 3
  have hb6 := heap_alloc_new ((w3.alloc (.cells #[.int .i64 1] 3)).alloc (.cells #[.int .i64 1] 3)) (.cells #[.slice (some ⟨w3.heap.size, 0, none⟩) 1 1, .slice (some ⟨w3.heap.size + 1, 0, none⟩) 1 1] 68)
  rw [e5] at hb6
  have ST0 : Hid (GnAt num den L w (z + 1) (w3.heap.size + 1 + 1) 0 1 1 (.slice (some ⟨w3.heap.size, 0, none⟩) 1 1) (.slice (some ⟨w3.heap.size + 1, 0, none⟩) 1 1) (((w3.alloc (.cells #[.int .i64 1] 3)).alloc (.cells #[.int .i64 1] 3)).alloc (.cells #[.slice (some ⟨w3.heap.size, 0, none⟩) 1 1, .slice (some ⟨w3.heap.size + 1, 0, none⟩) 1 1] 68))) := Lib.hid ⟨block_kept (gb_trans (gb_trans k4 k5) k6) O3.out rfl, hb6, (s1.after k5).after k6, s2.after k6, gb_trans W3.out (gb_trans (gb_trans k4 k5) k6), rfl, by decide, by decide, by decide⟩
  have HNE : Hid (z + 1 ≠ w3.heap.size + 1 + 1) := Lib.hid (by have := block_lt' O3.out; omega)
  have HB8 : Hid (w.heap.size ≤ w3.heap.size + 1 + 1) := Lib.hid (by have := W3.out.size; omega)
  have q0_ : (((w3.alloc (.cells #[.int .i64 1] 3)).alloc (.cells #[.int .i64 1] 3)).alloc (.cells #[.slice (some ⟨w3.heap.size, 0, none⟩) 1 1, .slice (some ⟨w3.heap.size + 1, 0, none⟩) 1 1] 68)).cell? ⟨z, 0, none⟩ = some (.slice a n c) := cell_of (block_kept (gb_trans (gb_trans k4 k5) k6) B3.out rfl) 0 _ rfl
  have B6 := Lib.hid (block_kept (gb_trans (gb_trans k4 k5) k6) B3.out rfl)
  have HZY : Hid (z ≠ w3.heap.size + 1 + 1) := Lib.hid (by have := block_lt' B3.out; omega)
  clear e4 e5 k4 k5 k6 n1 s1 s2 hb6 O3 q0_
  go_wp2_with fail
  generalize (((w3.alloc (.cells #[.int .i64 1] 3)).alloc (.cells #[.int .i64 1] 3)).alloc (.cells #[.slice (some ⟨w3.heap.size, 0, none⟩) 1 1, .slice (some ⟨w3.heap.size + 1, 0, none⟩) 1 1] 68)) = w6 at *
  generalize w3.heap.size = y at *
  clear B3 W3
  go_loopw [9] (fun i wr => ∃ (k N D : Nat) (v1 v2 : Value), k ≤ n ∧ i = .int .i64 k ∧ GnAt num den L w (z + 1) (y + 1 + 1) k N D v1 v2 wr ∧ (∃ a n c b m d, v1 = .slice a n c ∧ v2 = .slice b m d) ∧ wr.heap[z]? = some (.cells #[.slice a n c] 29 (0, 0))) (fun i _ => n - (intOf i).toNat)
  case atStart => exact ⟨0, 1, 1, _, _, by omega, rfl, ST0.out, ⟨_, _, _, _, _, _, rfl, rfl⟩, B6.out⟩
  case round =>
    obtain ⟨k, N, D, v1, v2, hk, rfl, hG, ⟨s1a, s1n, s1c, s2a, s2n, s2c, rfl, rfl⟩, hArg⟩ := hrel
    have HA := Lib.hid hArg
    have q0_ := cell_of hArg 0 _ rfl
    have hz_ := block_lt' hArg
    clear hArg
    have HG := Lib.hid hG
    by_cases hlt : k < n
    · have hkL : k < L.length := by have := HNL.out; omega
      have hS := HS.out.after hG.gr
      rw [← HNL.out] at hS
      obtain ⟨b, off, cap, e⟩ := hS.1.some (by omega)
      simp only [Value.slice.injEq, true_and] at e
      obtain ⟨rfl, rfl⟩ := e
      obtain ⟨hbl, c0_, c1_, c2_, c3_, c4_, c5_, c6_, c7_, c8_, c9_⟩ := hS.at k hkL
      obtain ⟨ta, tc, htv⟩ := (hS.2 _ (List.getElem_mem hkL)).shape
      have hok := good_all HBAD.out k hkL
      have hlt2 := Stg.gn_lt hok HND.out.1 HND.out.2
      have HLT := Lib.hid hlt2
      obtain ⟨gn, hgn⟩ : ∃ x, L[k].s.gn num den = x := ⟨_, rfl⟩
      obtain ⟨gd, hgd⟩ : ∃ x, L[k].s.gd num den = x := ⟨_, rfl⟩
      have GA := Lib.hid (fun (u : World) (hu : wr.grownBy u none) => rgain_nat L[k].s L[k].tv num den u ((hS.2 _ (List.getElem_mem hkL)).after hu) hok HND.out.1 HND.out.2)
      rw [hgn, hgd] at HLT GA
      have STEP := Lib.hid (fun (u' : World) (x1 x2 : Value) (h0 : 0 < gd) (hg : wr.grownBy u' none) (h1 : Sl u' x1 (natL (N * gn))) (h2 : Sl u' x2 (natL (D * gd))) => HG.out.step hkL hgn hgd h0 HLT.out hg h1 h2 HNE.out HB8.out ⟨_, _, _, _, _, _, rfl, rfl⟩)
      have REST0 : Hid (gd = 0 → E = (11, 0, 0)) := Lib.hid (fun h0 => by
        rw [HE.out, ← hG.rest, List.drop_eq_getElem_cons hkL, List.map_cons]
        simp only [gnL]
        rw [hgd, if_pos h0])
      have hnk : n = L.length := HNL.out.symm
      have HK8 : Hid (k ≤ 7) := Lib.hid (by have := HL8.out; omega)
      clear hG hS hok hlt2 hgn hgd
      rw [← hnk] at *
      clear hnk
      generalize L[k] = x at *
      obtain ⟨⟨kind, n0, n1, n2, d0, d1, d2, taps, fac, sh⟩, tv⟩ := x
      simp only [] at *
      subst htv
      simp only [Stg.val] at GA
      have X1 := Lib.hid (gb_refl wr none)
      have hcur := block_lt' HG.out.cur
      go_wp2_with fail
      (with_reducible refine (GA.out _ X1.out).mono ?_)
      rintro e wx ⟨g1, g2, rfl, t1, t2, hg⟩
      have X2 := Lib.hid (gb_trans X1.out hg)
      obtain ⟨ga, gc, rfl⟩ := t1.shape; obtain ⟨ha, hc, rfl⟩ := t2.shape
      have hg3 := gb_alloc (gb_refl wx none) (.cells #[.slice ga (natL gn).length gc, .slice ha (natL gd).length hc] 68)
      have hb3 := heap_alloc_new wx (.cells #[.slice ga (natL gn).length gc, .slice ha (natL gd).length hc] 68)
      have X3 := Lib.hid (gb_trans X2.out hg3); have T1 := Lib.hid (t1.after hg3); have T2 := Lib.hid (t2.after hg3)
      have O3 := Lib.hid (block_kept X3.out HG.out.out rfl); have C3 := Lib.hid (block_kept X3.out HG.out.cur rfl); have F3 := Lib.hid hb3
      have N3 := Lib.hid (HG.out.n.after X3.out); have D3 := Lib.hid (HG.out.d.after X3.out); have W3 := Lib.hid (gb_trans HG.out.gr X3.out)
      clear c0_ c1_ c2_ c3_ c4_ c5_ c6_ c7_ c8_ c9_ X1 hcur q0_ hz_ hg t1 t2 hg3 hb3 X2 hbl GA
      by_cases h0 : gd = 0
      · have HEE := Lib.hid (REST0.out h0)
        have h0' : (((natL gd).length : Int) == 0) = true := by rw [natL_len.2 h0]; rfl
        have hzz : w.heap.size ≤ z + 1 := by have := HZW.out; omega
        have GE := Lib.hid (gb_setCell (gb_setCell W3.out (a := ⟨z + 1, 0, none⟩) (.inl hzz) (.slice none 0 0)) (a := ⟨z + 1, 1, none⟩) (.inl hzz) (.slice none 0 0))
        have hbo := block_lt' O3.out
        have hf0 := frz O3.out 0; have hf1 := frz O3.out 1
        obtain ⟨p0_, p1_⟩ := cells2' O3.out
        clear hzz h0 STEP REST0 T1 T2
        generalize (natL gn).length = lgn at *
        generalize (natL gd).length = lgd at *
        go_wp2_with fail
        exact bodyPost_ret (v := .tuple #[.agg #[.slice none 0 0, .slice none 0 0], .int .i64 11]) (by simp [results, Tryz.results29, go_sem, p0_, p1_]) rfl (GainE.err HEE.out GE.out)
      have h0' : (((natL gd).length : Int) == 0) = false := by have := natL_pos_len (show 0 < gd by omega); exact beq_eq_false_iff_ne.2 (by omega)
      have hpos : 0 < gd := by omega
      have hN64 := pow_bpow HG.out.nlt (by have := HK8.out; omega); have hD64 := pow_bpow HG.out.dlt (by have := HK8.out; omega)
      have hgn64 := pow_bpow HLT.out.1 (by omega); have hgd64 := pow_bpow HLT.out.2 (by omega)
      have hNN := pow_bpow (mul_lt_pow HG.out.nlt HLT.out.1) (by have := HK8.out; omega); have hDD := pow_bpow (mul_lt_pow HG.out.dlt HLT.out.2) (by have := HK8.out; omega)
      have TI := Lib.hid (rtimes_nat N D gn gd _ _ _ _ _ N3.out D3.out T1.out T2.out hN64 hD64 hgn64 hgd64 HG.out.pos hpos hNN hDD)
      have STEP2 := Lib.hid (fun u' x1 x2 => STEP.out u' x1 x2 hpos)
      have hc3 := block_lt' C3.out; have hf3 := block_lt' F3.out
      obtain ⟨y0_, y1_⟩ := cells2' C3.out
      obtain ⟨f0_, f1_⟩ := cells2' F3.out
      clear hN64 hD64 hgn64 hgd64 hNN hDD h0 hpos STEP REST0 T1 T2 N3 D3 HLT
      go_wp2_with fail
      clear y0_ y1_ f0_ f1_ hc3 hf3
      generalize wx.alloc (.cells #[.slice ga (natL gn).length gc, .slice ha (natL gd).length hc] 68) = w4 at *
      (with_reducible refine TI.out.mono ?_)
      rintro e w5 ⟨u1, u2, rfl, t1, t2, hg⟩
      have X5 := Lib.hid (gb_trans X3.out hg); have C5 := Lib.hid (block_kept hg C3.out rfl)
      have ST5 := Lib.hid (STEP2.out w5 u1 u2 X5.out t1 t2)
      have A5 : Hid (((w5.setCell ⟨y + 1 + 1, 0, none⟩ u1).setCell ⟨y + 1 + 1, 1, none⟩ u2).heap[z]? = _) := Lib.hid ((setCell_far (a := ⟨y + 1 + 1, 1, none⟩) HZY.out).trans ((setCell_far (a := ⟨y + 1 + 1, 0, none⟩) HZY.out).trans (block_kept X5.out HA.out rfl)))
      obtain ⟨ua, uc, rfl⟩ := t1.shape; obtain ⟨va, vc, rfl⟩ := t2.shape
      clear hg t1 t2 TI STEP2 X3 C3 O3 F3 W3
      have hc5 := block_lt' C5.out
      have hf0 := frz C5.out 0; have hf1 := frz C5.out 1
      obtain ⟨p0_, p1_⟩ := cells2' C5.out
      generalize (natL gn).length = lgn at *
      generalize (natL gd).length = lgd at *
      generalize (natL (N * gn)).length = lu at *
      generalize (natL (D * gd)).length = lv at *
      have hn8_ := HL8.out; have hk8_ := HK8.out
      go_wp2_with fail
      go_roundw
      case rel => exact ⟨k + 1, N * gn, D * gd, _, _, by omega, by go_num, ST5.out, ⟨_, _, _, _, _, _, rfl, rfl⟩, A5.out⟩
      case measure => simp [intOf]; omega
    · have hd_ : decide ((k : Int) < (n : Int)) = false := decide_eq_false (by omega)
      have HEE : Hid (E = (0, N, D)) := Lib.hid (by
        have h2 := HNL.out
        rw [HE.out, ← hG.rest, List.drop_of_length_le (by omega)]
        rfl)
      clear hG
      have O3 := Lib.hid HG.out.out
      have hzz : w.heap.size ≤ z + 1 := by have := HZW.out; omega
      have N1 := HG.out.n.ne_block O3.out no_ints2; have N2 := HG.out.d.ne_block O3.out no_ints2
      have R1 := Lib.hid ((HG.out.n.setCell (k := 0) (x := .slice s1a s1n s1c) N1).setCell (k := 1) (x := .slice s2a s2n s2c) N1)
      have R2 := Lib.hid ((HG.out.d.setCell (k := 0) (x := .slice s1a s1n s1c) N2).setCell (k := 1) (x := .slice s2a s2n s2c) N2)
      have G9 := Lib.hid (gb_setCell (gb_setCell HG.out.gr (a := ⟨z + 1, 0, none⟩) (.inl hzz) (.slice s1a s1n s1c)) (a := ⟨z + 1, 1, none⟩) (.inl hzz) (.slice s2a s2n s2c))
      have hc3 := block_lt' O3.out; have hc4 := block_lt' HG.out.cur
      have hf0 := frz O3.out 0; have hf1 := frz O3.out 1
      obtain ⟨p0_, p1_⟩ := cells2' O3.out
      obtain ⟨y0_, y1_⟩ := cells2' HG.out.cur
      clear N1 N2 hzz
      go_wp2_with fail
      exact bodyPost_ret (v := .tuple #[.agg #[.slice s1a s1n s1c, .slice s2a s2n s2c], .int .i64 0]) (by simp [results, Tryz.results29, go_sem, p0_, p1_]) rfl ⟨_, _, by rw [HEE.out], by rw [HEE.out]; exact R1.out, by rw [HEE.out]; exact R2.out, G9.out⟩
end LR18n
end Go.Proofs.YtmgfdfbhfhmekaaGreat
