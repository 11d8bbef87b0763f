/- The walk of TravelBack. -/
import Derived.Test.YtkmikiljpajaaaaLaws25a
namespace Go.Proofs.Ytkmikiljpajaaaa
open Go.RowKit

set_option maxRecDepth 100000 in
set_option maxHeartbeats 1000000 in
theorem travelBack_walk (w : World) (v : Value) (xs : List Int) (hs : Sl w v xs) (_hx : ∀ x ∈ xs, -9223372036854775808 ≤ x ∧ x ≤ 9223372036854775807) (n0 : Int) (_h1 : -9223372036854775808 ≤ n0) (_h2 : n0 ≤ 9223372036854775807) :
    Calls Try.prog 4 #[v, .int .i64 n0] w fun e w' => e = .returned (.bool true) ∧ Below w.heap.size w w' := by
  go_enter Try.func4, Try.ntmps4
  go_wp2_with fail
  (with_reducible refine (new_any w v xs hs).mono ?_)
  rintro e w1 ⟨rfl, hS, hg1⟩
  have HG1 := Lib.hid hg1; clear hg1 hs
  go_wp2_with fail
  (with_reducible refine (table_any w.heap.size w1 w.heap.size hS).mono ?_)
  rintro e w2 ⟨step, vl, vh, ls, hs, rfl, tok, hst, h400, hlen, ol, oh, -, hS2, hg2⟩
  obtain ⟨al, cl, rfl⟩ := owns_slice ol
  obtain ⟨ah, ch, rfl⟩ := owns_slice oh
  obtain ⟨r1, r2⟩ := reach_small tok.1 hst h400 hlen
  have hg3 := gb_alloc (gb_refl w2 none) (.cells #[.int .i64 step, .slice al ls.length cl, .slice ah hs.length ch] 26)
  have sl := Lib.hid (Sl_of_owns ol rfl); have sh := Lib.hid (Sl_of_owns oh rfl)
  have HG2 := Lib.hid hg2
  have hrl : ∀ b off len cap, Value.slice al ls.length cl = .slice (some ⟨b, off, none⟩) len cap → 0 < len → some b ≠ some w.heap.size := by
    intro b off len cap e _ e2
    have := (ol.lt b (by rw [e]; rfl)).1; have := hS.lt; simp at e2; omega
  have hrh : ∀ b off len cap, Value.slice ah hs.length ch = .slice (some ⟨b, off, none⟩) len cap → 0 < len → some b ≠ some w.heap.size := by
    intro b off len cap e _ e2
    have := (oh.lt b (by rw [e]; rfl)).1; have := hS.lt; simp at e2; omega
  have Hrl := Lib.hid hrl; have Hrh := Lib.hid hrh; clear hrl hrh
  have HT := Lib.hid tok
  have HS2 := Lib.hid hS2
  clear hS hg2 ol oh h400 hlen hst tok hS2
  go_wp2_with fail
  (with_reducible refine (mod_any n0 900 _ (by omega) (by omega)).mono ?_)
  rintro e w3 ⟨rfl, rfl⟩
  have hn0 := Int.emod_nonneg n0 (show (900 : Int) ≠ 0 by omega)
  have hn1 := Int.emod_lt_of_pos n0 (show 0 < (900 : Int) by omega)
  generalize n0 % 900 = t at *
  have HP := Lib.hid (fun (d : Int) => back_plain (t := t) (d := d) HT.out)
  have HF := Lib.hid (fun (x y : Int) => btw_sq (x := x) (y := y) HT.out)
  have HOR := Lib.hid (dE_or HT.out t)
  have HRV := Lib.hid (show reachV step ls hs = reachS step ls from if_pos HT.out)
  have SL := Lib.hid (sl.out.after hg3); have SH := Lib.hid (sh.out.after hg3)
  clear sl sh Hrl Hrh HS2 hg3
  go_wp2_with fail
  (with_reducible refine (distances_any _ _ _ _ _ _ _ SL.out SH.out).mono ?_)
  rintro e w4 ⟨rfl, hg4⟩
  obtain ⟨c4, z4⟩ := gb_at hg4 (b := w2.heap.size) (by simp)
  have hV : ∃ from' to' e', dV step ls hs t = .tuple #[.int .i64 from', .int .i64 to', .int .i64 e'] ∧ ((e' = 0 ∧ 0 ≤ from' ∧ from' ≤ to' ∧ to' ≤ reachS step ls ∧ ∀ d, 0 ≤ d → d ≤ reachS step ls → ((loA step ls d ≤ t ∧ t ≤ hiA step hs d) ↔ (from' ≤ d ∧ d ≤ to'))) ∨
      (e' = 24 ∧ ∀ d, 0 ≤ d → d ≤ reachS step ls → ¬ (loA step ls d ≤ t ∧ t ≤ hiA step hs d))) := by
    unfold dV
    rcases HOR.out with ⟨h1, h2, h3, h4⟩ | h1
    · exact ⟨_, _, _, by rw [if_pos h1], .inl ⟨rfl, h2, h3, h4, fun d h5 h6 => by rw [HP.out d h5 h6]; simp [h1]⟩⟩
    · exact ⟨_, _, _, by rw [h1, if_neg (by omega)], .inr ⟨rfl, fun d h5 h6 => by rw [HP.out d h5 h6]; simp [h1]⟩⟩
  obtain ⟨from', to', e', hV1, hV2⟩ := hV
  rw [hV1]
  have HV := Lib.hid hV2
  have S4l := Lib.hid (SL.out.after hg4); have S4h := Lib.hid (SH.out.after hg4)
  have HG4 := Lib.hid (gb_trans (gb_new HG1.out HG2.out (by simp)) (gb_trans (gb_alloc (gb_refl w2 none) (.cells #[.int .i64 step, .slice al ls.length cl, .slice ah hs.length ch] 26)) hg4))
  clear hV1 hV2 HP HOR SL SH hg4 HG1 HG2
  have hRV := HRV.out
  generalize reachS step ls = R at *
  obtain ⟨Rn, hRn⟩ := Int.eq_ofNat_of_zero_le (show 0 ≤ R by omega)
  subst hRn
  clear hRV
  go_wp2_with fail
  go_loopw [10, 11] (fun any d wr => ∃ (b : Bool) (k : Nat), any = .bool b ∧ d = .int .i64 k ∧ k ≤ Rn + 1 ∧ (b = true ↔ (e' = 0 ∧ from' < (k : Int))) ∧ w4.grownBy wr none) (fun _ d _ => Rn + 1 - (intOf d).toNat)
  case atStart => exact ⟨false, 0, rfl, rfl, by omega, by rcases HV.out with h | h <;> simp <;> omega, gb_refl _ _⟩
  case round =>
    obtain ⟨b, k, rfl, rfl, hk, hb, hgr⟩ := hrel
    have HBI := Lib.hid hb; clear hb
    obtain ⟨cr, zr⟩ := gb_at hgr z4
    have Srl := Lib.hid (S4l.out.after hgr); have Srh := Lib.hid (S4h.out.after hgr)
    have HGR := Lib.hid hgr; clear hgr
    go_wp2_with fail
    (with_reducible refine (Reach_any _ _ _ ls hs _ Srl.out Srh.out).mono ?_)
    rintro e w5 ⟨rfl, hg5⟩
    rw [HRV.out]
    obtain ⟨c5, z5⟩ := gb_at hg5 zr
    have S5l := Lib.hid (Srl.out.after hg5); have S5h := Lib.hid (Srh.out.after hg5)
    have HG5 := Lib.hid (gb_trans HGR.out hg5)
    clear hg5 Srl Srh HGR
    by_cases hlt : k ≤ Rn
    · have F := Lib.hid (HF.out k k (by omega) (Int.le_refl _) (by omega))
      have q1 : 0 ≤ (k : Int) * (k : Int) ∧ (k : Int) * (k : Int) ≤ 2200 * 2200 := ⟨sq_nonneg (by omega), sq_le (by omega) (by omega)⟩
      have HI : Hid ((e' = 0 ∧ (decide (loA step ls k ≤ t) && decide (t ≤ hiA step hs k)) = (decide (from' ≤ (k : Int)) && decide ((k : Int) ≤ to'))) ∨ (e' = 24 ∧ (decide (loA step ls k ≤ t) && decide (t ≤ hiA step hs k)) = false)) := Lib.hid (by
        rcases HV.out with ⟨h1, h2, h3, h4, h5⟩ | ⟨h1, h5⟩
        · refine .inl ⟨h1, ?_⟩
          rw [Bool.eq_iff_iff]; simp only [Bool.and_eq_true, decide_eq_true_eq]
          exact h5 k (by omega) (by omega)
        · refine .inr ⟨h1, ?_⟩
          have := h5 k (by omega) (by omega)
          rw [Bool.eq_false_iff]; simpa using this)
      have HNB : Hid ((b || (decide (loA step ls k ≤ t) && decide (t ≤ hiA step hs k))) = true ↔ (e' = 0 ∧ from' < ((k + 1 : Nat) : Int))) := Lib.hid (by
        rw [Bool.or_eq_true, HBI.out]
        rcases HV.out with ⟨h1, h2, h3, h4, h5⟩ | ⟨h1, h5⟩
        · have := h5 k (by omega) (by omega)
          simp only [Bool.and_eq_true, decide_eq_true_eq]
          rw [this]; omega
        · have := h5 k (by omega) (by omega)
          simp only [Bool.and_eq_true, decide_eq_true_eq]
          simp [this, h1])
      generalize loA step ls k = lo at *
      generalize hiA step hs k = hi at *
      generalize hqx : (k : Int) * (k : Int) = qx' at *
      have wx : wrap64 qx' = qx' := IntWalk.wrap64_in _ (by omega)
      go_wp2_with fail
      (with_reducible refine (between_any _ _ _ _ _ _ _ w5 S5l.out S5h.out (by omega)).mono ?_)
      rintro e w6 ⟨rfl, hg6⟩
      rw [F.out]
      have HG6 := Lib.hid (gb_trans HG5.out hg6)
      clear hg6 S5l S5h HG5 F q1 hqx wx
      have hi' := HI.out; have hnb := HNB.out
      clear HI HNB HBI HF HRV
      cases d1 : decide (lo ≤ t) <;> cases d2 : decide (t ≤ hi) <;> cases d3 : decide (from' ≤ (k : Int)) <;> cases d4 : decide ((k : Int) ≤ to') <;> simp only [d1, d2, d3, d4, Bool.and_true, Bool.and_false, Bool.true_and, Bool.false_and, Bool.or_true, Bool.or_false, reduceCtorEq, and_true, and_false, or_false, false_or] at hi' hnb
      all_goals first
        | (exfalso; exact hi')
        | (obtain hi' | hi' := hi') <;> subst hi' <;> skip
        | subst hi'
      all_goals
        have HNB := Lib.hid hnb; clear hnb
        cases b
        all_goals
          go_wp2
          go_roundw
          case rel => first
            | exact ⟨_, k + 1, rfl, by go_num, by omega, HNB.out, HG6.out⟩
            | exact ⟨true, k + 1, rfl, by go_num, by omega, by simpa using HNB.out, HG6.out⟩
            | exact ⟨false, k + 1, rfl, by go_num, by omega, by simpa using HNB.out, HG6.out⟩
          case measure => simp [intOf]; omega
    · have hkR : k = Rn + 1 := by omega
      have hb := HBI.out
      rcases HV.out with ⟨h1, h2, h3, h4, -⟩ | ⟨h1, -⟩
      · obtain rfl : b = true := hb.2 ⟨h1, by omega⟩
        clear hb
        go_wp2_with fail
        (with_reducible refine (awake25_any _).mono ?_)
        rintro e w9 ⟨rfl, hg10⟩
        have HG10 := Lib.hid (gb_trans HG5.out hg10)
        clear hg10
        go_wp2
        go_ret
        exact ⟨rfl, gb_end (gb_trans HG4.out HG10.out)⟩
      · obtain rfl : b = false := by cases b <;> simp_all
        clear hb
        go_wp2_with fail
        (with_reducible refine (awake25_any _).mono ?_)
        rintro e w9 ⟨rfl, hg10⟩
        have HG10 := Lib.hid (gb_trans HG5.out hg10)
        clear hg10
        go_wp2
        go_ret
        exact ⟨rfl, gb_end (gb_trans HG4.out HG10.out)⟩
end Go.Proofs.Ytkmikiljpajaaaa
