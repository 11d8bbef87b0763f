/- Res -/
import Derived.Test.YtiebljanpnadjaaGreatPcRefG
namespace Go.Proofs.YtiebljanpnadjaaGreat
set_option linter.all false
open Go.RowKit Rg
/-- What Residuals answers. -/
def Residd (w : World) (E : Int) (zs : List Zn) (t : Int) (e : Ending) (w' : World) : Prop :=
  w.grownBy w' none ∧ ((E ≠ 0 ∧ e = .returned (.tuple #[.slice none 0 0, .int .i64 E])) ∨ (E = 0 ∧ (t < -18014398509481984 ∨ 18014398509481984 < t) ∧ e = .returned (.tuple #[.slice none 0 0, .int .i64 2])) ∨
    (E = 0 ∧ (-18014398509481984 ≤ t ∧ t ≤ 18014398509481984) ∧ ∃ v, e = .returned (.tuple #[v, .int .i64 0]) ∧ Sl w' v (resL zs t)))
set_option maxRecDepth 100000 in
set_option maxHeartbeats 4000000 in
theorem residuals_all (P : Prob) (vl vh vp : Value) (x y z t : Int) (w : World) (hi : ProbIn P vl vh vp w) (hbig : P.phs.length ≤ 1000000000) :
    Calls Tryz.prog 46 #[.agg (P.val vl vh vp), .agg #[.int .i64 x, .int .i64 y, .int .i64 z], .int .i64 t] w (Residd w (zonesE P x y z x y z) (zonesL P x y z x y z) t) := by
  by_cases h0 : zonesE P x y z x y z = 0
  · by_cases ht : -18014398509481984 ≤ t ∧ t ≤ 18014398509481984
    · refine (residuals_any P vl vh vp x y z t w hi hbig h0 ht.1 ht.2).mono ?_
      rintro e w' ⟨v, rfl, h1, h2⟩
      exact ⟨h2, .inr (.inr ⟨h0, ht, v, rfl, h1⟩)⟩
    · have hT : t < -18014398509481984 ∨ 18014398509481984 < t := by omega
      have hg0 := gb_alloc (gb_alloc (gb_refl w none) (.cells (P.val vl vh vp) 83)) (.cells #[.int .i64 x, .int .i64 y, .int .i64 z] 23)
      have HI := Lib.hid (hi.after hg0); have HG0 := Lib.hid hg0
      obtain ⟨pa, pc, rfl⟩ := hi.p.slice
      obtain ⟨la, ln, lc, rfl⟩ := sl_slice hi.l
      obtain ⟨ha, hn, hc, rfl⟩ := sl_slice hi.h
      clear hi hg0
      have HZ := Lib.hid (fun (u : World) hu => (Zones_any P (.slice la ln lc) (.slice ha hn hc) (.slice pa P.phs.length pc) x y z x y z u hu hbig).mono fun e w' h => h.ok h0)
      have H0 := Lib.hid h0; clear h0
      generalize zonesL P x y z x y z = zs at *
      generalize zonesE P x y z x y z = zE at *
      obtain ⟨x0, y0, z0, x1, y1, z1, step, ls, hs, phs, cap⟩ := P
      simp only [Prob.val] at *
      go_enter Tryz.func46, Tryz.ntmps46
      go_wp2_with fail
      generalize (w.alloc (.cells #[.int .i64 x0, .int .i64 y0, .int .i64 z0, .int .i64 x1, .int .i64 y1, .int .i64 z1, .int .i64 step, .slice la ln lc, .slice ha hn hc, .slice pa phs.length pc, .int .i64 cap] 83)).alloc (.cells #[.int .i64 x, .int .i64 y, .int .i64 z] 23) = w1 at *
      (with_reducible refine (HZ.out _ HI.out).mono ?_)
      rintro e w2 ⟨v, rfl, ⟨s, rfl, hsl⟩, hg2⟩
      obtain ⟨va, vc, rfl⟩ := hsl.slice
      have HG2 := Lib.hid (gb_trans HG0.out hg2)
      clear hsl hg2
      rcases hT with h | h
      · go_wp2
        exact bodyPost_ret (v := .tuple #[.slice none 0 0, .int .i64 2]) (by simp [results, Tryz.results46, go_sem]) rfl ⟨HG2.out, .inr (.inl ⟨H0.out, .inl h, rfl⟩)⟩
      · have h' : decide (t < -18014398509481984) = false := decide_eq_false (by omega)
        go_wp2
        exact bodyPost_ret (v := .tuple #[.slice none 0 0, .int .i64 2]) (by simp [results, Tryz.results46, go_sem]) rfl ⟨HG2.out, .inr (.inl ⟨H0.out, .inr h, rfl⟩)⟩
  · have hg0 := gb_alloc (gb_alloc (gb_refl w none) (.cells (P.val vl vh vp) 83)) (.cells #[.int .i64 x, .int .i64 y, .int .i64 z] 23)
    have HI := Lib.hid (hi.after hg0); have HG0 := Lib.hid hg0
    obtain ⟨pa, pc, rfl⟩ := hi.p.slice
    obtain ⟨la, ln, lc, rfl⟩ := sl_slice hi.l
    obtain ⟨ha, hn, hc, rfl⟩ := sl_slice hi.h
    clear hi hg0
    have HZ := Lib.hid (fun (u : World) hu => (Zones_any P (.slice la ln lc) (.slice ha hn hc) (.slice pa P.phs.length pc) x y z x y z u hu hbig).mono fun e w' h => h.bad h0)
    have H0 := Lib.hid h0
    generalize zonesL P x y z x y z = zs at *
    generalize zonesE P x y z x y z = zE at *
    obtain ⟨x0, y0, z0, x1, y1, z1, step, ls, hs, phs, cap⟩ := P
    simp only [Prob.val] at *
    go_enter Tryz.func46, Tryz.ntmps46
    go_wp2_with fail
    generalize (w.alloc (.cells #[.int .i64 x0, .int .i64 y0, .int .i64 z0, .int .i64 x1, .int .i64 y1, .int .i64 z1, .int .i64 step, .slice la ln lc, .slice ha hn hc, .slice pa phs.length pc, .int .i64 cap] 83)).alloc (.cells #[.int .i64 x, .int .i64 y, .int .i64 z] 23) = w1 at *
    (with_reducible refine (HZ.out _ HI.out).mono ?_)
    rintro e w2 ⟨rfl, hg2⟩
    have HG2 := Lib.hid (gb_trans HG0.out hg2)
    clear hg2
    go_wp2_with fail
    exact bodyPost_ret (v := .tuple #[.slice none 0 0, .int .i64 zE]) (by simp [results, Tryz.results46, go_sem]) rfl ⟨HG2.out, .inl ⟨H0.out, rfl⟩⟩
end Go.Proofs.YtiebljanpnadjaaGreat
