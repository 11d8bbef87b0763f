/- Ref Ref27 RefG Res -/
import Derived.ArgAppend
import Derived.BigRegion
import Derived.Deep.AppendLies
import Derived.Laws.OwnMore
import Derived.Test.YtiebljanpnadjaaGreatPbTrv
import Derived.Test.YtiebljanpnadjaaGreatPbRgMade
import Derived.Test.YtiebljanpnadjaaGreatPbRgPos
import Derived.Test.YtiebljanpnadjaaGreatPbGeoP
import Derived.Test.YtiebljanpnadjaaGreatPbBnd
import Derived.Test.YtiebljanpnadjaaGreatPbMem
import Derived.Test.YtiebljanpnadjaaGreatPbMis
import Derived.Test.YtiebljanpnadjaaGreatPbMisP
import Derived.Test.YtiebljanpnadjaaGreatPbBase
namespace Go.Proofs.YtiebljanpnadjaaGreat
set_option linter.all false
section LRefT
open Go.RowKit
end LRefT
section LRefA
open Go.RowKit
def sgn (a b : Int) : Int := if a < b then -1 else if b < a then 1 else 0
def cmpP (x0 y0 z0 x1 y1 z1 : Int) : Int := if sgn x0 x1 ≠ 0 then sgn x0 x1 else if sgn y0 y1 ≠ 0 then sgn y0 y1 else sgn z0 z1
end LRefA
section LRefB
open Go.RowKit Rg
end LRefB
section LRefD
open Go.RowKit Rg
end LRefD
end Go.Proofs.YtiebljanpnadjaaGreat
namespace Go.Proofs.YtiebljanpnadjaaGreat
set_option linter.all false
section LRefE
open Go.RowKit Rg
end LRefE
section LRefF
open Go.RowKit Rg
theorem Sound.near {P : Prob} (h : Sound P) {a : Ph} (ha : a ∈ P.phs) : Near P.step P.ls P.hs P.x0 P.y0 P.z0 P.x1 P.y1 P.z1 a.x a.y a.z := by
  have hp := h.phase ha
  have hz := h.ph a ha
  have hv := (phP_iff.1 hp).1
  have hf : farP P.x0 P.y0 P.z0 P.x1 P.y1 P.z1 a.x a.y a.z = farD P.x0 P.y0 P.z0 P.x1 P.y1 P.z1 a.x a.y a.z := by unfold farP; rw [h.vb, hv]; rfl
  unfold zoneE znE at hz
  rw [if_pos h.ok, if_pos h.vb, if_pos hp] at hz
  unfold bndE at hz
  rw [if_pos h.ok, if_pos (by rw [h.vb, hv]; rfl)] at hz
  unfold btwE at hz
  rw [if_neg (fun e => e h.ok)] at hz
  refine ⟨h.ok, h.vb, hv, ?_⟩
  split at hz
  · omega
  · split at hz
    · omega
    · rw [hf] at *; omega
end LRefF
end Go.Proofs.YtiebljanpnadjaaGreat
namespace Go.Proofs.YtiebljanpnadjaaGreat
set_option linter.all false
open Go.RowKit Rg
/-- What Zones answers where nothing is wrong. -/
def ZnOk (zs : List Zn) (v : Value) (u : World) : Prop := ∃ s, v = .tuple #[s, .int .i64 0] ∧ SlC 2 u s zs.length (flatZ zs)
theorem ZnOk.after {zs : List Zn} (v : Value) (u u' : World) (h : ZnOk zs v u) (hg : u.grownBy u' none) : ZnOk zs v u' := by
  obtain ⟨s, e, h⟩ := h; exact ⟨s, e, h.after hg⟩
theorem ZnOk.out {zs : List Zn} {s : Value} {u : World} (h : ZnOk zs (.tuple #[s, .int .i64 0]) u) : SlC 2 u s zs.length (flatZ zs) := by
  obtain ⟨s', e, h⟩ := h
  simp only [Value.tuple.injEq, Array.mk.injEq, List.cons.injEq, and_true] at e
  rw [e]; exact h
theorem Zoned.ok {w : World} {E : Int} {zs : List Zn} {e : Ending} {w' : World} (h : Zoned w E zs e w') (hE : E = 0) : ∃ v, e = .returned v ∧ ZnOk zs v w' ∧ w.grownBy w' none := by
  rcases h with ⟨-, v, rfl, h1, -, h2⟩ | ⟨h0, -, -⟩
  · exact ⟨_, rfl, ⟨v, rfl, h1⟩, h2⟩
  · exact absurd hE h0
theorem Zoned.bad {w : World} {E : Int} {zs : List Zn} {e : Ending} {w' : World} (h : Zoned w E zs e w') (hE : E ≠ 0) : e = .returned (.tuple #[.slice none 0 0, .int .i64 E]) ∧ w.grownBy w' none := by
  rcases h with ⟨h0, -⟩ | ⟨-, rfl, h2⟩
  · exact absurd h0 hE
  · exact ⟨rfl, h2⟩
set_option maxRecDepth 100000 in
set_option maxHeartbeats 1000000 in
/-- Two rows of the same numbers. -/
theorem ints_same (v1 v2 : Value) (xs : List Int) (w : World) (h1 : Sl w v1 xs) (h2 : Sl w v2 xs) (hl : xs.length ≤ 1000000) :
    Calls Tryz.prog 19 #[v1, v2] w fun e w' => e = .returned (.bool true) ∧ w.grownBy w' none := by
  have H1 := Lib.hid h1; have H2 := Lib.hid h2
  obtain ⟨a1, c1, rfl⟩ := h1.shape; obtain ⟨a2, c2, rfl⟩ := h2.shape
  clear h1 h2
  go_enter Tryz.func19, Tryz.ntmps19
  go_wp2_with fail
  go_loopw [13] (fun i wr => ∃ k : Nat, k ≤ xs.length ∧ i = .int .i64 k ∧ w.grownBy wr none) (fun i _ => xs.length - (intOf i).toNat)
  case atStart => exact ⟨0, by omega, rfl, gb_refl _ _⟩
  case round =>
    obtain ⟨k, hk, rfl, hgr⟩ := hrel
    by_cases hlt : k < xs.length
    · have hkd : decide ((k : Int) < (xs.length : Int)) = true := decide_eq_true (by omega)
      obtain ⟨b1, o1, d1, e1, hb1, -, -, hc1⟩ := (H1.out.after hgr).block (by omega)
      obtain ⟨b2, o2, d2, e2, hb2, -, -, hc2⟩ := (H2.out.after hgr).block (by omega)
      simp only [Value.slice.injEq, true_and] at e1 e2
      obtain ⟨rfl, rfl⟩ := e1; obtain ⟨rfl, rfl⟩ := e2
      have x1 := hc1 k hlt; have x2 := hc2 k hlt
      have u1 := fun (x : Up wr) (c : Nat) => ever_cell x (b := b1) (o := c) hb1
      have u2 := fun (x : Up wr) (c : Nat) => ever_cell x (b := b2) (o := c) hb2
      have HGR := Lib.hid hgr
      clear hc1 hc2 hgr
      generalize at0 xs k = y at *
      go_wp2_with fail
      (refine wp_region_grown (by kernel_rfl) (by kernel_rfl) ?_; (repeat (go_big_quiet_step (fail))); refine wpQuiet_nil ?_; intro wq hq)
      have HGN := Lib.hid (gb_trans HGR.out hq)
      clear hq u1 u2 x1 x2
      go_wp2_with fail
      go_roundw
      case rel => exact ⟨k + 1, by omega, by go_num, HGN.out⟩
      case measure => simp [intOf]; omega
    · obtain rfl : k = xs.length := by omega
      have HGE := Lib.hid hgr
      go_wp2
      go_ret
      exact ⟨rfl, HGE.out⟩
end Go.Proofs.YtiebljanpnadjaaGreat
namespace Go.Proofs.YtiebljanpnadjaaGreat
set_option linter.all false
open Go.RowKit Rg
/-- What Residuals answers. -/
def Residd (w : World) (E : Int) (zs : List Zn) (t : Int) (e : Ending) (w' : World) : Prop :=
  w.grownBy w' none ∧ ((E ≠ 0 ∧ e = .returned (.tuple #[.slice none 0 0, .int .i64 E])) ∨ (E = 0 ∧ (t < -18014398509481984 ∨ 18014398509481984 < t) ∧ e = .returned (.tuple #[.slice none 0 0, .int .i64 2])) ∨
    (E = 0 ∧ (-18014398509481984 ≤ t ∧ t ≤ 18014398509481984) ∧ ∃ v, e = .returned (.tuple #[v, .int .i64 0]) ∧ Sl w' v (resL zs t)))
set_option maxRecDepth 100000 in
set_option maxHeartbeats 4000000 in
theorem residuals_all (P : Prob) (vl vh vp : Value) (x y z t : Int) (w : World) (hi : ProbIn P vl vh vp w) (hbig : P.phs.length ≤ 1000000000) :
    Calls Tryz.prog 46 #[.agg (P.val vl vh vp), .agg #[.int .i64 x, .int .i64 y, .int .i64 z], .int .i64 t] w (Residd w (zonesE P x y z x y z) (zonesL P x y z x y z) t) := by
  by_cases h0 : zonesE P x y z x y z = 0
  · by_cases ht : -18014398509481984 ≤ t ∧ t ≤ 18014398509481984
    · refine (residuals_any P vl vh vp x y z t w hi hbig h0 ht.1 ht.2).mono ?_
      rintro e w' ⟨v, rfl, h1, h2⟩
      exact ⟨h2, .inr (.inr ⟨h0, ht, v, rfl, h1⟩)⟩
    · have hT : t < -18014398509481984 ∨ 18014398509481984 < t := by omega
      have hg0 := gb_alloc (gb_alloc (gb_refl w none) (.cells (P.val vl vh vp) 83)) (.cells #[.int .i64 x, .int .i64 y, .int .i64 z] 23)
      have HI := Lib.hid (hi.after hg0); have HG0 := Lib.hid hg0
      obtain ⟨pa, pc, rfl⟩ := hi.p.slice
      obtain ⟨la, ln, lc, rfl⟩ := sl_slice hi.l
      obtain ⟨ha, hn, hc, rfl⟩ := sl_slice hi.h
      clear hi hg0
      have HZ := Lib.hid (fun (u : World) hu => (Zones_any P (.slice la ln lc) (.slice ha hn hc) (.slice pa P.phs.length pc) x y z x y z u hu hbig).mono fun e w' h => h.ok h0)
      have H0 := Lib.hid h0; clear h0
      generalize zonesL P x y z x y z = zs at *
      generalize zonesE P x y z x y z = zE at *
      obtain ⟨x0, y0, z0, x1, y1, z1, step, ls, hs, phs, cap⟩ := P
      simp only [Prob.val] at *
      go_enter Tryz.func46, Tryz.ntmps46
      go_wp2_with fail
      generalize (w.alloc (.cells #[.int .i64 x0, .int .i64 y0, .int .i64 z0, .int .i64 x1, .int .i64 y1, .int .i64 z1, .int .i64 step, .slice la ln lc, .slice ha hn hc, .slice pa phs.length pc, .int .i64 cap] 83)).alloc (.cells #[.int .i64 x, .int .i64 y, .int .i64 z] 23) = w1 at *
      (with_reducible refine (HZ.out _ HI.out).mono ?_)
      rintro e w2 ⟨v, rfl, ⟨s, rfl, hsl⟩, hg2⟩
      obtain ⟨va, vc, rfl⟩ := hsl.slice
      have HG2 := Lib.hid (gb_trans HG0.out hg2)
      clear hsl hg2
      rcases hT with h | h
      · go_wp2
        exact bodyPost_ret (v := .tuple #[.slice none 0 0, .int .i64 2]) (by simp [results, Tryz.results46, go_sem]) rfl ⟨HG2.out, .inr (.inl ⟨H0.out, .inl h, rfl⟩)⟩
      · have h' : decide (t < -18014398509481984) = false := decide_eq_false (by omega)
        go_wp2
        exact bodyPost_ret (v := .tuple #[.slice none 0 0, .int .i64 2]) (by simp [results, Tryz.results46, go_sem]) rfl ⟨HG2.out, .inr (.inl ⟨H0.out, .inr h, rfl⟩)⟩
  · have hg0 := gb_alloc (gb_alloc (gb_refl w none) (.cells (P.val vl vh vp) 83)) (.cells #[.int .i64 x, .int .i64 y, .int .i64 z] 23)
    have HI := Lib.hid (hi.after hg0); have HG0 := Lib.hid hg0
    obtain ⟨pa, pc, rfl⟩ := hi.p.slice
    obtain ⟨la, ln, lc, rfl⟩ := sl_slice hi.l
    obtain ⟨ha, hn, hc, rfl⟩ := sl_slice hi.h
    clear hi hg0
    have HZ := Lib.hid (fun (u : World) hu => (Zones_any P (.slice la ln lc) (.slice ha hn hc) (.slice pa P.phs.length pc) x y z x y z u hu hbig).mono fun e w' h => h.bad h0)
    have H0 := Lib.hid h0
    generalize zonesL P x y z x y z = zs at *
    generalize zonesE P x y z x y z = zE at *
    obtain ⟨x0, y0, z0, x1, y1, z1, step, ls, hs, phs, cap⟩ := P
    simp only [Prob.val] at *
    go_enter Tryz.func46, Tryz.ntmps46
    go_wp2_with fail
    generalize (w.alloc (.cells #[.int .i64 x0, .int .i64 y0, .int .i64 z0, .int .i64 x1, .int .i64 y1, .int .i64 z1, .int .i64 step, .slice la ln lc, .slice ha hn hc, .slice pa phs.length pc, .int .i64 cap] 83)).alloc (.cells #[.int .i64 x, .int .i64 y, .int .i64 z] 23) = w1 at *
    (with_reducible refine (HZ.out _ HI.out).mono ?_)
    rintro e w2 ⟨rfl, hg2⟩
    have HG2 := Lib.hid (gb_trans HG0.out hg2)
    clear hg2
    go_wp2_with fail
    exact bodyPost_ret (v := .tuple #[.slice none 0 0, .int .i64 zE]) (by simp [results, Tryz.results46, go_sem]) rfl ⟨HG2.out, .inl ⟨H0.out, rfl⟩⟩
end Go.Proofs.YtiebljanpnadjaaGreat
