/- Ref Ref27 RefG -/
import Derived.ArgAppend
import Derived.BigRegion
import Derived.Deep.AppendLies
import Derived.Laws.OwnMore
import Derived.Test.YtiebljanpnadjaaGreatPdTrv
import Derived.Test.YtiebljanpnadjaaGreatPdRgMade
import Derived.Test.YtiebljanpnadjaaGreatPdRgPos
import Derived.Test.YtiebljanpnadjaaGreatPdGeoP
import Derived.Test.YtiebljanpnadjaaGreatPdBnd
import Derived.Test.YtiebljanpnadjaaGreatPdMem
import Derived.Test.YtiebljanpnadjaaGreatPdMis
import Derived.Test.YtiebljanpnadjaaGreatPdMisP
import Derived.Test.YtiebljanpnadjaaGreatPdBase
namespace Go.Proofs.YtiebljanpnadjaaGreat
set_option linter.all false
section LRefT
open Go.RowKit
end LRefT
section LRefA
open Go.RowKit
set_option maxHeartbeats 1000000 in
theorem rvalid_any (x y z : Int) (w : World) :
    Calls Tryz.prog 70 #[.agg #[.int .i64 x, .int .i64 y, .int .i64 z]] w fun e w' => e = .returned (.bool (vP x y z)) ∧ w.grownBy w' none := by
  rcases three x (-1048576) 1048576 with hx | ⟨hx1, hx2⟩ | ⟨hx1, hx2⟩
  rotate_left 2
  rcases three y (-1048576) 1048576 with hy | ⟨hy1, hy2⟩ | ⟨hy1, hy2⟩
  rotate_left 2
  rcases three z (-16384) 1048576 with hz | ⟨hz1, hz2⟩ | ⟨hz1, hz2⟩
  all_goals
    go_enter Tryz.func70, Tryz.ntmps70
    go_wp2
  all_goals
    go_ret
    refine ⟨ret_bool (by unfold vP; simp; omega), ?_⟩
    repeat (first | exact gb_refl _ _ | refine gb_alloc ?_ _)
theorem rsq_any (n : Int) (w : World) (h1 : -4194304 ≤ n) (h2 : n ≤ 4194304) :
    Calls Tryz.prog 71 #[.int .i64 n] w fun e w' => e = .returned (.int .i64 (n * n)) ∧ w = w' := by
  obtain ⟨s0, s1, s2⟩ := sq_small (d := n) h1 h2
  generalize hq : n * n = q at *
  go_enter Tryz.func71, Tryz.ntmps71
  go_wp2
  go_ret
  exact ⟨rfl, rfl⟩
def sgn (a b : Int) : Int := if a < b then -1 else if b < a then 1 else 0
def cmpP (x0 y0 z0 x1 y1 z1 : Int) : Int := if sgn x0 x1 ≠ 0 then sgn x0 x1 else if sgn y0 y1 ≠ 0 then sgn y0 y1 else sgn z0 z1
end LRefA
section LRefB
open Go.RowKit Rg
set_option maxRecDepth 100000 in
set_option maxHeartbeats 1000000 in
theorem rsquare_any (x0 y0 z0 x1 y1 z1 : Int) (w : World) :
    Calls Tryz.prog 31 #[.agg #[.int .i64 x0, .int .i64 y0, .int .i64 z0], .agg #[.int .i64 x1, .int .i64 y1, .int .i64 z1]] w fun e w' => e = .returned (.int .i64 (sqP x0 y0 z0 x1 y1 z1)) ∧ w.grownBy w' none := by
  go_enter Tryz.func31, Tryz.ntmps31
  go_wp2_with fail
  (with_reducible refine (rvalid_any _ _ _ _).mono ?_)
  rintro e w1 ⟨rfl, hg1⟩
  obtain ⟨ca, hza⟩ := gb_at hg1 (b := w.heap.size) (by first | omega | (simp <;> omega))
  obtain ⟨cb, hzb⟩ := gb_at hg1 (b := w.heap.size + 1) (by first | omega | (simp <;> omega))
  have HG1 := Lib.hid (gb_trans (gb_alloc (gb_alloc (gb_refl _ _) _) _) hg1); clear hg1
  cases hv0 : vP x0 y0 z0
  · go_wp2
    go_ret
    exact ⟨ret_int (by simp [sqP, hv0]), HG1.out⟩
  go_wp2_with fail
  (with_reducible refine (rvalid_any _ _ _ _).mono ?_)
  rintro e w2 ⟨rfl, hg2⟩
  obtain ⟨ca2, hza2⟩ := gb_at hg2 hza
  obtain ⟨cb2, hzb2⟩ := gb_at hg2 hzb
  have HG2 := Lib.hid (gb_trans HG1.out hg2); clear hg2 HG1
  cases hv1 : vP x1 y1 z1
  · go_wp2
    go_ret
    exact ⟨ret_int (by simp [sqP, hv1]), HG2.out⟩
  have hi0 := vP_iff hv0
  have hi1 := vP_iff hv1
  have HE := Lib.hid (show sqP x0 y0 z0 x1 y1 z1 = (x0 - x1) * (x0 - x1) + (y0 - y1) * (y0 - y1) + (z0 - z1) * (z0 - z1) from by simp [sqP, hv0, hv1, sqD])
  clear hv0 hv1
  obtain ⟨sx0, sx1, -⟩ := sq_small (d := x0 - x1) (by omega) (by omega)
  obtain ⟨sy0, sy1, -⟩ := sq_small (d := y0 - y1) (by omega) (by omega)
  obtain ⟨sz0, sz1, -⟩ := sq_small (d := z0 - z1) (by omega) (by omega)
  have CX := Lib.hid (fun (u : World) => rsq_any (x0 - x1) u (by omega) (by omega))
  have CY := Lib.hid (fun (u : World) => rsq_any (y0 - y1) u (by omega) (by omega))
  have CZ := Lib.hid (fun (u : World) => rsq_any (z0 - z1) u (by omega) (by omega))
  generalize (x0 - x1) * (x0 - x1) = sx at *
  generalize (y0 - y1) * (y0 - y1) = sy at *
  generalize (z0 - z1) * (z0 - z1) = sz at *
  have hnt := fun (x : Up w2) (o : Nat) => ever_cell x (b := w.heap.size) (o := o) hza2
  have hnu := fun (x : Up w2) (o : Nat) => ever_cell x (b := w.heap.size + 1) (o := o) hzb2
  go_wp2_with fail
  (refine wp_region_grown (by kernel_rfl) (by kernel_rfl) ?_; (repeat (go_big_quiet_step (first | (go_at_call 71; first | (with_reducible exact Calls.grown_same (CX.out _)) | (with_reducible exact Calls.grown_same (CY.out _)) | (with_reducible exact Calls.grown_same (CZ.out _)))))); refine wpQuiet_nil ?_; intro wq hq)
  go_wp2
  go_ret
  exact ⟨ret_int (by rw [HE.out]), gb_trans HG2.out hq⟩
end LRefB
section LRefD
open Go.RowKit Rg
end LRefD
end Go.Proofs.YtiebljanpnadjaaGreat
namespace Go.Proofs.YtiebljanpnadjaaGreat
set_option linter.all false
section LRefE
open Go.RowKit Rg
end LRefE
section LRefF
open Go.RowKit Rg
theorem Sound.near {P : Prob} (h : Sound P) {a : Ph} (ha : a ∈ P.phs) : Near P.step P.ls P.hs P.x0 P.y0 P.z0 P.x1 P.y1 P.z1 a.x a.y a.z := by
  have hp := h.phase ha
  have hz := h.ph a ha
  have hv := (phP_iff.1 hp).1
  have hf : farP P.x0 P.y0 P.z0 P.x1 P.y1 P.z1 a.x a.y a.z = farD P.x0 P.y0 P.z0 P.x1 P.y1 P.z1 a.x a.y a.z := by unfold farP; rw [h.vb, hv]; rfl
  unfold zoneE znE at hz
  rw [if_pos h.ok, if_pos h.vb, if_pos hp] at hz
  unfold bndE at hz
  rw [if_pos h.ok, if_pos (by rw [h.vb, hv]; rfl)] at hz
  unfold btwE at hz
  rw [if_neg (fun e => e h.ok)] at hz
  refine ⟨h.ok, h.vb, hv, ?_⟩
  split at hz
  · omega
  · split at hz
    · omega
    · rw [hf] at *; omega
end LRefF
end Go.Proofs.YtiebljanpnadjaaGreat
namespace Go.Proofs.YtiebljanpnadjaaGreat
set_option linter.all false
open Go.RowKit Rg
/-- What Zones answers where nothing is wrong. -/
def ZnOk (zs : List Zn) (v : Value) (u : World) : Prop := ∃ s, v = .tuple #[s, .int .i64 0] ∧ SlC 2 u s zs.length (flatZ zs)
theorem ZnOk.after {zs : List Zn} (v : Value) (u u' : World) (h : ZnOk zs v u) (hg : u.grownBy u' none) : ZnOk zs v u' := by
  obtain ⟨s, e, h⟩ := h; exact ⟨s, e, h.after hg⟩
theorem ZnOk.out {zs : List Zn} {s : Value} {u : World} (h : ZnOk zs (.tuple #[s, .int .i64 0]) u) : SlC 2 u s zs.length (flatZ zs) := by
  obtain ⟨s', e, h⟩ := h
  simp only [Value.tuple.injEq, Array.mk.injEq, List.cons.injEq, and_true] at e
  rw [e]; exact h
theorem Zoned.ok {w : World} {E : Int} {zs : List Zn} {e : Ending} {w' : World} (h : Zoned w E zs e w') (hE : E = 0) : ∃ v, e = .returned v ∧ ZnOk zs v w' ∧ w.grownBy w' none := by
  rcases h with ⟨-, v, rfl, h1, -, h2⟩ | ⟨h0, -, -⟩
  · exact ⟨_, rfl, ⟨v, rfl, h1⟩, h2⟩
  · exact absurd hE h0
theorem Zoned.bad {w : World} {E : Int} {zs : List Zn} {e : Ending} {w' : World} (h : Zoned w E zs e w') (hE : E ≠ 0) : e = .returned (.tuple #[.slice none 0 0, .int .i64 E]) ∧ w.grownBy w' none := by
  rcases h with ⟨h0, -⟩ | ⟨-, rfl, h2⟩
  · exact absurd h0 hE
  · exact ⟨rfl, h2⟩
set_option maxRecDepth 100000 in
set_option maxHeartbeats 1000000 in
/-- Two rows of the same numbers. -/
theorem ints_same (v1 v2 : Value) (xs : List Int) (w : World) (h1 : Sl w v1 xs) (h2 : Sl w v2 xs) (hl : xs.length ≤ 1000000) :
    Calls Tryz.prog 19 #[v1, v2] w fun e w' => e = .returned (.bool true) ∧ w.grownBy w' none := by
  have H1 := Lib.hid h1; have H2 := Lib.hid h2
  obtain ⟨a1, c1, rfl⟩ := h1.shape; obtain ⟨a2, c2, rfl⟩ := h2.shape
  clear h1 h2
  go_enter Tryz.func19, Tryz.ntmps19
  go_wp2_with fail
  go_loopw [13] (fun i wr => ∃ k : Nat, k ≤ xs.length ∧ i = .int .i64 k ∧ w.grownBy wr none) (fun i _ => xs.length - (intOf i).toNat)
  case atStart => exact ⟨0, by omega, rfl, gb_refl _ _⟩
  case round =>
    obtain ⟨k, hk, rfl, hgr⟩ := hrel
    by_cases hlt : k < xs.length
    · have hkd : decide ((k : Int) < (xs.length : Int)) = true := decide_eq_true (by omega)
      obtain ⟨b1, o1, d1, e1, hb1, -, -, hc1⟩ := (H1.out.after hgr).block (by omega)
      obtain ⟨b2, o2, d2, e2, hb2, -, -, hc2⟩ := (H2.out.after hgr).block (by omega)
      simp only [Value.slice.injEq, true_and] at e1 e2
      obtain ⟨rfl, rfl⟩ := e1; obtain ⟨rfl, rfl⟩ := e2
      have x1 := hc1 k hlt; have x2 := hc2 k hlt
      have u1 := fun (x : Up wr) (c : Nat) => ever_cell x (b := b1) (o := c) hb1
      have u2 := fun (x : Up wr) (c : Nat) => ever_cell x (b := b2) (o := c) hb2
      have HGR := Lib.hid hgr
      clear hc1 hc2 hgr
      generalize at0 xs k = y at *
      go_wp2_with fail
      (refine wp_region_grown (by kernel_rfl) (by kernel_rfl) ?_; (repeat (go_big_quiet_step (fail))); refine wpQuiet_nil ?_; intro wq hq)
      have HGN := Lib.hid (gb_trans HGR.out hq)
      clear hq u1 u2 x1 x2
      go_wp2_with fail
      go_roundw
      case rel => exact ⟨k + 1, by omega, by go_num, HGN.out⟩
      case measure => simp [intOf]; omega
    · obtain rfl : k = xs.length := by omega
      have HGE := Lib.hid hgr
      go_wp2
      go_ret
      exact ⟨rfl, HGE.out⟩
end Go.Proofs.YtiebljanpnadjaaGreat
