/- Ref Ref27 RefG -/
import Derived.ArgAppend
import Derived.BigRegion
import Derived.Deep.AppendLies
import Derived.Laws.OwnMore
import Derived.Test.YtiebljanpnadjaaGreatPcTrv
import Derived.Test.YtiebljanpnadjaaGreatPcRgMade
import Derived.Test.YtiebljanpnadjaaGreatPcRgPos
import Derived.Test.YtiebljanpnadjaaGreatPcGeoP
import Derived.Test.YtiebljanpnadjaaGreatPcBnd
import Derived.Test.YtiebljanpnadjaaGreatPcMem
import Derived.Test.YtiebljanpnadjaaGreatPcMis
import Derived.Test.YtiebljanpnadjaaGreatPcMisP
import Derived.Test.YtiebljanpnadjaaGreatPcBase
namespace Go.Proofs.YtiebljanpnadjaaGreat
set_option linter.all false
section LRefT
open Go.RowKit
end LRefT
section LRefA
open Go.RowKit
def sgn (a b : Int) : Int := if a < b then -1 else if b < a then 1 else 0
def cmpP (x0 y0 z0 x1 y1 z1 : Int) : Int := if sgn x0 x1 ≠ 0 then sgn x0 x1 else if sgn y0 y1 ≠ 0 then sgn y0 y1 else sgn z0 z1
end LRefA
section LRefB
open Go.RowKit Rg
end LRefB
section LRefD
open Go.RowKit Rg
end LRefD
end Go.Proofs.YtiebljanpnadjaaGreat
namespace Go.Proofs.YtiebljanpnadjaaGreat
set_option linter.all false
section LRefE
open Go.RowKit Rg
end LRefE
section LRefF
open Go.RowKit Rg
theorem Sound.near {P : Prob} (h : Sound P) {a : Ph} (ha : a ∈ P.phs) : Near P.step P.ls P.hs P.x0 P.y0 P.z0 P.x1 P.y1 P.z1 a.x a.y a.z := by
  have hp := h.phase ha
  have hz := h.ph a ha
  have hv := (phP_iff.1 hp).1
  have hf : farP P.x0 P.y0 P.z0 P.x1 P.y1 P.z1 a.x a.y a.z = farD P.x0 P.y0 P.z0 P.x1 P.y1 P.z1 a.x a.y a.z := by unfold farP; rw [h.vb, hv]; rfl
  unfold zoneE znE at hz
  rw [if_pos h.ok, if_pos h.vb, if_pos hp] at hz
  unfold bndE at hz
  rw [if_pos h.ok, if_pos (by rw [h.vb, hv]; rfl)] at hz
  unfold btwE at hz
  rw [if_neg (fun e => e h.ok)] at hz
  refine ⟨h.ok, h.vb, hv, ?_⟩
  split at hz
  · omega
  · split at hz
    · omega
    · rw [hf] at *; omega
end LRefF
end Go.Proofs.YtiebljanpnadjaaGreat
namespace Go.Proofs.YtiebljanpnadjaaGreat
set_option linter.all false
open Go.RowKit Rg
/-- What Zones answers where nothing is wrong. -/
def ZnOk (zs : List Zn) (v : Value) (u : World) : Prop := ∃ s, v = .tuple #[s, .int .i64 0] ∧ SlC 2 u s zs.length (flatZ zs)
theorem ZnOk.after {zs : List Zn} (v : Value) (u u' : World) (h : ZnOk zs v u) (hg : u.grownBy u' none) : ZnOk zs v u' := by
  obtain ⟨s, e, h⟩ := h; exact ⟨s, e, h.after hg⟩
theorem ZnOk.out {zs : List Zn} {s : Value} {u : World} (h : ZnOk zs (.tuple #[s, .int .i64 0]) u) : SlC 2 u s zs.length (flatZ zs) := by
  obtain ⟨s', e, h⟩ := h
  simp only [Value.tuple.injEq, Array.mk.injEq, List.cons.injEq, and_true] at e
  rw [e]; exact h
theorem Zoned.ok {w : World} {E : Int} {zs : List Zn} {e : Ending} {w' : World} (h : Zoned w E zs e w') (hE : E = 0) : ∃ v, e = .returned v ∧ ZnOk zs v w' ∧ w.grownBy w' none := by
  rcases h with ⟨-, v, rfl, h1, -, h2⟩ | ⟨h0, -, -⟩
  · exact ⟨_, rfl, ⟨v, rfl, h1⟩, h2⟩
  · exact absurd hE h0
theorem Zoned.bad {w : World} {E : Int} {zs : List Zn} {e : Ending} {w' : World} (h : Zoned w E zs e w') (hE : E ≠ 0) : e = .returned (.tuple #[.slice none 0 0, .int .i64 E]) ∧ w.grownBy w' none := by
  rcases h with ⟨h0, -⟩ | ⟨-, rfl, h2⟩
  · exact absurd h0 hE
  · exact ⟨rfl, h2⟩
set_option maxRecDepth 100000 in
set_option maxHeartbeats 1000000 in
/-- Two rows of the same numbers. -/
theorem ints_same (v1 v2 : Value) (xs : List Int) (w : World) (h1 : Sl w v1 xs) (h2 : Sl w v2 xs) (hl : xs.length ≤ 1000000) :
    Calls Tryz.prog 19 #[v1, v2] w fun e w' => e = .returned (.bool true) ∧ w.grownBy w' none := by
  have H1 := Lib.hid h1; have H2 := Lib.hid h2
  obtain ⟨a1, c1, rfl⟩ := h1.shape; obtain ⟨a2, c2, rfl⟩ := h2.shape
  clear h1 h2
  go_enter Tryz.func19, Tryz.ntmps19
  go_wp2_with fail
  go_loopw [13] (fun i wr => ∃ k : Nat, k ≤ xs.length ∧ i = .int .i64 k ∧ w.grownBy wr none) (fun i _ => xs.length - (intOf i).toNat)
  case atStart => exact ⟨0, by omega, rfl, gb_refl _ _⟩
  case round =>
    obtain ⟨k, hk, rfl, hgr⟩ := hrel
    by_cases hlt : k < xs.length
    · have hkd : decide ((k : Int) < (xs.length : Int)) = true := decide_eq_true (by omega)
      obtain ⟨b1, o1, d1, e1, hb1, -, -, hc1⟩ := (H1.out.after hgr).block (by omega)
      obtain ⟨b2, o2, d2, e2, hb2, -, -, hc2⟩ := (H2.out.after hgr).block (by omega)
      simp only [Value.slice.injEq, true_and] at e1 e2
      obtain ⟨rfl, rfl⟩ := e1; obtain ⟨rfl, rfl⟩ := e2
      have x1 := hc1 k hlt; have x2 := hc2 k hlt
      have u1 := fun (x : Up wr) (c : Nat) => ever_cell x (b := b1) (o := c) hb1
      have u2 := fun (x : Up wr) (c : Nat) => ever_cell x (b := b2) (o := c) hb2
      have HGR := Lib.hid hgr
      clear hc1 hc2 hgr
      generalize at0 xs k = y at *
      go_wp2_with fail
      (refine wp_region_grown (by kernel_rfl) (by kernel_rfl) ?_; (repeat (go_big_quiet_step (fail))); refine wpQuiet_nil ?_; intro wq hq)
      have HGN := Lib.hid (gb_trans HGR.out hq)
      clear hq u1 u2 x1 x2
      go_wp2_with fail
      go_roundw
      case rel => exact ⟨k + 1, by omega, by go_num, HGN.out⟩
      case measure => simp [intOf]; omega
    · obtain rfl : k = xs.length := by omega
      have HGE := Lib.hid hgr
      go_wp2
      go_ret
      exact ⟨rfl, HGE.out⟩
end Go.Proofs.YtiebljanpnadjaaGreat
