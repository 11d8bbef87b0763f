/- Part Res Lit27 Prf -/
import Derived.Deep.MidRow
import Derived.ArgAppend
import Derived.BigRegion
import Derived.Deep.AppendLies
import Derived.Laws.OwnMore
import Derived.Test.YtiebljanpnadjaaGreatPdRgMade
import Derived.Test.YtiebljanpnadjaaGreatPdRgPos
import Derived.Test.YtiebljanpnadjaaGreatPdMem
import Derived.Test.YtiebljanpnadjaaGreatPdMis
import Derived.Test.YtiebljanpnadjaaGreatPdMisP
import Derived.Test.YtiebljanpnadjaaGreatPdRef
namespace Go.Proofs.YtiebljanpnadjaaGreat
set_option linter.all false
open Go.RowKit Rg
theorem setCells_grown {w0 : World} {row : Option Nat} {b : Nat} : ∀ (vs : List Value) (w : World) (o : Nat), w0.grownBy w row → (w0.heap.size ≤ b ∨ row = some b) → w0.grownBy (w.setCells b o vs) row
  | [], w, o, h, _ => h
  | v :: vs, w, o, h, hb => setCells_grown vs (w.setCell ⟨b, o, none⟩ v) (o + 1) (gb_setCell h hb v) hb
/-- A list in which some cells are overwritten. -/
def setLL (xs : List Value) (o : Nat) : List Value → List Value
  | [] => xs
  | v :: vs => setLL (xs.set o v) (o + 1) vs
theorem owns_setCells {base size g n cap : Nat} {e : TypeId} : ∀ (vs : List Value) (w : World) (o : Nat) (xs : List Value), w.ownsRow base e size (.slice (some ⟨g, 0, none⟩) n cap) n xs → (w.setCells g o vs).ownsRow base e size (.slice (some ⟨g, 0, none⟩) n cap) n (setLL xs o vs)
  | [], _, _, _, h => h
  | v :: vs, w, o, xs, h => owns_setCells vs (w.setCell ⟨g, o, none⟩ v) (o + 1) (xs.set o v) (h.stored o v).1
theorem setLL_cons (y : Value) : ∀ (vs r : List Value) (o : Nat), setLL (y :: r) (o + 1) vs = y :: setLL r o vs
  | [], _, _ => rfl
  | v :: vs, r, o => setLL_cons y vs (r.set o v) (o + 1)
theorem setLL_append (vs : List Value) : ∀ (p r : List Value) (o : Nat), setLL (p ++ r) (p.length + o) vs = p ++ setLL r o vs
  | [], r, o => by simp
  | y :: p, r, o => by
    rw [List.cons_append, show (y :: p).length + o = (p.length + o) + 1 by simp; omega, setLL_cons, setLL_append vs p r o]; rfl
end Go.Proofs.YtiebljanpnadjaaGreat
namespace Go.Proofs.YtiebljanpnadjaaGreat
set_option linter.all false
open Go.RowKit Rg
/-- What Residuals answers. -/
def Residd (w : World) (E : Int) (zs : List Zn) (t : Int) (e : Ending) (w' : World) : Prop :=
  w.grownBy w' none ∧ ((E ≠ 0 ∧ e = .returned (.tuple #[.slice none 0 0, .int .i64 E])) ∨ (E = 0 ∧ (t < -18014398509481984 ∨ 18014398509481984 < t) ∧ e = .returned (.tuple #[.slice none 0 0, .int .i64 2])) ∨
    (E = 0 ∧ (-18014398509481984 ≤ t ∧ t ≤ 18014398509481984) ∧ ∃ v, e = .returned (.tuple #[v, .int .i64 0]) ∧ Sl w' v (resL zs t)))
set_option maxRecDepth 100000 in
set_option maxHeartbeats 4000000 in
theorem residuals_all (P : Prob) (vl vh vp : Value) (x y z t : Int) (w : World) (hi : ProbIn P vl vh vp w) (hbig : P.phs.length ≤ 1000000000) :
    Calls Tryz.prog 46 #[.agg (P.val vl vh vp), .agg #[.int .i64 x, .int .i64 y, .int .i64 z], .int .i64 t] w (Residd w (zonesE P x y z x y z) (zonesL P x y z x y z) t) := by
  by_cases h0 : zonesE P x y z x y z = 0
  · by_cases ht : -18014398509481984 ≤ t ∧ t ≤ 18014398509481984
    · refine (residuals_any P vl vh vp x y z t w hi hbig h0 ht.1 ht.2).mono ?_
      rintro e w' ⟨v, rfl, h1, h2⟩
      exact ⟨h2, .inr (.inr ⟨h0, ht, v, rfl, h1⟩)⟩
    · have hT : t < -18014398509481984 ∨ 18014398509481984 < t := by omega
      have hg0 := gb_alloc (gb_alloc (gb_refl w none) (.cells (P.val vl vh vp) 83)) (.cells #[.int .i64 x, .int .i64 y, .int .i64 z] 23)
      have HI := Lib.hid (hi.after hg0); have HG0 := Lib.hid hg0
      obtain ⟨pa, pc, rfl⟩ := hi.p.slice
      obtain ⟨la, ln, lc, rfl⟩ := sl_slice hi.l
      obtain ⟨ha, hn, hc, rfl⟩ := sl_slice hi.h
      clear hi hg0
      have HZ := Lib.hid (fun (u : World) hu => (Zones_any P (.slice la ln lc) (.slice ha hn hc) (.slice pa P.phs.length pc) x y z x y z u hu hbig).mono fun e w' h => h.ok h0)
      have H0 := Lib.hid h0; clear h0
      generalize zonesL P x y z x y z = zs at *
      generalize zonesE P x y z x y z = zE at *
      obtain ⟨x0, y0, z0, x1, y1, z1, step, ls, hs, phs, cap⟩ := P
      simp only [Prob.val] at *
      go_enter Tryz.func46, Tryz.ntmps46
      go_wp2_with fail
      generalize (w.alloc (.cells #[.int .i64 x0, .int .i64 y0, .int .i64 z0, .int .i64 x1, .int .i64 y1, .int .i64 z1, .int .i64 step, .slice la ln lc, .slice ha hn hc, .slice pa phs.length pc, .int .i64 cap] 83)).alloc (.cells #[.int .i64 x, .int .i64 y, .int .i64 z] 23) = w1 at *
      (with_reducible refine (HZ.out _ HI.out).mono ?_)
      rintro e w2 ⟨v, rfl, ⟨s, rfl, hsl⟩, hg2⟩
      obtain ⟨va, vc, rfl⟩ := hsl.slice
      have HG2 := Lib.hid (gb_trans HG0.out hg2)
      clear hsl hg2
      rcases hT with h | h
      · go_wp2
        exact bodyPost_ret (v := .tuple #[.slice none 0 0, .int .i64 2]) (by simp [results, Tryz.results46, go_sem]) rfl ⟨HG2.out, .inr (.inl ⟨H0.out, .inl h, rfl⟩)⟩
      · have h' : decide (t < -18014398509481984) = false := decide_eq_false (by omega)
        go_wp2
        exact bodyPost_ret (v := .tuple #[.slice none 0 0, .int .i64 2]) (by simp [results, Tryz.results46, go_sem]) rfl ⟨HG2.out, .inr (.inl ⟨H0.out, .inr h, rfl⟩)⟩
  · have hg0 := gb_alloc (gb_alloc (gb_refl w none) (.cells (P.val vl vh vp) 83)) (.cells #[.int .i64 x, .int .i64 y, .int .i64 z] 23)
    have HI := Lib.hid (hi.after hg0); have HG0 := Lib.hid hg0
    obtain ⟨pa, pc, rfl⟩ := hi.p.slice
    obtain ⟨la, ln, lc, rfl⟩ := sl_slice hi.l
    obtain ⟨ha, hn, hc, rfl⟩ := sl_slice hi.h
    clear hi hg0
    have HZ := Lib.hid (fun (u : World) hu => (Zones_any P (.slice la ln lc) (.slice ha hn hc) (.slice pa P.phs.length pc) x y z x y z u hu hbig).mono fun e w' h => h.bad h0)
    have H0 := Lib.hid h0
    generalize zonesL P x y z x y z = zs at *
    generalize zonesE P x y z x y z = zE at *
    obtain ⟨x0, y0, z0, x1, y1, z1, step, ls, hs, phs, cap⟩ := P
    simp only [Prob.val] at *
    go_enter Tryz.func46, Tryz.ntmps46
    go_wp2_with fail
    generalize (w.alloc (.cells #[.int .i64 x0, .int .i64 y0, .int .i64 z0, .int .i64 x1, .int .i64 y1, .int .i64 z1, .int .i64 step, .slice la ln lc, .slice ha hn hc, .slice pa phs.length pc, .int .i64 cap] 83)).alloc (.cells #[.int .i64 x, .int .i64 y, .int .i64 z] 23) = w1 at *
    (with_reducible refine (HZ.out _ HI.out).mono ?_)
    rintro e w2 ⟨rfl, hg2⟩
    have HG2 := Lib.hid (gb_trans HG0.out hg2)
    clear hg2
    go_wp2_with fail
    exact bodyPost_ret (v := .tuple #[.slice none 0 0, .int .i64 zE]) (by simp [results, Tryz.results46, go_sem]) rfl ⟨HG2.out, .inl ⟨H0.out, rfl⟩⟩
end Go.Proofs.YtiebljanpnadjaaGreat
namespace Go.Proofs.YtiebljanpnadjaaGreat
set_option linter.all false
open Go.RowKit Rg
/-- Zones, and the reference's, answer alike. -/
def zsOf (E : Int) (zs : List Zn) : List Zn := if E = 0 then zs else []
def ZnA (E : Int) (zs : List Zn) (w : World) (e : Ending) (w' : World) : Prop := ∃ v, e = .returned (.tuple #[v, .int .i64 E]) ∧ SlC 2 w' v zs.length (flatZ zs) ∧ w.grownBy w' none
theorem Zoned.any {w : World} {E : Int} {zs : List Zn} {e : Ending} {w' : World} (h : Zoned w E zs e w') : ZnA E (zsOf E zs) w e w' := by
  rcases h with ⟨rfl, v, rfl, h1, -, h2⟩ | ⟨h0, rfl, h2⟩
  · exact ⟨v, rfl, by simpa [zsOf] using h1, h2⟩
  · refine ⟨_, rfl, ?_, h2⟩
    rw [show zsOf E zs = [] by simp [zsOf, h0]]
    exact ⟨rfl, .inl ⟨rfl, none, 0, rfl⟩⟩
/-- Residuals, and the reference's, answer alike. -/
def resE (E t : Int) : Int := if E ≠ 0 then E else if t < -18014398509481984 ∨ 18014398509481984 < t then 2 else 0
def resX (E t : Int) (zs : List Zn) : List Int := if resE E t = 0 then resL zs t else []
def RsA (E : Int) (xs : List Int) (w : World) (e : Ending) (w' : World) : Prop := ∃ v, e = .returned (.tuple #[v, .int .i64 E]) ∧ Sl w' v xs ∧ w.grownBy w' none
theorem Residd.any {w : World} {E t : Int} {zs : List Zn} {e : Ending} {w' : World} (h : Residd w E zs t e w') : RsA (resE E t) (resX E t zs) w e w' := by
  obtain ⟨hg, ⟨h0, rfl⟩ | ⟨rfl, h1, rfl⟩ | ⟨rfl, h1, v, rfl, h2⟩⟩ := h
  · have e : resE E t = E := by simp [resE, h0]
    refine ⟨_, by rw [e], ?_, hg⟩
    rw [show resX E t zs = [] by simp [resX, e, h0]]
    exact .inl ⟨rfl, _, _, rfl⟩
  · have e : resE 0 t = 2 := by simp [resE, h1]
    refine ⟨_, by rw [e], ?_, hg⟩
    rw [show resX 0 t zs = [] by simp [resX, e]]
    exact .inl ⟨rfl, _, _, rfl⟩
  · have e : resE 0 t = 0 := by
      unfold resE; simp; omega
    refine ⟨v, by rw [e], ?_, hg⟩
    rw [show resX 0 t zs = resL zs t by simp [resX, e]]
    exact h2
/-- Eleven cells of a block. -/
theorem cells11 {w : World} {b : Nat} {v0 v1 v2 v3 v4 v5 v6 v7 v8 v9 v10 : Value} {t : TypeId} {fr : Nat × Nat} (h : w.heap[b]? = some (.cells #[v0, v1, v2, v3, v4, v5, v6, v7, v8, v9, v10] t fr)) :
    w.cell? ⟨b, 0, none⟩ = some v0 ∧ w.cell? ⟨b, 1, none⟩ = some v1 ∧ w.cell? ⟨b, 2, none⟩ = some v2 ∧ w.cell? ⟨b, 3, none⟩ = some v3 ∧ w.cell? ⟨b, 4, none⟩ = some v4 ∧ w.cell? ⟨b, 5, none⟩ = some v5 ∧ w.cell? ⟨b, 6, none⟩ = some v6 ∧ w.cell? ⟨b, 7, none⟩ = some v7 ∧ w.cell? ⟨b, 8, none⟩ = some v8 ∧ w.cell? ⟨b, 9, none⟩ = some v9 ∧ w.cell? ⟨b, 10, none⟩ = some v10 := by simp [World.cell?, h]
section
end
end Go.Proofs.YtiebljanpnadjaaGreat
namespace Go.Proofs.YtiebljanpnadjaaGreat
set_option linter.all false
open Go.RowKit Rg
/-- A location. -/
structure Loc where
  px : Int
  py : Int
  pz : Int
  t : Int
  m : Int
  l : Int
  a0 : Int
  a1 : Int
  a2 : Int
  a3 : Int
  a4 : Int
  a5 : Int
def Loc.val (x : Loc) : Array Value := #[.int .i64 x.px, .int .i64 x.py, .int .i64 x.pz, .int .i64 x.t, .int .i64 x.m, .int .i64 x.l, .int .i64 x.a0, .int .i64 x.a1, .int .i64 x.a2, .int .i64 x.a3, .int .i64 x.a4, .int .i64 x.a5]
theorem cells12 {w : World} {b : Nat} {v0 v1 v2 v3 v4 v5 v6 v7 v8 v9 v10 v11 : Value} {t : TypeId} {fr : Nat × Nat} (h : w.heap[b]? = some (.cells #[v0, v1, v2, v3, v4, v5, v6, v7, v8, v9, v10, v11] t fr)) :
    w.cell? ⟨b, 0, none⟩ = some v0 ∧ w.cell? ⟨b, 1, none⟩ = some v1 ∧ w.cell? ⟨b, 2, none⟩ = some v2 ∧ w.cell? ⟨b, 3, none⟩ = some v3 ∧ w.cell? ⟨b, 4, none⟩ = some v4 ∧ w.cell? ⟨b, 5, none⟩ = some v5 ∧ w.cell? ⟨b, 6, none⟩ = some v6 ∧ w.cell? ⟨b, 7, none⟩ = some v7 ∧ w.cell? ⟨b, 8, none⟩ = some v8 ∧ w.cell? ⟨b, 9, none⟩ = some v9 ∧ w.cell? ⟨b, 10, none⟩ = some v10 ∧ w.cell? ⟨b, 11, none⟩ = some v11 := by simp [World.cell?, h]
/-- The misfit, and what goes wrong: of a box, .. -/
def bdE (P : Prob) (b0 b1 b2 b3 b4 b5 : Int) : Int := zonesE P b0 b1 b2 b3 b4 b5
def bdC (P : Prob) (b0 b1 b2 b3 b4 b5 : Int) : Int := if zonesE P b0 b1 b2 b3 b4 b5 = 0 then (best P.cap P.phs (zonesL P b0 b1 b2 b3 b4 b5)).2 else 0
theorem bdV_eq (P : Prob) (b0 b1 b2 b3 b4 b5 : Int) : bdV P b0 b1 b2 b3 b4 b5 = .tuple #[.int .i64 (bdC P b0 b1 b2 b3 b4 b5), .int .i64 (bdE P b0 b1 b2 b3 b4 b5)] := by
  unfold bdV bdC bdE; split
  · rename_i h; rw [h]
  · rfl
/-- .. of a point. -/
def atT (P : Prob) (x y z : Int) : Int := if zonesE P x y z x y z = 0 then (best P.cap P.phs (zonesL P x y z x y z)).1 else 0
theorem atV_eq (P : Prob) (x y z : Int) : atV P x y z = .tuple #[.int .i64 (atT P x y z), .int .i64 (bdC P x y z x y z), .int .i64 (bdE P x y z x y z)] := by
  unfold atV atT bdC bdE; split
  · rename_i h; rw [h]
  · rfl
end Go.Proofs.YtiebljanpnadjaaGreat
