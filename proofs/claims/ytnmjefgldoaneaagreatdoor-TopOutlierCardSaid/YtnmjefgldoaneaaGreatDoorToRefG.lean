/- Part RefG Lit27 Prf Fr Bx Sr PrfA -/
import Derived.Deep.MidRow
import Derived.Maps.AppendAt
import Derived.Laws.EntriesVeiled
import Derived.Test.YtnmjefgldoaneaaGreatDoorToRgMade
import Derived.Test.YtnmjefgldoaneaaGreatDoorToGeoS
import Derived.Test.YtnmjefgldoaneaaGreatDoorToRef
import Derived.Test.YtnmjefgldoaneaaGreatDoorToMisP
import Derived.Test.YtnmjefgldoaneaaGreatDoorToRef27
namespace Go.Proofs.YtnmjefgldoaneaaGreatDoor
set_option linter.all false
open Go.RowKit Rg
theorem setCells_grown {w0 : World} {row : Option Nat} {b : Nat} : ∀ (vs : List Value) (w : World) (o : Nat), w0.grownBy w row → (w0.heap.size ≤ b ∨ row = some b) → w0.grownBy (w.setCells b o vs) row
  | [], w, o, h, _ => h
  | v :: vs, w, o, h, hb => setCells_grown vs (w.setCell ⟨b, o, none⟩ v) (o + 1) (gb_setCell h hb v) hb
/-- A list in which some cells are overwritten. -/
def setLL (xs : List Value) (o : Nat) : List Value → List Value
  | [] => xs
  | v :: vs => setLL (xs.set o v) (o + 1) vs
theorem owns_setCells {base size g n cap : Nat} {e : TypeId} : ∀ (vs : List Value) (w : World) (o : Nat) (xs : List Value), w.ownsRow base e size (.slice (some ⟨g, 0, none⟩) n cap) n xs → (w.setCells g o vs).ownsRow base e size (.slice (some ⟨g, 0, none⟩) n cap) n (setLL xs o vs)
  | [], _, _, _, h => h
  | v :: vs, w, o, xs, h => owns_setCells vs (w.setCell ⟨g, o, none⟩ v) (o + 1) (xs.set o v) (h.stored o v).1
theorem setLL_cons (y : Value) : ∀ (vs r : List Value) (o : Nat), setLL (y :: r) (o + 1) vs = y :: setLL r o vs
  | [], _, _ => rfl
  | v :: vs, r, o => setLL_cons y vs (r.set o v) (o + 1)
theorem setLL_append (vs : List Value) : ∀ (p r : List Value) (o : Nat), setLL (p ++ r) (p.length + o) vs = p ++ setLL r o vs
  | [], r, o => by simp
  | y :: p, r, o => by
    rw [List.cons_append, show (y :: p).length + o = (p.length + o) + 1 by simp; omega, setLL_cons, setLL_append vs p r o]; rfl
end Go.Proofs.YtnmjefgldoaneaaGreatDoor
namespace Go.Proofs.YtnmjefgldoaneaaGreatDoor
set_option linter.all false
open Go.RowKit Rg
/-- What Zones answers where nothing is wrong. -/
def ZnOk (zs : List Zn) (v : Value) (u : World) : Prop := ∃ s, v = .tuple #[s, .int .i64 0] ∧ SlC 2 u s zs.length (flatZ zs)
theorem ZnOk.after {zs : List Zn} (v : Value) (u u' : World) (h : ZnOk zs v u) (hg : u.grownBy u' none) : ZnOk zs v u' := by
  obtain ⟨s, e, h⟩ := h; exact ⟨s, e, h.after hg⟩
theorem ZnOk.out {zs : List Zn} {s : Value} {u : World} (h : ZnOk zs (.tuple #[s, .int .i64 0]) u) : SlC 2 u s zs.length (flatZ zs) := by
  obtain ⟨s', e, h⟩ := h
  simp only [Value.tuple.injEq, Array.mk.injEq, List.cons.injEq, and_true] at e
  rw [e]; exact h
theorem Zoned.ok {w : World} {E : Int} {zs : List Zn} {e : Ending} {w' : World} (h : Zoned w E zs e w') (hE : E = 0) : ∃ v, e = .returned v ∧ ZnOk zs v w' ∧ w.grownBy w' none := by
  rcases h with ⟨-, v, rfl, h1, -, h2⟩ | ⟨h0, -, -⟩
  · exact ⟨_, rfl, ⟨v, rfl, h1⟩, h2⟩
  · exact absurd hE h0
theorem Zoned.bad {w : World} {E : Int} {zs : List Zn} {e : Ending} {w' : World} (h : Zoned w E zs e w') (hE : E ≠ 0) : e = .returned (.tuple #[.slice none 0 0, .int .i64 E]) ∧ w.grownBy w' none := by
  rcases h with ⟨h0, -⟩ | ⟨-, rfl, h2⟩
  · exact absurd h0 hE
  · exact ⟨rfl, h2⟩
set_option maxRecDepth 100000 in
set_option maxHeartbeats 2000000 in
theorem rat_any (P : Prob) (vl vh vp : Value) (x y z : Int) (w : World) (hi : ProbIn P vl vh vp w) (hbig : P.phs.length ≤ 1000000000) :
    Calls Tryz.prog 25 #[.agg (P.val vl vh vp), .agg #[.int .i64 x, .int .i64 y, .int .i64 z]] w fun e w' => e = .returned (atV P x y z) ∧ w.grownBy w' none := by
  have hg0 := gb_alloc (gb_alloc (gb_refl w none) (.cells (P.val vl vh vp) 33)) (.cells #[.int .i64 x, .int .i64 y, .int .i64 z] 26)
  have hT : ((w.alloc (.cells (P.val vl vh vp) 33)).alloc (.cells #[.int .i64 x, .int .i64 y, .int .i64 z] 26)).heap[w.heap.size]? = some (.cells (P.val vl vh vp) 33 (0, 0)) := by rw [heap_alloc_old _ _ (by simp), heap_alloc_new]
  have HX0 : Hid (((w.alloc (.cells (P.val vl vh vp) 33)).alloc (.cells #[.int .i64 x, .int .i64 y, .int .i64 z] 26)).heap[w.heap.size + 1]? = some (.cells #[.int .i64 x, .int .i64 y, .int .i64 z] 26 (0, 0))) := Lib.hid (by simpa using heap_alloc_new (w.alloc _) _)
  have HI := Lib.hid (hi.after hg0); have HG0 := Lib.hid hg0; have HT := Lib.hid hT
  obtain ⟨pa, pc, rfl⟩ := hi.p.slice
  obtain ⟨la, ln, lc, rfl⟩ := sl_slice hi.l
  obtain ⟨ha, hn, hc, rfl⟩ := sl_slice hi.h
  clear hi hg0 hT
  have HZ := Lib.hid (fun (u : World) hu => rZones_any P (.slice la ln lc) (.slice ha hn hc) (.slice pa P.phs.length pc) x y z x y z u hu hbig)
  have HA : Hid (zonesE P x y z x y z = 0 → atV P x y z = .tuple #[.int .i64 (best P.cap P.phs (zonesL P x y z x y z)).1, .int .i64 (best P.cap P.phs (zonesL P x y z x y z)).2, .int .i64 0]) := Lib.hid (fun h => if_pos h)
  have HA' : Hid (zonesE P x y z x y z ≠ 0 → atV P x y z = .tuple #[.int .i64 0, .int .i64 0, .int .i64 (zonesE P x y z x y z)]) := Lib.hid (fun h => if_neg h)
  have HSO := Lib.hid (fun h => zonesE_sound (P := P) (b0 := x) (b1 := y) (b2 := z) (b3 := x) (b4 := y) (b5 := z) h)
  have HBE := Lib.hid (fun (u : World) (v : Value) (hS : Sound P) (h1 : SlC 6 u (.slice pa P.phs.length pc) P.phs.length (flatP P.phs)) (h2 : SlC 2 u v (zonesL P x y z x y z).length (flatZ (zonesL P x y z x y z))) => rbest_any P (.slice la ln lc) (.slice ha hn hc) (.slice pa P.phs.length pc) v (zonesL P x y z x y z) u h1 h2 (hS.fair _ _ _ _ _ _) (zonesL_length P x y z x y z) (by have := hS.some; simp [zonesL]; omega) rfl rfl)
  generalize zonesE P x y z x y z = zE at *
  generalize zonesL P x y z x y z = zL at *
  generalize atV P x y z = av at *
  obtain ⟨x0, y0, z0, x1, y1, z1, step, ls, hs, phs, cap⟩ := P
  simp only [Prob.val] at *
  generalize best cap phs zL = bb at *
  go_enter Tryz.func25, Tryz.ntmps25
  have e0_ := cell_of HT.out 0 _ rfl; have e1_ := cell_of HT.out 1 _ rfl; have e2_ := cell_of HT.out 2 _ rfl; have e3_ := cell_of HT.out 3 _ rfl; have e4_ := cell_of HT.out 4 _ rfl; have e5_ := cell_of HT.out 5 _ rfl; have e6_ := cell_of HT.out 6 _ rfl; have e7_ := cell_of HT.out 7 _ rfl; have e8_ := cell_of HT.out 8 _ rfl; have e9_ := cell_of HT.out 9 _ rfl; have e10_ := cell_of HT.out 10 _ rfl
  go_wp2_with fail
  generalize hw1 : (w.alloc (.cells #[.int .i64 x0, .int .i64 y0, .int .i64 z0, .int .i64 x1, .int .i64 y1, .int .i64 z1, .int .i64 step, .slice la ln lc, .slice ha hn hc, .slice pa phs.length pc, .int .i64 cap] 33)).alloc (.cells #[.int .i64 x, .int .i64 y, .int .i64 z] 26) = w1 at *
  clear hw1
  have HX : w1.heap[w.heap.size + 1]? = some (.cells #[.int .i64 x, .int .i64 y, .int .i64 z] 26 (0, 0)) := HX0.out
  obtain ⟨m0_, m1_, m2_⟩ := cells3 HX
  have u1 := Made.cells (block_lt' HT.out); have u2 := Made.cells (block_lt' HX)
  by_cases h0 : zE = 0
  · subst h0
    refine Rg.region (Made w1) Makes (fun k => if k = 2 then some (isV (.agg #[.int .i64 x, .int .i64 y, .int .i64 z, .int .i64 x, .int .i64 y, .int .i64 z])) else if k = 3 then some (isF (ZnOk zL)) else none) (fun _ => false) 0 9 (by kernel_rfl) (by kernel_rfl) (by kernel_rfl) (by kernel_rfl) (by kernel_rfl) (by kernel_rfl) (by kernel_rfl) Makes.size (Made.start w1) (fun hne => ?_)
    (repeat (refine rLexL_quiet (by rfl) (by rfl) (by rfl) (by rfl) ?_; go_big_quiet_step (fail); refine wpQuiet_nil ?_))
    refine rg_fix (.agg #[.int .i64 x, .int .i64 y, .int .i64 z, .int .i64 x, .int .i64 y, .int .i64 z]) 44 #[.agg #[.int .i64 x, .int .i64 y, .int .i64 z]] rfl rfl rfl (fun _ => by go_simp) (fun u hu => one_any _ _ _ u) ?_
    simp only [Act.put, List.setIfInBounds_toArray, List.set_cons_zero, List.set_cons_succ]
    refine rg_fixF (ZnOk zL) 43 #[.agg #[.int .i64 x0, .int .i64 y0, .int .i64 z0, .int .i64 x1, .int .i64 y1, .int .i64 z1, .int .i64 step, .slice la ln lc, .slice ha hn hc, .slice pa phs.length pc, .int .i64 cap], .agg #[.int .i64 x, .int .i64 y, .int .i64 z, .int .i64 x, .int .i64 y, .int .i64 z]] rfl rfl rfl ZnOk.after (fun _ => by go_simp) (fun u hu => (HZ.out u (HI.out.after hu)).mono fun e w' h => h.ok rfl) (fun zv zu hzv => ?_)
    obtain ⟨zsl, rfl, hsl⟩ := hzv
    obtain ⟨va, vc, rfl⟩ := hsl.slice
    clear hsl zu
    simp only [Act.put, List.setIfInBounds_toArray, List.set_cons_zero, List.set_cons_succ]
    (repeat (refine rLexL_quiet (by rfl) (by rfl) (by rfl) (by rfl) ?_; go_big_quiet_step (fail); refine wpQuiet_nil ?_))
    rintro wq hq hf -
    refine wpList_nil ?_
    have HSL := Lib.hid (ZnOk.out (hf 3))
    have HT2 := Lib.hid (block_kept hq HT.out rfl); have HG2 := Lib.hid (gb_trans HG0.out hq); have HP2 := Lib.hid (HI.out.p.after hq)
    clear hf hq hne u1 u2 m0_ m1_ m2_ HT HI
    clear e0_ e1_ e2_ e3_ e4_ e5_ e6_ e7_ e8_ e9_ e10_
    have e0_ := cell_of HT2.out 0 _ rfl; have e1_ := cell_of HT2.out 1 _ rfl; have e2_ := cell_of HT2.out 2 _ rfl; have e3_ := cell_of HT2.out 3 _ rfl; have e4_ := cell_of HT2.out 4 _ rfl; have e5_ := cell_of HT2.out 5 _ rfl; have e6_ := cell_of HT2.out 6 _ rfl; have e7_ := cell_of HT2.out 7 _ rfl; have e8_ := cell_of HT2.out 8 _ rfl; have e9_ := cell_of HT2.out 9 _ rfl; have e10_ := cell_of HT2.out 10 _ rfl
    go_wp2_with fail
    (with_reducible refine (HBE.out _ _ (HSO.out trivial) HP2.out HSL.out).mono ?_)
    rintro e w3 ⟨rfl, hg3⟩
    have HG3 := Lib.hid (gb_trans HG2.out hg3)
    clear e0_ e1_ e2_ e3_ e4_ e5_ e6_ e7_ e8_ e9_ e10_
    go_wp2_with fail
    exact bodyPost_ret (v := .tuple #[.int .i64 bb.1, .int .i64 bb.2, .int .i64 0]) (by simp [results, Tryz.results25, go_sem]) rfl ⟨by rw [HA.out trivial], HG3.out⟩
  · refine Rg.region (Made w1) Makes (fun k => if k = 2 then some (isV (.agg #[.int .i64 x, .int .i64 y, .int .i64 z, .int .i64 x, .int .i64 y, .int .i64 z])) else if k = 3 then some (isV (.tuple #[.slice none 0 0, .int .i64 zE])) else none) (fun _ => false) 0 9 (by kernel_rfl) (by kernel_rfl) (by kernel_rfl) (by kernel_rfl) (by kernel_rfl) (by kernel_rfl) (by kernel_rfl) Makes.size (Made.start w1) (fun hne => ?_)
    (repeat (refine rLexL_quiet (by rfl) (by rfl) (by rfl) (by rfl) ?_; go_big_quiet_step (fail); refine wpQuiet_nil ?_))
    refine rg_fix (.agg #[.int .i64 x, .int .i64 y, .int .i64 z, .int .i64 x, .int .i64 y, .int .i64 z]) 44 #[.agg #[.int .i64 x, .int .i64 y, .int .i64 z]] rfl rfl rfl (fun _ => by go_simp) (fun u hu => one_any _ _ _ u) ?_
    simp only [Act.put, List.setIfInBounds_toArray, List.set_cons_zero, List.set_cons_succ]
    refine rg_fix (.tuple #[.slice none 0 0, .int .i64 zE]) 43 #[.agg #[.int .i64 x0, .int .i64 y0, .int .i64 z0, .int .i64 x1, .int .i64 y1, .int .i64 z1, .int .i64 step, .slice la ln lc, .slice ha hn hc, .slice pa phs.length pc, .int .i64 cap], .agg #[.int .i64 x, .int .i64 y, .int .i64 z, .int .i64 x, .int .i64 y, .int .i64 z]] rfl rfl rfl (fun _ => by go_simp) (fun u hu => (HZ.out u (HI.out.after hu)).mono fun e w' h => h.bad h0) ?_
    simp only [Act.put, List.setIfInBounds_toArray, List.set_cons_zero, List.set_cons_succ]
    (repeat (refine rLexL_quiet (by rfl) (by rfl) (by rfl) (by rfl) ?_; go_big_quiet_step (fail); refine wpQuiet_nil ?_))
    rintro wq hq - -
    refine wpList_nil ?_
    have HG2 := Lib.hid (gb_trans HG0.out hq)
    clear hq hne u1 u2 m0_ m1_ m2_
    clear e0_ e1_ e2_ e3_ e4_ e5_ e6_ e7_ e8_ e9_ e10_
    go_wp2_with fail
    exact bodyPost_ret (v := .tuple #[.int .i64 0, .int .i64 0, .int .i64 zE]) (by simp [results, Tryz.results25, go_sem]) rfl ⟨by rw [HA'.out h0], HG2.out⟩
end Go.Proofs.YtnmjefgldoaneaaGreatDoor
namespace Go.Proofs.YtnmjefgldoaneaaGreatDoor
set_option linter.all false
open Go.RowKit Rg
/-- A problem as a value. -/
structure Pv where
  P : Prob
  vl : Value
  vh : Value
  vp : Value
def Pv.cells (v : Pv) : List Value := [.int .i64 v.P.x0, .int .i64 v.P.y0, .int .i64 v.P.z0, .int .i64 v.P.x1, .int .i64 v.P.y1, .int .i64 v.P.z1, .int .i64 v.P.step, v.vl, v.vh, v.vp, .int .i64 v.P.cap]
/-- A problem in memory, apart from block q. -/
def PrIn (q : Nat) (u : World) (v : Pv) : Prop := ProbIn v.P v.vl v.vh v.vp u ∧ Apart q v.vl ∧ Apart q v.vh ∧ Apart q v.vp ∧ v.P.phs.length ≤ 100
theorem PrIn.draw {q : Nat} {u u' : World} {v : Pv} (h : PrIn q u v) (hg : u.grownBy u' (some q)) : PrIn q u' v := by
  obtain ⟨hi, a, b, c, d⟩ := h
  exact ⟨⟨hi.l.later hg (fun _ _ _ _ e hl => by have := a _ _ _ _ e hl; simp; omega), hi.h.later hg (fun _ _ _ _ e hl => by have := b _ _ _ _ e hl; simp; omega), hi.p.draw hg (fun _ _ _ _ e hl => c _ _ _ _ e hl)⟩, a, b, c, d⟩
/-- Zones, and the reference's, answer alike. -/
def zsOf (E : Int) (zs : List Zn) : List Zn := if E = 0 then zs else []
def ZnA (E : Int) (zs : List Zn) (w : World) (e : Ending) (w' : World) : Prop := ∃ v, e = .returned (.tuple #[v, .int .i64 E]) ∧ SlC 2 w' v zs.length (flatZ zs) ∧ w.grownBy w' none
theorem Zoned.any {w : World} {E : Int} {zs : List Zn} {e : Ending} {w' : World} (h : Zoned w E zs e w') : ZnA E (zsOf E zs) w e w' := by
  rcases h with ⟨rfl, v, rfl, h1, -, h2⟩ | ⟨h0, rfl, h2⟩
  · exact ⟨v, rfl, by simpa [zsOf] using h1, h2⟩
  · refine ⟨_, rfl, ?_, h2⟩
    rw [show zsOf E zs = [] by simp [zsOf, h0]]
    exact ⟨rfl, .inl ⟨rfl, none, 0, rfl⟩⟩
/-- Eleven cells of a block. -/
theorem cells11 {w : World} {b : Nat} {v0 v1 v2 v3 v4 v5 v6 v7 v8 v9 v10 : Value} {t : TypeId} {fr : Nat × Nat} (h : w.heap[b]? = some (.cells #[v0, v1, v2, v3, v4, v5, v6, v7, v8, v9, v10] t fr)) :
    w.cell? ⟨b, 0, none⟩ = some v0 ∧ w.cell? ⟨b, 1, none⟩ = some v1 ∧ w.cell? ⟨b, 2, none⟩ = some v2 ∧ w.cell? ⟨b, 3, none⟩ = some v3 ∧ w.cell? ⟨b, 4, none⟩ = some v4 ∧ w.cell? ⟨b, 5, none⟩ = some v5 ∧ w.cell? ⟨b, 6, none⟩ = some v6 ∧ w.cell? ⟨b, 7, none⟩ = some v7 ∧ w.cell? ⟨b, 8, none⟩ = some v8 ∧ w.cell? ⟨b, 9, none⟩ = some v9 ∧ w.cell? ⟨b, 10, none⟩ = some v10 := by simp [World.cell?, h]
section
end
end Go.Proofs.YtnmjefgldoaneaaGreatDoor
namespace Go.Proofs.YtnmjefgldoaneaaGreatDoor
set_option linter.all false
open Go.RowKit Rg
/-- A location. -/
structure Loc where
  px : Int
  py : Int
  pz : Int
  t : Int
  m : Int
  l : Int
  a0 : Int
  a1 : Int
  a2 : Int
  a3 : Int
  a4 : Int
  a5 : Int
def Loc.val (x : Loc) : Array Value := #[.int .i64 x.px, .int .i64 x.py, .int .i64 x.pz, .int .i64 x.t, .int .i64 x.m, .int .i64 x.l, .int .i64 x.a0, .int .i64 x.a1, .int .i64 x.a2, .int .i64 x.a3, .int .i64 x.a4, .int .i64 x.a5]
theorem cells12 {w : World} {b : Nat} {v0 v1 v2 v3 v4 v5 v6 v7 v8 v9 v10 v11 : Value} {t : TypeId} {fr : Nat × Nat} (h : w.heap[b]? = some (.cells #[v0, v1, v2, v3, v4, v5, v6, v7, v8, v9, v10, v11] t fr)) :
    w.cell? ⟨b, 0, none⟩ = some v0 ∧ w.cell? ⟨b, 1, none⟩ = some v1 ∧ w.cell? ⟨b, 2, none⟩ = some v2 ∧ w.cell? ⟨b, 3, none⟩ = some v3 ∧ w.cell? ⟨b, 4, none⟩ = some v4 ∧ w.cell? ⟨b, 5, none⟩ = some v5 ∧ w.cell? ⟨b, 6, none⟩ = some v6 ∧ w.cell? ⟨b, 7, none⟩ = some v7 ∧ w.cell? ⟨b, 8, none⟩ = some v8 ∧ w.cell? ⟨b, 9, none⟩ = some v9 ∧ w.cell? ⟨b, 10, none⟩ = some v10 ∧ w.cell? ⟨b, 11, none⟩ = some v11 := by simp [World.cell?, h]
/-- The misfit, and what goes wrong: of a box, .. -/
def bdE (P : Prob) (b0 b1 b2 b3 b4 b5 : Int) : Int := zonesE P b0 b1 b2 b3 b4 b5
def bdC (P : Prob) (b0 b1 b2 b3 b4 b5 : Int) : Int := if zonesE P b0 b1 b2 b3 b4 b5 = 0 then (best P.cap P.phs (zonesL P b0 b1 b2 b3 b4 b5)).2 else 0
theorem bdV_eq (P : Prob) (b0 b1 b2 b3 b4 b5 : Int) : bdV P b0 b1 b2 b3 b4 b5 = .tuple #[.int .i64 (bdC P b0 b1 b2 b3 b4 b5), .int .i64 (bdE P b0 b1 b2 b3 b4 b5)] := by
  unfold bdV bdC bdE; split
  · rename_i h; rw [h]
  · rfl
/-- .. of a point. -/
def atT (P : Prob) (x y z : Int) : Int := if zonesE P x y z x y z = 0 then (best P.cap P.phs (zonesL P x y z x y z)).1 else 0
theorem atV_eq (P : Prob) (x y z : Int) : atV P x y z = .tuple #[.int .i64 (atT P x y z), .int .i64 (bdC P x y z x y z), .int .i64 (bdE P x y z x y z)] := by
  unfold atV atT bdC bdE; split
  · rename_i h; rw [h]
  · rfl
end Go.Proofs.YtnmjefgldoaneaaGreatDoor
namespace Go.Proofs.YtnmjefgldoaneaaGreatDoor
set_option linter.all false
open Go.RowKit Rg
/-- What else has turned: only the variable O, its own row, and new memory. -/
structure Fr (O : Nat) (v v' : Value) (u u' : World) : Prop where
  os : u'.os = u.os
  tape : u'.tape = u.tape
  output : u'.output = u.output
  size : u.heap.size ≤ u'.heap.size
  block : ∀ k, k < u.heap.size → k ≠ O → some k ≠ v.ownBlock → u'.heap[k]? = u.heap[k]?
  own : ∀ k, v'.ownBlock = some k → v.ownBlock = some k ∨ u.heap.size ≤ k
theorem Fr.gb {O : Nat} {v : Value} {u u' : World} (h : u.grownBy u' none) : Fr O v v u u' := ⟨h.os, h.tape, h.output, h.size, fun k hk _ _ => h.block k hk (by simp), fun _ e => .inl e⟩
theorem Fr.trans {O : Nat} {v v' v'' : Value} {u u' u'' : World} (h : Fr O v v' u u') (k : Fr O v' v'' u' u'') : Fr O v v'' u u'' := by
  refine ⟨k.os.trans h.os, k.tape.trans h.tape, k.output.trans h.output, Nat.le_trans h.size k.size, fun b hb hO ho => ?_, fun b e => ?_⟩
  · rw [k.block b (Nat.lt_of_lt_of_le hb h.size) hO (fun e => ?_), h.block b hb hO ho]
    rcases h.own b e.symm with h1 | h1
    · exact ho h1.symm
    · omega
  · have hs := h.size
    rcases k.own b e with h1 | h1
    · exact h.own b h1
    · exact .inr (by omega)
/-- The row, in the variable O. -/
structure OutAt (O B : Nat) (u : World) (v : Value) (l : List Int) : Prop where
  o : u.heap[O]? = some (.cells #[v] 22 (0, 0))
  own : u.ownsRow B 3 1 v l.length (l.map (Value.int .i64))
  lt : O < B
  le : B ≤ u.heap.size
theorem OutAt.keep {O B : Nat} {u u' : World} {v : Value} {l : List Int} (h : OutAt O B u v l) (hg : u.grownBy u' none) : OutAt O B u' v l := ⟨block_kept hg h.o rfl, owns_keep h.own hg, h.lt, Nat.le_trans h.le hg.size⟩
theorem OutAt.ne {O B : Nat} {u : World} {v : Value} {l : List Int} (h : OutAt O B u v l) {k : Nat} (hk : k < B) : some k ≠ v.ownBlock := fun e => by have := (h.own.lt k e.symm).1; omega
theorem Fr.all {O B : Nat} {v v' : Value} {u u' w0 : World} {l : List Int} (h : Fr O v v' u u') (ho : OutAt O B u v l) (hg : w0.grownBy u none) (hO : w0.heap.size ≤ O) : w0.grownBy u' none :=
  ⟨h.os.trans hg.os, h.tape.trans hg.tape, h.output.trans hg.output, Nat.le_trans hg.size h.size, fun k hk _ => by
    have := ho.lt
    have hs := hg.size
    rw [h.block k (by omega) (by omega) (ho.ne (by omega)), hg.block k hk (by simp)]⟩
theorem Fr.kept {O B : Nat} {v v' : Value} {u u' : World} {l : List Int} (h : Fr O v v' u u') (ho : OutAt O B u v l) {b : Nat} {x : Obj} (hb : u.heap[b]? = some x) (hO : b ≠ O) (hB : b < B) : u'.heap[b]? = some x :=
  (h.block b (block_lt' hb) hO (ho.ne hB)).trans hb
end Go.Proofs.YtnmjefgldoaneaaGreatDoor
namespace Go.Proofs.YtnmjefgldoaneaaGreatDoor
set_option linter.all false
open Go.RowKit
/-- A box, as six numbers. -/
structure Bx where
  a : Int
  b : Int
  c : Int
  d : Int
  e : Int
  f : Int
deriving Inhabited, DecidableEq
def Bx.val (x : Bx) : Array Value := #[.int .i64 x.a, .int .i64 x.b, .int .i64 x.c, .int .i64 x.d, .int .i64 x.e, .int .i64 x.f]
def Bx.ok (x : Bx) : Bool := splOk x.a x.b x.c x.d x.e x.f
def Bx.v (x : Bx) : Bool := bP x.a x.b x.c x.d x.e x.f
def Bx.ax (x : Bx) : Nat := axis (x.d - x.a) (x.e - x.b) (x.f - x.c)
def Bx.pts (x : Bx) : Int := ptsP x.a x.b x.c x.d x.e x.f
/-- Its halves. -/
def Bx.fst (x : Bx) : Bx := ⟨keepI x.ok x.a, keepI x.ok x.b, keepI x.ok x.c, spE x.ok x.ax 0 x.a x.d, spE x.ok x.ax 1 x.b x.e, spE x.ok x.ax 2 x.c x.f⟩
def Bx.snd (x : Bx) : Bx := ⟨spB x.ok x.ax 0 x.a x.d, spB x.ok x.ax 1 x.b x.e, spB x.ok x.ax 2 x.c x.f, keepI x.ok x.d, keepI x.ok x.e, keepI x.ok x.f⟩
/-- Its center. -/
def Bx.c0 (x : Bx) : Int := cen x.v x.a x.d
def Bx.c1 (x : Bx) : Int := cen x.v x.b x.e
def Bx.c2 (x : Bx) : Int := cen x.v x.c x.f
theorem Bx.split (x : Bx) (u : World) : Calls Tryz.prog 49 #[.agg x.val] u fun e w' => e = .returned (.tuple #[.agg x.fst.val, .agg x.snd.val, .bool x.ok]) ∧ u.grownBy w' none := split_any x.a x.b x.c x.d x.e x.f u
theorem Bx.center (x : Bx) (u : World) : Calls Tryz.prog 123 #[.agg x.val] u fun e w' => e = .returned (.agg #[.int .i64 x.c0, .int .i64 x.c1, .int .i64 x.c2]) ∧ u.grownBy w' none := center_any x.a x.b x.c x.d x.e x.f u
end Go.Proofs.YtnmjefgldoaneaaGreatDoor
namespace Go.Proofs.YtnmjefgldoaneaaGreatDoor
set_option linter.all false
open Go.RowKit
/-- A box that is or was open, with its bound. -/
structure It where
  b : Bx
  c : Int
  done : Bool
deriving Inhabited
def It.cells (i : It) : List Value := [.int .i64 i.b.a, .int .i64 i.b.b, .int .i64 i.b.c, .int .i64 i.b.d, .int .i64 i.b.e, .int .i64 i.b.f, .int .i64 i.c, .bool i.done]
def flatI (l : List It) : List Value := l.flatMap It.cells
theorem flatI_at : ∀ (l : List It) (i : Nat) (h : i < l.length) (j : Nat), j < 8 → (flatI l)[i * 8 + j]? = (l[i]).cells[j]?
  | a :: l, 0, _, j, hj => by
    have e : flatI (a :: l) = a.cells ++ flatI l := by simp [flatI]
    rw [e, Nat.zero_mul, Nat.zero_add, List.getElem?_append_left (by simp [It.cells]; omega)]; rfl
  | a :: l, i + 1, h, j, hj => by
    have e : flatI (a :: l) = a.cells ++ flatI l := by simp [flatI]
    have hl : a.cells.length = 8 := rfl
    rw [e, List.getElem?_append_right (by rw [hl]; omega), hl, show (i + 1) * 8 + j - 8 = i * 8 + j by omega, flatI_at l i (by simpa using h) j hj]; rfl
/-- Item i, of a list. -/
def itAt (l : List It) (i : Nat) : It := l[i]?.getD default
theorem itAt_eq {l : List It} {i : Nat} (h : i < l.length) : itAt l i = l[i] := by simp [itAt, h]
theorem SlC.it {w : World} {b off : Nat} {l : List It} (h : ∀ j u, (flatI l)[j]? = some u → w.cell? ⟨b, off + j, none⟩ = some u) (i : Nat) (hi : i < l.length) :
    w.cell? ⟨b, off + i * 8, none⟩ = some (.int .i64 (itAt l i).b.a) ∧ w.cell? ⟨b, off + i * 8 + 1, none⟩ = some (.int .i64 (itAt l i).b.b) ∧ w.cell? ⟨b, off + i * 8 + 2, none⟩ = some (.int .i64 (itAt l i).b.c) ∧ w.cell? ⟨b, off + i * 8 + 3, none⟩ = some (.int .i64 (itAt l i).b.d) ∧ w.cell? ⟨b, off + i * 8 + 4, none⟩ = some (.int .i64 (itAt l i).b.e) ∧ w.cell? ⟨b, off + i * 8 + 5, none⟩ = some (.int .i64 (itAt l i).b.f) ∧ w.cell? ⟨b, off + i * 8 + 6, none⟩ = some (.int .i64 (itAt l i).c) ∧ w.cell? ⟨b, off + i * 8 + 7, none⟩ = some (.bool (itAt l i).done) := by
  rw [itAt_eq hi]
  exact ⟨h (i * 8) _ (flatI_at l i hi 0 (by omega)), by rw [Nat.add_assoc]; exact h _ _ (flatI_at l i hi 1 (by omega)), by rw [Nat.add_assoc]; exact h _ _ (flatI_at l i hi 2 (by omega)), by rw [Nat.add_assoc]; exact h _ _ (flatI_at l i hi 3 (by omega)), by rw [Nat.add_assoc]; exact h _ _ (flatI_at l i hi 4 (by omega)), by rw [Nat.add_assoc]; exact h _ _ (flatI_at l i hi 5 (by omega)), by rw [Nat.add_assoc]; exact h _ _ (flatI_at l i hi 6 (by omega)), by rw [Nat.add_assoc]; exact h _ _ (flatI_at l i hi 7 (by omega))⟩
/-- The open box with the least bound, the first of them, among the first k; -1: none. -/
def nx (l : List It) : Nat → Int
  | 0 => -1
  | k + 1 => if !(itAt l k).done && (decide (nx l k < 0) || decide ((itAt l k).c < (itAt l (nx l k).toNat).c)) then k else nx l k
def bxC (P : Prob) (b : Bx) : Int := bdC P b.a b.b b.c b.d b.e b.f
def bxE (P : Prob) (b : Bx) : Int := bdE P b.a b.b b.c b.d b.e b.f
/-- Is the center of a box a better point? -/
def lookC (P : Prob) (first : Bool) (x : Loc) (b : Bx) : Bool :=
  first || decide (bdC P b.c0 b.c1 b.c2 b.c0 b.c1 b.c2 < x.m) || (decide (bdC P b.c0 b.c1 b.c2 b.c0 b.c1 b.c2 = x.m) && decide (cmpP b.c0 b.c1 b.c2 x.px x.py x.pz < 0))
def loc0 : Loc := ⟨0, 0, 0, 0, 0, 0, 0, 0, 0, 0, 0, 0⟩
/-- A box more, of what is returned. -/
def Loc.more (y : Loc) (b : Bx) (c : Int) : Loc :=
  ⟨y.px, y.py, y.pz, y.t, y.m, min y.l c, huL (bP y.a0 y.a1 y.a2 y.a3 y.a4 y.a5 && bP b.a b.b b.c b.d b.e b.f) y.a0 b.a, huL (bP y.a0 y.a1 y.a2 y.a3 y.a4 y.a5 && bP b.a b.b b.c b.d b.e b.f) y.a1 b.b, huL (bP y.a0 y.a1 y.a2 y.a3 y.a4 y.a5 && bP b.a b.b b.c b.d b.e b.f) y.a2 b.c,
    huH (bP y.a0 y.a1 y.a2 y.a3 y.a4 y.a5 && bP b.a b.b b.c b.d b.e b.f) y.a3 b.d, huH (bP y.a0 y.a1 y.a2 y.a3 y.a4 y.a5 && bP b.a b.b b.c b.d b.e b.f) y.a4 b.e, huH (bP y.a0 y.a1 y.a2 y.a3 y.a4 y.a5 && bP b.a b.b b.c b.d b.e b.f) y.a5 b.f⟩
end Go.Proofs.YtnmjefgldoaneaaGreatDoor
namespace Go.Proofs.YtnmjefgldoaneaaGreatDoor
set_option linter.all false
section LPrfC
open Go.RowKit Rg
end LPrfC
section LPrfD
open Go.RowKit Rg
def Prob.reg (P : Prob) : Bx := ⟨P.x0, P.y0, P.z0, P.x1, P.y1, P.z1⟩
end LPrfD
section LPrfM
open Go.RowKit Rg
/-- What a certificate says of a box. -/
def wr (V : Bx → Bool) : Nat → Bx → List Int → Int × List Int
  | 0, _, l => (8, l)
  | f + 1, b, l => if l.length = 6001 then (8, l) else if V b then (0, l ++ [0]) else if b.ok then (if (wr V f b.fst (l ++ [1])).1 = 0 then wr V f b.snd (wr V f b.fst (l ++ [1])).2 else wr V f b.fst (l ++ [1])) else (26, l)
end LPrfM
section LPrfN
open Go.RowKit Rg
attribute [local irreducible] wr
end LPrfN
end Go.Proofs.YtnmjefgldoaneaaGreatDoor
