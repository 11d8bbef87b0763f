/- Ref RefC Bent Lit Part Ref27 RefG Lit27 -/
import Derived.ArgAppend
import Derived.BigRegion
import Derived.Deep.AppendLies
import Derived.Laws.OwnMore
import Derived.Deep.MidRow
import Derived.Test.YtgaglgopbdfemaaGreatDoorTmTrv
import Derived.Test.YtgaglgopbdfemaaGreatDoorTmRgMade
import Derived.Test.YtgaglgopbdfemaaGreatDoorTmGeoS
import Derived.Test.YtgaglgopbdfemaaGreatDoorTmRgPos
import Derived.Test.YtgaglgopbdfemaaGreatDoorTmBnd
import Derived.Test.YtgaglgopbdfemaaGreatDoorTmMem
import Derived.Test.YtgaglgopbdfemaaGreatDoorTmMis
import Derived.Test.YtgaglgopbdfemaaGreatDoorTmMisP
import Derived.Test.YtgaglgopbdfemaaGreatDoorTmBase
namespace Go.Proofs.YtgaglgopbdfemaaGreatDoor
set_option linter.all false
section LRefT
open Go.RowKit
end LRefT
section LRefA
open Go.RowKit
def sgn (a b : Int) : Int := if a < b then -1 else if b < a then 1 else 0
def cmpP (x0 y0 z0 x1 y1 z1 : Int) : Int := if sgn x0 x1 ≠ 0 then sgn x0 x1 else if sgn y0 y1 ≠ 0 then sgn y0 y1 else sgn z0 z1
end LRefA
section LRefB
open Go.RowKit Rg
end LRefB
section LRefD
open Go.RowKit Rg
end LRefD
end Go.Proofs.YtgaglgopbdfemaaGreatDoor
namespace Go.Proofs.YtgaglgopbdfemaaGreatDoor
set_option linter.all false
open Go.RowKit Rg
theorem isNaN_any (a : Int) (w : World) :
    Calls Tryz.prog 243 #[.int .i64 a] w fun e w' => e = .returned (.bool false) ∧ w = w' := by
  go_enter Tryz.func243, Tryz.ntmps243
  go_wp2
  go_ret
  exact ⟨rfl, rfl⟩
theorem cmpc_any (a b : Int) (w : World) :
    Calls Tryz.prog 176 #[.int .i64 a, .int .i64 b] w fun e w' => e = .returned (.int .i64 (sgn a b)) ∧ w = w' := by
  rcases Int.lt_trichotomy a b with h | h | h
  all_goals
    go_enter Tryz.func176, Tryz.ntmps176
    go_wp2_with fail
    (with_reducible refine (isNaN_any _ _).mono ?_)
    rintro e w1 ⟨rfl, rfl⟩
    go_wp2_with fail
    (with_reducible refine (isNaN_any _ _).mono ?_)
    rintro e w1 ⟨rfl, rfl⟩
    go_wp2
    go_ret
    exact ⟨ret_int (by unfold sgn; split <;> (try split) <;> omega), rfl⟩
theorem cmpor_any (a b c : Int) (v : Value) (w : World) (h : Sl w v [a, b, c]) :
    Calls Tryz.prog 121 #[v] w fun e w' => e = .returned (.int .i64 (if a ≠ 0 then a else if b ≠ 0 then b else c)) ∧ w = w' := by
  rcases h with ⟨h, _⟩ | ⟨g, off, cap, rfl, hb, hcap, hcap2, hc⟩
  · cases h
  have c0 := hc 0 (by simp); have c1 := hc 1 (by simp); have c2 := hc 2 (by simp)
  simp only [List.length_cons, List.length_nil, List.getElem?_cons_zero, List.getElem?_cons_succ, Option.getD_some, Nat.add_zero] at c0 c1 c2 hcap
  clear hc
  by_cases ha : a = 0
  rotate_left
  · go_enter Tryz.func121, Tryz.ntmps121
    go_wp2
    refine wp_loop_rounds 4 ?_
    repeat any_goals (rw [rounds_succ]; go_wp2)
    go_ret
    exact ⟨ret_int (by simp [ha]), rfl⟩
  by_cases hb : b = 0
  rotate_left
  · go_enter Tryz.func121, Tryz.ntmps121
    go_wp2
    refine wp_loop_rounds 4 ?_
    repeat any_goals (rw [rounds_succ]; go_wp2)
    go_ret
    exact ⟨ret_int (by simp [ha, hb]), rfl⟩
  by_cases hc : c = 0
  all_goals
    go_enter Tryz.func121, Tryz.ntmps121
    go_wp2
    refine wp_loop_rounds 4 ?_
    repeat any_goals (rw [rounds_succ]; go_wp2)
    go_ret
    exact ⟨ret_int (by simp [ha, hb, hc]), rfl⟩
set_option maxRecDepth 100000 in
set_option maxHeartbeats 1000000 in
theorem compare_any (x0 y0 z0 x1 y1 z1 : Int) (w : World) :
    Calls Tryz.prog 111 #[.agg #[.int .i64 x0, .int .i64 y0, .int .i64 z0], .agg #[.int .i64 x1, .int .i64 y1, .int .i64 z1]] w fun e w' => e = .returned (.int .i64 (cmpP x0 y0 z0 x1 y1 z1)) ∧ w.grownBy w' none := by
  go_enter Tryz.func111, Tryz.ntmps111
  go_wp2_with fail
  have HG := Lib.hid (gb_alloc (gb_alloc (gb_refl w none) (.cells #[.int .i64 x0, .int .i64 y0, .int .i64 z0] 26)) (.cells #[.int .i64 x1, .int .i64 y1, .int .i64 z1] 26))
  have h0 : ((w.alloc (.cells #[.int .i64 x0, .int .i64 y0, .int .i64 z0] 26)).alloc (.cells #[.int .i64 x1, .int .i64 y1, .int .i64 z1] 26)).heap[w.heap.size]? = some (.cells #[.int .i64 x0, .int .i64 y0, .int .i64 z0] 26 (0, 0)) := by rw [heap_alloc_old _ _ (by simp), heap_alloc_new]
  have h1 : ((w.alloc (.cells #[.int .i64 x0, .int .i64 y0, .int .i64 z0] 26)).alloc (.cells #[.int .i64 x1, .int .i64 y1, .int .i64 z1] 26)).heap[w.heap.size + 1]? = some (.cells #[.int .i64 x1, .int .i64 y1, .int .i64 z1] 26 (0, 0)) := by simpa using heap_alloc_new (w.alloc _) _
  generalize (w.alloc (.cells #[.int .i64 x0, .int .i64 y0, .int .i64 z0] 26)).alloc (.cells #[.int .i64 x1, .int .i64 y1, .int .i64 z1] 26) = w1 at *
  obtain ⟨a0, a1, a2⟩ := cells3 h0
  obtain ⟨b0, b1, b2⟩ := cells3 h1
  have la := Made.cells (block_lt h0)
  have lb := Made.cells (block_lt h1)
  clear h0 h1
  refine Rg.region (Made w1) Makes (fun k => if k = 4 then some (isV (.int .i64 (sgn x0 x1))) else if k = 9 then some (isV (.int .i64 (sgn y0 y1))) else if k = 14 then some (isV (.int .i64 (sgn z0 z1))) else if k = 15 then some (isLit w1 [sgn x0 x1, sgn y0 y1, sgn z0 z1]) else if k = 16 then some (isV (.int .i64 (cmpP x0 y0 z0 x1 y1 z1))) else none)
    (fun _ => false) 0 17 (by kernel_rfl) (by kernel_rfl) (by kernel_rfl) (by kernel_rfl) (by kernel_rfl) (by kernel_rfl) (by kernel_rfl) Makes.size (Made.start w1) (fun hne => ?_)
  (repeat (refine rLexL_quiet (by rfl) (by rfl) (by rfl) (by rfl) ?_; go_big_quiet_step (fail); refine wpQuiet_nil ?_))
  refine rg_fix (.int .i64 (sgn x0 x1)) 176 #[.int .i64 x0, .int .i64 x1] rfl rfl rfl (fun _ => by go_simp) (fun u hu => same_grown (cmpc_any _ _ u)) ?_
  simp only [Act.put, List.setIfInBounds_toArray, List.set_cons_zero, List.set_cons_succ]
  (repeat (refine rLexL_quiet (by rfl) (by rfl) (by rfl) (by rfl) ?_; go_big_quiet_step (fail); refine wpQuiet_nil ?_))
  refine rg_fix (.int .i64 (sgn y0 y1)) 176 #[.int .i64 y0, .int .i64 y1] rfl rfl rfl (fun _ => by go_simp) (fun u hu => same_grown (cmpc_any _ _ u)) ?_
  simp only [Act.put, List.setIfInBounds_toArray, List.set_cons_zero, List.set_cons_succ]
  (repeat (refine rLexL_quiet (by rfl) (by rfl) (by rfl) (by rfl) ?_; go_big_quiet_step (fail); refine wpQuiet_nil ?_))
  refine rg_fix (.int .i64 (sgn z0 z1)) 176 #[.int .i64 z0, .int .i64 z1] rfl rfl rfl (fun _ => by go_simp) (fun u hu => same_grown (cmpc_any _ _ u)) ?_
  simp only [Act.put, List.setIfInBounds_toArray, List.set_cons_zero, List.set_cons_succ]
  refine rg_litM [sgn x0 x1, sgn y0 y1, sgn z0 z1] 3 rfl rfl rfl (fun _ => by go_simp) rfl (fun v => ?_)
  simp only [Act.put, List.setIfInBounds_toArray, List.set_cons_zero, List.set_cons_succ]
  refine rg_fixD (.int .i64 (cmpP x0 y0 z0 x1 y1 z1)) 121 #[v] rfl rfl rfl (fun _ => by go_simp) (fun u hu hd => same_grown ((cmpor_any _ _ _ v u (hd ⟨15, .data⟩ (by simp) rfl).1).mono fun e w' ⟨h, h'⟩ => ⟨by rw [h]; simp [cmpP], h'⟩)) ?_
  simp only [Act.put, List.setIfInBounds_toArray, List.set_cons_zero, List.set_cons_succ]
  rintro wq hq hf hD
  have HG2 := Lib.hid (gb_trans HG.out hq)
  clear hf hD hq hne
  go_wp2_with fail
  go_ret
  exact ⟨rfl, HG2.out⟩
end Go.Proofs.YtgaglgopbdfemaaGreatDoor
namespace Go.Proofs.YtgaglgopbdfemaaGreatDoor
set_option linter.all false
open Go.RowKit Rg
/-- One of the numbers of a literal that lies in a block of its own. -/
theorem pickL_any (B : Nat) (w : World) (p : Nat) (xs : List Int) (n : Nat) (hn : xs.length = n) (cs : Array Value) (hcs : (xs.map (Value.int .i64)).toArray = cs) (e : TypeId) (h : Src B w p) (g : Nat) (hz : w.heap.size = g) (h0 : 0 < xs.length) (hl : xs.length ≤ 1000) :
    Calls Tryz.prog 9 #[.pointer (some ⟨p, 0, none⟩), .slice (some ⟨g, 0, none⟩) n n] (w.alloc (.cells cs e)) (fun r w' => ∃ x : Int, r = .returned (.int .i64 x) ∧ x ∈ xs ∧ Src B w' p ∧ w.grownBy w' (some p)) := by
  subst hz; subst hn; subst hcs
  have hp := h.lt.2
  have hs : Sl (w.alloc (.cells (xs.map (Value.int .i64)).toArray e)) (.slice (some ⟨w.heap.size, 0, none⟩) xs.length xs.length) xs :=
    .inr ⟨w.heap.size, 0, xs.length, rfl, by simp, Nat.le_refl _, by omega, fun k hk => by rw [cell_new]; simp [hk]⟩
  refine (pick_any B _ p _ xs (h.later (gb_alloc (gb_refl w none) _) (by simp)) hs h0 hl (fun b off len cap he => by simp at he; omega)).mono ?_
  rintro r w' ⟨x, rfl, hx, hS, hg⟩
  exact ⟨x, rfl, hx, hS, gb_trans (gb_none (gb_alloc (gb_refl w none) _)) hg⟩
end Go.Proofs.YtgaglgopbdfemaaGreatDoor
namespace Go.Proofs.YtgaglgopbdfemaaGreatDoor
set_option linter.all false
open Go.RowKit Rg
/-- A slice of ints apart from block p. -/
def Apart (p : Nat) (v : Value) : Prop := ∀ b off len cap, v = .slice (some ⟨b, off, none⟩) len cap → 0 < len → b ≠ p
section
end
/-- Two zones are compared. -/
def sameZ (a b c d : Int) : Bool := a == c && b == d
theorem run_neqZ (a b c d : Int) (w : World) :
    (binOp .neq 168 (.agg #[.int .i64 a, .int .i64 b]) (.agg #[.int .i64 c, .int .i64 d])).run Tryz.prog w = .ok (.bool (!sameZ a b c d)) w := by
  unfold sameZ
  by_cases h0 : a = c <;> by_cases h1 : b = d <;> simp [go_sem, h0, h1]
attribute [go_sem high] run_neqZ
end Go.Proofs.YtgaglgopbdfemaaGreatDoor
namespace Go.Proofs.YtgaglgopbdfemaaGreatDoor
set_option linter.all false
open Go.RowKit Rg
theorem setCells_grown {w0 : World} {row : Option Nat} {b : Nat} : ∀ (vs : List Value) (w : World) (o : Nat), w0.grownBy w row → (w0.heap.size ≤ b ∨ row = some b) → w0.grownBy (w.setCells b o vs) row
  | [], w, o, h, _ => h
  | v :: vs, w, o, h, hb => setCells_grown vs (w.setCell ⟨b, o, none⟩ v) (o + 1) (gb_setCell h hb v) hb
/-- A list in which some cells are overwritten. -/
def setLL (xs : List Value) (o : Nat) : List Value → List Value
  | [] => xs
  | v :: vs => setLL (xs.set o v) (o + 1) vs
theorem owns_setCells {base size g n cap : Nat} {e : TypeId} : ∀ (vs : List Value) (w : World) (o : Nat) (xs : List Value), w.ownsRow base e size (.slice (some ⟨g, 0, none⟩) n cap) n xs → (w.setCells g o vs).ownsRow base e size (.slice (some ⟨g, 0, none⟩) n cap) n (setLL xs o vs)
  | [], _, _, _, h => h
  | v :: vs, w, o, xs, h => owns_setCells vs (w.setCell ⟨g, o, none⟩ v) (o + 1) (xs.set o v) (h.stored o v).1
theorem setLL_cons (y : Value) : ∀ (vs r : List Value) (o : Nat), setLL (y :: r) (o + 1) vs = y :: setLL r o vs
  | [], _, _ => rfl
  | v :: vs, r, o => setLL_cons y vs (r.set o v) (o + 1)
theorem setLL_append (vs : List Value) : ∀ (p r : List Value) (o : Nat), setLL (p ++ r) (p.length + o) vs = p ++ setLL r o vs
  | [], r, o => by simp
  | y :: p, r, o => by
    rw [List.cons_append, show (y :: p).length + o = (p.length + o) + 1 by simp; omega, setLL_cons, setLL_append vs p r o]; rfl
end Go.Proofs.YtgaglgopbdfemaaGreatDoor
namespace Go.Proofs.YtgaglgopbdfemaaGreatDoor
set_option linter.all false
section LRefE
open Go.RowKit Rg
end LRefE
section LRefF
open Go.RowKit Rg
theorem Sound.near {P : Prob} (h : Sound P) {a : Ph} (ha : a ∈ P.phs) : Near P.step P.ls P.hs P.x0 P.y0 P.z0 P.x1 P.y1 P.z1 a.x a.y a.z := by
  have hp := h.phase ha
  have hz := h.ph a ha
  have hv := (phP_iff.1 hp).1
  have hf : farP P.x0 P.y0 P.z0 P.x1 P.y1 P.z1 a.x a.y a.z = farD P.x0 P.y0 P.z0 P.x1 P.y1 P.z1 a.x a.y a.z := by unfold farP; rw [h.vb, hv]; rfl
  unfold zoneE znE at hz
  rw [if_pos h.ok, if_pos h.vb, if_pos hp] at hz
  unfold bndE at hz
  rw [if_pos h.ok, if_pos (by rw [h.vb, hv]; rfl)] at hz
  unfold btwE at hz
  rw [if_neg (fun e => e h.ok)] at hz
  refine ⟨h.ok, h.vb, hv, ?_⟩
  split at hz
  · omega
  · split at hz
    · omega
    · rw [hf] at *; omega
theorem Sound.zone0 {P : Prob} (h : Sound P) {b0 b1 b2 b3 b4 b5 : Int} (hw : wiP b0 b1 b2 b3 b4 b5 P.x0 P.y0 P.z0 P.x1 P.y1 P.z1 = true) {a : Ph} (ha : a ∈ P.phs) : zoneE P.step P.ls P.hs b0 b1 b2 b3 b4 b5 a = 0 :=
  (((h.near ha).within hw).1.zE (h.phase ha)).1
end LRefF
end Go.Proofs.YtgaglgopbdfemaaGreatDoor
namespace Go.Proofs.YtgaglgopbdfemaaGreatDoor
set_option linter.all false
open Go.RowKit Rg
/-- What Zones answers where nothing is wrong. -/
def ZnOk (zs : List Zn) (v : Value) (u : World) : Prop := ∃ s, v = .tuple #[s, .int .i64 0] ∧ SlC 2 u s zs.length (flatZ zs)
theorem ZnOk.after {zs : List Zn} (v : Value) (u u' : World) (h : ZnOk zs v u) (hg : u.grownBy u' none) : ZnOk zs v u' := by
  obtain ⟨s, e, h⟩ := h; exact ⟨s, e, h.after hg⟩
theorem ZnOk.out {zs : List Zn} {s : Value} {u : World} (h : ZnOk zs (.tuple #[s, .int .i64 0]) u) : SlC 2 u s zs.length (flatZ zs) := by
  obtain ⟨s', e, h⟩ := h
  simp only [Value.tuple.injEq, Array.mk.injEq, List.cons.injEq, and_true] at e
  rw [e]; exact h
theorem Zoned.ok {w : World} {E : Int} {zs : List Zn} {e : Ending} {w' : World} (h : Zoned w E zs e w') (hE : E = 0) : ∃ v, e = .returned v ∧ ZnOk zs v w' ∧ w.grownBy w' none := by
  rcases h with ⟨-, v, rfl, h1, -, h2⟩ | ⟨h0, -, -⟩
  · exact ⟨_, rfl, ⟨v, rfl, h1⟩, h2⟩
  · exact absurd hE h0
end Go.Proofs.YtgaglgopbdfemaaGreatDoor
namespace Go.Proofs.YtgaglgopbdfemaaGreatDoor
set_option linter.all false
open Go.RowKit Rg
/-- A problem as a value. -/
structure Pv where
  P : Prob
  vl : Value
  vh : Value
  vp : Value
def Pv.cells (v : Pv) : List Value := [.int .i64 v.P.x0, .int .i64 v.P.y0, .int .i64 v.P.z0, .int .i64 v.P.x1, .int .i64 v.P.y1, .int .i64 v.P.z1, .int .i64 v.P.step, v.vl, v.vh, v.vp, .int .i64 v.P.cap]
/-- A problem in memory, apart from block q. -/
def PrIn (q : Nat) (u : World) (v : Pv) : Prop := ProbIn v.P v.vl v.vh v.vp u ∧ Apart q v.vl ∧ Apart q v.vh ∧ Apart q v.vp ∧ v.P.phs.length ≤ 100
theorem PrIn.draw {q : Nat} {u u' : World} {v : Pv} (h : PrIn q u v) (hg : u.grownBy u' (some q)) : PrIn q u' v := by
  obtain ⟨hi, a, b, c, d⟩ := h
  exact ⟨⟨hi.l.later hg (fun _ _ _ _ e hl => by have := a _ _ _ _ e hl; simp; omega), hi.h.later hg (fun _ _ _ _ e hl => by have := b _ _ _ _ e hl; simp; omega), hi.p.draw hg (fun _ _ _ _ e hl => c _ _ _ _ e hl)⟩, a, b, c, d⟩
/-- Zones, and the reference's, answer alike. -/
def zsOf (E : Int) (zs : List Zn) : List Zn := if E = 0 then zs else []
def ZnA (E : Int) (zs : List Zn) (w : World) (e : Ending) (w' : World) : Prop := ∃ v, e = .returned (.tuple #[v, .int .i64 E]) ∧ SlC 2 w' v zs.length (flatZ zs) ∧ w.grownBy w' none
theorem Zoned.any {w : World} {E : Int} {zs : List Zn} {e : Ending} {w' : World} (h : Zoned w E zs e w') : ZnA E (zsOf E zs) w e w' := by
  rcases h with ⟨rfl, v, rfl, h1, -, h2⟩ | ⟨h0, rfl, h2⟩
  · exact ⟨v, rfl, by simpa [zsOf] using h1, h2⟩
  · refine ⟨_, rfl, ?_, h2⟩
    rw [show zsOf E zs = [] by simp [zsOf, h0]]
    exact ⟨rfl, .inl ⟨rfl, none, 0, rfl⟩⟩
/-- Eleven cells of a block. -/
theorem cells11 {w : World} {b : Nat} {v0 v1 v2 v3 v4 v5 v6 v7 v8 v9 v10 : Value} {t : TypeId} {fr : Nat × Nat} (h : w.heap[b]? = some (.cells #[v0, v1, v2, v3, v4, v5, v6, v7, v8, v9, v10] t fr)) :
    w.cell? ⟨b, 0, none⟩ = some v0 ∧ w.cell? ⟨b, 1, none⟩ = some v1 ∧ w.cell? ⟨b, 2, none⟩ = some v2 ∧ w.cell? ⟨b, 3, none⟩ = some v3 ∧ w.cell? ⟨b, 4, none⟩ = some v4 ∧ w.cell? ⟨b, 5, none⟩ = some v5 ∧ w.cell? ⟨b, 6, none⟩ = some v6 ∧ w.cell? ⟨b, 7, none⟩ = some v7 ∧ w.cell? ⟨b, 8, none⟩ = some v8 ∧ w.cell? ⟨b, 9, none⟩ = some v9 ∧ w.cell? ⟨b, 10, none⟩ = some v10 := by simp [World.cell?, h]
section
end
end Go.Proofs.YtgaglgopbdfemaaGreatDoor
