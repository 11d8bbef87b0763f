/- law32: estimates. -/
import Derived.Test.YtoconichgdlmcaaNet
import Derived.Test.YtoconichgdlmcaaRspD
import Derived.Test.YtoconichgdlmcaaCpy
namespace Go.Proofs.Ytoconichgdlmcaa
set_option linter.all false
open Go.RowKit Rg

def EsOk (x : Est) : Prop := x.lo ≤ x.hi ∧ -100 ≤ x.lo ∧ x.hi ≤ 400
/-- Estimates are returned, in new memory. -/
def NewEst (B p most : Nat) (w : World) (e : Ending) (w' : World) : Prop :=
  ∃ (l : List Est) (v : Value), e = .returned v ∧ l.length ≤ most ∧ (∀ x ∈ l, EsOk x) ∧ w'.ownsRow w.heap.size 28 2 v l.length (flatE l) ∧ Src B w' p ∧ w.grownBy w' (some p)
theorem Try.infoEst : (Try.prog.info? 28).map (fun i => (i.zero, i.size, i.bytes)) = some (some (.agg #[.int .i64 0, .int .i64 0]), 2, 16) := by kernel_rfl
/-- A row of the call's own behind a push, in a call that draws. -/
theorem push_grownp {w wr w1 : World} {B p : Nat} {e : TypeId} {size n : Nat} {v : Value} {xs : List Value} {o : Obj} (hgr : w.grownBy wr (some p)) (hown : wr.ownsRow B e size v n xs) (hB : w.heap.size ≤ B) (hg : (wr.alloc o).grownBy w1 v.ownBlock) : w.grownBy w1 (some p) := by
  have h1 := gb_alloc (gb_refl wr none) o
  refine ⟨hg.os.trans (h1.os.trans hgr.os), hg.tape.trans (h1.tape.trans hgr.tape), hg.output.trans (h1.output.trans hgr.output), Nat.le_trans hgr.size (Nat.le_trans h1.size hg.size), fun i hi hr => ?_⟩
  have hi2 := Nat.lt_of_lt_of_le hi hgr.size
  exact (hg.block i (Nat.lt_of_lt_of_le hi2 h1.size) (fun e => by have := (hown.lt i e.symm).1; omega)).trans ((h1.block i hi2 (by simp)).trans (hgr.block i hi hr))
theorem push_grownr {w wr w1 : World} {B p : Nat} {e : TypeId} {size n : Nat} {v : Value} {xs : List Value} (hgr : w.grownBy wr (some p)) (hown : wr.ownsRow B e size v n xs) (hB : w.heap.size ≤ B) (hg : wr.grownBy w1 v.ownBlock) : w.grownBy w1 (some p) :=
  ⟨hg.os.trans hgr.os, hg.tape.trans hgr.tape, hg.output.trans hgr.output, Nat.le_trans hgr.size hg.size, fun i hi hr => (hg.block i (Nat.lt_of_lt_of_le hi hgr.size) (fun e => by have := (hown.lt i e.symm).1; omega)).trans (hgr.block i hi hr)⟩
set_option maxRecDepth 100000 in
set_option maxHeartbeats 4000000 in
theorem estimates_any (B : Nat) (w : World) (p most : Nat) (hm : most ≤ 1000) (h : Src B w p) (hp : p < w.heap.size) :
    Calls Try.prog 8 #[.pointer (some ⟨p, 0, none⟩), .int .i64 most] w (NewEst B p most w) := by
  have HM := Lib.hid hm
  have HP := Lib.hid hp; have HBP : Hid (B ≤ p) := Lib.hid (by have := h.lt; omega)
  have hwm : IntKind.i64.wrap ((most : Int) + 1) = most + 1 := by rw [IntKind.wrap_i64]; omega
  go_enter Try.func8, Try.ntmps8
  go_wp2_with fail
  (with_reducible refine (n_any B w p (most + 1) h (by omega) (by omega)).mono ?_)
  rintro e w2 ⟨kn, rfl, ⟨hk0, hk1⟩, hS, hg⟩
  have S2 := Lib.hid hS; have G2 := Lib.hid hg
  obtain ⟨k, rfl⟩ : ∃ k : Nat, kn = k := ⟨kn.toNat, by omega⟩
  have HK : Hid (k ≤ most) := Lib.hid (by omega)
  clear hS hg h hk0 hk1 hwm hm
  go_wp2_with fail
  go_loopw [5, 6] (fun v kv wr => ∃ (j : Nat) (l : List Est), j + l.length ≤ most ∧ kv = .int .i64 j ∧ (∀ x ∈ l, EsOk x) ∧ wr.ownsRow w.heap.size 28 2 v l.length (flatE l) ∧ Src B wr p ∧ w.grownBy wr (some p)) (fun _ kv _ => (intOf kv).toNat)
  case atStart => exact ⟨k, [], by have := HK.out; simpa using this, rfl, fun x hx => by simp at hx, World.ownsRow_nil _ _ _ _, S2.out, G2.out⟩
  case round =>
    obtain ⟨j, l, hjL, rfl, hok, hown, hS, hgr⟩ := hrel
    obtain ⟨va, vc, e1⟩ := owns_slice hown
    subst e1
    have HJL := Lib.hid hjL; have HOK := Lib.hid hok; have HOW := Lib.hid hown; have HS := Lib.hid hS; have HGR := Lib.hid hgr
    clear hjL hok hown hS hgr
    by_cases hj : 0 < j
    · have hj' : decide ((j : Int) > 0) = true := decide_eq_true (by omega)
      have HJ := Lib.hid hj
      clear hj
      go_wp2_with fail
      (with_reducible refine (n_any B wr p 400 HS.out (by omega) (by omega)).mono ?_)
      rintro e wa ⟨c, rfl, ⟨hc0, hc1⟩, hS, hg⟩
      have SA := Lib.hid hS; have GA : Hid (w.grownBy wa (some p)) := Lib.hid (gb_trans HGR.out hg); have OA := Lib.hid (owns_keepp HOW.out hg HP.out)
      clear hS hg HS HGR HOW
      obtain ⟨x, hx⟩ : ∃ x : Int, c - 100 = x := ⟨_, rfl⟩
      have hwx : IntKind.i64.wrap (c - 100) = x := by rw [IntKind.wrap_i64]; omega
      have HX : Hid (-100 ≤ x ∧ x < 300) := Lib.hid (by omega)
      clear hc0 hc1 hx
      have gx := gb_alloc (gb_refl wa none) (.cells #[.int .i64 x, .int .i64 0] 28)
      have bx := heap_alloc_new wa (.cells #[.int .i64 x, .int .i64 0] 28)
      have X5 := Lib.hid bx; have S5 := Lib.hid (SA.out.later gx (by simp)); have G5 := Lib.hid (gb_trans GA.out (gb_none gx)); have O5 := Lib.hid (owns_keep OA.out gx)
      have HNB : Hid (¬ wa.heap.size = p ∧ (∀ q, (Value.slice va l.length vc).ownBlock = some q → q ≠ wa.heap.size) ∧ w.heap.size ≤ wa.heap.size) := Lib.hid ⟨by have := SA.out.lt.2; omega, fun q hq => by have := (OA.out.lt q hq).2; omega, GA.out.size⟩
      clear gx bx SA GA OA
      go_wp2_with fail
      generalize wa.alloc (.cells #[.int .i64 x, .int .i64 0] 28) = w5 at *
      generalize wa.heap.size = X at *
      obtain ⟨c0, c1⟩ := cells2' X5.out
      have hXl := block_lt' X5.out
      have d0 := Pulled.cell (B := B) (p := p) c0 hXl HNB.out.1
      have d1 := Pulled.cell (B := B) (p := p) c1 hXl HNB.out.1
      refine Rg.region (Pulled w5 B p) (Pull p) (fun k => if k = 3 then some (isInt fun x => 0 ≤ x ∧ x < 60) else none) (fun _ => false) 0 5 (by kernel_rfl) (by kernel_rfl) (by kernel_rfl) (by kernel_rfl) (by kernel_rfl) (by kernel_rfl) (by kernel_rfl) Pull.size (Pulled.start S5.out) (fun hne => ?_)
      (repeat (refine rLexL_quiet (by rfl) (by rfl) (by rfl) (by rfl) ?_; go_big_quiet_step (fail); refine wpQuiet_nil ?_))
      refine rg_draw (fun x => 0 ≤ x ∧ x < 60) 16 #[.pointer (some ⟨p, 0, none⟩), .int .i64 60] rfl rfl (fun _ => by go_simp) (fun u hu _ => n_any B u p _ hu.2 (by omega) (by omega)) (fun y hy => ?_)
      obtain ⟨z, hz⟩ : ∃ z : Int, x + y = z := ⟨_, rfl⟩
      have hwz : IntKind.i64.wrap (x + y) = z := by have := HX.out; rw [IntKind.wrap_i64]; omega
      have HZ : Hid (EsOk ⟨x, z⟩) := Lib.hid (by have := HX.out; unfold EsOk; dsimp only; omega)
      clear hz hy
      simp only [Act.put, List.setIfInBounds_toArray, List.set_cons_zero, List.set_cons_succ]
      (repeat (refine rLexL_quiet (by rfl) (by rfl) (by rfl) (by rfl) ?_; go_big_quiet_step (fail); refine wpQuiet_nil ?_))
      rintro w6 ⟨hg6, hs6⟩ - -
      have X6 := Lib.hid (block_keptp hg6 X5.out HNB.out.1); have S6 := Lib.hid hs6
      have G6 : Hid (w.grownBy w6 (some p)) := Lib.hid (gb_trans G5.out hg6); have O6 := Lib.hid (owns_keepp O5.out hg6 HP.out)
      clear hg6 hs6 hne d0 d1 c0 c1 hXl X5 S5 G5 O5
      have gs : w6.grownBy (w6.setCell ⟨X, 1, none⟩ (.int .i64 z)) (some X) := gb_setCell (gb_refl _ _) (.inr rfl) _
      have X7 : Hid ((w6.setCell ⟨X, 1, none⟩ (.int .i64 z)).heap[X]? = some (.cells #[.int .i64 x, .int .i64 z] 28 (0, 0))) := Lib.hid (set_block X6.out 1 (.int .i64 z))
      have S7 := Lib.hid (S6.out.later gs (fun q hq => by simp at hq; have := HBP.out; have := HP.out; have := HNB.out.2.2; have := HNB.out.1; omega))
      have G7 := Lib.hid (gb_setCell G6.out (a := ⟨X, 1, none⟩) (.inl HNB.out.2.2) (.int .i64 z))
      have O7 := Lib.hid (O6.out.kept gs (.inr (fun e => HNB.out.2.1 X e rfl)))
      obtain ⟨i0_, i1_⟩ := cells2' X6.out
      have hxl_ := block_lt' X6.out
      have f_ := frz X6.out 1
      obtain ⟨c0_, c1_⟩ := cells2' X7.out
      have hxl2_ := block_lt' X7.out
      clear gs X6 S6 G6 O6
      have HBS : Hid (w.heap.size ≤ w6.heap.size) := Lib.hid (by have := G7.out.size; simpa using this)
      have hlen7 : l.length ≤ 1000 := by have := HJL.out; have := HM.out; omega
      have S8 := Lib.hid (S7.out.later (gb_alloc (gb_refl _ none) (.cells #[.int .i64 x, .int .i64 z] 28)) (by simp))
      go_wp2_with (at_builtin; go_loud (refine wpList_push rfl _ _ 25 rfl w.heap.size 28 (.agg #[.int .i64 0, .int .i64 0]) 2 16 Try.underlying25 Try.infoEst rfl (by decide) (by decide) (.slice va l.length vc) l.length (flatE l) rfl (O7.out.alloc _) w6.heap.size 1 [.int .i64 x, .int .i64 z] 28 rfl (by have := heap_alloc_new (w6.setCell ⟨X, 1, none⟩ (.int .i64 z)) (.cells #[.int .i64 x, .int .i64 z] 28); simpa using this) rfl (by simp [Value.oneCell']) (by omega) (by have := HBS.out; simp; omega) ?_); refine Hid.out ?_)
      refine Lib.hid ?_
      intro v' w9 hown' hg'
      have e9 : flatE l ++ [.int .i64 x, .int .i64 z] = flatE (l ++ [⟨x, z⟩]) := by simp [flatE, Est.cells]
      rw [e9] at hown'
      have O9 : Hid (w9.ownsRow w.heap.size 28 2 v' (l ++ [(⟨x, z⟩ : Est)]).length (flatE (l ++ [⟨x, z⟩]))) := Lib.hid (by rw [List.length_append]; exact hown')
      have G9 := Lib.hid (push_grownp G7.out O7.out (Nat.le_refl _) hg')
      have S9 := Lib.hid (S8.out.later hg' (fun q hq => by have := (O7.out.lt q hq).1; have := HP.out; have := HBP.out; omega))
      clear hown' hg' e9 c0_ c1_ i0_ i1_ f_ O7 G7 S7 X7 S8
      have hwj : IntKind.i64.wrap ((j : Int) - 1) = ((j - 1 : Nat) : Int) := by have := HJL.out; have := HM.out; have := HJ.out; rw [IntKind.wrap_i64]; omega
      go_wp2_with fail
      go_roundw
      case rel => exact ⟨j - 1, l ++ [⟨x, z⟩], by have := HJL.out; have := HJ.out; simp; omega, rfl, fun a ha => (List.mem_append.1 ha).elim (HOK.out a) (fun h => by rw [List.mem_singleton.1 h]; exact HZ.out), O9.out, S9.out, G9.out⟩
      case measure => have := HJ.out; simp [intOf]; omega
    · have hj' : decide ((j : Int) > 0) = false := decide_eq_false (by omega)
      go_wp2_with fail
      go_ret
      exact ⟨l, _, rfl, by have := HJL.out; omega, HOK.out, HOW.out, HS.out, HGR.out⟩

/- swaps in a row of estimates -/
def esAt (l : List Est) (i : Nat) : Est := (l[i]?).getD ⟨0, 0⟩
theorem esAt_eq {l : List Est} {i : Nat} (h : i < l.length) : esAt l i = l[i] := by unfold esAt; rw [List.getElem?_eq_getElem h]; rfl
def swapE (l : List Est) (i k : Nat) : List Est := (l.set i (esAt l k)).set k (esAt l i)
theorem swapE_length (l : List Est) (i k : Nat) : (swapE l i k).length = l.length := by simp [swapE]
theorem flatE_cons (a : Est) (l : List Est) : flatE (a :: l) = .int .i64 a.lo :: .int .i64 a.hi :: flatE l := by simp [flatE, Est.cells]
theorem flatE_set : ∀ (l : List Est) (i : Nat) (x : Est), i < l.length → flatE (l.set i x) = ((flatE l).set (i * 2) (.int .i64 x.lo)).set (i * 2 + 1) (.int .i64 x.hi)
  | a :: l, 0, x, _ => by
    rw [List.set_cons_zero, flatE_cons, flatE_cons]; rfl
  | a :: l, i + 1, x, h => by
    rw [List.set_cons_succ, flatE_cons, flatE_cons, flatE_set l i x (by simpa using h), show (i + 1) * 2 = i * 2 + 1 + 1 by omega]; rfl
theorem swapE_perm (l : List Est) {i k : Nat} (hi : i < l.length) (hk : k < l.length) : (swapE l i k).Perm l := by
  have h := Array.swap_perm (xs := l.toArray) (i := i) (j := k) (by simpa using hi) (by simpa using hk)
  have e : (l.toArray.swap i k (by simpa using hi) (by simpa using hk)).toList = swapE l i k := by
    unfold swapE
    rw [esAt_eq hi, esAt_eq hk]
    simp [Array.swap_def]
  have := Array.perm_iff_toList_perm.1 h
  rw [e] at this
  simpa using this
theorem ownsE_swap {B : Nat} {l : List Est} {u : World} {q cp n : Nat} (h : u.ownsRow B 28 2 (.slice (some ⟨q, 0, none⟩) n cp) n (flatE l)) (hn : l.length = n) (i k : Nat) (hi : i < n) (hk : k < n) :
    ((((u.setCell ⟨q, i * 2, none⟩ (.int .i64 (esAt l k).lo)).setCell ⟨q, i * 2 + 1, none⟩ (.int .i64 (esAt l k).hi)).setCell ⟨q, k * 2, none⟩ (.int .i64 (esAt l i).lo)).setCell ⟨q, k * 2 + 1, none⟩ (.int .i64 (esAt l i).hi)).ownsRow B 28 2 (.slice (some ⟨q, 0, none⟩) n cp) n (flatE (swapE l i k)) := by
  subst hn
  unfold swapE
  rw [flatE_set _ _ _ (by simpa using hk), flatE_set _ _ _ hi]
  exact ((((h.stored _ _).1.stored _ _).1.stored _ _).1.stored _ _).1
theorem esCells {B : Nat} {l : List Est} {u : World} {q cp n : Nat} (h : u.ownsRow B 28 2 (.slice (some ⟨q, 0, none⟩) n cp) n (flatE l)) (hn : l.length = n) (k : Nat) (hk : k < n) :
    u.cell? ⟨q, k * 2, none⟩ = some (.int .i64 (esAt l k).lo) ∧ u.cell? ⟨q, k * 2 + 1, none⟩ = some (.int .i64 (esAt l k).hi) := by
  subst hn
  rw [h.cellAt (k * 2) (by omega), h.cellAt (k * 2 + 1) (by omega), esAt_eq hk]
  exact ⟨flatE_at l k hk 0 (by omega), flatE_at l k hk 1 (by omega)⟩
theorem apartE {i k : Nat} (h : i ≠ k) : ¬ (i * 2 = k * 2) ∧ ¬ (i * 2 = k * 2 + 1) ∧ ¬ (i * 2 + 1 = k * 2) ∧ ¬ (i * 2 + 1 = k * 2 + 1) ∧ ¬ (k * 2 = i * 2) ∧ ¬ (k * 2 = i * 2 + 1) ∧ ¬ (k * 2 + 1 = i * 2) ∧ ¬ (k * 2 + 1 = i * 2 + 1) := by omega
theorem slc_ownE {B : Nat} {l : List Est} {u : World} {q cp n : Nat} (h : u.ownsRow B 28 2 (.slice (some ⟨q, 0, none⟩) n cp) n (flatE l)) (hn : l.length = n) : SlC 2 u (.slice (some ⟨q, 0, none⟩) n cp) l.length (flatE l) := by
  subst hn
  rcases h.2 with ⟨e, _⟩ | ⟨g, cap, cur, hv, hb, hg, h1, h2, h3, h4⟩
  · cases e
  simp only [Value.slice.injEq, Option.some.injEq, Addr.mk.injEq, true_and, and_true] at hv
  obtain ⟨rfl, rfl⟩ := hv
  refine ⟨h.1, .inr ⟨q, 0, cp, rfl, (Array.getElem?_eq_some_iff.1 hg).1, h1, h2, fun j x hj => ?_⟩⟩
  have hjl := (List.getElem?_eq_some_iff.1 hj).1
  rw [Nat.zero_add, h.cellAt j (by rw [← h.1]; exact hjl)]; exact hj
theorem flatE_cell (l : List Est) : ∀ u ∈ flatE l, u.oneCell' = true := by
  intro u hu
  unfold flatE at hu
  obtain ⟨a, -, h⟩ := List.mem_flatMap.1 hu
  simp only [Est.cells, List.mem_cons, List.not_mem_nil, or_false] at h
  rcases h with rfl | rfl <;> rfl
theorem netE_ok {l : List Est} (h0 : l.length ≠ 0) (h : ∀ x ∈ l, EsOk x) : netE l = 0 := by
  unfold netE
  rw [if_neg h0, if_neg]
  intro hb
  obtain ⟨x, hx, hb⟩ := List.any_eq_true.1 hb
  have := (h x hx).1
  simp [badE] at hb
  omega
/-- Network of good estimates. -/
theorem netV_ok {l : List Est} (h0 : l.length ≠ 0) (h : ∀ x ∈ l, EsOk x) : netV l = .tuple #[.agg #[.int .i64 (med (l.map Est.lo)), .int .i64 (med (l.map Est.hi))], .int .i64 0] := by
  unfold netV netL netH
  rw [netE_ok h0 h]; rfl
theorem median_plain (l : List Est) (ys : List Int) (hl : ys.length = l.length) (h : ∀ i (h1 : i < ys.length) (h2 : i < l.length), l[i].lo ≤ ys[i] ∧ ys[i] ≤ l[i].hi) : med (l.map Est.lo) ≤ med ys ∧ med ys ≤ med (l.map Est.hi) :=
  ⟨med_mono (by simp [hl]) (fun i h1 h2 => by have := (h i h2 (by simpa using h1)).1; simpa using this), med_mono (by simp [hl]) (fun i h1 h2 => by have := (h i h1 (by simpa using h2)).2; simpa using this)⟩
end Go.Proofs.Ytoconichgdlmcaa
