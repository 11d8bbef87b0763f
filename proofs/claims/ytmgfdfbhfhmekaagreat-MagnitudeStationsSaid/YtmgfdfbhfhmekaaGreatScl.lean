/- keep.Src.Scale. -/
import Derived.Test.YtmgfdfbhfhmekaaGreatMem
import Derived.Test.YtmgfdfbhfhmekaaGreatAwake32
import Derived.BigRegion
namespace Go.Proofs.YtmgfdfbhfhmekaaGreat
set_option linter.all false
open Go.RowKit Rg

/-- The first k numbers are divided by three. -/
def thd (k : Nat) (xs : List Int) : List Int := (xs.take k).map (· / 3) ++ xs.drop k
theorem thd_zero (xs : List Int) : thd 0 xs = xs := by simp [thd]
theorem thd_all (xs : List Int) : thd xs.length xs = xs.map (· / 3) := by simp [thd]
theorem thd_len (k : Nat) (xs : List Int) : (thd k xs).length = xs.length := by simp [thd]; omega
theorem thd_at {k : Nat} {xs : List Int} (hk : k < xs.length) : (thd k xs)[k]? = some xs[k] := by
  unfold thd
  rw [List.getElem?_append_right (by simp; omega)]
  simp [hk, Nat.min_eq_left (Nat.le_of_lt hk)]
theorem thd_set {k : Nat} {xs : List Int} (hk : k < xs.length) : (thd k xs).set k (xs[k] / 3) = thd (k + 1) xs := by
  unfold thd
  rw [List.set_append_right _ _ (by simp; omega)]
  simp only [List.length_map, List.length_take, Nat.min_eq_left (Nat.le_of_lt hk), Nat.sub_self]
  rw [List.drop_eq_getElem_cons hk, List.set_cons_zero, List.take_succ_eq_append_getElem hk, List.map_append, List.append_assoc]
  rfl
theorem thd_ok {step : Int} {ls hs : List Int} (h : tOk step ls hs) : tOk step (ls.map (· / 3)) (hs.map (· / 3)) := by
  obtain ⟨h1, h2, h3, h4, h5, h6⟩ := h
  have e : ∀ (xs : List Int) (k : Nat), at0 (xs.map (· / 3)) k = at0 xs k / 3 := fun xs k => by
    unfold at0
    rw [List.getElem?_map]
    cases xs[k]? <;> rfl
  refine ⟨h1, h2, by simpa using h3, by simpa using h4, by simpa using h5, fun k hk => ?_⟩
  have hk' : k < ls.length := by simpa using hk
  have hh := h6 k hk'
  unfold okAt at *
  rw [e, e, e, e]
  by_cases h0 : k = 0
  · simp only [h0, if_true] at hh ⊢; omega
  · simp only [h0, if_false] at hh ⊢; omega
structure SclAt (w : World) (B p X : Nat) (step num den : Int) (ls hs : List Int) (n g1 c1 g2 c2 k : Nat) (u : World) : Prop where
  row1 : u.ownsRow (w.heap.size + 1) 3 1 (.slice (some ⟨g1, 0, none⟩) n c1) n ((thd k ls).map (Value.int .i64))
  row2 : u.ownsRow (w.heap.size + 1) 3 1 (.slice (some ⟨g2, 0, none⟩) n c2) n ((thd k hs).map (Value.int .i64))
  var : u.heap[X]? = some (.cells #[.int .i64 step, .slice (some ⟨g1, 0, none⟩) n c1, .slice (some ⟨g2, 0, none⟩) n c2, .int .i64 num, .int .i64 den] 26 (0, 0))
  out : u.heap[w.heap.size]? = some (.cells #[.int .i64 0, .slice none 0 0, .slice none 0 0, .int .i64 0, .int .i64 0] 26 (0, 0))
  src : Src B u p
  gr : w.grownBy u (some p)
theorem SclAt.step {w : World} {B p X : Nat} {st num den : Int} {ls hs : List Int} {n g1 c1 g2 c2 k : Nat} {u : World} (h : SclAt w B p X st num den ls hs n g1 c1 g2 c2 k u) (hp : p < w.heap.size) (h12 : g1 ≠ g2) (hx1 : X ≠ g1) (hx2 : X ≠ g2) (hk1 : k < ls.length) (hk2 : k < hs.length) :
    SclAt w B p X st num den ls hs n g1 c1 g2 c2 (k + 1) ((u.setCell ⟨g1, k, none⟩ (.int .i64 (ls[k] / 3))).setCell ⟨g2, k, none⟩ (.int .i64 (hs[k] / 3))).drew := by
  have l1 := (h.row1.lt g1 rfl).1; have l2 := (h.row2.lt g2 rfl).1
  obtain ⟨a1, a2⟩ := h.row1.stored k (.int .i64 (ls[k] / 3))
  rw [← List.map_set, thd_set hk1] at a1
  have b1 := h.row2.kept a2 (by simp [Value.ownBlock]; omega)
  obtain ⟨b2, b3⟩ := b1.stored k (.int .i64 (hs[k] / 3))
  rw [← List.map_set, thd_set hk2] at b2
  have a3 := a1.kept b3 (by simp [Value.ownBlock]; omega)
  have d : ((u.setCell ⟨g1, k, none⟩ (.int .i64 (ls[k] / 3))).setCell ⟨g2, k, none⟩ (.int .i64 (hs[k] / 3))).grownBy ((u.setCell ⟨g1, k, none⟩ (.int .i64 (ls[k] / 3))).setCell ⟨g2, k, none⟩ (.int .i64 (hs[k] / 3))).drew none := gb_drew (gb_refl _ _)
  refine ⟨owns_keep a3 d, owns_keep b2 d, ?_, ?_, ?_, ?_⟩
  · exact block_kept d ((setCell_far (a := ⟨g2, k, none⟩) hx2).trans ((setCell_far (a := ⟨g1, k, none⟩) hx1).trans h.var)) rfl
  · exact block_kept d ((setCell_far (a := ⟨g2, k, none⟩) (by show w.heap.size ≠ g2; omega)).trans ((setCell_far (a := ⟨g1, k, none⟩) (by show w.heap.size ≠ g1; omega)).trans h.out)) rfl
  · exact ((h.src.later a2 (fun q hq => by simp at hq; have := h.src.lt; omega)).later b3 (fun q hq => by simp at hq; have := h.src.lt; omega)).later d (by simp)
  · exact gb_drew (gb_setCell (gb_setCell h.gr (a := ⟨g1, k, none⟩) (.inl (by show w.heap.size ≤ g1; omega)) _) (a := ⟨g2, k, none⟩) (.inl (by show w.heap.size ≤ g2; omega)) _)
/-- A scale is returned, in new memory, with a table of few rows. -/
def NewScaleL (B p : Nat) (w : World) (e : Ending) (w' : World) : Prop :=
  ∃ (s : Sca) (vl vh : Value), e = .returned (.agg (s.val vl vh)) ∧ s.ok = true ∧ (400 ≤ reachS s.step s.ls ∧ 2 ≤ s.ls.length ∧ s.ls.length = s.hs.length ∧ s.ls.length ≤ 300) ∧ Sl w' vl s.ls ∧ Sl w' vh s.hs ∧
    (∀ b off len cap, vl = .slice (some ⟨b, off, none⟩) len cap → w.heap.size ≤ b) ∧ (∀ b off len cap, vh = .slice (some ⟨b, off, none⟩) len cap → w.heap.size ≤ b) ∧ Src B w' p ∧ w.grownBy w' (some p)
/-- A scale is returned, in new memory. -/
def NewScale (B p : Nat) (w : World) (e : Ending) (w' : World) : Prop :=
  ∃ (s : Sca) (vl vh : Value), e = .returned (.agg (s.val vl vh)) ∧ s.ok = true ∧ 400 ≤ reachS s.step s.ls ∧ Sl w' vl s.ls ∧ Sl w' vh s.hs ∧
    (∀ b off len cap, vl = .slice (some ⟨b, off, none⟩) len cap → w.heap.size ≤ b) ∧ (∀ b off len cap, vh = .slice (some ⟨b, off, none⟩) len cap → w.heap.size ≤ b) ∧ Src B w' p ∧ w.grownBy w' (some p)

set_option maxRecDepth 100000 in
set_option maxHeartbeats 4000000 in
theorem scaleL_any (B : Nat) (w : World) (p : Nat) (h : Src B w p) (hp : p < w.heap.size) :
    Calls Tryz.prog 8 #[.pointer (some ⟨p, 0, none⟩)] w (NewScaleL B p w) := by
  have g1 := gb_alloc (gb_refl w none) (.cells #[.int .i64 0, .slice none 0 0, .slice none 0 0, .int .i64 0, .int .i64 0] 26)
  have S1 := Lib.hid (h.later g1 (by simp)); have W1 := Lib.hid g1; have O1 := Lib.hid (heap_alloc_new w (.cells #[.int .i64 0, .slice none 0 0, .slice none 0 0, .int .i64 0, .int .i64 0] 26))
  have HL : Hid ((w.alloc (.cells #[.int .i64 0, .slice none 0 0, .slice none 0 0, .int .i64 0, .int .i64 0] 26)).heap.size = w.heap.size + 1) := Lib.hid (by simp)
  have HP : Hid (p < w.heap.size) := Lib.hid hp
  clear h g1
  go_enter Tryz.func8, Tryz.ntmps8
  go_wp2_with fail
  generalize w.alloc (.cells #[.int .i64 0, .slice none 0 0, .slice none 0 0, .int .i64 0, .int .i64 0] 26) = w1 at *
  generalize hz : w.heap.size = z at *
  have HZ := Lib.hid hz; clear hz
  (with_reducible refine (table_any B w1 p S1.out).mono ?_)
  rintro e w2 ⟨step, vl, vh, ls, hs, rfl, ht, hst, h400, hl23, o1, o2, hapart, hS, hg⟩
  have hpz := HP.out; have hw1 := HL.out
  rw [hw1] at o1 o2
  have l1 := ht.2.2.1; have l2 := ht.2.2.2.1
  obtain ⟨g1, c1, e1, hg1, hg1l, hc1, -⟩ := owns_at o1 (by omega)
  obtain ⟨g2, c2, e2, hg2, hg2l, hc2, -⟩ := owns_at o2 (by omega)
  subst e1; subst e2
  have h12 : g1 ≠ g2 := fun e => hapart g1 rfl (by rw [e]; rfl)
  rw [← l1] at o2
  rw [← l1]
  have S2 := Lib.hid hS; have W2 := Lib.hid (gb_trans (gb_none W1.out) hg); have O2 := Lib.hid (block_keptp hg O1.out (by omega))
  have R1 := Lib.hid o1; have R2 := Lib.hid o2
  have HT := Lib.hid ht; have H4 := Lib.hid h400
  have HN : Hid (2 ≤ ls.length ∧ ls.length ≤ 23 ∧ ls.length = hs.length) := Lib.hid ⟨l2, hl23, l1⟩
  have HG : Hid (z + 1 ≤ g1 ∧ g1 < w2.heap.size ∧ z + 1 ≤ g2 ∧ g2 < w2.heap.size ∧ g1 ≠ g2) := Lib.hid (by omega)
  clear hS hg o1 o2 S1 W1 O1 HL hst h400 hapart hpz hw1 hg1 hg1l hc1 hg2 hg2l hc2 h12 ht l2 hl23 l1
  generalize hn : ls.length = n at *
  have HNL := Lib.hid hn; clear hn
  go_wp2_with fail
  (with_reducible refine (n_any B w2 p 20 S2.out (by omega) (by omega)).mono ?_)
  rintro e w3 ⟨nu, rfl, ⟨hu0, hu1⟩, hS, hg⟩
  have hpz := HP.out; have hgg := HG.out
  have S3 := Lib.hid hS; have W3 := Lib.hid (gb_trans W2.out hg); have O3 := Lib.hid (block_keptp hg O2.out (by omega)); have R13 := Lib.hid (owns_keepp R1.out hg (by omega)); have R23 := Lib.hid (owns_keepp R2.out hg (by omega))
  have HG3 : Hid (z + 1 ≤ g1 ∧ g1 < w3.heap.size ∧ z + 1 ≤ g2 ∧ g2 < w3.heap.size ∧ g1 ≠ g2) := Lib.hid (by have := hg.size; omega)
  have HU : Hid (0 ≤ nu ∧ nu < 20) := Lib.hid ⟨hu0, hu1⟩
  clear hS hg S2 W2 O2 R1 R2 HG hpz hgg hu0 hu1
  go_wp2_with fail
  (with_reducible refine (n_any B w3 p 9 S3.out (by omega) (by omega)).mono ?_)
  rintro e w4 ⟨de, rfl, ⟨hu0, hu1⟩, hS, hg⟩
  have hpz := HP.out; have hgg := HG3.out
  have gX := gb_alloc (gb_refl w4 none) (.cells #[.int .i64 step, .slice (some ⟨g1, 0, none⟩) n c1, .slice (some ⟨g2, 0, none⟩) n c2, .int .i64 nu, .int .i64 (1 + de)] 26)
  have X5 := heap_alloc_new w4 (.cells #[.int .i64 step, .slice (some ⟨g1, 0, none⟩) n c1, .slice (some ⟨g2, 0, none⟩) n c2, .int .i64 nu, .int .i64 (1 + de)] 26)
  have hww : w.heap.size = z := HZ.out
  have A5 : Hid (SclAt w B p w4.heap.size step nu (1 + de) ls hs n g1 c1 g2 c2 0 (w4.alloc (.cells #[.int .i64 step, .slice (some ⟨g1, 0, none⟩) n c1, .slice (some ⟨g2, 0, none⟩) n c2, .int .i64 nu, .int .i64 (1 + de)] 26))) := Lib.hid (by
    have r1 := owns_keep (owns_keepp R13.out hg (by omega)) gX
    have r2 := owns_keep (owns_keepp R23.out hg (by omega)) gX
    refine ⟨?_, ?_, X5, ?_, hS.later gX (by simp), gb_trans (gb_trans W3.out hg) (gb_none gX)⟩
    · rw [thd_zero, hww]; exact r1
    · rw [thd_zero, hww]; exact r2
    · rw [hww]; exact block_kept gX (block_keptp hg O3.out (by omega)) rfl)
  have HX : Hid (g1 < w4.heap.size ∧ g2 < w4.heap.size ∧ z < w4.heap.size ∧ z + 1 ≤ g1 ∧ z + 1 ≤ g2 ∧ g1 ≠ g2) := Lib.hid (by have := hg.size; omega)
  have HD : Hid (0 ≤ de ∧ de < 9) := Lib.hid ⟨hu0, hu1⟩
  have hwd : IntKind.i64.wrap (1 + de) = 1 + de := by rw [IntKind.wrap_i64]; omega
  have STEP := Lib.hid (fun (k : Nat) (u : World) (h : SclAt w B p w4.heap.size step nu (1 + de) ls hs n g1 c1 g2 c2 k u) (hk : k < n) => h.step (by omega) HX.out.2.2.2.2.2 (by have := HX.out; omega) (by have := HX.out; omega) (by have := HNL.out; omega) (by have := HNL.out; have := HN.out; omega))
  obtain ⟨c0_, c1_, c2_, c3_, c4_⟩ := cells5 X5
  have hxl := block_lt' X5
  clear hS hg S3 W3 O3 R13 R23 HG3 hpz hgg gX X5 hu0 hu1 hww
  go_wp2_with fail
  clear c0_ c1_ c2_ c3_ c4_ hxl
  generalize w4.alloc (.cells #[.int .i64 step, .slice (some ⟨g1, 0, none⟩) n c1, .slice (some ⟨g2, 0, none⟩) n c2, .int .i64 nu, .int .i64 (1 + de)] 26) = w5 at *
  generalize w4.heap.size = X at *
  go_loopw [4, 17] (fun _ i wr => ∃ k : Nat, k ≤ n ∧ i = .int .i64 k ∧ SclAt w B p X step nu (1 + de) ls hs n g1 c1 g2 c2 k wr) (fun _ i _ => n - (intOf i).toNat)
  case atStart => exact ⟨0, by omega, rfl, A5.out⟩
  case round =>
    obtain ⟨k, hk, rfl, hA⟩ := hrel
    have HA := Lib.hid hA
    by_cases hlt : k < n
    · have hk1 : k < ls.length := by have := HNL.out; omega
      have hk2 : k < hs.length := by have := HNL.out; have := HN.out; omega
      have ST := Lib.hid (STEP.out k wr hA hlt)
      obtain ⟨c0_, c1_, c2_, c3_, c4_⟩ := cells5 hA.var
      have hxl := block_lt' hA.var
      have hq1 := hA.row1.cellAt k (by omega)
      have hq2 := hA.row2.cellAt k (by omega)
      rw [List.getElem?_map, thd_at hk1] at hq1; rw [List.getElem?_map, thd_at hk2] at hq2
      have hq1 : wr.cell? ⟨g1, k, none⟩ = some (.int .i64 ls[k]) := hq1
      have hq2 : wr.cell? ⟨g2, k, none⟩ = some (.int .i64 hs[k]) := hq2
      have hf1 := hA.row1.frozenAt k; have hf2 := hA.row2.frozenAt k
      have hl1 := (hA.row1.lt g1 rfl).2; have hl2 := (hA.row2.lt g2 rfl).2
      have hb := HT.out.2.2.2.2.2 k hk1
      have t1 : 0 ≤ ls[k] ∧ 0 ≤ hs[k] ∧ ls[k] ≤ 1099511627776 ∧ hs[k] ≤ 1099511627776 := by
        have := tOk_at HT.out hk1
        unfold at0 at this
        rw [List.getElem?_eq_getElem hk1, List.getElem?_eq_getElem hk2] at this
        simp only [Option.getD_some] at this
        omega
      have hx1 : X ≠ g1 := by have := HX.out; omega
      have hx2 : X ≠ g2 := by have := HX.out; omega
      have h12 : g1 ≠ g2 := HX.out.2.2.2.2.2
      have h21 : g2 ≠ g1 := Ne.symm h12
      have hx1' : g1 ≠ X := Ne.symm hx1
      have hx2' : g2 ≠ X := Ne.symm hx2
      clear hA hb
      generalize ls[k] = x at *
      generalize hs[k] = y at *
      obtain ⟨x, rfl⟩ : ∃ m : Nat, x = m := ⟨x.toNat, by omega⟩
      obtain ⟨y, rfl⟩ : ∃ m : Nat, y = m := ⟨y.toNat, by omega⟩
      have hn23 := HN.out
      have hwx : wrap64 ((x : Int) / 3) = (x : Int) / 3 := IntWalk.wrap64_in _ (by omega)
      have hwy : wrap64 ((y : Int) / 3) = (y : Int) / 3 := IntWalk.wrap64_in _ (by omega)
      clear t1 hk1 hk2
      go_wp2_with fail
      go_region
      go_wp2_with fail
      go_roundw
      case rel => exact ⟨k + 1, by omega, by go_num, ST.out⟩
      case measure => simp [intOf]; omega
    · have hd_ : decide ((k : Int) < (n : Int)) = false := decide_eq_false (by omega)
      obtain rfl : k = n := by omega
      have hww := HZ.out
      have hlz : (hs.map (· / 3)).length = ls.length := by have := HN.out; have := HNL.out; simp; omega
      have e1 : thd k ls = ls.map (· / 3) := by rw [← HNL.out]; exact thd_all ls
      have e2 : thd k hs = hs.map (· / 3) := by
        have h1 := HN.out; have h2 := HNL.out
        rw [show k = hs.length by omega]; exact thd_all hs
      have r1 := hA.row1; have r2 := hA.row2
      rw [e1] at r1; rw [e2] at r2
      have hO := hA.out
      rw [hww] at hO
      have hzg := HX.out
      have l1 := (r1.lt g1 rfl).1; have l2 := (r2.lt g2 rfl).1
      have gz : wr.grownBy (wr.setRow z #[.int .i64 step, .slice (some ⟨g1, 0, none⟩) k c1, .slice (some ⟨g2, 0, none⟩) k c2, .int .i64 nu, .int .i64 (1 + de)]) (some z) := gb_setRow (gb_refl _ _) (.inr rfl)
      have s1 := Sl_of_owns (r1.kept gz (by simp [Value.ownBlock]; omega)) (by have := HNL.out; simp; omega)
      have s2 := Sl_of_owns (r2.kept gz (by simp [Value.ownBlock]; omega)) (by have := HNL.out; have := HN.out; simp; omega)
      have hsr := hA.src.later gz (fun q hq => by simp at hq; have := hA.src.lt; have := HP.out; omega)
      have hgr := gb_setRow (cs := #[.int .i64 step, .slice (some ⟨g1, 0, none⟩) k c1, .slice (some ⟨g2, 0, none⟩) k c2, .int .i64 nu, .int .i64 (1 + de)]) hA.gr (g := z) (.inl (by rw [hww]; exact Nat.le_refl _))
      have hok : Sca.ok ⟨step, ls.map (· / 3), hs.map (· / 3), nu, 1 + de⟩ = true := by
        have h1 := HU.out; have h2 := HD.out
        have h3 : tE step (ls.map (· / 3)) (hs.map (· / 3)) = 0 := by unfold tE; rw [if_pos (thd_ok HT.out)]
        simp [Sca.ok, h3, inB]; omega
      have hre : 400 ≤ reachS step (ls.map (· / 3)) := by
        have := H4.out; have := HNL.out
        unfold reachS; rw [List.length_map, HNL.out]; exact H4.out
      have hlb : 2 ≤ (ls.map (· / 3)).length ∧ (ls.map (· / 3)).length = (hs.map (· / 3)).length ∧ (ls.map (· / 3)).length ≤ 300 := by have := HN.out; have := HNL.out; simp only [List.length_map]; omega
      have HE : Hid (NewScaleL B p w (.returned (.agg #[.int .i64 step, .slice (some ⟨g1, 0, none⟩) k c1, .slice (some ⟨g2, 0, none⟩) k c2, .int .i64 nu, .int .i64 (1 + de)])) (wr.setRow z #[.int .i64 step, .slice (some ⟨g1, 0, none⟩) k c1, .slice (some ⟨g2, 0, none⟩) k c2, .int .i64 nu, .int .i64 (1 + de)])) := Lib.hid ⟨⟨step, ls.map (· / 3), hs.map (· / 3), nu, 1 + de⟩, _, _, rfl, hok, ⟨hre, hlb⟩, s1, s2, fun b off len cap e => by simp at e; omega, fun b off len cap e => by simp at e; omega, hsr, hgr⟩
      have hN := setRow_at (cs := #[.int .i64 step, .slice (some ⟨g1, 0, none⟩) k c1, .slice (some ⟨g2, 0, none⟩) k c2, .int .i64 nu, .int .i64 (1 + de)]) hO
      have HO := Lib.hid hO
      obtain ⟨c0_, c1_, c2_, c3_, c4_⟩ := cells5 hA.var
      have hxl := block_lt' hA.var; have hzl := block_lt' hO
      obtain ⟨e0_, e1_, e2_, e3_, e4_⟩ := cells5 hN
      have HN2 := Lib.hid hN
      clear hA hww hlz e1 e2 r1 r2 hO hzg l1 l2 gz s1 s2 hsr hgr hok hre hlb hN
      go_wp2_with (with_reducible refine wpList_store_row rfl _ _ _ rfl z #[.int .i64 step, .slice (some ⟨g1, 0, none⟩) k c1, .slice (some ⟨g2, 0, none⟩) k c2, .int .i64 nu, .int .i64 (1 + de)] rfl rfl _ _ HO.out (by kernel_rfl) rfl (by simp [Value.oneCell']) ?_)
      exact bodyPost_ret (v := .agg #[.int .i64 step, .slice (some ⟨g1, 0, none⟩) k c1, .slice (some ⟨g2, 0, none⟩) k c2, .int .i64 nu, .int .i64 (1 + de)]) (by simp [results, Tryz.results8, go_sem, e0_, e1_, e2_, e3_, e4_]) rfl HE.out
theorem scale_any (B : Nat) (w : World) (p : Nat) (h : Src B w p) (hp : p < w.heap.size) :
    Calls Tryz.prog 8 #[.pointer (some ⟨p, 0, none⟩)] w (NewScale B p w) := by
  refine (scaleL_any B w p h hp).mono ?_
  rintro e w' ⟨s, vl, vh, rfl, h1, h2, h3⟩
  exact ⟨s, vl, vh, rfl, h1, h2.1, h3⟩
end Go.Proofs.YtmgfdfbhfhmekaaGreat
