/- magnitude: Network, Agree. -/
import Derived.Test.YtmgfdfbhfhmekaaGreatStn
import Derived.Test.YtmgfdfbhfhmekaaGreatMed
import Derived.Test.YtmgfdfbhfhmekaaGreatShelf
import Derived.Sort.OwnSortedInts
namespace Go.Proofs.YtmgfdfbhfhmekaaGreat
set_option linter.all false
open Go.RowKit Rg Go.Sort

/-- slices.Sort on a row of the call's own. -/
theorem sort_own (xs : List Int) (B : Nat) (v : Value) (w : World) (hown : w.ownsRow B 3 1 v xs.length (xs.map (Value.int .i64))) (h0 : xs.length ≤ 1000000) :
    Calls Tryz.prog 63 #[v] w fun e w' => e = .returned (.tuple #[]) ∧ w'.ownsRow B 3 1 v xs.length ((srt xs).map (Value.int .i64)) ∧ w.grownBy w' v.ownBlock := by
  have hl : (srt xs).length = xs.length := srt_len xs
  have hown0 := hown
  rcases hown.2 with ⟨rfl, hn⟩ | ⟨g, cap, cur, rfl, hb, hg, h1, h2, h3, h4⟩
  · have e0 : xs = [] := List.length_eq_zero_iff.1 hn
    subst e0
    have := Tryz.slices_Sort_int_none none 0 w
    refine this.mono ?_
    rintro e w' ⟨rfl, rfl⟩
    refine ⟨rfl, ?_, gb_refl _ _⟩
    have e : srt [] = [] := List.length_eq_zero_iff.1 hl
    rw [e]; exact hown0
  · have hH : Holds (Value.int .i64) w g 0 xs.toArray := holds_of_blockI hg (by simpa using h4)
    refine (Tryz.slices_Sort_int g 0 cap xs w hH (Array.getElem?_eq_some_iff.1 hg).1 (by omega)).mono ?_
    rintro e w' ⟨rfl, nn, os, rfl⟩
    exact ⟨rfl, ownsRow_sortedI hl hb hg h1 h2 h3, grownBy_sortedI _⟩

structure Est where
  lo : Int
  hi : Int
deriving Inhabited
def Est.cells (x : Est) : List Value := [.int .i64 x.lo, .int .i64 x.hi]
def flatE (l : List Est) : List Value := l.flatMap Est.cells
theorem flatE_length (l : List Est) : (flatE l).length = l.length * 2 := by
  induction l with
  | nil => rfl
  | cons a l ih => simp only [flatE, List.flatMap_cons, List.length_append] at *; rw [ih]; simp [Est.cells]; omega
theorem flatE_at : ∀ (l : List Est) (i : Nat) (h : i < l.length) (j : Nat), j < 2 → (flatE l)[i * 2 + j]? = (l[i]).cells[j]?
  | a :: l, 0, _, j, hj => by
    have e : flatE (a :: l) = a.cells ++ flatE l := by simp [flatE]
    rw [e, Nat.zero_mul, Nat.zero_add, List.getElem?_append_left (by simp [Est.cells]; omega)]; rfl
  | a :: l, i + 1, h, j, hj => by
    have e : flatE (a :: l) = a.cells ++ flatE l := by simp [flatE]
    have hl : a.cells.length = 2 := rfl
    rw [e, List.getElem?_append_right (by rw [hl]; omega), hl, show (i + 1) * 2 + j - 2 = i * 2 + j by omega, flatE_at l i (by simpa using h) j hj]; rfl
theorem es_at {w : World} {b off n cap : Nat} {l : List Est} (h : SlC 2 w (.slice (some ⟨b, off, none⟩) n cap) n (flatE l)) (k : Nat) (hk : k < l.length) (hn : k < n) :
    b < w.heap.size ∧ w.cell? ⟨b, off + k * 2, none⟩ = some (.int .i64 l[k].lo) ∧ w.cell? ⟨b, off + k * 2 + 1, none⟩ = some (.int .i64 l[k].hi) := by
  obtain ⟨b', off', cap', e, hb, -, -, hc⟩ := h.block (by omega)
  simp only [Value.slice.injEq, Option.some.injEq, Addr.mk.injEq, true_and] at e
  obtain ⟨⟨rfl, rfl, -⟩, rfl⟩ := e
  exact ⟨hb, hc (k * 2) _ (flatE_at l k hk 0 (by omega)), by rw [Nat.add_assoc]; exact hc _ _ (flatE_at l k hk 1 (by omega))⟩

theorem get2_any (x : Est) (w : World) :
    Calls Tryz.prog 39 #[.agg #[.int .i64 x.lo, .int .i64 x.hi]] w fun e w' => e = .returned (.int .i64 x.lo) ∧ w.grownBy w' none := by
  obtain ⟨lo, hi⟩ := x
  have HG := Lib.hid (gb_alloc (gb_refl w none) (.cells #[.int .i64 lo, .int .i64 hi] 46))
  go_enter Tryz.func39, Tryz.ntmps39
  go_wp2
  go_ret
  exact ⟨rfl, HG.out⟩
set_option maxHeartbeats 2000000 in
theorem median2_any (l : List Est) (v : Value) (w : World) (hs : SlC 2 w v l.length (flatE l)) (h0 : 0 < l.length) (hl : l.length ≤ 100000) :
    Calls Tryz.prog 38 #[v, .func (.func 39) #[] #[]] w fun e w' => e = .returned (.int .i64 (med (l.map Est.lo))) ∧ w.grownBy w' none := by
  have HS := Lib.hid hs
  obtain ⟨b, off, cap, rfl⟩ := hs.some h0
  clear hs
  have HML : Hid ((l.map Est.lo).length = l.length) := Lib.hid (by simp)
  generalize hn : l.length = n at *
  have HNL := Lib.hid hn; clear hn
  go_enter Tryz.func38, Tryz.ntmps38
  go_wp2
  go_loopw [5, 7, 10] (fun o _ i wr => ∃ (k : Nat) (ys : List Int), k ≤ n ∧ i = .int .i64 k ∧ ys.length = k ∧ ys = (l.take k).map Est.lo ∧ wr.ownsRow w.heap.size 3 1 o ys.length (ys.map (Value.int .i64)) ∧ w.grownBy wr none) (fun _ _ i _ => n - (intOf i).toNat)
  case atStart => exact ⟨0, [], by omega, rfl, rfl, rfl, World.ownsRow_nil _ _ _ _, gb_refl _ _⟩
  case round =>
    obtain ⟨k, ys, hk, rfl, hyl, hys, hown, hgr⟩ := hrel
    by_cases hlt : k < n
    · have hkL : k < l.length := by have := HNL.out; omega
      obtain ⟨hbl, c0_, c1_⟩ := es_at (HS.out.after hgr) k hkL hlt
      have HY : Hid (ys ++ [l[k].lo] = (l.take (k + 1)).map Est.lo) := Lib.hid (by rw [hys, List.take_succ_eq_append_getElem hkL, List.map_append]; rfl)
      have HYL := Lib.hid hyl
      have HOW := Lib.hid hown; have HGR := Lib.hid hgr
      have hg1 := gb_alloc (gb_refl wr none) (.cells #[.int .i64 l[k].lo, .int .i64 l[k].hi] 46)
      have HG1 := Lib.hid (gb_trans hgr hg1); have HOW1 := Lib.hid (owns_keep hown hg1)
      have GT := Lib.hid (get2_any l[k])
      clear hyl hys hown hgr hg1
      generalize l[k] = x at *
      obtain ⟨lo, hi⟩ := x
      dsimp only at *
      go_wp2_with fail
      generalize wr.alloc (.cells #[.int .i64 lo, .int .i64 hi] 46) = w2 at *
      (with_reducible refine (GT.out w2).mono ?_)
      rintro e w3 ⟨rfl, hg⟩
      have HG3 := Lib.hid (gb_trans HG1.out hg); have HOW3 := Lib.hid (owns_keep HOW1.out hg)
      clear hg HG1 HOW1 HOW HGR c0_ c1_ hbl GT
      have hsz := HG3.out.size
      go_wp2_with (at_builtin; refine wpList_push rfl _ _ 22 rfl w.heap.size 3 (.int .i64 0) 1 8 Tryz.underlying22 Tryz.infoIntR rfl (by decide) (by decide) _ _ _ rfl (HOW3.out.alloc _) w3.heap.size 1 [.int .i64 lo] 3 rfl (heap_alloc_new _ _) rfl (by simp [Value.oneCell']) (by have := HYL.out; omega) (by simp; omega) ?_; refine Hid.out ?_)
      refine Lib.hid ?_
      intro v' w4 hown' hg'
      have R1 : Hid (w4.ownsRow w.heap.size 3 1 v' (ys ++ [lo]).length ((ys ++ [lo]).map (Value.int .i64))) := Lib.hid (by rw [List.length_append, List.map_append]; exact hown')
      have R2 := Lib.hid (push_grown HG3.out HOW3.out (Nat.le_refl _) hg')
      clear hown' hg' HG3 HOW3
      have hn_ : n ≤ 100000 := hl
      go_wp2_with fail
      go_roundw
      case rel => exact ⟨k + 1, ys ++ [lo], by omega, by go_num, by rw [List.length_append, HYL.out]; rfl, HY.out, R1.out, R2.out⟩
      case measure => simp [intOf]; omega
    · have hd_ : decide ((k : Int) < (n : Int)) = false := decide_eq_false (by omega)
      have HY : Hid (ys = l.map Est.lo) := Lib.hid (by rw [hys, List.take_of_length_le (by have := HNL.out; omega)])
      have hyn : ys.length = n := by omega
      have HYN := Lib.hid hyn
      have HGR := Lib.hid hgr
      obtain ⟨g, gc, e1, hB, hg1, hc1, -⟩ := owns_at hown (by omega)
      subst e1
      have SO := Lib.hid (sort_own ys w.heap.size _ wr hown (by omega))
      have hgn : w.heap.size ≤ g := hB
      have HGN := Lib.hid hgn; have HLB := Lib.hid (fun q hq => (hown.lt q hq).1)
      clear hown hgr hys hyl hk
      rw [hyn] at SO
      clear hyn hB hg1 hgn
      go_wp2_with fail
      rw [HYN.out]
      (with_reducible refine SO.out.mono ?_)
      rintro e w5 ⟨rfl, ho, hg⟩
      have HG5 := Lib.hid (gb_new HGR.out hg (fun q hq => HLB.out q hq))
      obtain ⟨m, hm⟩ : ∃ m : Nat, n = m + 1 := ⟨n - 1, by omega⟩
      have hlen5 : (srt ys).length = n := by rw [srt_len]; exact HYN.out
      obtain ⟨z, hz⟩ : ∃ z, (srt ys)[m / 2]? = Option.some z := ⟨_, List.getElem?_eq_getElem (by omega)⟩
      have hcell := ho.cellAt (m / 2) (by omega)
      rw [List.getElem?_map, hz] at hcell
      have HM : Hid (z = med (l.map Est.lo)) := Lib.hid (by
        unfold med
        rw [← HY.out, HYN.out, hm, Nat.add_sub_cancel, hz]; rfl)
      have hcell : w5.cell? ⟨g, m / 2, none⟩ = Option.some (.int .i64 z) := hcell
      have hgl := (ho.lt g rfl).2
      have hw_ : IntKind.i64.wrap ((n : Int) - 1) = (m : Int) := by rw [IntKind.wrap_i64]; omega
      have hmn : m / 2 < n := by omega
      clear ho hg hlen5 HYN HY hz hm SO HLB HGN HS hlt hd_
      go_wp2_with fail
      go_ret
      exact ⟨by rw [HM.out]; rfl, HG5.out⟩
theorem get3_any (x : Est) (w : World) :
    Calls Tryz.prog 40 #[.agg #[.int .i64 x.lo, .int .i64 x.hi]] w fun e w' => e = .returned (.int .i64 x.hi) ∧ w.grownBy w' none := by
  obtain ⟨lo, hi⟩ := x
  have HG := Lib.hid (gb_alloc (gb_refl w none) (.cells #[.int .i64 lo, .int .i64 hi] 46))
  go_enter Tryz.func40, Tryz.ntmps40
  go_wp2
  go_ret
  exact ⟨rfl, HG.out⟩
set_option maxHeartbeats 2000000 in
theorem median3_any (l : List Est) (v : Value) (w : World) (hs : SlC 2 w v l.length (flatE l)) (h0 : 0 < l.length) (hl : l.length ≤ 100000) :
    Calls Tryz.prog 38 #[v, .func (.func 40) #[] #[]] w fun e w' => e = .returned (.int .i64 (med (l.map Est.hi))) ∧ w.grownBy w' none := by
  have HS := Lib.hid hs
  obtain ⟨b, off, cap, rfl⟩ := hs.some h0
  clear hs
  have HML : Hid ((l.map Est.hi).length = l.length) := Lib.hid (by simp)
  generalize hn : l.length = n at *
  have HNL := Lib.hid hn; clear hn
  go_enter Tryz.func38, Tryz.ntmps38
  go_wp2
  go_loopw [5, 7, 10] (fun o _ i wr => ∃ (k : Nat) (ys : List Int), k ≤ n ∧ i = .int .i64 k ∧ ys.length = k ∧ ys = (l.take k).map Est.hi ∧ wr.ownsRow w.heap.size 3 1 o ys.length (ys.map (Value.int .i64)) ∧ w.grownBy wr none) (fun _ _ i _ => n - (intOf i).toNat)
  case atStart => exact ⟨0, [], by omega, rfl, rfl, rfl, World.ownsRow_nil _ _ _ _, gb_refl _ _⟩
  case round =>
    obtain ⟨k, ys, hk, rfl, hyl, hys, hown, hgr⟩ := hrel
    by_cases hlt : k < n
    · have hkL : k < l.length := by have := HNL.out; omega
      obtain ⟨hbl, c0_, c1_⟩ := es_at (HS.out.after hgr) k hkL hlt
      have HY : Hid (ys ++ [l[k].hi] = (l.take (k + 1)).map Est.hi) := Lib.hid (by rw [hys, List.take_succ_eq_append_getElem hkL, List.map_append]; rfl)
      have HYL := Lib.hid hyl
      have HOW := Lib.hid hown; have HGR := Lib.hid hgr
      have hg1 := gb_alloc (gb_refl wr none) (.cells #[.int .i64 l[k].lo, .int .i64 l[k].hi] 46)
      have HG1 := Lib.hid (gb_trans hgr hg1); have HOW1 := Lib.hid (owns_keep hown hg1)
      have GT := Lib.hid (get3_any l[k])
      clear hyl hys hown hgr hg1
      generalize l[k] = x at *
      obtain ⟨lo, hi⟩ := x
      dsimp only at *
      go_wp2_with fail
      generalize wr.alloc (.cells #[.int .i64 lo, .int .i64 hi] 46) = w2 at *
      (with_reducible refine (GT.out w2).mono ?_)
      rintro e w3 ⟨rfl, hg⟩
      have HG3 := Lib.hid (gb_trans HG1.out hg); have HOW3 := Lib.hid (owns_keep HOW1.out hg)
      clear hg HG1 HOW1 HOW HGR c0_ c1_ hbl GT
      have hsz := HG3.out.size
      go_wp2_with (at_builtin; refine wpList_push rfl _ _ 22 rfl w.heap.size 3 (.int .i64 0) 1 8 Tryz.underlying22 Tryz.infoIntR rfl (by decide) (by decide) _ _ _ rfl (HOW3.out.alloc _) w3.heap.size 1 [.int .i64 hi] 3 rfl (heap_alloc_new _ _) rfl (by simp [Value.oneCell']) (by have := HYL.out; omega) (by simp; omega) ?_; refine Hid.out ?_)
      refine Lib.hid ?_
      intro v' w4 hown' hg'
      have R1 : Hid (w4.ownsRow w.heap.size 3 1 v' (ys ++ [hi]).length ((ys ++ [hi]).map (Value.int .i64))) := Lib.hid (by rw [List.length_append, List.map_append]; exact hown')
      have R2 := Lib.hid (push_grown HG3.out HOW3.out (Nat.le_refl _) hg')
      clear hown' hg' HG3 HOW3
      have hn_ : n ≤ 100000 := hl
      go_wp2_with fail
      go_roundw
      case rel => exact ⟨k + 1, ys ++ [hi], by omega, by go_num, by rw [List.length_append, HYL.out]; rfl, HY.out, R1.out, R2.out⟩
      case measure => simp [intOf]; omega
    · have hd_ : decide ((k : Int) < (n : Int)) = false := decide_eq_false (by omega)
      have HY : Hid (ys = l.map Est.hi) := Lib.hid (by rw [hys, List.take_of_length_le (by have := HNL.out; omega)])
      have hyn : ys.length = n := by omega
      have HYN := Lib.hid hyn
      have HGR := Lib.hid hgr
      obtain ⟨g, gc, e1, hB, hg1, hc1, -⟩ := owns_at hown (by omega)
      subst e1
      have SO := Lib.hid (sort_own ys w.heap.size _ wr hown (by omega))
      have hgn : w.heap.size ≤ g := hB
      have HGN := Lib.hid hgn; have HLB := Lib.hid (fun q hq => (hown.lt q hq).1)
      clear hown hgr hys hyl hk
      rw [hyn] at SO
      clear hyn hB hg1 hgn
      go_wp2_with fail
      rw [HYN.out]
      (with_reducible refine SO.out.mono ?_)
      rintro e w5 ⟨rfl, ho, hg⟩
      have HG5 := Lib.hid (gb_new HGR.out hg (fun q hq => HLB.out q hq))
      obtain ⟨m, hm⟩ : ∃ m : Nat, n = m + 1 := ⟨n - 1, by omega⟩
      have hlen5 : (srt ys).length = n := by rw [srt_len]; exact HYN.out
      obtain ⟨z, hz⟩ : ∃ z, (srt ys)[m / 2]? = Option.some z := ⟨_, List.getElem?_eq_getElem (by omega)⟩
      have hcell := ho.cellAt (m / 2) (by omega)
      rw [List.getElem?_map, hz] at hcell
      have HM : Hid (z = med (l.map Est.hi)) := Lib.hid (by
        unfold med
        rw [← HY.out, HYN.out, hm, Nat.add_sub_cancel, hz]; rfl)
      have hcell : w5.cell? ⟨g, m / 2, none⟩ = Option.some (.int .i64 z) := hcell
      have hgl := (ho.lt g rfl).2
      have hw_ : IntKind.i64.wrap ((n : Int) - 1) = (m : Int) := by rw [IntKind.wrap_i64]; omega
      have hmn : m / 2 < n := by omega
      clear ho hg hlen5 HYN HY hz hm SO HLB HGN HS hlt hd_
      go_wp2_with fail
      go_ret
      exact ⟨by rw [HM.out]; rfl, HG5.out⟩

def badE (x : Est) : Bool := decide (x.hi < x.lo)
theorem badE_any (x : Est) (w : World) :
    Calls Tryz.prog 37 #[.agg #[.int .i64 x.lo, .int .i64 x.hi]] w fun e w' => e = .returned (.bool (badE x)) ∧ w.grownBy w' none := by
  obtain ⟨lo, hi⟩ := x
  have HG := Lib.hid (gb_alloc (gb_refl w none) (.cells #[.int .i64 lo, .int .i64 hi] 46))
  go_enter Tryz.func37, Tryz.ntmps37
  go_wp2
  go_ret
  exact ⟨rfl, HG.out⟩
set_option maxHeartbeats 1000000 in
theorem indexE_any (L : List Est) (v : Value) (w : World) (hs : SlC 2 w v L.length (flatE L)) :
    Calls Tryz.prog 62 #[v, .func (.func 37) #[] #[]] w fun e w' => ∃ r : Int, e = .returned (.int .i64 r) ∧ w.grownBy w' none ∧ (0 ≤ r → L.any badE = true) ∧ (r < 0 → L.any badE = false) := by
  have HS := Lib.hid hs
  by_cases h0 : L.length = 0
  · obtain rfl : L = [] := List.length_eq_zero_iff.1 h0
    obtain ⟨a, c, rfl⟩ := hs.slice
    clear hs HS h0
    go_enter Tryz.func62, Tryz.ntmps62
    go_wp2
    go_rounds 1
    go_ret
    exact ⟨_, rfl, gb_refl _ _, by simp, by simp⟩
  obtain ⟨b, off, cap, rfl⟩ := hs.some (by omega)
  have hlen : L.length ≤ 9223372036854775807 := by
    obtain ⟨b', off', cap', e, -, h1, h2, -⟩ := hs.block (by omega); omega
  clear hs h0
  generalize hn : L.length = n at *
  have HNL := Lib.hid hn; clear hn
  go_enter Tryz.func62, Tryz.ntmps62
  go_wp2
  go_loopw [5, 8] (fun _ i wr => ∃ k : Nat, k ≤ n ∧ i = .int .i64 k ∧ (L.take k).any badE = false ∧ w.grownBy wr none) (fun _ i _ => n - (intOf i).toNat)
  case atStart => exact ⟨0, by omega, rfl, rfl, gb_refl _ _⟩
  case round =>
    obtain ⟨k, hk, rfl, hp, hgr⟩ := hrel
    have HP := Lib.hid hp; have HG := Lib.hid hgr; clear hp
    by_cases hlt : k < n
    · have hkL : k < L.length := by have := HNL.out; omega
      obtain ⟨hbl, c0_, c1_⟩ := es_at (HS.out.after hgr) k hkL hlt
      have BS := Lib.hid (badE_any L[k] wr)
      have HT := Lib.hid (show (L.take (k + 1)).any badE = badE L[k] by rw [List.take_succ_eq_append_getElem hkL, List.any_append, HP.out]; simp)
      have HA := Lib.hid (fun (h : badE L[k] = true) => List.any_eq_true.2 ⟨_, List.getElem_mem hkL, h⟩)
      clear hgr
      generalize L[k] = x at *
      obtain ⟨lo, hi⟩ := x
      dsimp only at *
      generalize badE ⟨lo, hi⟩ = ok at *
      go_wp2_with fail
      (with_reducible refine BS.out.mono ?_)
      rintro e w1 ⟨rfl, hg⟩
      have HG2 := Lib.hid (gb_trans HG.out hg)
      clear hg HG BS c0_ c1_
      cases ok
      · go_wp2
        go_roundw
        case rel => exact ⟨k + 1, by omega, by go_num, HT.out, HG2.out⟩
        case measure => simp [intOf]; omega
      · go_wp2
        go_ret
        exact ⟨_, rfl, HG2.out, fun _ => HA.out trivial, fun h => by omega⟩
    · have hd_ : decide ((k : Int) < (n : Int)) = false := decide_eq_false (by omega)
      clear hgr
      go_wp2
      go_ret
      exact ⟨_, rfl, HG.out, fun h => by omega, fun _ => by have := HP.out; have h2 := HNL.out; rw [List.take_of_length_le (by omega)] at this; exact this⟩
theorem containsE_any (L : List Est) (v : Value) (w : World) (hs : SlC 2 w v L.length (flatE L)) :
    Calls Tryz.prog 36 #[v, .func (.func 37) #[] #[]] w fun e w' => e = .returned (.bool (L.any badE)) ∧ w.grownBy w' none := by
  have HS := Lib.hid (indexE_any L v w hs)
  have ho : v.oneCell' = true := by obtain ⟨a, c, rfl⟩ := hs.slice; rfl
  clear hs
  go_enter Tryz.func36, Tryz.ntmps36
  go_wp2_with fail
  (with_reducible refine HS.out.mono ?_)
  rintro e w' ⟨r, rfl, hg, h1, h2⟩
  have H1 := Lib.hid h1; have H2 := Lib.hid h2; have HG := Lib.hid hg; clear h1 h2 hg
  by_cases hr : 0 ≤ r
  · go_wp2
    go_ret
    exact ⟨by rw [H1.out hr]; rfl, HG.out⟩
  · go_wp2
    go_ret
    exact ⟨by rw [H2.out (by omega)]; simp; omega, HG.out⟩

def netE (l : List Est) : Int := if l.length = 0 then 24 else if l.any badE then 1 else 0
def netL (l : List Est) : Int := if netE l = 0 then med (l.map Est.lo) else 0
def netH (l : List Est) : Int := if netE l = 0 then med (l.map Est.hi) else 0
def netV (l : List Est) : Value := .tuple #[.agg #[.int .i64 (netL l), .int .i64 (netH l)], .int .i64 (netE l)]
theorem net_err {l : List Est} {c : Int} (h : netE l = c) (hc : c ≠ 0) : Ending.returned (.tuple #[.agg #[.int .i64 0, .int .i64 0], .int .i64 c]) = .returned (netV l) := by
  unfold netV netL netH
  rw [h, if_neg hc, if_neg hc]
set_option maxHeartbeats 2000000 in
theorem network_any (l : List Est) (v : Value) (w : World) (hs : SlC 2 w v l.length (flatE l)) (hl : l.length ≤ 100000) :
    Calls Tryz.prog 18 #[v] w fun e w' => e = .returned (netV l) ∧ w.grownBy w' none := by
  have g1 := gb_alloc (gb_refl w none) (.cells #[.int .i64 0, .int .i64 0] 46)
  have W1 := Lib.hid g1; have O1 := Lib.hid (heap_alloc_new w (.cells #[.int .i64 0, .int .i64 0] 46))
  have CO := Lib.hid (containsE_any l v _ (hs.after g1))
  have M2 := Lib.hid (fun (u : World) (hu : w.grownBy u none) (h0 : 0 < l.length) => median2_any l v u (hs.after hu) h0 hl)
  have M3 := Lib.hid (fun (u : World) (hu : w.grownBy u none) (h0 : 0 < l.length) => median3_any l v u (hs.after hu) h0 hl)
  obtain ⟨a, c, rfl⟩ := hs.slice
  have E24 := Lib.hid (fun (h : l.length = 0) => net_err (l := l) (c := 24) (by unfold netE; rw [if_pos h]) (by decide))
  have E1 := Lib.hid (fun (h : l.length ≠ 0) (h2 : l.any badE = true) => net_err (l := l) (c := 1) (by unfold netE; rw [if_neg h, if_pos h2]) (by decide))
  have EK : Hid (l.length ≠ 0 → l.any badE = false → netV l = .tuple #[.agg #[.int .i64 (med (l.map Est.lo)), .int .i64 (med (l.map Est.hi))], .int .i64 0]) := Lib.hid (fun h h2 => by
    have e : netE l = 0 := by unfold netE; rw [if_neg h, h2]; rfl
    unfold netV netL netH
    rw [e, if_pos rfl, if_pos rfl])
  clear hs g1
  generalize netV l = RV at *
  generalize l.any badE = bad at *
  generalize med (l.map Est.lo) = ml at *
  generalize med (l.map Est.hi) = mh at *
  generalize l.length = n at *
  have GZ := Lib.hid (gb_setCell (gb_setCell W1.out (a := ⟨w.heap.size, 0, none⟩) (.inl (Nat.le_refl _)) (.int .i64 0)) (a := ⟨w.heap.size, 1, none⟩) (.inl (Nat.le_refl _)) (.int .i64 0))
  have hbo := block_lt' O1.out
  have hf0 := frz O1.out 0; have hf1 := frz O1.out 1
  obtain ⟨p0_, p1_⟩ := cells2' O1.out
  go_enter Tryz.func18, Tryz.ntmps18
  by_cases h0 : n = 0
  · have HE := Lib.hid (E24.out h0)
    have h0' : ((n : Int) == 0) = true := by simpa using h0
    clear h0
    go_wp2_with fail
    exact bodyPost_ret (v := .tuple #[.agg #[.int .i64 0, .int .i64 0], .int .i64 24]) (by simp [results, Tryz.results18, go_sem, p0_, p1_]) rfl ⟨HE.out, W1.out⟩
  have h0' : ((n : Int) == 0) = false := by simpa using h0
  have HE1 := Lib.hid (E1.out h0); have HEK := Lib.hid (EK.out h0)
  have H0 : Hid (0 < n) := Lib.hid (by omega)
  clear E24 E1 EK h0
  go_wp2_with fail
  clear GZ hbo hf0 hf1 p0_ p1_
  generalize w.alloc (.cells #[.int .i64 0, .int .i64 0] 46) = w1 at *
  generalize hz : w.heap.size = z at *
  have HZ := Lib.hid hz; clear hz
  (with_reducible refine CO.out.mono ?_)
  rintro e w2 ⟨rfl, hg⟩
  have W2 := Lib.hid (gb_trans W1.out hg); have O2 := Lib.hid (block_kept hg O1.out rfl)
  clear hg W1 O1 CO
  cases bad
  · have HEE := Lib.hid (HEK.out rfl)
    clear HE1 HEK
    go_wp2_with fail
    (with_reducible refine (M2.out w2 W2.out H0.out).mono ?_)
    rintro e w3 ⟨rfl, hg⟩
    have W3 := Lib.hid (gb_trans W2.out hg); have O3 := Lib.hid (block_kept hg O2.out rfl)
    clear hg W2 O2 M2
    go_wp2_with fail
    (with_reducible refine (M3.out w3 W3.out H0.out).mono ?_)
    rintro e w4 ⟨rfl, hg⟩
    have W4 := Lib.hid (gb_trans W3.out hg); have O4 := Lib.hid (block_kept hg O3.out rfl)
    clear hg W3 O3 M3
    have hzz : w.heap.size ≤ z := by have := HZ.out; omega
    have GZ := Lib.hid (gb_setCell (gb_setCell W4.out (a := ⟨z, 0, none⟩) (.inl hzz) (.int .i64 ml)) (a := ⟨z, 1, none⟩) (.inl hzz) (.int .i64 mh))
    have hbo := block_lt' O4.out
    have hf0 := frz O4.out 0; have hf1 := frz O4.out 1
    obtain ⟨p0_, p1_⟩ := cells2' O4.out
    clear hzz
    go_wp2_with fail
    exact bodyPost_ret (v := .tuple #[.agg #[.int .i64 ml, .int .i64 mh], .int .i64 0]) (by simp [results, Tryz.results18, go_sem, p0_, p1_]) rfl ⟨by rw [HEE.out], GZ.out⟩
  · have HEE := Lib.hid (HE1.out rfl)
    clear HE1 HEK
    have hzz : w.heap.size ≤ z := by have := HZ.out; omega
    have GZ := Lib.hid (gb_setCell (gb_setCell W2.out (a := ⟨z, 0, none⟩) (.inl hzz) (.int .i64 0)) (a := ⟨z, 1, none⟩) (.inl hzz) (.int .i64 0))
    have hbo := block_lt' O2.out
    have hf0 := frz O2.out 0; have hf1 := frz O2.out 1
    obtain ⟨p0_, p1_⟩ := cells2' O2.out
    clear hzz
    go_wp2_with fail
    exact bodyPost_ret (v := .tuple #[.agg #[.int .i64 0, .int .i64 0], .int .i64 1]) (by simp [results, Tryz.results18, go_sem, p0_, p1_]) rfl ⟨HEE.out, GZ.out⟩
end Go.Proofs.YtmgfdfbhfhmekaaGreat
