import Derived.Test.YtiebljanpnadjaaGreatPgRefC
namespace Go.Proofs.YtiebljanpnadjaaGreat
set_option linter.all false
open Go.RowKit Rg
def vi (l : List Nat) : List Value := l.map fun (i : Nat) => Value.int .i64 (i : Int)
theorem vi_length (l : List Nat) : (vi l).length = l.length := by simp [vi]
structure InsAt (P : List Ph) (k : Nat) (s1 s2 : List Nat) : Prop where
 perm : (s1 ++ s2).Perm (List.range k)
 srt : (s1 ++ s2).Pairwise (lessA P)
 up : ∀ y ∈ s2, lessA P k y
def insRow (n k : Nat) (s1 s2 : List Nat) : List Nat := s1 ++ (k :: s2 ++ (List.range n).drop (k + 1))
theorem insRow_start {n k : Nat} {s : List Nat} (h : k < n) : s ++ (List.range n).drop k = insRow n k s [] := by
 unfold insRow
 rw [List.drop_eq_getElem_cons (by simpa using h)]
 simp
theorem insRow_end (n k : Nat) (s1 s2 : List Nat) : insRow n k s1 s2 = (s1 ++ k :: s2) ++ (List.range n).drop (k + 1) := by simp [insRow]
theorem insRow_length {P : List Ph} {n k : Nat} {s1 s2 : List Nat} (h : InsAt P k s1 s2) (hk : k < n) : (insRow n k s1 s2).length = n := by
 have := h.perm.length_eq
 simp only [List.length_append, List.length_range] at this
 simp [insRow]; omega
theorem insRow_at1 (n k y : Nat) (t s2 : List Nat) : (insRow n k (t ++ [y]) s2)[t.length]? = some y := by
 unfold insRow; rw [List.append_assoc, List.getElem?_append_right (Nat.le_refl _)]; simp
theorem insRow_at2 (n k y : Nat) (t s2 : List Nat) : (insRow n k (t ++ [y]) s2)[t.length + 1]? = some k := by
 unfold insRow; rw [List.append_assoc, List.getElem?_append_right (by omega)]; simp
theorem insRow_swap (n k y : Nat) (t s2 : List Nat) : ((insRow n k (t ++ [y]) s2).set (t.length + 1) y).set t.length k = insRow n k t (y :: s2) := by
 unfold insRow
 rw [List.append_assoc, List.set_append_right _ _ (by omega), List.set_append_right _ _ (by omega)]
 simp
theorem InsAt.step {P : List Ph} {k y : Nat} {t s2 : List Nat} (h : InsAt P k (t ++ [y]) s2) (hl : lessA P k y) : InsAt P k t (y :: s2) := by
 have e : (t ++ [y]) ++ s2 = t ++ y :: s2 := by simp
 refine ⟨e ▸ h.perm, e ▸ h.srt, fun z hz => ?_⟩
 rcases List.mem_cons.1 hz with rfl | hz
 ·exact hl
 ·exact h.up z hz
theorem InsAt.lt {P : List Ph} {k y : Nat} {t s2 : List Nat} (h : InsAt P k (t ++ [y]) s2) : y < k := List.mem_range.1 (h.perm.mem_iff.1 (by simp))
theorem InsAt.perm' {P : List Ph} {k : Nat} {s1 s2 : List Nat} (h : InsAt P k s1 s2) : (s1 ++ k :: s2).Perm (List.range (k + 1)) := by
 rw [List.range_succ]
 exact List.perm_middle.trans ((h.perm.cons k).trans (List.perm_append_singleton k _).symm)
theorem InsAt.done {P : List Ph} {k : Nat} {s1 s2 : List Nat} (h : InsAt P k s1 s2) (hd : ∀ z ∈ s1, lessA P z k) : (s1 ++ k :: s2).Pairwise (lessA P) := by
 obtain ⟨p1, p2, p3⟩ := List.pairwise_append.1 h.srt
 refine List.pairwise_append.2 ⟨p1, List.pairwise_cons.2 ⟨h.up, p2⟩, fun a ha b hb => ?_⟩
 rcases List.mem_cons.1 hb with rfl | hb
 ·exact hd a ha
 ·exact p3 a ha b hb
theorem InsAt.stop {P : List Ph} {k y : Nat} {t s2 : List Nat} (h : InsAt P k (t ++ [y]) s2) (hl : ¬ lessA P k y) : ∀ z ∈ t ++ [y], lessA P z k := by
 have hy : lessA P y k := by
  rcases lessA_tri P y k (Nat.ne_of_lt h.lt) with h1 | h1
  ·exact h1
  ·exact absurd h1 hl
 intro z hz
 rcases List.mem_append.1 hz with hz | hz
 ·have := (List.pairwise_append.1 (List.pairwise_append.1 h.srt).1).2.2 z hz y (by simp)
  exact lessA_trans this hy
 ·simp at hz; exact hz ▸ hy
theorem lessA_cmp {P : List Ph} {k y : Nat} (hk : k < P.length) (hy : y < P.length) (h : y < k) : lessA P k y ↔ cmpA P[k] P[y] < 0 := by
 rw [cmpA_neg]
 unfold lessA phA
 rw [List.getElem?_eq_getElem hk, List.getElem?_eq_getElem hy]
 simp only [Option.getD_some]
 constructor
 ·rintro (h1 | ⟨-, h1⟩)
  ·exact h1
  ·omega
 ·exact .inl
set_option maxRecDepth 100000 in
set_option maxHeartbeats 4000000 in
theorem insort_any (P : List Ph) (X b off c g gc n B : Nat) (w : World) (hO : OrdAt P X b off c w) (hn : P.length = n) (h0 : 1 ≤ n) (h16 : n ≤ 1000000) (hgX : g ≠ X) (hgb : g ≠ b) (h : w.ownsRow B 3 1 (.slice (some ⟨g, 0, none⟩) n gc) n (vi (List.range n))) :
  Calls Tryz.prog 124 #[.slice (some ⟨g, 0, none⟩) n gc, (0:Int), n, .func (.func 60) #[] #[.pointer (some ⟨X, 0, none⟩)]] w fun e w' => e = .returned (.tuple #[]) ∧ w'.ownsRow B 3 1 (.slice (some ⟨g, 0, none⟩) n gc) n (vi (ordA P)) ∧ w.grownBy w' (some g) := by
 have CM := zH (fun (k y : Nat) (hk : k < P.length) (hy : y < P.length) (u : World) (hu : w.grownBy u (some g)) => order1_any P X b off c k y u (hO.later hu (by simpa using hgX) (by simpa using hgb)) hk hy)
 have HN := zH hn
 have HF := zH (fun (r : List Nat) (h1 : r.Perm (List.range n)) (h2 : r.Pairwise (lessA P)) => ordA_uniq (P := P) (by rw [hn]; exact h1) h2)
 have HOW := zH h
 have HS : Hid ([0].Perm (List.range 1) ∧ [0].Pairwise (lessA P) ∧ [0] ++ (List.range n).drop 1 = List.range n) := zH ⟨List.Perm.refl _, by simp, by
  obtain ⟨m, rfl⟩ : ∃ m, n = m + 1 := ⟨n - 1, by omega⟩
  rw [List.range_succ_eq_map]; simp⟩
 clear hO hn h hgX hgb
 go_enter Tryz.func124, Tryz.ntmps124
 go_wp2_with fail
 go_loopw [8] (fun i wr => ∃ (k : Nat) (s : List Nat), 1 ≤ k ∧ k ≤ n ∧ i = .int .i64 k ∧ s.Perm (List.range k) ∧ s.Pairwise (lessA P) ∧ wr.ownsRow B 3 1 (.slice (some ⟨g, 0, none⟩) n gc) n (vi (s ++ (List.range n).drop k)) ∧ w.grownBy wr (some g)) (fun i _ => n - (intOf i).toNat)
 case atStart => exact ⟨1, [0], by omega, h0, rfl, HS.out.1, HS.out.2.1, by rw [HS.out.2.2]; exact HOW.out, gb_refl _ _⟩
 case round =>
  obtain ⟨k, s, hk1, hk, rfl, hp, hs, hown, hgr⟩ := hrel
  by_cases hlt : k < n
  ·have hkd : decide ((k : Int) < (n : Int)) = true := decide_eq_true (by omega)
   have ST : Hid (InsAt P k s []) := zH ⟨by simpa using hp, by simpa using hs, by simp⟩
   rw [insRow_start hlt] at hown
   have HO1 := zH hown; have HG1 := zH hgr
   have HSL : Hid (s.length = k) := zH (by rw [hp.length_eq, List.length_range])
   clear hp hs hown hgr
   go_wp2_with fail
   go_loopw [9] (fun j wr => ∃ s1 s2 : List Nat, j = .int .i64 s1.length ∧ InsAt P k s1 s2 ∧ wr.ownsRow B 3 1 (.slice (some ⟨g, 0, none⟩) n gc) n (vi (insRow n k s1 s2)) ∧ w.grownBy wr (some g)) (fun j _ => (intOf j).toNat)
   case atStart => exact ⟨s, [], by rw [HSL.out], ST.out, HO1.out, HG1.out⟩
   case round =>
    obtain ⟨s1, s2, rfl, hI, hown, hgr⟩ := hrel
    have HI := zH hI; have HOW2 := zH hown; have HGR := zH hgr
    by_cases he : s1 = []
    ·subst he
     have hj0 : decide ((([] : List Nat).length : Int) > 0) = false := rfl
     clear hI hown hgr
     go_wp2_with fail
     (refine wp_region_grown (by kernel_rfl) (by kernel_rfl) ?_; (repeat (go_big_quiet_step (fail))); refine wpQuiet_nil ?_; intro wq hq)
     have HOQ := zH (owns_keep HOW2.out hq)
     have HGQ := zH (gb_trans HGR.out (gb_none hq))
     clear hq
     go_wp2_with fail
     go_roundw
     case rel => exact ⟨k + 1, [] ++ k :: s2, by omega, by omega, by go_num, HI.out.perm', HI.out.done (fun z hz => by simp at hz), by rw [← insRow_end]; exact HOQ.out, HGQ.out⟩
     case measure => simp [intOf]; omega
    obtain ⟨t, y, rfl⟩ : ∃ t y, s1 = t ++ [y] := ⟨s1.dropLast, s1.getLast he, (List.dropLast_concat_getLast he).symm⟩
    have hyk := hI.lt
    have hln := insRow_length hI hlt
    have hkP : k < P.length := by have := HN.out; omega
    have hyP : y < P.length := by have := HN.out; omega
    have hmt : t.length + 1 < n := by
     have := hI.perm.length_eq
     simp only [List.length_append, List.length_cons, List.length_nil, List.length_range] at this
     omega
    have q1_ : wr.cell? ⟨g, t.length, none⟩ = some (.int .i64 y) := by rw [hown.cellAt _ (by omega)]; unfold vi; rw [List.getElem?_map, insRow_at1]; rfl
    have q2_ : wr.cell? ⟨g, t.length + 1, none⟩ = some (.int .i64 k) := by rw [hown.cellAt _ (by omega)]; unfold vi; rw [List.getElem?_map, insRow_at2]; rfl
    have hgz := (hown.lt g rfl).2
    have LC := zH (lessA_cmp hkP hyP hyk)
    have CMk := zH (fun (u : World) (hu : wr.grownBy u none) => CM.out k y hkP hyP u (gb_trans hgr (gb_none hu)))
    have hel : (t ++ [y]).length = t.length + 1 := by simp
    rw [hel]
    generalize cmpA P[k] P[y] = cc at *
    clear he hI hown hgr hln hel hkP hyP
    generalize hm : t.length = m at *
    have HM := zH hm
    clear hm
    have hj1 : decide (((m + 1 : Nat) : Int) > 0) = true := decide_eq_true (by omega)
    have hwj : IntKind.i64.wrap (((m + 1 : Nat) : Int) - 1) = (m : Int) := by rw [IntKind.wrap_i64]; omega
    have u1 := fun (z : Up wr) => (ever_cell z (o := m) hgz).trans q1_
    have u2 := fun (z : Up wr) => (ever_cell z (o := m + 1) hgz).trans q2_
    by_cases hcc : cc < 0
    ·have hcd : decide (cc < 0) = true := decide_eq_true hcc
     have HST := zH (HI.out.step (LC.out.2 hcc))
     clear hcc
     go_wp2_with fail
     (refine wp_region_grown (by kernel_rfl) (by kernel_rfl) ?_; (repeat (go_big_quiet_step (first | (go_at_call 60; exact Calls.grown_of (CMk.out _ (ever_up _)))))); refine wpQuiet_nil ?_; intro wq hq)
     have HOQ := owns_keep HOW2.out hq
     have HGQ := gb_trans HGR.out (gb_none hq)
     have q1q : wq.cell? ⟨g, m, none⟩ = some (.int .i64 y) := (gb_cell hq hgz (by simp)).trans q1_
     have q2q : wq.cell? ⟨g, m + 1, none⟩ = some (.int .i64 k) := (gb_cell hq hgz (by simp)).trans q2_
     have hgq := Nat.lt_of_lt_of_le hgz hq.size
     have f1q := HOQ.frozenAt m; have f2q := HOQ.frozenAt (m + 1)
     obtain ⟨o1, o2⟩ := HOQ.stored (m + 1) (.int .i64 y)
     obtain ⟨o3, o4⟩ := o1.stored m (.int .i64 k)
     have e : ((vi (insRow n k (t ++ [y]) s2)).set (m + 1) (.int .i64 y)).set m (.int .i64 k) = vi (insRow n k t (y :: s2)) := by
      rw [← insRow_swap n k y t s2, HM.out]; simp [vi, List.map_set]
     rw [e] at o3
     have dd := gb_drew (gb_refl ((wq.setCell ⟨g, m + 1, none⟩ (.int .i64 y)).setCell ⟨g, m, none⟩ (.int .i64 k)) none)
     have O5 := zH (owns_keep o3 dd); have G5 := zH (gb_trans (gb_trans (gb_trans HGQ o2) o4) (gb_none dd))
     clear q1_ q2_ u1 u2 hgz HOQ HGQ o1 o2 o3 o4 e dd hq CMk
     go_wp2_with fail
     go_region
     go_wp2_with fail
     go_roundw
     case rel => exact ⟨t, y :: s2, by rw [HM.out], HST.out, O5.out, G5.out⟩
     case measure => simp [intOf]
    ·have hcd : decide (cc < 0) = false := decide_eq_false hcc
     have HST := zH (HI.out.done (HI.out.stop (fun h => hcc (LC.out.1 h))))
     clear hcc
     go_wp2_with fail
     (refine wp_region_grown (by kernel_rfl) (by kernel_rfl) ?_; (repeat (go_big_quiet_step (first | (go_at_call 60; exact Calls.grown_of (CMk.out _ (ever_up _)))))); refine wpQuiet_nil ?_; intro wq hq)
     have HOQ := zH (owns_keep HOW2.out hq)
     have HGQ := zH (gb_trans HGR.out (gb_none hq))
     clear q1_ q2_ u1 u2 hgz hq CMk
     go_wp2_with fail
     go_roundw
     case rel => exact ⟨k + 1, (t ++ [y]) ++ k :: s2, by omega, by omega, by go_num, HI.out.perm', HST.out, by rw [← insRow_end]; exact HOQ.out, HGQ.out⟩
     case measure => simp [intOf]; omega
  ·have hkd : decide ((k : Int) < (n : Int)) = false := decide_eq_false (by omega)
   obtain rfl : k = n := by omega
   have e := HF.out s hp hs
   rw [List.drop_of_length_le (by simp), List.append_nil, e] at hown
   have HOE := zH hown; have HGE := zH hgr
   clear hown hgr e hp hs
   go_wp2_with fail
   exact bodyPost_end (v := .tuple #[]) (by simp [results, Tryz.results124, go_sem]) rfl ⟨rfl, HOE.out, HGE.out⟩
set_option maxHeartbeats 1000000 in
theorem stable_any (P : List Ph) (X b off c g gc n B : Nat) (w : World) (hO : OrdAt P X b off c w) (hn : P.length = n) (h0 : 1 ≤ n) (h16 : n < 20) (hgX : g ≠ X) (hgb : g ≠ b) (h : w.ownsRow B 3 1 (.slice (some ⟨g, 0, none⟩) n gc) n (vi (List.range n))) :
  Calls Tryz.prog 59 #[.slice (some ⟨g, 0, none⟩) n gc, .func (.func 60) #[] #[.pointer (some ⟨X, 0, none⟩)]] w fun e w' => e = .returned (.tuple #[]) ∧ w'.ownsRow B 3 1 (.slice (some ⟨g, 0, none⟩) n gc) n (vi (ordA P)) ∧ w.grownBy w' (some g) := by
 have IS := zH (insort_any P X b off c g gc n B w hO hn h0 (by omega) hgX hgb h)
 have hd1 : decide ((20 : Int) ≤ (n : Int)) = false := decide_eq_false (by omega)
 have hd2 : decide ((20 : Int) < (n : Int)) = false := decide_eq_false (by omega)
 clear hO hn h0 h16 hgX hgb h
 have ST : Hid (Calls Tryz.prog 88 #[.slice (some ⟨g, 0, none⟩) n gc, n, .func (.func 60) #[] #[.pointer (some ⟨X, 0, none⟩)]] w fun e w' => e = .returned (.tuple #[]) ∧ w'.ownsRow B 3 1 (.slice (some ⟨g, 0, none⟩) n gc) n (vi (ordA P)) ∧ w.grownBy w' (some g)) := zH (by
  go_enter Tryz.func88, Tryz.ntmps88
  go_wp2_with fail
  refine wp_loop_rounds 1 ?_
  rw [rounds_succ]
  go_wp2_with fail
  (with_reducible refine IS.out.mono ?_)
  rintro e w' ⟨rfl, ho, hg⟩
  have HO := zH ho; have HG := zH hg
  clear ho hg
  go_wp2_with fail
  refine wp_loop_rounds 1 ?_
  rw [rounds_succ]
  go_wp2_with fail
  exact bodyPost_end (v := .tuple #[]) (by simp [results, Tryz.results88, go_sem]) rfl ⟨rfl, HO.out, HG.out⟩)
 clear hd1 hd2 IS
 go_enter Tryz.func59, Tryz.ntmps59
 go_wp2_with fail
 (with_reducible refine ST.out.mono ?_)
 rintro e w' ⟨rfl, ho, hg⟩
 have HO := zH ho; have HG := zH hg
 clear ho hg
 go_wp2_with fail
 exact bodyPost_end (v := .tuple #[]) (by simp [results, Tryz.results59, go_sem]) rfl ⟨rfl, HO.out, HG.out⟩
theorem stable0_any (a : Option Addr) (c : Nat) (F : Value) (w : World) (hF : F.oneCell' = true) :
  Calls Tryz.prog 59 #[.slice a 0 c, F] w fun e w' => e = .returned (.tuple #[]) ∧ w = w' := by
 have IS : Hid (Calls Tryz.prog 124 #[.slice a 0 c, (0:Int), (0:Int), F] w fun e w' => e = .returned (.tuple #[]) ∧ w = w') := zH (by
  go_enter Tryz.func124, Tryz.ntmps124
  go_wp2_with fail
  refine wp_loop_rounds 1 ?_
  rw [rounds_succ]
  go_wp2_with fail
  exact bodyPost_end (v := .tuple #[]) (by simp [results, Tryz.results124, go_sem]) rfl ⟨rfl, rfl⟩)
 have ST : Hid (Calls Tryz.prog 88 #[.slice a 0 c, (0:Int), F] w fun e w' => e = .returned (.tuple #[]) ∧ w = w') := zH (by
  go_enter Tryz.func88, Tryz.ntmps88
  go_wp2_with fail
  refine wp_loop_rounds 1 ?_
  rw [rounds_succ]
  go_wp2_with fail
  (with_reducible refine IS.out.mono ?_)
  rintro e w' ⟨rfl, rfl⟩
  go_wp2_with fail
  refine wp_loop_rounds 1 ?_
  rw [rounds_succ]
  go_wp2_with fail
  exact bodyPost_end (v := .tuple #[]) (by simp [results, Tryz.results88, go_sem]) rfl ⟨rfl, rfl⟩)
 go_enter Tryz.func59, Tryz.ntmps59
 go_wp2_with fail
 (with_reducible refine ST.out.mono ?_)
 rintro e w' ⟨rfl, rfl⟩
 go_wp2_with fail
 exact bodyPost_end (v := .tuple #[]) (by simp [results, Tryz.results59, go_sem]) rfl ⟨rfl, rfl⟩
theorem info_intS : (Tryz.prog.info? 3).map (fun i => (i.zero, i.size, i.bytes)) = some (some (.int .i64 0), 1, 8) := by kernel_rfl
theorem range_set {n k : Nat} (h : k < n) : (vi (List.range k) ++ List.replicate (n - k) (Value.int .i64 0)).set k (.int .i64 (k : Int)) = vi (List.range (k + 1)) ++ List.replicate (n - (k + 1)) (Value.int .i64 0) := by
 rw [List.set_append_right _ _ (by simp [vi]), List.range_succ]
 obtain ⟨m, hm⟩ : ∃ m, n - k = m + 1 := ⟨n - k - 1, by omega⟩
 rw [hm, show n - (k + 1) = m by omega, List.replicate_succ]
 simp [vi]
theorem vi_int (l : List Nat) : vi l = (l.map (fun (i : Nat) => (i : Int))).map (Value.int .i64) := by simp [vi]
set_option maxRecDepth 100000 in
set_option maxHeartbeats 2000000 in
theorem order_any (P : List Ph) (v : Value) (w : World) (hp : SlC 6 w v P.length (flatP P)) (h20 : P.length < 20) :
  Calls Tryz.prog 20 #[v] w fun e w' => ∃ u, e = .returned u ∧ Sl w' u ((ordA P).map (fun (i : Nat) => (i : Int))) ∧ w.grownBy w' none := by
 obtain ⟨pa, pc, rfl⟩ := hp.slice
 have HP := zH hp
 clear hp
 have HL := zH (rfl : P.length = P.length)
 obtain ⟨n, hn⟩ : ∃ n, P.length = n := ⟨_, rfl⟩
 rw [hn] at h20 HP ⊢
 have HN := zH hn
 clear hn HL
 have G1 := zH (gb_alloc (gb_refl w none) (.cells #[.slice pa n pc] 31))
 have B1 := zH (heap_alloc_new w (.cells #[.slice pa n pc] 31))
 have L1 : (w.alloc (.cells #[.slice pa n pc] 31)).heap.size = w.heap.size + 1 := by simp
 have HL1 := zH L1
 clear L1
 obtain ⟨i0, hi0, hz0, hz1, hz2⟩ := info_parts info_intS
 have IB : Hid (i0.bytes * n ≤ 281474976710656 ∧ n ≤ maxLen) := zH ⟨by rw [hz2]; omega, by unfold maxLen; omega⟩
 have x0_ := cell_of B1.out 0 _ rfl
 have hx_ := block_lt' B1.out
 go_enter Tryz.func20, Tryz.ntmps20
 go_wp2_with (with_reducible refine wpList_make_full _ rfl _ _ 26 rfl (w.heap.size + 1) 3 i0 (.int .i64 0) 1 Tryz.underlying26 hi0 hz0 hz1 .i64 .i64 (n : Int) (n : Int) n rfl rfl rfl rfl IB.out.1 IB.out.2 (by omega) ?_; refine Hid.out ?_)
 refine zH ?_
 generalize w.alloc (.cells #[.slice pa n pc] 31) = w1 at *
 intro w2 ho hg
 rw [toList_madeCells_one] at ho
 have HO := zH ho; have HG := zH (gb_trans G1.out hg); have HB := zH (block_kept hg B1.out rfl)
 clear ho hg hi0 hz0 hz1 hz2 IB i0 x0_ hx_
 have HZ : Hid (w.heap.size + 1 ≠ w.heap.size) := zH (by omega)
 generalize hz : w.heap.size = z at *
 have HZ0 := zH hz
 clear hz
 go_wp2_with fail
 go_loopw [10] (fun i wr => ∃ k : Nat, k ≤ n ∧ i = .int .i64 k ∧ wr.ownsRow (z + 1) 3 1 (.slice (some ⟨z + 1, 0, none⟩) n n) n (vi (List.range k) ++ List.replicate (n - k) (Value.int .i64 0)) ∧ w2.grownBy wr (some (z + 1))) (fun i _ => n - (intOf i).toNat)
 case atStart => exact ⟨0, by omega, rfl, by simpa [vi] using HO.out, gb_refl _ _⟩
 case round =>
  obtain ⟨k, hk, rfl, hown, hgr⟩ := hrel
  by_cases hlt : k < n
  ·have q1_ := hown.cellAt k (by omega)
   have hcell : (vi (List.range k) ++ List.replicate (n - k) (Value.int .i64 0))[k]? = some (.int .i64 0) := by
    rw [List.getElem?_append_right (by simp [vi]), vi_length, List.length_range, Nat.sub_self, List.getElem?_replicate, if_pos (by omega)]
   rw [hcell] at q1_
   have f1_ := hown.frozenAt k
   have hgz := (hown.lt (z + 1) rfl).2
   obtain ⟨o1, o2⟩ := hown.stored k (.int .i64 (k : Int))
   rw [range_set hlt] at o1
   have O2 := zH o1; have G2 := zH (gb_trans hgr o2)
   clear hown hgr o1 o2 hcell
   go_wp2_with fail
   go_roundw
   case rel => exact ⟨k + 1, by omega, by go_num, O2.out, G2.out⟩
   case measure => simp [intOf]; omega
  ·have hd_ : decide ((k : Int) < (n : Int)) = false := decide_eq_false (by omega)
   obtain rfl : k = n := by omega
   rw [Nat.sub_self, List.replicate_zero, List.append_nil] at hown
   have HBW : Hid (wr.heap[z]? = some (.cells #[.slice pa k pc] 31 (0, 0))) := zH (block_keptp hgr HB.out (by omega))
   have HGW : Hid (w.grownBy wr none) := zH (gb_new HG.out hgr (fun q hq => by simp at hq; have := HZ0.out; omega))
   have HOW := zH hown
   clear hown hgr HB HG HO
   by_cases h0 : 1 ≤ k
   ·obtain ⟨b, off, cap', e, hb, -, -, hc⟩ := (HP.out.after HGW.out).block h0
    simp only [Value.slice.injEq, true_and] at e
    obtain ⟨rfl, rfl⟩ := e
    have hbz : b < w.heap.size := by
     obtain ⟨b', off', cap'', e', hb', -⟩ := HP.out.block h0
     simp only [Value.slice.injEq, Option.some.injEq, Addr.mk.injEq] at e'
     obtain ⟨⟨rfl, -⟩, -⟩ := e'
     exact hb'
    have HOA : OrdAt P z b off pc wr := ⟨by rw [HN.out]; exact HBW.out, hb, fun i hi => SlC.ph hc i hi⟩
    have SA := zH (stable_any P z b off pc (z + 1) k k (z + 1) wr HOA HN.out h0 h20 (by omega) (by have := HZ0.out; omega) HOW.out)
    have x0_ := cell_of HBW.out 0 _ rfl
    have hx_ := block_lt' HBW.out
    clear HOA hb hc hbz
    go_wp2_with fail
    (with_reducible refine SA.out.mono ?_)
    rintro e w5 ⟨rfl, ho, hg⟩
    have HS5 : Hid (Sl w5 (.slice (some ⟨z + 1, 0, none⟩) k k) ((ordA P).map (fun (i : Nat) => (i : Int)))) := zH (by
     rw [vi_int] at ho
     exact Sl_of_owns ho (by rw [List.length_map, ordA_length, HN.out]))
    have HG5 : Hid (w.grownBy w5 none) := zH (gb_new HGW.out hg (fun q hq => by simp at hq; have := HZ0.out; omega))
    clear ho hg x0_ hx_
    go_wp2_with fail
    go_ret
    exact ⟨_, rfl, HS5.out, HG5.out⟩
   ·obtain rfl : k = 0 := by omega
    have SA := zH (stable0_any (some ⟨z + 1, 0, none⟩) 0 (.func (.func 60) #[] #[.pointer (some ⟨z, 0, none⟩)]) wr rfl)
    have HS5 : Hid (Sl wr (.slice (some ⟨z + 1, 0, none⟩) 0 0) ((ordA P).map (fun (i : Nat) => (i : Int)))) := zH (by
     have e : ordA P = [] := List.length_eq_zero_iff.1 (by rw [ordA_length, HN.out])
     rw [e]; exact .inl ⟨rfl, _, _, rfl⟩)
    have x0_ := cell_of HBW.out 0 _ rfl
    have hx_ := block_lt' HBW.out
    go_wp2_with fail
    (with_reducible refine SA.out.mono ?_)
    rintro e w5 ⟨rfl, rfl⟩
    clear x0_ hx_
    go_wp2_with fail
    go_ret
    exact ⟨_, rfl, HS5.out, HGW.out⟩
end Go.Proofs.YtiebljanpnadjaaGreat
