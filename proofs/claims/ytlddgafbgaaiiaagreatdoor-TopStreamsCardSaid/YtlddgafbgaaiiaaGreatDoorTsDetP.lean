/- DetP Same22 -/
import Derived.Test.YtlddgafbgaaiiaaGreatDoorTsDetO
namespace Go.Proofs.YtlddgafbgaaiiaaGreatDoor
set_option linter.all false
open Go.RowKit Rg
theorem WinAt.slice {w0 u : World} {p g E : Nat} {s l n f : Int} {past : List Int} {count on off pk sh lo : Int} {o : Nat} {ev : Value} {L : List Tg} (h : WinAt w0 p g E s l n f past count on off pk sh lo o ev L u) (hE : E ≤ 100000) : Sl u (.slice (some ⟨g, o, none⟩) past.length (E - o)) past := by
  obtain ⟨cur, h1, h2, h3⟩ := h.row
  have := h.room
  exact .inr ⟨g, o, E - o, rfl, blkLt h1, by omega, by omega, fun k hk => cellD h1 _ _ (h3 k hk)⟩
theorem drewH {w : World} {b : Nat} {x : Option Obj} (h : w.heap[b]? = x) : w.drew.heap[b]? = x := h
/-- The window when m samples have been looked at. -/
def WinM (w0 : World) (p g E : Nat) (s l n f : Int) (t : Wt) (xs : List Int) (m o : Nat) (ev : Value) (u : World) : Prop :=
  WinAt w0 p g E s l n f (lookAll s l n f t (xs.take m)).1.past (lookAll s l n f t (xs.take m)).1.count (lookAll s l n f t (xs.take m)).1.on (lookAll s l n f t (xs.take m)).1.off (lookAll s l n f t (xs.take m)).1.pk
    (shS s (lookAll s l n f t (xs.take m)).1.past) (lookAll s l n f t (xs.take m)).1.past.sum o ev (lookAll s l n f t (xs.take m)).2 u ∧ o + (lookAll s l n f t (xs.take m)).1.past.length = t.past.length + m
theorem winM_look (w0 : World) (p g E : Nat) (s l n f : Int) (t : Wt) (xs : List Int) (m o : Nat) (ev : Value) (u : World) (x : Int) (hd : DetOk s l n f) (ok : WtOk l t) (hx : ∀ x ∈ xs, -1000 ≤ x ∧ x ≤ 1000) (hc : t.count ≤ 1000) (hlx : xs.length ≤ 200) (hE : E = t.past.length + 512) (hm : m < xs.length) (hxm : xs[m] = x) (h : WinM w0 p g E s l n f t xs m o ev u) :
    Calls Tryz.prog 40 #[.pointer (some ⟨p, 0, none⟩), .int .i64 x] u fun e w' => e = .returned (.tuple #[]) ∧ ∃ (o' : Nat) (ev' : Value), WinM w0 p g E s l n f t xs (m + 1) o' ev' w' := by
  subst hxm
  have hl := hd.l1; have hs := hd.s1
  obtain ⟨k1, k2, k3⟩ := lookAll_ok (s := s) (n := n) (f := f) (show 1 < l by omega) (xs.take m) t ok (fun x hx' => hx x (List.mem_of_mem_take hx'))
  have hsn : lookAll s l n f t (xs.take (m + 1)) = ((lookV s l n f (lookAll s l n f t (xs.take m)).1 xs[m]).1, (lookAll s l n f t (xs.take m)).2 ++ (lookV s l n f (lookAll s l n f t (xs.take m)).1 xs[m]).2) := by
    rw [List.take_succ_eq_append_getElem hm, lookAll_snoc]
  obtain ⟨h1, h2⟩ := h
  have hp9 := ok.pl
  have htl : (xs.take m).length = m := by simp; omega
  rw [htl] at k2 k3
  refine (dlook_any w0 p g E s l n f _ _ _ _ _ o ev _ xs[m] u hd h1 k1.px (hx _ (List.getElem_mem hm)) k1.pl (by have := ok.c1; omega) (by omega) (by omega) (by omega) ⟨k1.on1, by have := k1.on2 (by have := ok.c1; omega); have := ok.c1; omega⟩).mono ?_
  rintro e w' ⟨e1, o', ev', e2, e3⟩
  refine ⟨e1, o', ev', ?_⟩
  unfold WinM
  rw [hsn]
  exact ⟨e3, e2.trans (by omega)⟩
set_option maxRecDepth 100000 in
set_option maxHeartbeats 20000000 in
theorem dpush_any (s l n f : Int) (t : Wt) (xs : List Int) (pv x : Value) (w : World) (hd : DetOk s l n f) (ok : WtOk l t) (hsp : Sl w pv t.past) (hsx : Sl w x xs) (hx : ∀ x ∈ xs, -1000 ≤ x ∧ x ≤ 1000) (hlx : xs.length ≤ 200) (hc : t.count ≤ 1000) :
    Calls Tryz.prog 14 #[.agg #[.int .i64 s, .int .i64 l, .int .i64 n, .int .i64 f, pv, .int .i64 t.count, .int .i64 t.on, .int .i64 t.off, .int .i64 t.pk], x] w fun e w' => ∃ pv' ev', e = .returned (.tuple #[.agg #[.int .i64 s, .int .i64 l, .int .i64 n, .int .i64 f, pv', .int .i64 (lookAll s l n f t xs).1.count, .int .i64 (lookAll s l n f t xs).1.on, .int .i64 (lookAll s l n f t xs).1.off, .int .i64 (lookAll s l n f t xs).1.pk], ev', .int .i64 0]) ∧
      Slb w.heap.size w' pv' (lookAll s l n f t xs).1.past ∧ w'.ownsRow w.heap.size 41 3 ev' (lookAll s l n f t xs).2.length (flatT (lookAll s l n f t xs).2) ∧ w.grownBy w' none := by
  obtain ⟨a1, c1, rfl⟩ := hsp.shape'
  obtain ⟨a2, c2, rfl⟩ := hsx.shape'
  have hl9 := hd.l1; have hs9 := hd.s1; have hp9 := ok.pl; have hc1 := ok.c1
  have HOK := Lib.hid (lookAll_ok (s := s) (n := n) (f := f) (show 1 < l by omega) xs t ok hx)
  have HV := Lib.hid (fun (u : World) (hu : w.grownBy u none) => dvalidwatch_any s l n f t.past _ t.count t.on t.off t.pk u hd (hsp.later hu (by simp)) ok.px ok.pl ⟨ok.c1, by omega⟩ ok.c2 ok.op)
  have hb : xs.any badS = false := any_bad fun x h => by have := hx x h; simp [badS]; omega
  have HC := Lib.hid (fun (u : World) (hu : w.grownBy u none) => hb ▸ ccontainsD_any xs _ u (hsx.later hu (by simp)))
  have HOP := Lib.hid (fun (u : World) (hu : w.grownBy u none) => dopen_any s l n f t.past _ t.count t.on t.off t.pk u hd (hsp.later hu (by simp)) ok.px ok.pl)
  have HLK := Lib.hid (fun (w0 : World) (p g E m o : Nat) (ev : Value) (u : World) (x : Int) => winM_look w0 p g E s l n f t xs m o ev u x hd ok hx hc hlx)
  have HSX := Lib.hid (fun (u : World) (hu : w.grownBy u none) => hsx.later hu (by simp))
  clear hd ok hsp hsx hx hb
  have B1 : Hid (((w.alloc (.cells #[.int .i64 s, .int .i64 l, .int .i64 n, .int .i64 f, .slice a1 t.past.length c1, .int .i64 t.count, .int .i64 t.on, .int .i64 t.off, .int .i64 t.pk] 43)).alloc (.cells #[.int .i64 0, .int .i64 0, .int .i64 0, .int .i64 0, .slice none 0 0, .int .i64 0, .int .i64 0, .int .i64 0, .int .i64 0] 43)).heap[w.heap.size]? = some (.cells #[.int .i64 s, .int .i64 l, .int .i64 n, .int .i64 f, .slice a1 t.past.length c1, .int .i64 t.count, .int .i64 t.on, .int .i64 t.off, .int .i64 t.pk] 43 (0, 0))) := Lib.hid (heapOld (kbox _ _).out)
  have R1 : Hid (((w.alloc (.cells #[.int .i64 s, .int .i64 l, .int .i64 n, .int .i64 f, .slice a1 t.past.length c1, .int .i64 t.count, .int .i64 t.on, .int .i64 t.off, .int .i64 t.pk] 43)).alloc (.cells #[.int .i64 0, .int .i64 0, .int .i64 0, .int .i64 0, .slice none 0 0, .int .i64 0, .int .i64 0, .int .i64 0, .int .i64 0] 43)).heap[w.heap.size + 1]? = some (.cells #[.int .i64 0, .int .i64 0, .int .i64 0, .int .i64 0, .slice none 0 0, .int .i64 0, .int .i64 0, .int .i64 0, .int .i64 0] 43 (0, 0))) := Lib.hid (by simpa using (kbox (w := w.alloc (.cells #[.int .i64 s, .int .i64 l, .int .i64 n, .int .i64 f, .slice a1 t.past.length c1, .int .i64 t.count, .int .i64 t.on, .int .i64 t.off, .int .i64 t.pk] 43)) #[.int .i64 0, .int .i64 0, .int .i64 0, .int .i64 0, .slice none 0 0, .int .i64 0, .int .i64 0, .int .i64 0, .int .i64 0] 43).out)
  have G1 := Lib.hid (gb_alloc (gb_alloc (gb_refl w none) (.cells #[.int .i64 s, .int .i64 l, .int .i64 n, .int .i64 f, .slice a1 t.past.length c1, .int .i64 t.count, .int .i64 t.on, .int .i64 t.off, .int .i64 t.pk] 43)) (.cells #[.int .i64 0, .int .i64 0, .int .i64 0, .int .i64 0, .slice none 0 0, .int .i64 0, .int .i64 0, .int .i64 0, .int .i64 0] 43))
  go_enter Tryz.func14, Tryz.ntmps14
  go_wp2_with fail
  generalize ((w.alloc (.cells #[.int .i64 s, .int .i64 l, .int .i64 n, .int .i64 f, .slice a1 t.past.length c1, .int .i64 t.count, .int .i64 t.on, .int .i64 t.off, .int .i64 t.pk] 43)).alloc (.cells #[.int .i64 0, .int .i64 0, .int .i64 0, .int .i64 0, .slice none 0 0, .int .i64 0, .int .i64 0, .int .i64 0, .int .i64 0] 43)) = w1 at *
  (with_reducible refine (HV.out _ G1.out).mono ?_)
  rintro r w2 ⟨rfl, hg⟩
  have B2 := Lib.hid (kept0 hg B1.out); have R2 := Lib.hid (kept0 hg R1.out); have G2 := Lib.hid (gb_trans G1.out hg)
  clear hg B1 R1 G1 HV
  have f5_ := cellD B2.out 5 _ rfl
  have K2 := Lib.hid (HC.out _ G2.out)
  clear HC
  have f0_ := cellD B2.out 0 _ rfl
  have f1_ := cellD B2.out 1 _ rfl
  have f2_ := cellD B2.out 2 _ rfl
  have f3_ := cellD B2.out 3 _ rfl
  have f4_ := cellD B2.out 4 _ rfl
  have f6_ := cellD B2.out 6 _ rfl
  have f7_ := cellD B2.out 7 _ rfl
  have f8_ := cellD B2.out 8 _ rfl
  go_wp2_with (first | (go_at_call 37; (refine K2.out.mono ?_); rintro r w' ⟨rfl, rfl⟩))
  (with_reducible refine (HOP.out _ G2.out).mono ?_)
  rintro r w3 ⟨p, g, rfl, hw⟩
  have WM : Hid (WinM w2 p g (t.past.length + 512) s l n f t xs 0 0 (.slice none 0 0) w3) := Lib.hid ⟨hw, by simp [lookAll]⟩
  clear hw HOP K2 f0_ f1_ f2_ f3_ f4_ f5_ f6_ f7_ f8_
  go_wp2_with fail
  go_loopw [9, 36] (fun _ k wr => ∃ (m o : Nat) (ev : Value), k = .int .i64 m ∧ m ≤ xs.length ∧ WinM w2 p g (t.past.length + 512) s l n f t xs m o ev wr) (fun _ k _ => xs.length - (intOf k).toNat)
  case atStart => exact ⟨0, 0, _, rfl, by omega, WM.out⟩
  case round =>
    obtain ⟨m, o, ev, rfl, hm, hw⟩ := hrel
    have WR := Lib.hid hw
    clear hw WM
    by_cases hlt : m < xs.length
    · obtain ⟨y, hy⟩ : ∃ y, xs[m] = y := ⟨_, rfl⟩
      have hsx := HSX.out wr (gb_trans G2.out WR.out.1.gr)
      obtain ⟨b, off, cap, hbe, hbl, hbc, hbc2, hcell⟩ := hsx.block (by omega)
      simp at hbe
      obtain ⟨rfl, rfl⟩ := hbe
      have c_ := (hcell m hlt).trans (by rw [List.getElem?_eq_getElem hlt, Option.getD_some, hy])
      have LKM := Lib.hid (HLK.out w2 p g (t.past.length + 512) m o ev wr y rfl hlt hy WR.out)
      clear hsx hcell hy
      go_wp2_with fail
      (with_reducible refine LKM.out.mono ?_)
      rintro r w4 ⟨rfl, o', ev', hw'⟩
      have W4 := Lib.hid hw'
      clear hw' LKM c_ WR
      go_wp2_with fail
      exact ⟨⟨m + 1, o', ev', by go_num, by omega, W4.out⟩, by simp [intOf]; omega⟩
    · obtain rfl : m = xs.length := by omega
      obtain ⟨hw1, hw2⟩ := WR.out
      rw [List.take_length] at hw1 hw2
      clear WR HLK
      generalize hR : lookAll s l n f t xs = R at *
      have HR := Lib.hid hR
      clear hR
      obtain ⟨T, L⟩ := R
      dsimp only at *
      have W5 := Lib.hid hw1
      have HSL := Lib.hid (hw1.slice (by omega))
      clear hw1
      have p4_ := cellD W5.out.win 4 _ rfl
      have hpl : T.past.length ≤ 10 := by have := HOK.out.1.pl; omega
      have CLN := Lib.hid (clone_any T.past _ wr HSL.out (fun k c e => by simp at e) (by omega))
      go_wp2_with fail
      (with_reducible refine CLN.out.mono ?_)
      rintro r w6 ⟨pv', rfl, ho, hg⟩
      obtain ⟨oa, oc, hv⟩ := owns_slice ho
      subst hv
      have W6 := Lib.hid (W5.out.keep hg)
      have O6 := Lib.hid ho
      have hz5 := blkLt W5.out.win
      have G6 := Lib.hid (gb_trans G2.out W6.out.gr)
      have R6 := Lib.hid (kept0 W6.out.gr R2.out)
      have hr2 := blkLt R2.out
      obtain ⟨ea, ec, hev⟩ := owns_slice W6.out.own
      subst hev
      clear W5 hg ho p4_ CLN HSL R2
      have p4_ := cellD W6.out.win 4 _ rfl
      have pz_ := frozD W6.out.win
      have g7 : w6.grownBy (w6.setCell ⟨p, 4, none⟩ (.slice oa T.past.length oc)) (some p) := gb_setCell (a := ⟨p, 4, none⟩) (gb_refl _ _) (.inr rfl) _
      have P7 := Lib.hid (set_block W6.out.win 4 (.slice oa T.past.length oc))
      have O7 := Lib.hid (owns_keepp O6.out g7 hz5)
      have E7 := Lib.hid (W6.out.own.kept g7 (.inr W6.out.np))
      have lp7 := W6.out.lp
      have R7 := Lib.hid (keptp g7 R6.out (by omega))
      have G7 := Lib.hid (gbNew G6.out g7 (fun k hk => by simp at hk; have := W6.out.lp; have := blkLe G2.out; omega))
      clear g7 O6 R6 G6
      go_upto_region 14 with fail
      generalize w6.setCell ⟨p, 4, none⟩ (.slice oa T.past.length oc) = w7 at *
      clear p4_ pz_ W6
      have p0_ := cellD P7.out 0 _ rfl
      have p1_ := cellD P7.out 1 _ rfl
      have p2_ := cellD P7.out 2 _ rfl
      have p3_ := cellD P7.out 3 _ rfl
      have p4_ := cellD P7.out 4 _ rfl
      have p5_ := cellD P7.out 5 _ rfl
      have p6_ := cellD P7.out 6 _ rfl
      have p7_ := cellD P7.out 7 _ rfl
      have p8_ := cellD P7.out 8 _ rfl
      have p11_ := cellD P7.out 11 _ rfl
      have r0_ := cellD R7.out 0 _ rfl
      have r1_ := cellD R7.out 1 _ rfl
      have r2_ := cellD R7.out 2 _ rfl
      have r3_ := cellD R7.out 3 _ rfl
      have r4_ := cellD R7.out 4 _ rfl
      have r5_ := cellD R7.out 5 _ rfl
      have r6_ := cellD R7.out 6 _ rfl
      have r7_ := cellD R7.out 7 _ rfl
      have r8_ := cellD R7.out 8 _ rfl
      have rz_ := frozD R7.out
      have hrp : ¬ w.heap.size + 1 = p := by omega
      have hpr : ¬ p = w.heap.size + 1 := by omega
      have n5 := Lib.hid (drewH (set_block (set_block (set_block (set_block (set_block (set_block (set_block (set_block (set_block R7.out 0 (.int .i64 s)) 1 (.int .i64 l)) 2 (.int .i64 n)) 3 (.int .i64 f)) 4 (.slice oa T.past.length oc)) 5 (.int .i64 T.count)) 6 (.int .i64 T.on)) 7 (.int .i64 T.off)) 8 (.int .i64 T.pk)))
      have gR := Lib.hid (gb_setCell (a := ⟨w.heap.size + 1, 8, none⟩) (gb_setCell (a := ⟨w.heap.size + 1, 7, none⟩) (gb_setCell (a := ⟨w.heap.size + 1, 6, none⟩) (gb_setCell (a := ⟨w.heap.size + 1, 5, none⟩) (gb_setCell (a := ⟨w.heap.size + 1, 4, none⟩) (gb_setCell (a := ⟨w.heap.size + 1, 3, none⟩) (gb_setCell (a := ⟨w.heap.size + 1, 2, none⟩) (gb_setCell (a := ⟨w.heap.size + 1, 1, none⟩) (gb_setCell (a := ⟨w.heap.size + 1, 0, none⟩) (gb_refl w7 (some (w.heap.size + 1))) (.inr rfl) (.int .i64 s)) (.inr rfl) (.int .i64 l)) (.inr rfl) (.int .i64 n)) (.inr rfl) (.int .i64 f)) (.inr rfl) (.slice oa T.past.length oc)) (.inr rfl) (.int .i64 T.count)) (.inr rfl) (.int .i64 T.on)) (.inr rfl) (.int .i64 T.off)) (.inr rfl) (.int .i64 T.pk))
      go_region
      have gF := gb_drew gR.out
      have OF := Lib.hid ((Slb.of (owns_keepp O7.out gF (by omega)) rfl).mono (show w.heap.size ≤ wr.heap.size by have := blkLe G2.out; omega))
      have EF := Lib.hid (ownMono (owns_keepp E7.out gF (by omega)) (blkLe G2.out))
      have GF := Lib.hid (gbNew G7.out gF (fun k hk => by simp at hk; omega))
      clear gF gR O7 E7 G7 P7 R7
      go_wp2_with fail
      refine bodyPost_ret (v := .tuple #[.agg #[.int .i64 s, .int .i64 l, .int .i64 n, .int .i64 f, .slice oa T.past.length oc, .int .i64 T.count, .int .i64 T.on, .int .i64 T.off, .int .i64 T.pk], .slice ea L.length ec, .int .i64 0]) (by simp [results, Tryz.results14, go_sem, World.cell?, n5.out]) rfl ?_
      rw [HR.out]
      exact ⟨_, _, rfl, OF.out, EF.out, GF.out⟩
/-- The trigger that is open. -/
def openT (t : Wt) : List Tg := if 0 ≤ t.on then [⟨t.on, t.off, t.pk⟩] else []
set_option maxRecDepth 100000 in
set_option maxHeartbeats 20000000 in
theorem drun_any (s l n f : Int) (xs : List Int) (x : Value) (w : World) (hd : DetOk s l n f) (hsx : Sl w x xs) (hx : ∀ x ∈ xs, -1000 ≤ x ∧ x ≤ 1000) (hlx : xs.length ≤ 200) :
    Calls Tryz.prog 17 #[.agg #[.int .i64 s, .int .i64 l, .int .i64 n, .int .i64 f], x] w fun e w' => ∃ ev', e = .returned (.tuple #[ev', .int .i64 0]) ∧ w'.ownsRow w.heap.size 41 3 ev' ((lookAll s l n f ⟨[], 0, -1, 0, 0⟩ xs).2 ++ openT (lookAll s l n f ⟨[], 0, -1, 0, 0⟩ xs).1).length (flatT ((lookAll s l n f ⟨[], 0, -1, 0, 0⟩ xs).2 ++ openT (lookAll s l n f ⟨[], 0, -1, 0, 0⟩ xs).1)) ∧ w.grownBy w' none := by
  obtain ⟨a2, c2, rfl⟩ := hsx.shape'
  have hl9 := hd.l1; have hs9 := hd.s1
  have ok := WtOk.start (l := l) (by omega)
  have HOK := Lib.hid (lookAll_ok (s := s) (n := n) (f := f) (show 1 < l by omega) xs ⟨[], 0, -1, 0, 0⟩ ok hx)
  have HV := Lib.hid (fun (u : World) => dvalid_any s l n f u hd)
  have HST := Lib.hid (fun (u : World) => dstart_any s l n f u hd)
  have hb : xs.any badS = false := any_bad fun x h => by have := hx x h; simp [badS]; omega
  have HC := Lib.hid (fun (u : World) (hu : w.grownBy u none) => hb ▸ ccontainsD_any xs _ u (hsx.later hu (by simp)))
  have HOP := Lib.hid (fun (u : World) => dopen_any s l n f [] (.slice none 0 0) 0 (-1) 0 0 u hd (.inl ⟨rfl, _, _, rfl⟩) (by simp) (by simp; omega))
  have HLK := Lib.hid (fun (w0 : World) (p g E m o : Nat) (ev : Value) (u : World) (x : Int) => winM_look w0 p g E s l n f ⟨[], 0, -1, 0, 0⟩ xs m o ev u x hd ok hx (by decide) hlx)
  have HSX := Lib.hid (fun (u : World) (hu : w.grownBy u none) => hsx.later hu (by simp))
  clear hd ok hsx hx hb
  have B1 := kbox (w := w) #[.int .i64 s, .int .i64 l, .int .i64 n, .int .i64 f] 31
  have G1 := Lib.hid (gb_alloc (gb_refl w none) (.cells #[.int .i64 s, .int .i64 l, .int .i64 n, .int .i64 f] 31))
  go_enter Tryz.func17, Tryz.ntmps17
  go_wp2_with fail
  generalize w.alloc (.cells #[.int .i64 s, .int .i64 l, .int .i64 n, .int .i64 f] 31) = w1 at *
  (with_reducible refine (HV.out _).mono ?_)
  rintro r w2 ⟨rfl, hg⟩
  have B2 := Lib.hid (kept0 hg B1.out); have G2 := Lib.hid (gb_trans G1.out hg)
  clear hg B1 G1 HV
  have K2 := Lib.hid (HC.out _ G2.out)
  clear HC
  have f0_ := cellD B2.out 0 _ rfl
  have f1_ := cellD B2.out 1 _ rfl
  have f2_ := cellD B2.out 2 _ rfl
  have f3_ := cellD B2.out 3 _ rfl
  go_wp2_with (first | (go_at_call 37; (refine K2.out.mono ?_); rintro r w' ⟨rfl, rfl⟩))
  (with_reducible refine (HST.out _).mono ?_)
  rintro r w3 ⟨rfl, hg⟩
  have G3 := Lib.hid (gb_trans G2.out hg)
  clear hg K2 f0_ f1_ f2_ f3_ HST B2 G2
  have G4 := Lib.hid (gb_trans G3.out (gb_alloc (gb_refl w3 none) (.cells #[.int .i64 s, .int .i64 l, .int .i64 n, .int .i64 f, .slice none 0 0, .int .i64 0, .int .i64 (-1), .int .i64 0, .int .i64 0] 43)))
  go_wp2_with fail
  generalize w3.alloc (.cells #[.int .i64 s, .int .i64 l, .int .i64 n, .int .i64 f, .slice none 0 0, .int .i64 0, .int .i64 (-1), .int .i64 0, .int .i64 0] 43) = w4 at *
  (with_reducible refine (HOP.out _).mono ?_)
  rintro r w5 ⟨p, g, rfl, hw⟩
  have WM : Hid (WinM w4 p g (0 + 512) s l n f ⟨[], 0, -1, 0, 0⟩ xs 0 0 (.slice none 0 0) w5) := Lib.hid ⟨hw, by simp [lookAll]⟩
  clear hw HOP
  go_wp2_with fail
  go_loopw [10, 31] (fun _ k wr => ∃ (m o : Nat) (ev : Value), k = .int .i64 m ∧ m ≤ xs.length ∧ WinM w4 p g (0 + 512) s l n f ⟨[], 0, -1, 0, 0⟩ xs m o ev wr) (fun _ k _ => xs.length - (intOf k).toNat)
  case atStart => exact ⟨0, 0, _, rfl, by omega, WM.out⟩
  case round =>
    obtain ⟨m, o, ev, rfl, hm, hw⟩ := hrel
    have WR := Lib.hid hw
    clear hw WM
    by_cases hlt : m < xs.length
    · obtain ⟨y, hy⟩ : ∃ y, xs[m] = y := ⟨_, rfl⟩
      have hsx := HSX.out wr (gb_trans G4.out WR.out.1.gr)
      obtain ⟨b, off, cap, hbe, hbl, hbc, hbc2, hcell⟩ := hsx.block (by omega)
      simp at hbe
      obtain ⟨rfl, rfl⟩ := hbe
      have c_ := (hcell m hlt).trans (by rw [List.getElem?_eq_getElem hlt, Option.getD_some, hy])
      have LKM := Lib.hid (HLK.out w4 p g (0 + 512) m o ev wr y rfl hlt hy WR.out)
      clear hsx hcell hy
      go_wp2_with fail
      (with_reducible refine LKM.out.mono ?_)
      rintro r w6 ⟨rfl, o', ev', hw'⟩
      have W6 := Lib.hid hw'
      clear hw' LKM c_ WR
      go_wp2_with fail
      exact ⟨⟨m + 1, o', ev', by go_num, by omega, W6.out⟩, by simp [intOf]; omega⟩
    · obtain rfl : m = xs.length := by omega
      obtain ⟨hw1, hw2⟩ := WR.out
      rw [List.take_length] at hw1 hw2
      clear WR HLK
      generalize hR : lookAll s l n f ⟨[], 0, -1, 0, 0⟩ xs = R at *
      have HR := Lib.hid hR
      clear hR
      obtain ⟨T, L⟩ := R
      dsimp only at *
      have W5 := Lib.hid hw1
      clear hw1
      have hLl : L.length ≤ 200 := by have := HOK.out.2.2; omega
      obtain ⟨ea, ec, hev⟩ := owns_slice W5.out.own
      subst hev
      have GW := Lib.hid (gb_trans G4.out W5.out.gr)
      by_cases hon : 0 ≤ T.on
      rotate_left
      · have HO : Hid (openT T = []) := Lib.hid (if_neg hon)
        have p6_ := cellD W5.out.win 6 _ rfl
        have p11_ := cellD W5.out.win 11 _ rfl
        go_wp2_with fail
        go_ret2
        rw [HR.out]
        refine ⟨_, rfl, ?_, GW.out⟩
        dsimp only
        rw [HO.out, List.append_nil]
        exact ownMono W5.out.own (blkLe G4.out)
      have HO : Hid (openT T = [⟨T.on, T.off, T.pk⟩]) := Lib.hid (if_pos hon)
      have hq5 : ∀ g, (Value.slice ea L.length ec).ownBlock = some g → g < wr.heap.size := fun g hg => (W5.out.own.lt g hg).2
      have hze := blkLe W5.out.gr
      have k6_ := cellD W5.out.win 6 _ rfl
      have k7_ := cellD W5.out.win 7 _ rfl
      have k8_ := cellD W5.out.win 8 _ rfl
      have k11_ := cellD W5.out.win 11 _ rfl
      have up_ := fun (u : Cls (OwG (.slice ea L.length ec) w4.heap.size 41 3 L.length (flatT L) wr)) (k : Nat) => OwG.cell (blkLt W5.out.win) (fun e => W5.out.np e.symm) k u
      go_wp2_with fail
      refine Rg.region (OwG (.slice ea L.length ec) w4.heap.size 41 3 L.length (flatT L) wr) (OwR (.slice ea L.length ec) 11) (fun k => if k = 10 then some (isOneO wr #[.int .i64 T.on, .int .i64 T.off, .int .i64 T.pk] 41) else if k = 11 then some (isGrownO wr w4.heap.size 41 3 L.length (flatT L) (Tg.cells ⟨T.on, T.off, T.pk⟩) (.slice ea L.length ec)) else none) (fun _ => false) 0 12 (by kernel_rfl) (by kernel_rfl) (by kernel_rfl) (by kernel_rfl) (by kernel_rfl) (by kernel_rfl) (by kernel_rfl) OwR.size (OwG.start W5.out.own) (fun hne => ?_)
      (repeat (refine rLexL_quiet (by rfl) (by rfl) (by rfl) (by rfl) ?_; go_big_quiet_step (fail); refine wpQuiet_nil ?_))
      refine rLexL_val (.pointer (some ⟨p, 0, none⟩)) (by rfl) (by rfl) (by rfl) (by rfl) (fun _ => by go_simp) ?_
      simp only [Act.put, List.setIfInBounds_toArray, List.set_cons_zero, List.set_cons_succ]
      (repeat (refine rLexL_quiet (by rfl) (by rfl) (by rfl) (by rfl) ?_; go_big_quiet_step (fail); refine wpQuiet_nil ?_))
      refine rLexL_val (.pointer (some ⟨p, 0, none⟩)) (by rfl) (by rfl) (by rfl) (by rfl) (fun _ => by go_simp) ?_
      simp only [Act.put, List.setIfInBounds_toArray, List.set_cons_zero, List.set_cons_succ]
      (repeat (refine rLexL_quiet (by rfl) (by rfl) (by rfl) (by rfl) ?_; go_big_quiet_step (fail); refine wpQuiet_nil ?_))
      refine rg_litO (by decide) hq5 #[.int .i64 T.on, .int .i64 T.off, .int .i64 T.pk] 41 rfl rfl (fun _ => by go_simp) (fun b10 hb10 => ?_)
      simp only [Act.put, List.setIfInBounds_toArray, List.set_cons_zero, List.set_cons_succ]
      (repeat (refine rLexL_quiet (by rfl) (by rfl) (by rfl) (by rfl) ?_; go_big_quiet_step (fail); refine wpQuiet_nil ?_))
      refine rg_pushO rfl hze (Tg.cells ⟨T.on, T.off, T.pk⟩) _ _ 46 41 (.agg #[.int .i64 0, .int .i64 0, .int .i64 0]) 24 Tryz.underlying46 Tryz.infoTrigT rfl (by decide) b10 10 rfl rfl rfl rfl rfl ⟨⟨10, .data⟩, by simp, rfl, rfl⟩ rfl rfl (by simp [Tg.cells, Value.oneCell']) (by omega) (by omega) (fun v11 u11 hv11 => ?_)
      obtain ⟨ea', ec', hev⟩ := owns_slice hv11.1
      subst hev
      simp only [Act.put, List.setIfInBounds_toArray, List.set_cons_zero, List.set_cons_succ]
      rintro wq ⟨hgq, hoq⟩ hf -
      obtain ⟨ho7, hb7⟩ := hf 11
      have hb7' : ∀ k, (Value.slice ea' (L.length + 1) ec').ownBlock = some k → (Value.slice ea L.length ec).ownBlock = some k ∨ wr.heap.size ≤ k := fun k hk => by
        rcases hb7 with h | h
        · exact .inl (h ▸ hk)
        · exact .inr (h k hk)
      have W7 := Lib.hid (W5.out.ended hgq ho7 hb7')
      have x11_ := cellD (keptv hgq W5.out.win (fun e => W5.out.np e.symm)) 11 _ rfl
      have xz_ := frozD (keptv hgq W5.out.win (fun e => W5.out.np e.symm))
      have GF := Lib.hid (gb_trans G4.out W7.out.gr)
      clear hf hgq hoq ho7 hb7 hb7' hv11 W5 up_ k6_ k7_ k8_ k11_ hne hq5
      go_upto_region 16 with fail
      clear x11_ xz_
      generalize wq.setCell ⟨p, 11, none⟩ (.slice ea' (L.length + 1) ec') = w7 at *
      have p11_ := cellD W7.out.win 11 _ rfl
      go_wp2_with fail
      go_ret2
      rw [HR.out]
      refine ⟨_, rfl, ?_, GF.out⟩
      dsimp only
      rw [HO.out, show (L ++ [(⟨T.on, T.off, T.pk⟩ : Tg)]).length = L.length + 1 by simp]
      have h := ownMono W7.out.own (blkLe G4.out)
      rw [show (L ++ [(⟨T.on, T.off, T.pk⟩ : Tg)]).length = L.length + 1 by simp] at h
      exact h
set_option maxRecDepth 100000 in
set_option maxHeartbeats 4000000 in
theorem dfinish_any (s l n f : Int) (t : Wt) (pv : Value) (w : World) (hd : DetOk s l n f) (ok : WtOk l t) (hsp : Sl w pv t.past) (hc : t.count ≤ 1000) :
    Calls Tryz.prog 15 #[.agg #[.int .i64 s, .int .i64 l, .int .i64 n, .int .i64 f, pv, .int .i64 t.count, .int .i64 t.on, .int .i64 t.off, .int .i64 t.pk]] w fun e w' => ∃ ev', e = .returned (.tuple #[ev', .int .i64 0]) ∧ w'.ownsRow w.heap.size 41 3 ev' (openT t).length (flatT (openT t)) ∧ w.grownBy w' none := by
  obtain ⟨a1, c1, rfl⟩ := hsp.shape'
  have HV := Lib.hid (fun (u : World) (hu : w.grownBy u none) => dvalidwatch_any s l n f t.past _ t.count t.on t.off t.pk u hd (hsp.later hu (by simp)) ok.px ok.pl ⟨ok.c1, by omega⟩ ok.c2 ok.op)
  clear hd ok hsp
  have B1 := kbox (w := w) #[.int .i64 s, .int .i64 l, .int .i64 n, .int .i64 f, .slice a1 t.past.length c1, .int .i64 t.count, .int .i64 t.on, .int .i64 t.off, .int .i64 t.pk] 43
  have G1 := Lib.hid (gb_alloc (gb_refl w none) (.cells #[.int .i64 s, .int .i64 l, .int .i64 n, .int .i64 f, .slice a1 t.past.length c1, .int .i64 t.count, .int .i64 t.on, .int .i64 t.off, .int .i64 t.pk] 43))
  go_enter Tryz.func15, Tryz.ntmps15
  go_wp2_with fail
  generalize w.alloc (.cells #[.int .i64 s, .int .i64 l, .int .i64 n, .int .i64 f, .slice a1 t.past.length c1, .int .i64 t.count, .int .i64 t.on, .int .i64 t.off, .int .i64 t.pk] 43) = w1 at *
  (with_reducible refine (HV.out _ G1.out).mono ?_)
  rintro r w2 ⟨rfl, hg⟩
  have B2 := Lib.hid (kept0 hg B1.out); have G2 := Lib.hid (gb_trans G1.out hg)
  clear hg B1 G1 HV
  have f6_ := cellD B2.out 6 _ rfl
  have f7_ := cellD B2.out 7 _ rfl
  have f8_ := cellD B2.out 8 _ rfl
  by_cases hon : 0 ≤ t.on
  · have HO : Hid (openT t = [⟨t.on, t.off, t.pk⟩]) := Lib.hid (if_pos hon)
    have hn : ¬ t.on < 0 := by omega
    go_wp2_with fail
    go_ret2
    rw [HO.out]
    exact ⟨_, rfl, ownMono (World.ownsRow_lit (base := w2.heap.size) (e := 41) (size := 3) w2 #[.int .i64 t.on, .int .i64 t.off, .int .i64 t.pk] 1 (Nat.le_refl _) (by unfold maxLen; omega) rfl) (blkLe G2.out), gb_alloc G2.out _⟩
  · have HO : Hid (openT t = []) := Lib.hid (if_neg hon)
    have hn : t.on < 0 := by omega
    go_wp2_with fail
    go_ret2
    rw [HO.out]
    exact ⟨_, rfl, World.ownsRow_nil _ _ _ _, G2.out⟩
end Go.Proofs.YtlddgafbgaaiiaaGreatDoor
namespace Go.Proofs.YtlddgafbgaaiiaaGreatDoor
set_option linter.all false
open Go.RowKit Rg
theorem flatT_at : ∀ (L : List Tg) (i : Nat) (h : i < L.length), (flatT L)[i * 3]? = some (.int .i64 L[i].on) ∧ (flatT L)[i * 3 + 1]? = some (.int .i64 L[i].off) ∧ (flatT L)[i * 3 + 2]? = some (.int .i64 L[i].pk)
  | [], i, h => by simp at h
  | t :: L, 0, h => by simp [flatT, Tg.cells]
  | t :: L, i + 1, h => by
    have ih := flatT_at L i (by simpa using h)
    have e : flatT (t :: L) = t.cells ++ flatT L := by simp [flatT]
    have hl : t.cells.length = 3 := rfl
    rw [e, show (i + 1) * 3 = t.cells.length + i * 3 by rw [hl]; omega, show t.cells.length + i * 3 + 1 = t.cells.length + (i * 3 + 1) by omega, show t.cells.length + i * 3 + 2 = t.cells.length + (i * 3 + 2) by omega]
    simp only [List.getElem?_append_right (Nat.le_add_right _ _), Nat.add_sub_cancel_left, List.getElem_cons_succ]
    exact ih
theorem run_neqT (a b c : Int) (w : World) : (binOp .neq 41 (.agg #[.int .i64 a, .int .i64 b, .int .i64 c]) (.agg #[.int .i64 a, .int .i64 b, .int .i64 c])).run Tryz.prog w = .ok (.bool false) w := by
  simp [go_sem]
attribute [local go_sem high] run_neqT
set_option maxRecDepth 100000 in
set_option maxHeartbeats 2000000 in
theorem same22_any (L : List Tg) (va vb : Value) (B : Nat) (w : World) (ha : w.ownsRow B 41 3 va L.length (flatT L)) (hb : w.ownsRow B 41 3 vb L.length (flatT L)) (hl : L.length ≤ 10000) :
    Calls Tryz.prog 18 #[va, vb] w fun e w' => e = .returned (.bool true) ∧ w.grownBy w' none := by
  by_cases h0 : L.length = 0
  · obtain ⟨aa, ac, rfl⟩ := owns_slice ha
    obtain ⟨ba, bc, rfl⟩ := owns_slice hb
    rw [h0]
    clear ha hb
    go_enter Tryz.func18, Tryz.ntmps18
    go_wp2
    go_rounds 1
    go_ret
    exact ⟨rfl, gb_refl _ _⟩
  · obtain ⟨ga, ac, rfl, -, hga⟩ := ha.form (by omega)
    obtain ⟨gb, bc, rfl, -, hgb⟩ := hb.form (by omega)
    have HA := Lib.hid (fun j hj => ha.cellAt j hj)
    have HB := Lib.hid (fun j hj => hb.cellAt j hj)
    have hac : L.length ≤ ac ∧ ac ≤ 9223372036854775807 := by
      rcases ha.2 with ⟨e, -⟩ | ⟨g, cap, cur, e, _, _, h1, h2, _⟩
      · cases e
      · simp at e; obtain ⟨-, rfl⟩ := e; unfold maxLen at h2; omega
    have hbc : L.length ≤ bc ∧ bc ≤ 9223372036854775807 := by
      rcases hb.2 with ⟨e, -⟩ | ⟨g, cap, cur, e, _, _, h1, h2, _⟩
      · cases e
      · simp at e; obtain ⟨-, rfl⟩ := e; unfold maxLen at h2; omega
    clear ha hb
    go_enter Tryz.func18, Tryz.ntmps18
    go_wp2_with fail
    go_loopw [5] (fun i wr => ∃ k : Nat, k ≤ L.length ∧ i = .int .i64 k ∧ w.grownBy wr none) (fun i _ => L.length - (intOf i).toNat)
    case atStart => exact ⟨0, by omega, rfl, gb_refl _ _⟩
    case round =>
      obtain ⟨k, hk, rfl, hg⟩ := hrel
      have G := Lib.hid hg
      by_cases hlt : k < L.length
      · obtain ⟨t, ht⟩ : ∃ t, L[k] = t := ⟨_, rfl⟩
        obtain ⟨e0, e1, e2⟩ := flatT_at L k hlt
        rw [ht] at e0 e1 e2
        have a0_ := (gb_cell hg hga (o := k * 3) (by simp)).trans ((HA.out (k * 3) (by omega)).trans e0)
        have a1_ := (gb_cell hg hga (o := k * 3 + 1) (by simp)).trans ((HA.out (k * 3 + 1) (by omega)).trans e1)
        have a2_ := (gb_cell hg hga (o := k * 3 + 2) (by simp)).trans ((HA.out (k * 3 + 2) (by omega)).trans e2)
        have b0_ := (gb_cell hg hgb (o := k * 3) (by simp)).trans ((HB.out (k * 3) (by omega)).trans e0)
        have b1_ := (gb_cell hg hgb (o := k * 3 + 1) (by simp)).trans ((HB.out (k * 3 + 1) (by omega)).trans e1)
        have b2_ := (gb_cell hg hgb (o := k * 3 + 2) (by simp)).trans ((HB.out (k * 3 + 2) (by omega)).trans e2)
        clear hg ht e0 e1 e2
        go_wp2_with fail
        go_region
        go_wp2_with fail
        exact ⟨⟨k + 1, by omega, by go_num, gb_drew G.out⟩, by simp [intOf]; omega⟩
      · go_wp2_with fail
        go_ret
        exact ⟨rfl, G.out⟩
end Go.Proofs.YtlddgafbgaaiiaaGreatDoor
