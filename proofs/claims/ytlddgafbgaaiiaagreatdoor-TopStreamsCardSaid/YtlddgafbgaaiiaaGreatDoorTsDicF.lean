/- DicF -/
import Derived.Maps.AppendAt
import Derived.Deep.MidRow
import Derived.Test.YtlddgafbgaaiiaaGreatDoorTsDic
import Derived.Test.YtlddgafbgaaiiaaGreatDoorTsRgOwn
namespace Go.Proofs.YtlddgafbgaaiiaaGreatDoor
set_option linter.all false
open Go.RowKit Rg
/-- The sum of the absolute values. -/
def absS (l : List Int) : Int := (l.map fun x => max x (-x)).sum
theorem absS_snoc (l : List Int) (x : Int) : absS (l ++ [x]) = absS l + max x (-x) := by simp [absS]
theorem absS_nonneg (l : List Int) : 0 ≤ absS l := by
  induction l with
  | nil => simp [absS]
  | cons a l ih => simp only [absS, List.map_cons, List.sum_cons] at ih ⊢; omega
/-- What the loop keeps: the taps so far lie in the block F. -/
structure FilAt (B p R F : Nat) (w : World) (fa sh : Int) (taps : List Int) (tv : Value) (u : World) : Prop where
  r : u.heap[R]? = some (.cells #[.slice none 0 0, .int .i64 0, .int .i64 0] 28 (0, 0))
  f : u.heap[F]? = some (.cells #[tv, .int .i64 fa, .int .i64 sh] 28 (0, 0))
  own : u.ownsRow (F + 1) 3 1 tv taps.length (taps.map (Value.int .i64))
  dc : Dc B u p
  g : w.grownBy u (some p)
  rf : R < F
theorem FilAt.draw {B p R F : Nat} {w u u' : World} {fa sh : Int} {taps : List Int} {tv : Value} (h : FilAt B p R F w fa sh taps tv u) (hd : Dc B u' p) (hg : u.grownBy u' (some p)) (hp : p < R) : FilAt B p R F w fa sh taps tv u' := by
  have := h.rf
  refine ⟨keptp hg h.r (by omega), keptp hg h.f (by omega), owns_keepp h.own hg (by omega), hd, gb_trans h.g hg, h.rf⟩
set_option maxRecDepth 100000 in
set_option maxHeartbeats 4000000 in
theorem dfilter_any (B : Nat) (w : World) (p : Nat) (h : Dc B w p) :
    Calls Tryz.prog 7 #[.pointer (some ⟨p, 0, none⟩)] w fun e w' => ∃ (tv : Value) (fa sh : Int) (taps : List Int), e = .returned (.agg #[tv, .int .i64 fa, .int .i64 sh]) ∧
      (1 ≤ fa ∧ fa ≤ 3) ∧ (0 ≤ sh ∧ sh ≤ 6) ∧ 1 ≤ taps.length ∧ taps.length ≤ 5 ∧ absS taps ≤ 2 ^ sh.toNat ∧ w'.ownsRow w.heap.size 3 1 tv taps.length (taps.map (Value.int .i64)) ∧ Dc B w' p ∧ w.grownBy w' (some p) := by
  have hp := h.lt
  have g0 := gb_alloc (gb_refl w none) (.cells #[.slice none 0 0, .int .i64 0, .int .i64 0] 28)
  have D1 := Lib.hid (h.later g0 (by simp))
  have R1 := Lib.hid (heap_alloc_new w (.cells #[.slice none 0 0, .int .i64 0, .int .i64 0] 28))
  have G1 := Lib.hid g0
  clear h g0
  go_enter Tryz.func7, Tryz.ntmps7
  go_wp2_with fail
  generalize hw1 : w.alloc (.cells #[.slice none 0 0, .int .i64 0, .int .i64 0] 28) = w1 at *
  have hs1 : w1.heap.size = w.heap.size + 1 := by rw [← hw1]; simp
  (with_reducible refine (dpick4_any B w1 p 1 1 2 3 D1.out (w.heap.size + 1) hs1).mono ?_)
  rintro r w2 ⟨fa, rfl, hfa, hd2, hg2⟩
  have D2 := Lib.hid hd2; have G2 := Lib.hid (gb_trans (gb_none G1.out) hg2)
  have R2 := Lib.hid (keptp hg2 R1.out (by omega))
  have HFA : Hid (1 ≤ fa ∧ fa ≤ 3) := Lib.hid (by simp at hfa; omega)
  clear hd2 hg2 hfa D1 G1 R1
  go_wp2_with fail
  (with_reducible refine (dpick4_any B w2 p 0 2 4 6 D2.out w2.heap.size rfl).mono ?_)
  rintro r w3 ⟨sh, rfl, hsh, hd3, hg3⟩
  have D3 := Lib.hid hd3; have G3 := Lib.hid (gb_trans G2.out hg3)
  have R3 := Lib.hid (keptp hg3 R2.out (by omega))
  have HSH := Lib.hid hsh
  have hsh0 : 0 ≤ sh ∧ sh ≤ 6 := by simp at hsh; omega
  clear hd3 hg3 hsh D2 G2 R2
  go_wp2_with fail
  obtain ⟨L, hL, hL1, hL2⟩ : ∃ L : Int, (2 : Int) ^ sh.toNat = L ∧ 1 ≤ L ∧ L ≤ 64 := by
    have := HSH.out
    simp at this
    rcases this with rfl | rfl | rfl | rfl
    · exact ⟨1, by decide⟩
    · exact ⟨4, by decide⟩
    · exact ⟨16, by decide⟩
    · exact ⟨64, by decide⟩
  have hwL : wrap64 L = L := IntWalk.wrap64_in _ (by omega)
  have HL2 := Lib.hid hL
  simp only [hL, hwL]
  clear hL hwL HSH
  have hg4 := gb_alloc (gb_refl w3 none) (.cells #[.slice none 0 0, .int .i64 fa, .int .i64 sh] 28)
  have hz3 : w.heap.size < w3.heap.size := blkLt R3.out
  have A4 : Hid (FilAt B p w.heap.size w3.heap.size w fa sh [] (.slice none 0 0) (w3.alloc (.cells #[.slice none 0 0, .int .i64 fa, .int .i64 sh] 28))) := Lib.hid ⟨kept0 hg4 R3.out, heap_alloc_new w3 _, World.ownsRow_nil _ _ _ _, D3.out.later hg4 (by simp), gb_trans G3.out (gb_none hg4), hz3⟩
  clear hg4 D3 G3 R3
  (with_reducible refine (dnext_any B _ p 5 A4.out.dc (by omega) (by omega)).mono ?_)
  rintro r w5 ⟨n5, rfl, hn5, hd5, hg5⟩
  have A5 := Lib.hid (A4.out.draw hd5 hg5 hp.2)
  clear hd5 hg5 A4
  generalize w3.heap.size = F at *
  obtain ⟨N, rfl⟩ : ∃ N : Nat, n5 = (N : Int) := ⟨n5.toNat, by omega⟩
  have hN : N < 5 := by omega
  clear hn5
  go_wp2_with fail
  go_loopw [4, 5, 6] (fun lv iv _ wr => ∃ (l : Int) (i : Nat) (taps : List Int) (tv : Value), lv = .int .i64 l ∧ iv = .int .i64 i ∧ taps.length + i = N + 1 ∧ 0 ≤ l ∧ absS taps + l = L ∧ FilAt B p w.heap.size F w fa sh taps tv wr) (fun _ iv _ _ => (intOf iv).toNat)
  case atStart => exact ⟨L, N + 1, [], _, rfl, by go_num, by simp, by omega, by simp [absS], A5.out⟩
  case round =>
    obtain ⟨l, i, taps, tv, rfl, rfl, hlen, hl0, hsum, ha⟩ := hrel
    have HS := Lib.hid hsum; have HLN := Lib.hid hlen
    have AR := Lib.hid ha
    have hlL : l ≤ L := by have := absS_nonneg taps; omega
    have hi5 : i ≤ 5 := by omega
    have ht5 : taps.length ≤ 5 := by omega
    obtain ⟨oa, oc, rfl⟩ := owns_slice ha.own
    have c0_ := cellD ha.f 0 _ rfl
    have c1_ := cellD ha.f 1 _ rfl
    have c2_ := cellD ha.f 2 _ rfl
    have r0_ := cellD ha.r 0 _ rfl
    have r1_ := cellD ha.r 1 _ rfl
    have r2_ := cellD ha.r 2 _ rfl
    have fr_ := frozD ha.r
    clear ha hsum hlen A5
    by_cases hi : 0 < i
    · clear c0_ c1_ c2_ r0_ r1_ r2_ fr_
      go_wp2_with fail
      (with_reducible refine (dnext_any B _ p (2 * l + 1) AR.out.dc (by omega) (by omega)).mono ?_)
      rintro r w6 ⟨x, rfl, hx, hd6, hg6⟩
      have A6 := Lib.hid (AR.out.draw hd6 hg6 hp.2)
      clear hd6 hg6 AR
      have hpF : p < w.heap.size ∧ w.heap.size < F := ⟨hp.2, A6.out.rf⟩
      have hFl := blkLt A6.out.f
      have c0_ := cellD A6.out.f 0 _ rfl
      have c1_ := cellD A6.out.f 1 _ rfl
      have c2_ := cellD A6.out.f 2 _ rfl
      obtain ⟨y, hy⟩ : ∃ y, x - l = y := ⟨_, rfl⟩
      have hyl : -l ≤ y ∧ y ≤ l := by omega
      have wy_ : IntKind.i64.wrap (x - l) = y := by rw [IntKind.wrap_i64]; omega
      have wy'_ : wrap64 (x - l) = y := by rw [IntWalk.wrap64_in _ (by omega)]; exact hy
      obtain ⟨m, hm⟩ : ∃ m, max y (-y) = m := ⟨_, rfl⟩
      have hml : 0 ≤ m ∧ m ≤ l := by omega
      have HM := Lib.hid hm
      go_wp2_with (at_builtin; go_loud (refine pushAt rfl _ _ 22 rfl (F + 1) 3 (.int .i64 0) 1 8 Tryz.underlying22 Tryz.infoIntD rfl (by decide) (by decide) _ _ _ rfl (A6.out.own.alloc _) w6.heap.size 1 [.int .i64 y] 3 rfl (heap_alloc_new w6 _) rfl (by simp [Value.oneCell']) (by omega) (by simp; omega) ?_); refine Hid.out ?_)
      all_goals
        refine Lib.hid ?_
        intro v' w7 h1 hg hb
        obtain ⟨oa', oc', rfl⟩ := owns_slice h1
        have hsz7 := hg.size
        simp at hsz7
        have ho : ∀ b, b ≤ F → some b ≠ (Value.slice oa taps.length oc).ownBlock := fun b hb e => by have := (A6.out.own.lt b e.symm).1; omega
        have f7 := keptv hg (heapOld A6.out.f) (ho F (by omega))
        have g7 : w7.grownBy (w7.setCell ⟨F, 0, none⟩ (.slice oa' (taps.length + 1) oc')) (some F) := gb_setCell (gb_refl _ _) (.inr rfl) _
        have A7 : Hid (FilAt B p w.heap.size F w fa sh (taps ++ [y]) (.slice oa' (taps.length + 1) oc') (w7.setCell ⟨F, 0, none⟩ (.slice oa' (taps.length + 1) oc'))) := Lib.hid ⟨keptp g7 (keptv hg (heapOld A6.out.r) (ho _ (by omega))) (by omega), set_block f7 0 _, by rw [List.length_append, List.map_append]; exact owns_keepp h1 g7 (by omega),
          ((A6.out.dc.later (gb_alloc (gb_refl _ none) _) (by simp)).later hg (fun q h => by have := A6.out.own.lt q h; have := A6.out.dc.lt; omega)).later g7 (fun q h => by have := A6.out.dc.lt; simp at h; omega),
          gbNew (gbNew (gb_trans A6.out.g (gb_none (gb_alloc (gb_refl _ none) _))) hg (fun k hk => by have := (A6.out.own.lt k hk).1; omega)) g7 (fun k hk => by simp at hk; omega), A6.out.rf⟩
        have o_ := cellD f7 0 _ rfl
        have z_ := frozD f7 0
        clear f7 g7 hg hb
        go_wp2_with fail
        exact ⟨⟨_, i - 1, taps ++ [y], _, rfl, by go_num, by have := HLN.out; simp; omega, by omega, by have := HS.out; rw [absS_snoc]; omega, A7.out⟩, by simp [intOf]; omega⟩
    · have hrf := AR.out.rf
      have hl5 := HLN.out
      have hsm := HS.out
      have n3 := Lib.hid (set_block (set_block (set_block AR.out.r 0 (.slice oa taps.length oc)) 1 (.int .i64 fa)) 2 (.int .i64 sh))
      have gR := Lib.hid (gb_setCell (a := ⟨w.heap.size, 2, none⟩) (gb_setCell (a := ⟨w.heap.size, 1, none⟩) (gb_setCell (a := ⟨w.heap.size, 0, none⟩) (gb_refl wr (some w.heap.size)) (.inr rfl) (.slice oa taps.length oc)) (.inr rfl) (.int .i64 fa)) (.inr rfl) (.int .i64 sh))
      go_wp2_with fail
      refine bodyPost_ret (v := .agg #[.slice oa taps.length oc, .int .i64 fa, .int .i64 sh]) ?_ rfl ?_
      · simp [results, Tryz.results7, go_sem, World.cell?, n3.out]
      · refine ⟨_, _, _, taps, rfl, HFA.out, hsh0, by omega, ht5, by rw [HL2.out]; omega, ownMono (owns_keepp AR.out.own gR.out (by omega)) (by omega), AR.out.dc.later gR.out (fun q h => by have := AR.out.dc.lt; simp at h; omega), gbNew AR.out.g gR.out (fun k hk => by simp at hk; omega)⟩
/-- A detector. -/
structure DetOk (s l n f : Int) : Prop where
  s1 : 1 ≤ s ∧ s ≤ 3
  l1 : s < l ∧ l ≤ 9
  f1 : 1 ≤ f ∧ f ≤ n ∧ n ≤ 300
set_option maxRecDepth 100000 in
set_option maxHeartbeats 4000000 in
theorem ddetector_any (B : Nat) (w : World) (p : Nat) (h : Dc B w p) :
    Calls Tryz.prog 8 #[.pointer (some ⟨p, 0, none⟩)] w fun e w' => ∃ s l n f : Int, e = .returned (.agg #[.int .i64 s, .int .i64 l, .int .i64 n, .int .i64 f]) ∧ DetOk s l n f ∧ Dc B w' p ∧ w.grownBy w' (some p) := by
  have hp := h.lt
  have g0 := gb_alloc (gb_refl w none) (.cells #[.int .i64 0, .int .i64 0, .int .i64 0, .int .i64 0] 31)
  have D1 := Lib.hid (h.later g0 (by simp))
  have R1 := Lib.hid (heap_alloc_new w (.cells #[.int .i64 0, .int .i64 0, .int .i64 0, .int .i64 0] 31))
  have G1 := Lib.hid g0
  clear h g0
  go_enter Tryz.func8, Tryz.ntmps8
  go_wp2_with fail
  generalize w.alloc (.cells #[.int .i64 0, .int .i64 0, .int .i64 0, .int .i64 0] 31) = w1 at *
  (with_reducible refine (dnext_any B w1 p 3 D1.out (by omega) (by omega)).mono ?_)
  rintro r w2 ⟨a, rfl, ha, hd2, hg2⟩
  have D2 := Lib.hid hd2; have G2 := Lib.hid (gb_trans (gb_none G1.out) hg2)
  have R2 := Lib.hid (keptp hg2 R1.out (by omega))
  clear hd2 hg2 D1 G1 R1
  go_wp2_with fail
  (with_reducible refine (dpick3_any B w2 p 50 100 120 D2.out w2.heap.size rfl).mono ?_)
  rintro r w3 ⟨f, rfl, hf, hd3, hg3⟩
  have D3 := Lib.hid hd3; have G3 := Lib.hid (gb_trans G2.out hg3)
  have R3 := Lib.hid (keptp hg3 R2.out (by omega))
  have hf' : 1 ≤ f ∧ f ≤ 200 := by simp at hf; omega
  clear hd3 hg3 D2 G2 R2 hf
  go_wp2_with fail
  (with_reducible refine (dnext_any B w3 p 6 D3.out (by omega) (by omega)).mono ?_)
  rintro r w4 ⟨b, rfl, hb, hd4, hg4⟩
  have D4 := Lib.hid hd4; have G4 := Lib.hid (gb_trans G3.out hg4)
  have R4 := Lib.hid (keptp hg4 R3.out (by omega))
  clear hd4 hg4 D3 G3 R3
  go_wp2_with fail
  (with_reducible refine (dpick3_any B w4 p 0 50 100 D4.out w4.heap.size rfl).mono ?_)
  rintro r w5 ⟨n, rfl, hn, hd5, hg5⟩
  have D5 := Lib.hid hd5; have G5 := Lib.hid (gb_trans G4.out hg5)
  have R5 := Lib.hid (keptp hg5 R4.out (by omega))
  have hn' : 0 ≤ n ∧ n ≤ 100 := by simp at hn; omega
  clear hd5 hg5 D4 G4 R4 hn
  have r0_ := cellD R5.out 0 _ rfl
  have r1_ := cellD R5.out 1 _ rfl
  have r2_ := cellD R5.out 2 _ rfl
  have r3_ := cellD R5.out 3 _ rfl
  have fr_ := frozD R5.out
  have n3 := Lib.hid (set_block (set_block (set_block (set_block R5.out 0 (.int .i64 (1 + a))) 1 (.int .i64 (1 + a + 1 + b))) 2 (.int .i64 (f + n))) 3 (.int .i64 f))
  have gR := Lib.hid (gb_setCell (a := ⟨w.heap.size, 3, none⟩) (gb_setCell (a := ⟨w.heap.size, 2, none⟩) (gb_setCell (a := ⟨w.heap.size, 1, none⟩) (gb_setCell (a := ⟨w.heap.size, 0, none⟩) (gb_refl w5 (some w.heap.size)) (.inr rfl) (.int .i64 (1 + a))) (.inr rfl) (.int .i64 (1 + a + 1 + b))) (.inr rfl) (.int .i64 (f + n))) (.inr rfl) (.int .i64 f))
  go_wp2_with fail
  refine bodyPost_ret (v := .agg #[.int .i64 (1 + a), .int .i64 (1 + a + 1 + b), .int .i64 (f + n), .int .i64 f]) ?_ rfl ?_
  · simp [results, Tryz.results8, go_sem, World.cell?, n3.out]
  · exact ⟨_, _, _, _, rfl, ⟨by omega, by omega, by omega⟩, D5.out.later gR.out (fun q h => by have := D5.out.lt; simp at h; omega), gbNew G5.out gR.out (fun k hk => by simp at hk; omega)⟩
end Go.Proofs.YtlddgafbgaaiiaaGreatDoor
