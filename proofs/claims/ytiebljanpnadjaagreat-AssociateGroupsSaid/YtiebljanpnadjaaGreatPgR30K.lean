import Derived.Test.YtiebljanpnadjaaGreatPgR30H
namespace Go.Proofs.YtiebljanpnadjaaGreat
set_option linter.all false
open Go.RowKit Rg
theorem Sound.time {P : Prob} (h : Sound P) (x y z : Int) : -18014398509481984 ≤ (best P.cap P.phs (zonesL P x y z x y z)).1 ∧ (best P.cap P.phs (zonesL P x y z x y z)).1 ≤ 18014398509481984 := by
 obtain ⟨-, hm, -⟩ := best_spec (cap := P.cap) (phs := P.phs) (zs := zonesL P x y z x y z) (by rw [zonesL_length]; exact h.some.1)
 obtain ⟨q, hq, e⟩ := mem_timesOf.1 hm
 unfold zonesL at hq
 obtain ⟨a, ha, rfl⟩ := List.mem_map.1 hq
 have hp := phP_iff.1 (h.phase ha)
 have bb := bnd_bounds P.step P.ls P.hs x y z x y z a.x a.y a.z
 unfold zoneOf znF znT at e
 simp only [] at e
 rcases e with e | e <;> rw [e] <;> split <;> omega
theorem loc_res {Q : Prob} {tol : Int} {X : Loc} (h : locP Q tol = (X, 0)) : resEr Q X = 0 := by
 unfold locP at h
 by_cases hv : valE Q = 0
 rotate_left
 ·rw [if_pos hv] at h
  exact absurd (Prod.mk.inj h).2 hv
 rw [if_neg (by rw [hv]; simp)] at h
 by_cases ht : tol < 0
 ·rw [if_pos ht] at h
  exact absurd (Prod.mk.inj h).2 (by decide)
 rw [if_neg ht] at h
 have hS := sound_iff.1 hv
 rcases Same.run hS tol 3000 _ _ (Same.start Q) (Fine.start hS) with ⟨hrun, -⟩ | ⟨s, -, hrun, -, -, hF, hE⟩
 ·rw [hrun] at h
  exact absurd (Prod.mk.inj h).2 (by decide)
 rw [hrun] at h
 have hfd := hF.fd_end hE
 obtain ⟨p, -⟩ := hF.fin hS hfd s.h.length (Nat.le_refl _)
 obtain ⟨hb, -, hbt⟩ := hF.best hfd
 obtain rfl : s.fin s.h.length = X := (Prod.mk.inj h).1
 obtain ⟨p0, p1, p2, p3, -⟩ := p
 have hw := wiP_point hS.vb ⟨hb.1, hb.2.1⟩ ⟨hb.2.2.1, hb.2.2.2.1⟩ ⟨hb.2.2.2.2.1, hb.2.2.2.2.2⟩
 have hz : zonesE Q s.x.px s.x.py s.x.pz s.x.px s.x.py s.x.pz = 0 := by
  unfold zonesE
  rw [if_pos hv]
  exact (if_pos hw).trans (errOf_zero.2 fun a ha => hS.zone0 hw ha)
 have hm := hS.time s.x.px s.x.py s.x.pz
 unfold atT at hbt
 rw [if_pos hz] at hbt
 unfold resEr
 rw [p0, p1, p2, p3, if_neg (by rw [hz]; simp), if_neg (by rw [hbt]; omega)]
theorem rnd_lenA {A : Asc} {P : List Ph} : ∀ (f : Nat) (rest : List Nat) (gs : List Grp) (lf : List Nat), (rnd A P f rest gs lf).2.1.length ≤ gs.length + f
 | 0, _, _, _ => by simp [rnd]
 | f + 1, [], gs, lf => by simp [rnd]
 | f + 1, r :: rs, gs, lf => by
  rw [rnd]
  split
  ·have := rnd_lenA (A := A) (P := P) f rs gs (lf ++ [oA P r]); omega
  ·split
   ·simp
   ·split
    ·simp
    ·split
     ·have := rnd_lenA (A := A) (P := P) f rs gs (lf ++ [oA P r]); omega
     ·refine Nat.le_trans (rnd_lenA f _ _ _) ?_
      simp; omega
theorem rnd_len {A : Asc} {P : List Ph} {L : List Grv} (h : L.map Grv.g = (assocR A P).2.1) : L.length ≤ P.length + 1 := by
 have e : L.length = (assocR A P).2.1.length := by rw [← h, List.length_map]
 rw [e]
 unfold assocR
 split
 ·simp
 ·have := rnd_lenA (A := A) (P := P) (P.length + 1) (List.range P.length) [] []
  simpa using this
theorem rnd_lenB {A : Asc} {P : List Ph} : ∀ (f : Nat) (rest : List Nat) (gs : List Grp) (lf : List Nat), (rnd A P f rest gs lf).2.2.length ≤ lf.length + f
 | 0, _, _, _ => by simp [rnd]
 | f + 1, [], gs, lf => by simp [rnd]
 | f + 1, r :: rs, gs, lf => by
  rw [rnd]
  split
  ·have := rnd_lenB (A := A) (P := P) f rs gs (lf ++ [oA P r]); simp at this; omega
  ·split
   ·simp
   ·split
    ·simp
    ·split
     ·have := rnd_lenB (A := A) (P := P) f rs gs (lf ++ [oA P r]); simp at this; omega
     ·refine Nat.le_trans (rnd_lenB f _ _ _) ?_
      omega
theorem left_len {A : Asc} {P : List Ph} : (assocR A P).2.2.length ≤ P.length + 1 := by
 unfold assocR
 split
 ·simp
 ·have := rnd_lenB (A := A) (P := P) (P.length + 1) (List.range P.length) [] []
  simp only [srt_len, List.length_map]
  simpa using this
def BentA (B p : Nat) (w : World) (e : Ending) (w' : World) : Prop :=
 ∃ (A : Asc) (vl vh : Value), e = .returned (.agg (A.val vl vh)) ∧ AscIn A vl vh w' ∧ Apart p vl ∧ Apart p vh ∧ Src B w' p ∧ w.grownBy w' (some p)
structure BnC (w : World) (B p : Nat) (vl vh : Value) : Prop where
 q : B ≤ p ∧ p < w.heap.size
 ap : Apart p vl ∧ Apart p vh
 al : ∀ b off len cap, vl = .slice (some ⟨b, off, none⟩) len cap → 0 < len → b < w.heap.size ∨ w.heap.size + 1 < b
 ah : ∀ b off len cap, vh = .slice (some ⟨b, off, none⟩) len cap → 0 < len → b < w.heap.size ∨ w.heap.size + 1 < b
structure BnA (w : World) (B p : Nat) (vl vh : Value) (ls hs : List Int) (row : Array Value) (u : World) : Prop where
 T : u.heap[w.heap.size]? = some (.cells row 30 (0, 0))
 R : u.heap[w.heap.size + 1]? = some (.cells #[(0:Int), (0:Int), (0:Int), (0:Int), (0:Int), (0:Int), (0:Int), .slice none 0 0, .slice none 0 0, (0:Int), (0:Int), (0:Int), (0:Int), (0:Int)] 30 (0, 0))
 S : Src B u p
 G : w.grownBy u (some p)
 l : Sl u vl ls
 h : Sl u vh hs
section
variable {w u u' : World} {B p : Nat} {vl vh : Value} {ls hs : List Int} {row row' : Array Value}
theorem BnA.draw (c : BnC w B p vl vh) (h : BnA w B p vl vh ls hs row u) (hg : u.grownBy u' (some p)) (hS : Src B u' p) : BnA w B p vl vh ls hs row u' := by
 obtain ⟨c0, c1⟩ := c.q
 exact ⟨block_keptp hg h.T (by omega), block_keptp hg h.R (by omega), hS, gb_trans h.G hg, h.l.later hg (fun b off len cap e hl => by have := c.ap.1 b off len cap e hl; simp; omega), h.h.later hg (fun b off len cap e hl => by have := c.ap.2 b off len cap e hl; simp; omega)⟩
theorem BnA.part (c : BnC w B p vl vh) (h : BnA w B p vl vh ls hs row u) (ht : u'.heap[w.heap.size]? = some (.cells row' 30 (0, 0))) (hg : u.grownBy u' (some w.heap.size)) : BnA w B p vl vh ls hs row' u' := by
 obtain ⟨c0, c1⟩ := c.q
 exact ⟨ht, (hg.block _ (block_lt' h.R) (by simp)).trans h.R, h.S.later hg (fun q hq => by simp at hq; omega), gb_new' h.G hg (Nat.le_refl _), h.l.later hg (fun b off len cap e hl => by have := c.al b off len cap e hl; simp; omega), h.h.later hg (fun b off len cap e hl => by have := c.ah b off len cap e hl; simp; omega)⟩
theorem BnA.cell (c : BnC w B p vl vh) (h : BnA w B p vl vh ls hs row u) (k : Nat) (x : Value) : BnA w B p vl vh ls hs (row.set! k x) (u.setCell ⟨w.heap.size, k, none⟩ x) :=
 h.part c (set_block h.T k x) (gb_setCell (gb_refl _ _) (.inr rfl) _)
theorem BnA.fin (c : BnC w B p vl vh) (h : BnA w B p vl vh ls hs row u) {x0 y0 z0 x1 y1 z1 st cap tol span lim least : Int} (hrow : row = Asc.val ⟨x0, y0, z0, x1, y1, z1, st, ls, hs, cap, tol, span, lim, least⟩ vl vh) : BentA B p w (.returned (.agg row)) (u.setRow (w.heap.size + 1) row) := by
 have hg : u.grownBy (u.setRow (w.heap.size + 1) row) (some (w.heap.size + 1)) := gb_setRow (gb_refl _ _) (.inr rfl)
 obtain ⟨c0, c1⟩ := c.q
 exact ⟨⟨x0, y0, z0, x1, y1, z1, st, ls, hs, cap, tol, span, lim, least⟩, vl, vh, by rw [hrow], ⟨h.l.later hg (fun b off len cap e hl => by have := c.al b off len cap e hl; simp; omega), h.h.later hg (fun b off len cap e hl => by have := c.ah b off len cap e hl; simp; omega)⟩, c.ap.1, c.ap.2, h.S.later hg (fun q hq => by simp at hq; omega), gb_setRow h.G (.inl (by omega))⟩
end
set_option maxRecDepth 100000 in
set_option maxHeartbeats 8000000 in
theorem bent30_any (B : Nat) (w : World) (p : Nat) (A : Asc) (vl vh : Value) (h : Src B w p) (hi : AscIn A vl vh w) (al : Apart p vl) (ah : Apart p vh) (hl0 : 2 ≤ A.ls.length) (hlh : A.ls.length = A.hs.length) (hl3 : A.ls.length ≤ 300) :
  Calls Tryz.prog 14 #[.pointer (some ⟨p, 0, none⟩), .agg (A.val vl vh)] w (BentA B p w) := by
 obtain ⟨la, ln, lc, rfl⟩ := sl_slice hi.l
 obtain ⟨ha, hm, hc, rfl⟩ := sl_slice hi.h
 have HI := zH hi
 obtain ⟨x0, y0, z0, x1, y1, z1, st, ls, hs, cap, tol, span, lim, least⟩ := A
 simp only [Asc.val] at *
 have hq0 := h.lt.1; have hp := h.lt.2
 have hg0 := gb_alloc (gb_alloc (gb_refl w none) (.cells #[x0, y0, z0, x1, y1, z1, st, .slice la ln lc, .slice ha hm hc, cap, tol, span, lim, least] 30)) (.cells #[(0:Int), (0:Int), (0:Int), (0:Int), (0:Int), (0:Int), (0:Int), .slice none 0 0, .slice none 0 0, (0:Int), (0:Int), (0:Int), (0:Int), (0:Int)] 30)
 have X0 : ((w.alloc (.cells #[x0, y0, z0, x1, y1, z1, st, .slice la ln lc, .slice ha hm hc, cap, tol, span, lim, least] 30)).alloc (.cells #[(0:Int), (0:Int), (0:Int), (0:Int), (0:Int), (0:Int), (0:Int), .slice none 0 0, .slice none 0 0, (0:Int), (0:Int), (0:Int), (0:Int), (0:Int)] 30)).heap[w.heap.size]? = some (.cells #[x0, y0, z0, x1, y1, z1, st, .slice la ln lc, .slice ha hm hc, cap, tol, span, lim, least] 30 (0, 0)) := by rw [heap_alloc_old _ _ (by simp), heap_alloc_new]
 have R0 : ((w.alloc (.cells #[x0, y0, z0, x1, y1, z1, st, .slice la ln lc, .slice ha hm hc, cap, tol, span, lim, least] 30)).alloc (.cells #[(0:Int), (0:Int), (0:Int), (0:Int), (0:Int), (0:Int), (0:Int), .slice none 0 0, .slice none 0 0, (0:Int), (0:Int), (0:Int), (0:Int), (0:Int)] 30)).heap[w.heap.size + 1]? = some (.cells #[(0:Int), (0:Int), (0:Int), (0:Int), (0:Int), (0:Int), (0:Int), .slice none 0 0, .slice none 0 0, (0:Int), (0:Int), (0:Int), (0:Int), (0:Int)] 30 (0, 0)) := by simpa using heap_alloc_new (w.alloc _) _
 have CC : Hid (BnC w B p (.slice la ln lc) (.slice ha hm hc)) := zH ⟨⟨hq0, hp⟩, ⟨al, ah⟩, fun b off len cap e hl => .inl (Nat.lt_of_not_le fun hle => HI.out.l.apart_lt hle b off len cap e hl rfl), fun b off len cap e hl => .inl (Nat.lt_of_not_le fun hle => HI.out.h.apart_lt hle b off len cap e hl rfl)⟩
 have A1 : Hid (BnA w B p (.slice la ln lc) (.slice ha hm hc) ls hs #[x0, y0, z0, x1, y1, z1, st, .slice la ln lc, .slice ha hm hc, cap, tol, span, lim, least] ((w.alloc (.cells #[x0, y0, z0, x1, y1, z1, st, .slice la ln lc, .slice ha hm hc, cap, tol, span, lim, least] 30)).alloc (.cells #[(0:Int), (0:Int), (0:Int), (0:Int), (0:Int), (0:Int), (0:Int), .slice none 0 0, .slice none 0 0, (0:Int), (0:Int), (0:Int), (0:Int), (0:Int)] 30))) := zH ⟨X0, R0, h.later hg0 (by simp), gb_none hg0, hi.l.after hg0, hi.h.after hg0⟩
 clear h hi hg0 X0 R0 al ah
 go_enter Tryz.func14, Tryz.ntmps14
 go_wp2_with fail
 generalize (w.alloc (.cells #[x0, y0, z0, x1, y1, z1, st, .slice la ln lc, .slice ha hm hc, cap, tol, span, lim, least] 30)).alloc (.cells #[(0:Int), (0:Int), (0:Int), (0:Int), (0:Int), (0:Int), (0:Int), .slice none 0 0, .slice none 0 0, (0:Int), (0:Int), (0:Int), (0:Int), (0:Int)] 30) = w5 at *
 (with_reducible refine (n_any B w5 p 7 A1.out.S (by omega) (by omega)).mono ?_)
 rintro r w6 ⟨kk, rfl, hkk, hS, hg⟩
 have A6 := zH (A1.out.draw CC.out hg hS)
 clear hS hg A1
 rcases (by omega : kk = 0 ∨ kk = 1 ∨ kk = 2 ∨ kk = 3 ∨ kk = 4 ∨ kk = 5 ∨ kk = 6) with _ | _ | _ | _ | _ | _ | _
 ·obtain rfl : kk = 0 := by omega
  obtain ⟨c0_, c1_, c2_, c3_, c4_, c5_, c6_, c7_, c8_, c9_, c10_, c11_, c12_, c13_⟩ := cells14 A6.out.T
  have hz_ := block_lt' A6.out.T
  go_wp2_with fail
  clear c0_ c1_ c2_ c3_ c4_ c5_ c6_ c7_ c8_ c9_ c10_ c11_ c12_ c13_ hz_
  (with_reducible refine (bent_any B w6 p x0 y0 z0 x1 y1 z1 A6.out.S).mono ?_)
  rintro r w7 ⟨n0, n1, n2, n3, n4, n5, rfl, -, hS, hg⟩
  have A7 := zH (A6.out.draw CC.out hg hS)
  clear hS hg A6
  go_wp2_with (with_reducible refine wpList_part rfl _ _ _ rfl w.heap.size 0 #[n0, n1, n2, n3, n4, n5] rfl rfl A7.out.T #[n0, n1, n2, n3, n4, n5, st, .slice la ln lc, .slice ha hm hc, cap, tol, span, lim, least] (by kernel_rfl) ?_ (by kernel_rfl) (by simp [Value.oneCell']) ?_; kernel_rfl; refine Hid.out ?_)
  refine zH ?_
  intro w8 ht8 hf8 hg8
  have A8 := zH (A7.out.part CC.out ht8 hg8)
  clear ht8 hf8 hg8 A7
  have HR := zH A8.out.R
  have HT := zH A8.out.T
  have HN := zH (setRow_at (cs := #[n0, n1, n2, n3, n4, n5, st, .slice la ln lc, .slice ha hm hc, cap, tol, span, lim, least]) HR.out)
  have HE := zH (A8.out.fin CC.out rfl)
  clear A8
  go_wp2_with (first | (with_reducible refine wpList_load14 rfl _ rfl w.heap.size rfl _ _ HT.out rfl ?_) | (with_reducible refine wpList_store_row rfl _ _ _ rfl (w.heap.size + 1) #[n0, n1, n2, n3, n4, n5, st, .slice la ln lc, .slice ha hm hc, cap, tol, span, lim, least] rfl rfl _ _ HR.out (by kernel_rfl) rfl (by simp [Value.oneCell']) ?_))
  obtain ⟨c0_, c1_, c2_, c3_, c4_, c5_, c6_, c7_, c8_, c9_, c10_, c11_, c12_, c13_⟩ := cells14 HN.out
  exact bodyPost_ret (v := .agg #[n0, n1, n2, n3, n4, n5, st, .slice la ln lc, .slice ha hm hc, cap, tol, span, lim, least]) (by simp [results, Tryz.results14, go_sem, c0_, c1_, c2_, c3_, c4_, c5_, c6_, c7_, c8_, c9_, c10_, c11_, c12_, c13_]) rfl HE.out
 ·obtain rfl : kk = 1 := by omega
  obtain ⟨c0_, c1_, c2_, c3_, c4_, c5_, c6_, c7_, c8_, c9_, c10_, c11_, c12_, c13_⟩ := cells14 A6.out.T
  have hz_ := block_lt' A6.out.T
  go_wp2_with fail
  clear c0_ c1_ c2_ c3_ c4_ c5_ c6_ c7_ c8_ c9_ c10_ c11_ c12_ c13_ hz_
  (with_reducible refine (bentTable_any B w6 p st (.slice la ln lc) (.slice ha hm hc) ls hs A6.out.S A6.out.l A6.out.h hl0 hlh hl3).mono ?_)
  rintro r w7 ⟨st', vl', vh', ls', hs', rfl, hl', hh', hfr, hS, hg⟩
  obtain ⟨la', ln', lc', rfl⟩ := sl_slice hl'; obtain ⟨ha', hm', hc', rfl⟩ := sl_slice hh'
  have A7 := zH (A6.out.draw CC.out hg hS)
  have z6 := A6.out.G.size; have t6 := block_lt' A6.out.R
  have C7 : Hid (BnC w B p (.slice la' ln' lc') (.slice ha' hm' hc')) := zH ⟨CC.out.q,
   ⟨fun b off len cap e _ => by have := hfr _ (.inl rfl) b off len cap e; have := CC.out.q; omega, fun b off len cap e _ => by have := hfr _ (.inr rfl) b off len cap e; have := CC.out.q; omega⟩,
   fun b off len cap e _ => by have := hfr _ (.inl rfl) b off len cap e; omega, fun b off len cap e _ => by have := hfr _ (.inr rfl) b off len cap e; omega⟩
  have B7 : Hid (BnA w B p (.slice la' ln' lc') (.slice ha' hm' hc') ls' hs' #[x0, y0, z0, x1, y1, z1, st, .slice la ln lc, .slice ha hm hc, cap, tol, span, lim, least] w7) := zH ⟨A7.out.T, A7.out.R, A7.out.S, A7.out.G, hl', hh'⟩
  clear hS hg A6 hl' hh' hfr A7 z6 t6
  go_wp2_with (with_reducible refine wpList_part rfl _ _ _ rfl w.heap.size 6 #[st', .slice la' ln' lc', .slice ha' hm' hc'] rfl rfl B7.out.T #[x0, y0, z0, x1, y1, z1, st', .slice la' ln' lc', .slice ha' hm' hc', cap, tol, span, lim, least] (by kernel_rfl) ?_ (by kernel_rfl) (by simp [Value.oneCell']) ?_; kernel_rfl; refine Hid.out ?_)
  refine zH ?_
  intro w8 ht8 hf8 hg8
  have A8 := zH (B7.out.part C7.out ht8 hg8)
  clear ht8 hf8 hg8 B7
  have HR := zH A8.out.R
  have HT := zH A8.out.T
  have HN := zH (setRow_at (cs := #[x0, y0, z0, x1, y1, z1, st', .slice la' ln' lc', .slice ha' hm' hc', cap, tol, span, lim, least]) HR.out)
  have HE := zH (A8.out.fin C7.out rfl)
  clear A8
  go_wp2_with (first | (with_reducible refine wpList_load14 rfl _ rfl w.heap.size rfl _ _ HT.out rfl ?_) | (with_reducible refine wpList_store_row rfl _ _ _ rfl (w.heap.size + 1) #[x0, y0, z0, x1, y1, z1, st', .slice la' ln' lc', .slice ha' hm' hc', cap, tol, span, lim, least] rfl rfl _ _ HR.out (by kernel_rfl) rfl (by simp [Value.oneCell']) ?_))
  obtain ⟨c0_, c1_, c2_, c3_, c4_, c5_, c6_, c7_, c8_, c9_, c10_, c11_, c12_, c13_⟩ := cells14 HN.out
  exact bodyPost_ret (v := .agg #[x0, y0, z0, x1, y1, z1, st', .slice la' ln' lc', .slice ha' hm' hc', cap, tol, span, lim, least]) (by simp [results, Tryz.results14, go_sem, c0_, c1_, c2_, c3_, c4_, c5_, c6_, c7_, c8_, c9_, c10_, c11_, c12_, c13_]) rfl HE.out
 ·obtain rfl : kk = 2 := by omega
  go_wp2_with fail
  (with_reducible refine (pickL_any B _ p [-1, 0, 1099511627776, 1099511627777] 4 rfl #[.int .i64 (-1), (0:Int), (1099511627776:Int), (1099511627777:Int)] rfl _ A6.out.S _ rfl (by decide) (by decide)).mono ?_)
  rintro r w7 ⟨odd, rfl, -, hS, hg⟩
  have A7 := zH (A6.out.draw CC.out hg hS)
  clear hS hg A6
  have hF := frozen3 A7.out.T (o := 9)
  have A8 : Hid (BnA w B p (.slice la ln lc) (.slice ha hm hc) ls hs #[x0, y0, z0, x1, y1, z1, st, .slice la ln lc, .slice ha hm hc, odd, tol, span, lim, least] (w7.setCell ⟨w.heap.size, 9, none⟩ (.int .i64 odd))) := zH (A7.out.cell CC.out 9 (.int .i64 odd))
  have u_ := cell_of A7.out.T 9 _ rfl
  have hz_ := block_lt' A7.out.T
  clear A7
  have HR := zH A8.out.R
  have HT := zH A8.out.T
  have HN := zH (setRow_at (cs := #[x0, y0, z0, x1, y1, z1, st, .slice la ln lc, .slice ha hm hc, odd, tol, span, lim, least]) HR.out)
  have HE := zH (A8.out.fin CC.out rfl)
  clear A8
  go_wp2_with (first | (with_reducible refine wpList_load14 rfl _ rfl w.heap.size rfl _ _ HT.out rfl ?_) | (with_reducible refine wpList_store_row rfl _ _ _ rfl (w.heap.size + 1) #[x0, y0, z0, x1, y1, z1, st, .slice la ln lc, .slice ha hm hc, odd, tol, span, lim, least] rfl rfl _ _ HR.out (by kernel_rfl) rfl (by simp [Value.oneCell']) ?_))
  obtain ⟨c0_, c1_, c2_, c3_, c4_, c5_, c6_, c7_, c8_, c9_, c10_, c11_, c12_, c13_⟩ := cells14 HN.out
  exact bodyPost_ret (v := .agg #[x0, y0, z0, x1, y1, z1, st, .slice la ln lc, .slice ha hm hc, odd, tol, span, lim, least]) (by simp [results, Tryz.results14, go_sem, c0_, c1_, c2_, c3_, c4_, c5_, c6_, c7_, c8_, c9_, c10_, c11_, c12_, c13_]) rfl HE.out
 ·obtain rfl : kk = 3 := by omega
  go_wp2_with fail
  (with_reducible refine (pickL_any B _ p [-1, 0, 1099511627776, 1099511627777] 4 rfl #[.int .i64 (-1), (0:Int), (1099511627776:Int), (1099511627777:Int)] rfl _ A6.out.S _ rfl (by decide) (by decide)).mono ?_)
  rintro r w7 ⟨odd, rfl, -, hS, hg⟩
  have A7 := zH (A6.out.draw CC.out hg hS)
  clear hS hg A6
  have hF := frozen3 A7.out.T (o := 10)
  have A8 : Hid (BnA w B p (.slice la ln lc) (.slice ha hm hc) ls hs #[x0, y0, z0, x1, y1, z1, st, .slice la ln lc, .slice ha hm hc, cap, odd, span, lim, least] (w7.setCell ⟨w.heap.size, 10, none⟩ (.int .i64 odd))) := zH (A7.out.cell CC.out 10 (.int .i64 odd))
  have u_ := cell_of A7.out.T 10 _ rfl
  have hz_ := block_lt' A7.out.T
  clear A7
  have HR := zH A8.out.R
  have HT := zH A8.out.T
  have HN := zH (setRow_at (cs := #[x0, y0, z0, x1, y1, z1, st, .slice la ln lc, .slice ha hm hc, cap, odd, span, lim, least]) HR.out)
  have HE := zH (A8.out.fin CC.out rfl)
  clear A8
  go_wp2_with (first | (with_reducible refine wpList_load14 rfl _ rfl w.heap.size rfl _ _ HT.out rfl ?_) | (with_reducible refine wpList_store_row rfl _ _ _ rfl (w.heap.size + 1) #[x0, y0, z0, x1, y1, z1, st, .slice la ln lc, .slice ha hm hc, cap, odd, span, lim, least] rfl rfl _ _ HR.out (by kernel_rfl) rfl (by simp [Value.oneCell']) ?_))
  obtain ⟨c0_, c1_, c2_, c3_, c4_, c5_, c6_, c7_, c8_, c9_, c10_, c11_, c12_, c13_⟩ := cells14 HN.out
  exact bodyPost_ret (v := .agg #[x0, y0, z0, x1, y1, z1, st, .slice la ln lc, .slice ha hm hc, cap, odd, span, lim, least]) (by simp [results, Tryz.results14, go_sem, c0_, c1_, c2_, c3_, c4_, c5_, c6_, c7_, c8_, c9_, c10_, c11_, c12_, c13_]) rfl HE.out
 ·obtain rfl : kk = 4 := by omega
  go_wp2_with fail
  (with_reducible refine (pickL_any B _ p [-1, 0, 1099511627776, 1099511627777] 4 rfl #[.int .i64 (-1), (0:Int), (1099511627776:Int), (1099511627777:Int)] rfl _ A6.out.S _ rfl (by decide) (by decide)).mono ?_)
  rintro r w7 ⟨odd, rfl, -, hS, hg⟩
  have A7 := zH (A6.out.draw CC.out hg hS)
  clear hS hg A6
  have hF := frozen3 A7.out.T (o := 12)
  have A8 : Hid (BnA w B p (.slice la ln lc) (.slice ha hm hc) ls hs #[x0, y0, z0, x1, y1, z1, st, .slice la ln lc, .slice ha hm hc, cap, tol, span, odd, least] (w7.setCell ⟨w.heap.size, 12, none⟩ (.int .i64 odd))) := zH (A7.out.cell CC.out 12 (.int .i64 odd))
  have u_ := cell_of A7.out.T 12 _ rfl
  have hz_ := block_lt' A7.out.T
  clear A7
  have HR := zH A8.out.R
  have HT := zH A8.out.T
  have HN := zH (setRow_at (cs := #[x0, y0, z0, x1, y1, z1, st, .slice la ln lc, .slice ha hm hc, cap, tol, span, odd, least]) HR.out)
  have HE := zH (A8.out.fin CC.out rfl)
  clear A8
  go_wp2_with (first | (with_reducible refine wpList_load14 rfl _ rfl w.heap.size rfl _ _ HT.out rfl ?_) | (with_reducible refine wpList_store_row rfl _ _ _ rfl (w.heap.size + 1) #[x0, y0, z0, x1, y1, z1, st, .slice la ln lc, .slice ha hm hc, cap, tol, span, odd, least] rfl rfl _ _ HR.out (by kernel_rfl) rfl (by simp [Value.oneCell']) ?_))
  obtain ⟨c0_, c1_, c2_, c3_, c4_, c5_, c6_, c7_, c8_, c9_, c10_, c11_, c12_, c13_⟩ := cells14 HN.out
  exact bodyPost_ret (v := .agg #[x0, y0, z0, x1, y1, z1, st, .slice la ln lc, .slice ha hm hc, cap, tol, span, odd, least]) (by simp [results, Tryz.results14, go_sem, c0_, c1_, c2_, c3_, c4_, c5_, c6_, c7_, c8_, c9_, c10_, c11_, c12_, c13_]) rfl HE.out
 ·obtain rfl : kk = 5 := by omega
  go_wp2_with fail
  (with_reducible refine (pickL_any B _ p [-1, 0, 1099511627776, 1099511627777] 4 rfl #[.int .i64 (-1), (0:Int), (1099511627776:Int), (1099511627777:Int)] rfl _ A6.out.S _ rfl (by decide) (by decide)).mono ?_)
  rintro r w7 ⟨odd, rfl, -, hS, hg⟩
  have A7 := zH (A6.out.draw CC.out hg hS)
  clear hS hg A6
  have hF := frozen3 A7.out.T (o := 11)
  have A8 : Hid (BnA w B p (.slice la ln lc) (.slice ha hm hc) ls hs #[x0, y0, z0, x1, y1, z1, st, .slice la ln lc, .slice ha hm hc, cap, tol, odd, lim, least] (w7.setCell ⟨w.heap.size, 11, none⟩ (.int .i64 odd))) := zH (A7.out.cell CC.out 11 (.int .i64 odd))
  have u_ := cell_of A7.out.T 11 _ rfl
  have hz_ := block_lt' A7.out.T
  clear A7
  have HR := zH A8.out.R
  have HT := zH A8.out.T
  have HN := zH (setRow_at (cs := #[x0, y0, z0, x1, y1, z1, st, .slice la ln lc, .slice ha hm hc, cap, tol, odd, lim, least]) HR.out)
  have HE := zH (A8.out.fin CC.out rfl)
  clear A8
  go_wp2_with (first | (with_reducible refine wpList_load14 rfl _ rfl w.heap.size rfl _ _ HT.out rfl ?_) | (with_reducible refine wpList_store_row rfl _ _ _ rfl (w.heap.size + 1) #[x0, y0, z0, x1, y1, z1, st, .slice la ln lc, .slice ha hm hc, cap, tol, odd, lim, least] rfl rfl _ _ HR.out (by kernel_rfl) rfl (by simp [Value.oneCell']) ?_))
  obtain ⟨c0_, c1_, c2_, c3_, c4_, c5_, c6_, c7_, c8_, c9_, c10_, c11_, c12_, c13_⟩ := cells14 HN.out
  exact bodyPost_ret (v := .agg #[x0, y0, z0, x1, y1, z1, st, .slice la ln lc, .slice ha hm hc, cap, tol, odd, lim, least]) (by simp [results, Tryz.results14, go_sem, c0_, c1_, c2_, c3_, c4_, c5_, c6_, c7_, c8_, c9_, c10_, c11_, c12_, c13_]) rfl HE.out
 ·obtain rfl : kk = 6 := by omega
  go_wp2_with fail
  (with_reducible refine (pickL_any B _ p [0, 1, 2, 16, 17] 5 rfl #[(0:Int), (1:Int), (2:Int), (16:Int), (17:Int)] rfl _ A6.out.S _ rfl (by decide) (by decide)).mono ?_)
  rintro r w7 ⟨odd, rfl, -, hS, hg⟩
  have A7 := zH (A6.out.draw CC.out hg hS)
  clear hS hg A6
  have hF := frozen3 A7.out.T (o := 13)
  have A8 : Hid (BnA w B p (.slice la ln lc) (.slice ha hm hc) ls hs #[x0, y0, z0, x1, y1, z1, st, .slice la ln lc, .slice ha hm hc, cap, tol, span, lim, odd] (w7.setCell ⟨w.heap.size, 13, none⟩ (.int .i64 odd))) := zH (A7.out.cell CC.out 13 (.int .i64 odd))
  have u_ := cell_of A7.out.T 13 _ rfl
  have hz_ := block_lt' A7.out.T
  clear A7
  have HR := zH A8.out.R
  have HT := zH A8.out.T
  have HN := zH (setRow_at (cs := #[x0, y0, z0, x1, y1, z1, st, .slice la ln lc, .slice ha hm hc, cap, tol, span, lim, odd]) HR.out)
  have HE := zH (A8.out.fin CC.out rfl)
  clear A8
  go_wp2_with (first | (with_reducible refine wpList_load14 rfl _ rfl w.heap.size rfl _ _ HT.out rfl ?_) | (with_reducible refine wpList_store_row rfl _ _ _ rfl (w.heap.size + 1) #[x0, y0, z0, x1, y1, z1, st, .slice la ln lc, .slice ha hm hc, cap, tol, span, lim, odd] rfl rfl _ _ HR.out (by kernel_rfl) rfl (by simp [Value.oneCell']) ?_))
  obtain ⟨c0_, c1_, c2_, c3_, c4_, c5_, c6_, c7_, c8_, c9_, c10_, c11_, c12_, c13_⟩ := cells14 HN.out
  exact bodyPost_ret (v := .agg #[x0, y0, z0, x1, y1, z1, st, .slice la ln lc, .slice ha hm hc, cap, tol, span, lim, odd]) (by simp [results, Tryz.results14, go_sem, c0_, c1_, c2_, c3_, c4_, c5_, c6_, c7_, c8_, c9_, c10_, c11_, c12_, c13_]) rfl HE.out
set_option maxRecDepth 100000 in
set_option maxHeartbeats 8000000 in
theorem short30_any (A : Asc) (vl vh pv : Value) (P : List Ph) (w : World) (hi : AscIn A vl vh w) (hp : SlC 6 w pv P.length (flatP P)) :
  Calls Tryz.prog 9 #[.agg (A.val vl vh), pv] w fun e w' => ∃ b, e = .returned (.bool b) ∧ (b = true → P.length ≤ 12) ∧ w.grownBy w' none := by
 have h1 := hi.l; have h2 := hi.h
 obtain ⟨la, ln, lc, rfl⟩ := sl_slice h1; obtain ⟨ha, hm, hc, rfl⟩ := sl_slice h2
 obtain ⟨pa, pc, rfl⟩ := hp.slice
 have G1 := zH (gb_alloc (gb_refl w none) (.cells (A.val (.slice la ln lc) (.slice ha hm hc)) 30))
 have B1 := zH (heap_alloc_new w (.cells (A.val (.slice la ln lc) (.slice ha hm hc)) 30))
 have ST := zH (fun (u : World) (hu : w.grownBy u none) => smallTable_any A.st _ _ A.ls A.hs u (h1.after hu) (h2.after hu))
 have PT := zH (fun (u : World) => rpoints_any A.x0 A.y0 A.z0 A.x1 A.y1 A.z1 u)
 obtain ⟨x0, y0, z0, x1, y1, z1, st, ls, hs, cap, tol, span, lim, least⟩ := A
 simp only [Asc.val] at *
 generalize hn : P.length = n at *
 clear hi hp h1 h2
 obtain ⟨c0_, c1_, c2_, c3_, c4_, c5_, c6_, c7_, c8_, c9_, c10_, c11_, c12_, c13_⟩ := cells14 B1.out
 have hz_ := block_lt' B1.out
 go_enter Tryz.func9, Tryz.ntmps9
 go_wp2_with fail
 clear c0_ c1_ c2_ c3_ c4_ c5_ c6_ c7_ c8_ c9_ c10_ c11_ c12_ c13_ hz_
 generalize w.alloc (.cells #[x0, y0, z0, x1, y1, z1, st, .slice la ln lc, .slice ha hm hc, cap, tol, span, lim, least] 30) = w1 at *
 generalize w.heap.size = z at *
 (with_reducible refine (ST.out w1 G1.out).mono ?_)
 rintro e w2 ⟨rfl, hg⟩
 have G2 := zH (gb_trans G1.out hg); have B2 := zH (block_kept hg B1.out rfl)
 clear hg G1 B1 ST
 generalize (decide (ls.length ≤ 300) && decide (hs.length ≤ 300)) = sb at *
 cases sb
 ·go_wp2_with fail
  go_ret
  exact ⟨false, rfl, by simp, G2.out⟩
 by_cases hn12 : n ≤ 12
 rotate_left
 ·have hd : decide ((n : Int) ≤ 12) = false := decide_eq_false (by omega)
  clear hn12
  go_wp2_with fail
  go_ret
  exact ⟨false, rfl, by simp, G2.out⟩
 have hd : decide ((n : Int) ≤ 12) = true := decide_eq_true (by omega)
 have HN12 := zH hn12
 clear hn12
 obtain ⟨c0_, c1_, c2_, c3_, c4_, c5_, c6_, c7_, c8_, c9_, c10_, c11_, c12_, c13_⟩ := cells14 B2.out
 have hz_ := block_lt' B2.out
 go_wp2_with fail
 (with_reducible refine (PT.out w2).mono ?_)
 rintro e w3 ⟨rfl, hg⟩
 have G3 := zH (gb_trans G2.out hg)
 clear c0_ c1_ c2_ c3_ c4_ c5_ c6_ c7_ c8_ c9_ c10_ c11_ c12_ c13_ hz_ hg G2 B2 PT hd
 generalize ptsP x0 y0 z0 x1 y1 z1 = pp at *
 go_wp2_with fail
 go_ret
 exact ⟨_, rfl, fun _ => HN12.out, G3.out⟩
end Go.Proofs.YtiebljanpnadjaaGreat
