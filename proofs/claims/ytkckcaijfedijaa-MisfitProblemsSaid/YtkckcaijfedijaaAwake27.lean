/- Law 27's flat: a problem with zones of its own. -/
import Derived.Test.YtkckcaijfedijaaProb
import Derived.Test.YtkckcaijfedijaaAwake26
namespace Go.Proofs.Ytkckcaijfedijaa
set_option linter.all false
section LFlat
open Go.RowKit Rg

theorem SlC.row {k n : Nat} {w w' : World} {v : Value} {ys : List Value} {row : Option Nat} (h : SlC k w v n ys) (hg : w.grownBy w' row) (hp : ∀ b off len cap, v = .slice (some ⟨b, off, none⟩) len cap → 0 < len → some b ≠ row) : SlC k w' v n ys := by
  refine ⟨h.1, ?_⟩
  rcases h.2 with h0 | ⟨b, off, cap, e, hb, h1, h2, h3⟩
  · exact .inl h0
  · by_cases hn : 0 < n
    · exact .inr ⟨b, off, cap, e, Nat.lt_of_lt_of_le hb hg.size, h1, h2, fun j u hj => (gb_cell hg hb (hp _ _ _ _ e hn)).trans (h3 j u hj)⟩
    · exact .inl ⟨by omega, _, _, by rw [e, show n = 0 by omega]⟩
theorem SlC.old {k n : Nat} {w : World} {v : Value} {ys : List Value} (h : SlC k w v n ys) : ∀ b off len cap, v = .slice (some ⟨b, off, none⟩) len cap → 0 < len → b < w.heap.size := by
  intro b off len cap e hl
  rcases h.2 with ⟨rfl, a, c, e'⟩ | ⟨b', off', cap', e', hb, _⟩
  · rw [e] at e'; simp at e'; omega
  · rw [e] at e'; simp at e'; omega
def flatPh (z : Zn) : Ph := ⟨0, 0, 0, z.f, z.t, 1⟩
def flatProb (cap : Int) (zs : List Zn) : Prob := ⟨0, 0, 0, 0, 0, 0, 1, [0, 0], [0, 0], zs.map flatPh, cap⟩
structure FlAt (w : World) (Q : Nat) (vl vh : Value) (cap : Int) (l : List Ph) (vp : Value) (u : World) : Prop where
  res : u.heap[w.heap.size]? = some (.cells #[.int .i64 0, .int .i64 0, .int .i64 0, .int .i64 0, .int .i64 0, .int .i64 0, .int .i64 0, .slice none 0 0, .slice none 0 0, .slice none 0 0, .int .i64 0] 68 (0, 0))
  prob : u.heap[Q]? = some (.cells #[.int .i64 0, .int .i64 0, .int .i64 0, .int .i64 0, .int .i64 0, .int .i64 0, .int .i64 1, vl, vh, vp, .int .i64 cap] 68 (0, 0))
  own : u.ownsRow (Q + 1) 30 6 vp l.length (flatP l)
  low : Sl u vl [0, 0]
  high : Sl u vh [0, 0]
  lowAt : ∀ b off len cap, vl = .slice (some ⟨b, off, none⟩) len cap → w.heap.size < b ∧ b < Q
  highAt : ∀ b off len cap, vh = .slice (some ⟨b, off, none⟩) len cap → w.heap.size < b ∧ b < Q
  order : w.heap.size < Q
  grown : w.grownBy u none
section
variable {w : World} {Q : Nat} {vl vh : Value} {cap : Int} {l : List Ph} {vp : Value} {u u' : World}
theorem FlAt.later (h : FlAt w Q vl vh cap l vp u) (hg : u.grownBy u' none) : FlAt w Q vl vh cap l vp u' :=
  ⟨block_kept hg h.res rfl, block_kept hg h.prob rfl, owns_keep h.own hg, h.low.after hg, h.high.after hg, h.lowAt, h.highAt, h.order, gb_trans h.grown hg⟩
theorem FlAt.prob9 (h : FlAt w Q vl vh cap l vp u) (hg : u.grownBy u' vp.ownBlock) : u'.heap[Q]? = some (.cells #[.int .i64 0, .int .i64 0, .int .i64 0, .int .i64 0, .int .i64 0, .int .i64 0, .int .i64 1, vl, vh, vp, .int .i64 cap] 68 (0, 0)) := by
  rw [hg.block Q (Array.getElem?_eq_some_iff.1 h.prob).1 (fun e => by have := (h.own.lt Q e.symm).1; omega)]; exact h.prob
theorem FlAt.fro (h : FlAt w Q vl vh cap l vp u) (hg : u.grownBy u' vp.ownBlock) (o : Nat) : u'.frozen? ⟨Q, o, none⟩ = false := by simp [World.frozen?, h.prob9 hg]
theorem FlAt.nine (h : FlAt w Q vl vh cap l vp u) (hg : u.grownBy u' vp.ownBlock) : u'.cell? ⟨Q, 9, none⟩ = some vp := by simp [World.cell?, h.prob9 hg]
theorem FlAt.push {a : Ph} {vp' : Value} (h : FlAt w Q vl vh cap l vp u) (hg : u.grownBy u' vp.ownBlock) (ho : u'.ownsRow (Q + 1) 30 6 vp' (l.length + 1) (flatP l ++ a.cells)) : FlAt w Q vl vh cap (l ++ [a]) vp' (u'.setCell ⟨Q, 9, none⟩ vp') := by
  have o3 := h.order
  have hne : ∀ b, vp.ownBlock = some b → Q + 1 ≤ b := fun b hb => (h.own.lt b hb).1
  have far : ∀ {b : Nat} {o : Obj}, u.heap[b]? = some o → b ≤ Q → u'.heap[b]? = some o := fun {b} {o} hb hX => by
    rw [hg.block b (Array.getElem?_eq_some_iff.1 hb).1 (fun e => by have := hne b e.symm; omega)]; exact hb
  have sgr : u'.grownBy (u'.setCell ⟨Q, 9, none⟩ vp') (some Q) := gb_setCell (gb_refl _ _) (.inr rfl) _
  refine ⟨(setCell_far (by show w.heap.size ≠ Q; omega)).trans (far h.res (by omega)), set_block (far h.prob (by omega)) 9 vp', ?_, ?_, ?_, h.lowAt, h.highAt, h.order, ?_⟩
  · rw [List.length_append, show flatP (l ++ [a]) = flatP l ++ a.cells by simp [flatP]]
    exact ho.kept sgr (.inr (fun e => by have := (ho.lt Q e).1; omega))
  · exact (h.low.later hg (fun b off len cap e _ he => by have := hne b he.symm; have := (h.lowAt b off len cap e).2; omega)).later sgr (fun b off len cap e _ => by have := (h.lowAt b off len cap e).2; simp; omega)
  · exact (h.high.later hg (fun b off len cap e _ he => by have := hne b he.symm; have := (h.highAt b off len cap e).2; omega)).later sgr (fun b off len cap e _ => by have := (h.highAt b off len cap e).2; simp; omega)
  · refine gb_setCell (gb_new h.grown hg (fun q hq => by have := hne q hq; omega)) (.inl (by show w.heap.size ≤ Q; omega)) _
end

set_option maxRecDepth 100000 in
set_option maxHeartbeats 2000000 in
theorem flat_any (cap : Int) (vz : Value) (zs : List Zn) (w : World) (hz : SlC 2 w vz zs.length (flatZ zs)) (h1 : zs.length ≤ 70) :
    Calls Try.prog 83 #[.int .i64 cap, vz] w fun e w' => ∃ vl vh vp, e = .returned (.agg ((flatProb cap zs).val vl vh vp)) ∧ ProbIn (flatProb cap zs) vl vh vp w' ∧ w.grownBy w' none := by
  obtain ⟨za, zc, rfl⟩ := hz.slice
  have HZ := Lib.hid hz; have HOLD := Lib.hid hz.old; clear hz
  go_enter Try.func83, Try.ntmps83
  go_wp2_with fail
  obtain ⟨w4, hw4⟩ : ∃ u, u = (((w.alloc (.cells #[.int .i64 0, .int .i64 0, .int .i64 0, .int .i64 0, .int .i64 0, .int .i64 0, .int .i64 0, .slice none 0 0, .slice none 0 0, .slice none 0 0, .int .i64 0] 68)).alloc (.cells #[.int .i64 0, .int .i64 0] 3)).alloc (.cells #[.int .i64 0, .int .i64 0] 3)).alloc (.cells #[.int .i64 0, .int .i64 0, .int .i64 0, .int .i64 0, .int .i64 0, .int .i64 0, .int .i64 1, .slice (some ⟨w.heap.size + 1, 0, none⟩) 2 2, .slice (some ⟨w.heap.size + 1 + 1, 0, none⟩) 2 2, .slice none 0 0, .int .i64 cap] 68) := ⟨_, rfl⟩
  rw [← hw4]
  have M0 : Hid (FlAt w (w.heap.size + 1 + 1 + 1) (.slice (some ⟨w.heap.size + 1, 0, none⟩) 2 2) (.slice (some ⟨w.heap.size + 1 + 1, 0, none⟩) 2 2) cap [] (.slice none 0 0) w4) := Lib.hid (by
    have b1 : w4.heap[w.heap.size + 1]? = some (.cells (([0, 0] : List Int).map (Value.int .i64)).toArray 3 (0, 0)) := by rw [hw4, heap_alloc_old _ _ (by simp <;> omega), heap_alloc_old _ _ (by simp)]; simpa using heap_alloc_new (w.alloc _) _
    have b2 : w4.heap[w.heap.size + 1 + 1]? = some (.cells (([0, 0] : List Int).map (Value.int .i64)).toArray 3 (0, 0)) := by rw [hw4, heap_alloc_old _ _ (by simp)]; simpa using heap_alloc_new ((w.alloc _).alloc _) _
    refine ⟨?_, ?_, World.ownsRow_nil _ _ _ _, Sl.of_block b1 rfl (by omega), Sl.of_block b2 rfl (by omega), ?_, ?_, by omega, ?_⟩
    · rw [hw4, heap_alloc_old _ _ (by simp <;> omega), heap_alloc_old _ _ (by simp <;> omega), heap_alloc_old _ _ (by simp), heap_alloc_new]
    · rw [hw4]; simpa using heap_alloc_new (((w.alloc _).alloc _).alloc _) _
    · intro b off len cap e; simp at e; omega
    · intro b off len cap e; simp at e; omega
    · rw [hw4]; exact gb_alloc (gb_alloc (gb_alloc (gb_alloc (gb_refl _ _) _) _) _) _)
  have HZ4 := Lib.hid (HZ.out.after M0.out.grown)
  clear hw4 HZ
  generalize hQ : w.heap.size + 1 + 1 + 1 = Q at *
  clear hQ
  go_loopw [15] (fun i wr => ∃ (k : Nat) (vp : Value), k ≤ zs.length ∧ i = .int .i64 k ∧ FlAt w Q (.slice (some ⟨w.heap.size + 1, 0, none⟩) 2 2) (.slice (some ⟨w.heap.size + 1 + 1, 0, none⟩) 2 2) cap ((zs.take k).map flatPh) vp wr ∧ SlC 2 wr (.slice za zs.length zc) zs.length (flatZ zs)) (fun i _ => zs.length - (intOf i).toNat)
  case atStart => exact ⟨0, .slice none 0 0, by omega, rfl, M0.out, HZ4.out⟩
  case round =>
    obtain ⟨k, vp, hk, rfl, hM, hzr⟩ := hrel
    have MR := Lib.hid hM; have HZR := Lib.hid hzr
    obtain ⟨oa, oc, rfl⟩ := owns_slice hM.own
    clear hM hzr M0 HZ4
    have hlk : ((zs.take k).map flatPh).length = k := by simp; omega
    by_cases hlt : k < zs.length
    · obtain ⟨zb, zoff, zcap, hzv, hzb, hzc, hzm, hzcell⟩ := HZR.out.block (by omega)
      simp only [Value.slice.injEq, true_and] at hzv
      obtain ⟨rfl, rfl⟩ := hzv
      obtain ⟨d0, d1⟩ := SlC.zn hzcell k hlt
      have HTK : Hid ((zs.take (k + 1)).map flatPh = (zs.take k).map flatPh ++ [flatPh zs[k]]) := Lib.hid (by rw [List.take_succ_eq_append_getElem hlt, List.map_append]; rfl)
      clear hzcell
      generalize hzk : zs[k] = zk at *
      obtain ⟨zf, zt⟩ := zk
      clear hzk
      simp only [] at d0 d1
      have HTK2 : Hid ((zs.take (k + 1)).map flatPh = (zs.take k).map flatPh ++ [⟨0, 0, 0, zf, zt, 1⟩]) := HTK
      clear HTK
      generalize hll : (zs.take k).map flatPh = l at *
      clear hll
      have hlen6 : (flatP l).length = l.length * 6 := flatP_length l
      have hown := MR.out.own
      have M1 := Lib.hid (MR.out.later (gb_alloc (gb_refl wr _) (.cells #[.int .i64 zf, .int .i64 zt] 32)))
      have hown1 := M1.out.own
      have M2 := Lib.hid (M1.out.later (gb_alloc (gb_refl _ _) (.cells #[.int .i64 0, .int .i64 0, .int .i64 0, .int .i64 zf, .int .i64 zt, .int .i64 1] 30)))
      have HZ2 := Lib.hid (HZR.out.after (gb_alloc (gb_alloc (gb_refl wr _) (.cells #[.int .i64 zf, .int .i64 zt] 32)) (.cells #[.int .i64 0, .int .i64 0, .int .i64 0, .int .i64 zf, .int .i64 zt, .int .i64 1] 30)))
      have HWQ := MR.out.order
      have HQL := Lib.hid (block_lt' MR.out.prob)
      have PUSH := Lib.hid (fun (v' : Value) (u' : World) (h : u'.ownsRow (Q + 1) 30 6 v' (l.length + 1) (flatP l ++ [.int .i64 0, .int .i64 0, .int .i64 0, .int .i64 zf, .int .i64 zt, .int .i64 1])) (hg : ((wr.alloc (.cells #[.int .i64 zf, .int .i64 zt] 32)).alloc (.cells #[.int .i64 0, .int .i64 0, .int .i64 0, .int .i64 zf, .int .i64 zt, .int .i64 1] 30)).grownBy u' (Value.slice oa l.length oc).ownBlock) =>
        (show FlAt w Q _ _ cap (l ++ [⟨0, 0, 0, zf, zt, 1⟩]) v' (u'.setCell ⟨Q, 9, none⟩ v') ∧ SlC 2 (u'.setCell ⟨Q, 9, none⟩ v') (.slice (some ⟨zb, zoff, none⟩) zs.length zc) zs.length (flatZ zs) from
          ⟨FlAt.push (a := ⟨0, 0, 0, zf, zt, 1⟩) M2.out hg h, (HZ2.out.row hg (fun b off len cap e hl he => by have := HOLD.out b off len cap e hl; have := (M2.out.own.lt b he.symm).1; omega)).row (row := some Q) (gb_setCell (gb_refl _ _) (.inr rfl) _) (fun b off len cap e hl => by have := HOLD.out b off len cap e hl; simp; omega)⟩))
      have PQ := M1.out.prob
      have q0_ := cell_of PQ 0 _ rfl; have q1_ := cell_of PQ 1 _ rfl; have q2_ := cell_of PQ 2 _ rfl; have q3_ := cell_of PQ 3 _ rfl; have q4_ := cell_of PQ 4 _ rfl; have q5_ := cell_of PQ 5 _ rfl; have q6_ := cell_of PQ 6 _ rfl; have q7_ := cell_of PQ 7 _ rfl; have q8_ := cell_of PQ 8 _ rfl; have q9_ := cell_of PQ 9 _ rfl; have q10_ := cell_of PQ 10 _ rfl
      rw [hlk] at *
      go_wp2_with (at_builtin; refine wpList_push rfl _ _ 50 rfl (Q + 1) 30 (.agg #[.int .i64 0, .int .i64 0, .int .i64 0, .int .i64 0, .int .i64 0, .int .i64 0]) 6 48 Try.underlying50 Try.infoPhaseT rfl (by decide) (by decide) _ _ _ rfl (hown1.alloc _) (wr.heap.size + 1) 1 [.int .i64 0, .int .i64 0, .int .i64 0, .int .i64 zf, .int .i64 zt, .int .i64 1] 30 rfl (by simpa using heap_alloc_new (wr.alloc _) _) rfl (by simp [Value.oneCell']) (by omega) (by have := HQL.out; simp; omega) ?_; intro v' w9 hown' hg'; obtain ⟨na, nc, rfl⟩ := owns_slice hown'; have HN := Lib.hid (PUSH.out _ w9 hown' hg'); have hqf := M2.out.fro hg' 9; have hqc := M2.out.nine hg'; clear hown' hg')
      go_roundw
      case rel => exact ⟨k + 1, _, by omega, by go_num, by rw [HTK2.out]; exact HN.out.1, HN.out.2⟩
      case measure => simp [intOf]; omega
    · obtain rfl : k = zs.length := by omega
      rw [List.take_length] at MR hlk
      rw [hlk] at MR
      have PQ := MR.out.prob
      have q0_ := cell_of PQ 0 _ rfl; have q1_ := cell_of PQ 1 _ rfl; have q2_ := cell_of PQ 2 _ rfl; have q3_ := cell_of PQ 3 _ rfl; have q4_ := cell_of PQ 4 _ rfl; have q5_ := cell_of PQ 5 _ rfl; have q6_ := cell_of PQ 6 _ rfl; have q7_ := cell_of PQ 7 _ rfl; have q8_ := cell_of PQ 8 _ rfl; have q9_ := cell_of PQ 9 _ rfl; have q10_ := cell_of PQ 10 _ rfl
      have hR := MR.out.res
      have HO := MR.out.order
      have sgr : wr.grownBy (wr.setRow w.heap.size #[.int .i64 0, .int .i64 0, .int .i64 0, .int .i64 0, .int .i64 0, .int .i64 0, .int .i64 1, .slice (some ⟨w.heap.size + 1, 0, none⟩) 2 2, .slice (some ⟨w.heap.size + 1 + 1, 0, none⟩) 2 2, .slice oa zs.length oc, .int .i64 cap]) (some w.heap.size) := gb_setRow (gb_refl wr _) (.inr rfl)
      have HSLL := Lib.hid (MR.out.low.later sgr (fun b off len cap e _ => by have := (MR.out.lowAt b off len cap e).1; simp; omega))
      have HSLH := Lib.hid (MR.out.high.later sgr (fun b off len cap e _ => by have := (MR.out.highAt b off len cap e).1; simp; omega))
      have HSP := Lib.hid ((SlC.of_owns MR.out.own).row sgr (fun b off len cap e _ he => by
        rcases MR.out.own.2 with ⟨e', -⟩ | ⟨gg, cap', cur, e', hb, -⟩
        · rw [e] at e'; simp at e'
        · rw [e] at e'; simp at e' he; omega))
      have HN := Lib.hid (setRow_at (cs := #[.int .i64 0, .int .i64 0, .int .i64 0, .int .i64 0, .int .i64 0, .int .i64 0, .int .i64 1, .slice (some ⟨w.heap.size + 1, 0, none⟩) 2 2, .slice (some ⟨w.heap.size + 1 + 1, 0, none⟩) 2 2, .slice oa zs.length oc, .int .i64 cap]) hR)
      have HGE := Lib.hid (gb_setRow (cs := #[.int .i64 0, .int .i64 0, .int .i64 0, .int .i64 0, .int .i64 0, .int .i64 0, .int .i64 1, .slice (some ⟨w.heap.size + 1, 0, none⟩) 2 2, .slice (some ⟨w.heap.size + 1 + 1, 0, none⟩) 2 2, .slice oa zs.length oc, .int .i64 cap]) MR.out.grown (g := w.heap.size) (.inl (Nat.le_refl _)))
      have HRR := Lib.hid hR
      have HPI : Hid (ProbIn (flatProb cap zs) (.slice (some ⟨w.heap.size + 1, 0, none⟩) 2 2) (.slice (some ⟨w.heap.size + 1 + 1, 0, none⟩) 2 2) (.slice oa zs.length oc) (wr.setRow w.heap.size #[.int .i64 0, .int .i64 0, .int .i64 0, .int .i64 0, .int .i64 0, .int .i64 0, .int .i64 1, .slice (some ⟨w.heap.size + 1, 0, none⟩) 2 2, .slice (some ⟨w.heap.size + 1 + 1, 0, none⟩) 2 2, .slice oa zs.length oc, .int .i64 cap])) := Lib.hid ⟨HSLL.out, HSLH.out, by show SlC 6 _ _ (List.map flatPh zs).length _; rw [hlk]; have := HSP.out; rw [hlk] at this; exact this⟩
      clear hR PQ MR sgr HZR
      go_wp2_with (with_reducible refine wpList_store_row rfl _ _ _ rfl w.heap.size #[.int .i64 0, .int .i64 0, .int .i64 0, .int .i64 0, .int .i64 0, .int .i64 0, .int .i64 1, .slice (some ⟨w.heap.size + 1, 0, none⟩) 2 2, .slice (some ⟨w.heap.size + 1 + 1, 0, none⟩) 2 2, .slice oa zs.length oc, .int .i64 cap] rfl rfl _ _ HRR.out (by kernel_rfl) rfl (by simp [Value.oneCell']) ?_)
      have f0_ := cell_of HN.out 0 _ rfl; have f1_ := cell_of HN.out 1 _ rfl; have f2_ := cell_of HN.out 2 _ rfl; have f3_ := cell_of HN.out 3 _ rfl; have f4_ := cell_of HN.out 4 _ rfl; have f5_ := cell_of HN.out 5 _ rfl; have f6_ := cell_of HN.out 6 _ rfl; have f7_ := cell_of HN.out 7 _ rfl; have f8_ := cell_of HN.out 8 _ rfl; have f9_ := cell_of HN.out 9 _ rfl; have f10_ := cell_of HN.out 10 _ rfl
      exact bodyPost_ret (v := .agg #[.int .i64 0, .int .i64 0, .int .i64 0, .int .i64 0, .int .i64 0, .int .i64 0, .int .i64 1, .slice (some ⟨w.heap.size + 1, 0, none⟩) 2 2, .slice (some ⟨w.heap.size + 1 + 1, 0, none⟩) 2 2, .slice oa zs.length oc, .int .i64 cap]) (by simp [results, Try.results83, go_sem, f0_, f1_, f2_, f3_, f4_, f5_, f6_, f7_, f8_, f9_, f10_]) rfl ⟨_, _, _, rfl, HPI.out, HGE.out⟩
end LFlat
section LAwake27
open Go.RowKit Rg

theorem SlC.of_block {k n b : Nat} {w : World} {ys : List Value} {T : TypeId} {fr : Nat × Nat} (h : w.heap[b]? = some (.cells ys.toArray T fr)) (hn : ys.length = n * k) (hm : n ≤ 1000000) : SlC k w (.slice (some ⟨b, 0, none⟩) n n) n ys :=
  ⟨hn, .inr ⟨b, 0, n, rfl, block_lt' h, Nat.le_refl _, by omega, fun j u hj => by rw [Nat.zero_add]; simp [World.cell?, h]; exact hj⟩⟩
def exA : List Zn := [⟨10, 20⟩, ⟨15, 30⟩]
def exB : List Zn := [⟨0, 0⟩, ⟨0, 0⟩, ⟨100, 100⟩]
theorem fairA : Fair (flatProb 10 exA).cap (flatProb 10 exA).phs exA := by
  refine ⟨by decide, by decide, fun i hi => ?_, fun i hi => ?_⟩
  · have : i = 0 ∨ i = 1 := by simp [flatProb, exA] at hi; omega
    rcases this with rfl | rfl <;> decide
  · have : i = 0 ∨ i = 1 := by simp [exA] at hi; omega
    unfold Tame
    rcases this with rfl | rfl <;> decide
theorem fairB : Fair (flatProb 10 exB).cap (flatProb 10 exB).phs exB := by
  refine ⟨by decide, by decide, fun i hi => ?_, fun i hi => ?_⟩
  · have : i = 0 ∨ i = 1 ∨ i = 2 := by simp [flatProb, exB] at hi; omega
    rcases this with rfl | rfl | rfl <;> decide
  · have : i = 0 ∨ i = 1 ∨ i = 2 := by simp [exB] at hi; omega
    unfold Tame
    rcases this with rfl | rfl | rfl <;> decide
theorem bestA : best (flatProb 10 exA).cap (flatProb 10 exA).phs exA = (15, 0) := by decide +kernel
theorem bestB : best (flatProb 10 exB).cap (flatProb 10 exB).phs exB = (0, 10) := by decide +kernel
theorem atA : atV (flatProb 10 exA) 0 0 0 = .tuple #[.int .i64 15, .int .i64 0, .int .i64 0] := by kernel_rfl

set_option maxRecDepth 100000 in
set_option maxHeartbeats 2000000 in
theorem awake27_any (w : World) : Calls Try.prog 48 #[] w fun e w' => e = .returned (.bool true) ∧ w.grownBy w' none := by
  go_enter Try.func48, Try.ntmps48
  go_wp2_with fail
  refine calls_name (fun w1 hw1 => ?_)
  have hA : w1.heap[w.heap.size]? = some (.cells (flatZ exA).toArray 32 (0, 0)) := by rw [hw1, heap_alloc_old _ _ (by simp), heap_alloc_new]; rfl
  have hB' : w1.heap[w.heap.size + 1]? = some (.cells #[.int .i64 0, .int .i64 0, .int .i64 0, .int .i64 0, .int .i64 100, .int .i64 100] 32 (0, 0)) := by rw [hw1]; simpa using heap_alloc_new (w.alloc _) _
  have hB : w1.heap[w.heap.size + 1]? = some (.cells (flatZ exB).toArray 32 (0, 0)) := hB'
  have HG1 : Hid (w.grownBy w1 none) := Lib.hid (by rw [hw1]; exact gb_alloc (gb_alloc (gb_refl _ _) _) _)
  clear hw1
  have SA := Lib.hid (SlC.of_block (k := 2) (n := 2) hA rfl (by omega)); have SB := Lib.hid (SlC.of_block (k := 2) (n := 3) hB rfl (by omega))
  have HA := Lib.hid hA; clear hA hB
  (with_reducible refine (flat_any 10 _ exA w1 SA.out (by decide)).mono ?_)
  rintro e w2 ⟨vl, vh, vp, rfl, hP, hg⟩
  have HP := Lib.hid hP; have HG2 := Lib.hid (gb_trans HG1.out hg)
  have SA2 := Lib.hid (SA.out.after hg); have SB2 := Lib.hid (SB.out.after hg); have HA2 := Lib.hid (block_kept hg HA.out rfl)
  obtain ⟨pa, pc, rfl⟩ : ∃ a c, vp = .slice a 2 c := hP.p.slice
  obtain ⟨la, ln, lc, rfl⟩ := sl_slice hP.l
  obtain ⟨ha, hn, hc, rfl⟩ := sl_slice hP.h
  rw [show (flatProb 10 exA).val (.slice la ln lc) (.slice ha hn hc) (.slice pa 2 pc) = #[.int .i64 0, .int .i64 0, .int .i64 0, .int .i64 0, .int .i64 0, .int .i64 0, .int .i64 1, .slice la ln lc, .slice ha hn hc, .slice pa 2 pc, .int .i64 10] from rfl]
  clear hP hg SA SB HA HG1
  go_wp2_with fail
  (with_reducible refine (flat_any 10 _ exB w2 SB2.out (by decide)).mono ?_)
  rintro e w3 ⟨vl, vh, vp, rfl, hP, hg⟩
  have HP3 := Lib.hid (HP.out.after hg); have HQ3 := Lib.hid hP
  have SA3 := Lib.hid (SA2.out.after hg); have SB3 := Lib.hid (SB2.out.after hg); have HA3 := Lib.hid (block_kept hg HA2.out rfl); have HG3 := Lib.hid (gb_trans HG2.out hg)
  obtain ⟨qa, qc, rfl⟩ : ∃ a c, vp = .slice a 3 c := hP.p.slice
  obtain ⟨ma, mn, mc, rfl⟩ := sl_slice hP.l
  obtain ⟨na, nn, nc, rfl⟩ := sl_slice hP.h
  rw [show (flatProb 10 exB).val (.slice ma mn mc) (.slice na nn nc) (.slice qa 3 qc) = #[.int .i64 0, .int .i64 0, .int .i64 0, .int .i64 0, .int .i64 0, .int .i64 0, .int .i64 1, .slice ma mn mc, .slice na nn nc, .slice qa 3 qc, .int .i64 10] from rfl]
  clear hP hg SA2 SB2 HA2 HG2 HP
  have BA := Lib.hid (fun (u : World) (h1 : ProbIn (flatProb 10 exA) (.slice la ln lc) (.slice ha hn hc) (.slice pa 2 pc) u) (h2 : SlC 2 u (.slice (some ⟨w.heap.size, 0, none⟩) 2 2) 2 (flatZ exA)) => (show Calls Try.prog 41 #[.agg #[.int .i64 0, .int .i64 0, .int .i64 0, .int .i64 0, .int .i64 0, .int .i64 0, .int .i64 1, .slice la ln lc, .slice ha hn hc, .slice pa 2 pc, .int .i64 10], .slice (some ⟨w.heap.size, 0, none⟩) 2 2] u fun e w' => e = .returned (.tuple #[.int .i64 15, .int .i64 0]) ∧ u.grownBy w' none from by
    have h := best_any (flatProb 10 exA) (.slice la ln lc) (.slice ha hn hc) (.slice pa 2 pc) (.slice (some ⟨w.heap.size, 0, none⟩) 2 2) exA u h1.p h2 fairA (by decide) (by decide) rfl rfl
    rw [bestA] at h; exact h))
  have BB := Lib.hid (fun (u : World) (h1 : ProbIn (flatProb 10 exB) (.slice ma mn mc) (.slice na nn nc) (.slice qa 3 qc) u) (h2 : SlC 2 u (.slice (some ⟨w.heap.size + 1, 0, none⟩) 3 3) 3 (flatZ exB)) => (show Calls Try.prog 41 #[.agg #[.int .i64 0, .int .i64 0, .int .i64 0, .int .i64 0, .int .i64 0, .int .i64 0, .int .i64 1, .slice ma mn mc, .slice na nn nc, .slice qa 3 qc, .int .i64 10], .slice (some ⟨w.heap.size + 1, 0, none⟩) 3 3] u fun e w' => e = .returned (.tuple #[.int .i64 0, .int .i64 10]) ∧ u.grownBy w' none from by
    have h := best_any (flatProb 10 exB) (.slice ma mn mc) (.slice na nn nc) (.slice qa 3 qc) (.slice (some ⟨w.heap.size + 1, 0, none⟩) 3 3) exB u h1.p h2 fairB (by decide) (by decide) rfl rfl
    rw [bestB] at h; exact h))
  have AA := Lib.hid (fun (u : World) (h1 : ProbIn (flatProb 10 exA) (.slice la ln lc) (.slice ha hn hc) (.slice pa 2 pc) u) => (show Calls Try.prog 49 #[.agg #[.int .i64 0, .int .i64 0, .int .i64 0, .int .i64 0, .int .i64 0, .int .i64 0, .int .i64 1, .slice la ln lc, .slice ha hn hc, .slice pa 2 pc, .int .i64 10], .agg #[.int .i64 0, .int .i64 0, .int .i64 0]] u fun e w' => e = .returned (.tuple #[.int .i64 15, .int .i64 0, .int .i64 0]) ∧ u.grownBy w' none from by
    have h := at_any (flatProb 10 exA) (.slice la ln lc) (.slice ha hn hc) (.slice pa 2 pc) 0 0 0 u h1 (by decide)
    rw [atA] at h; exact h))
  have RA := Lib.hid (fun (u : World) => (show Calls Try.prog 46 #[.agg #[.int .i64 10, .int .i64 20], .int .i64 25] u fun e w' => e = .returned (.int .i64 5) ∧ u.grownBy w' none from by
    have h := residual_any ⟨10, 20⟩ 25 u (by decide) (by decide) (by decide)
    exact h))
  have ga := gb_alloc (gb_alloc (gb_refl w3 none) (.cells #[.int .i64 0, .int .i64 0, .int .i64 0, .int .i64 0, .int .i64 0, .int .i64 0, .int .i64 1, .slice la ln lc, .slice ha hn hc, .slice pa 2 pc, .int .i64 10] 68)) (.cells #[.int .i64 0, .int .i64 0, .int .i64 0, .int .i64 0, .int .i64 0, .int .i64 0, .int .i64 1, .slice ma mn mc, .slice na nn nc, .slice qa 3 qc, .int .i64 10] 68)
  have TP : Hid (((w3.alloc (.cells #[.int .i64 0, .int .i64 0, .int .i64 0, .int .i64 0, .int .i64 0, .int .i64 0, .int .i64 1, .slice la ln lc, .slice ha hn hc, .slice pa 2 pc, .int .i64 10] 68)).alloc (.cells #[.int .i64 0, .int .i64 0, .int .i64 0, .int .i64 0, .int .i64 0, .int .i64 0, .int .i64 1, .slice ma mn mc, .slice na nn nc, .slice qa 3 qc, .int .i64 10] 68)).heap[w3.heap.size]? = some (.cells #[.int .i64 0, .int .i64 0, .int .i64 0, .int .i64 0, .int .i64 0, .int .i64 0, .int .i64 1, .slice la ln lc, .slice ha hn hc, .slice pa 2 pc, .int .i64 10] 68 (0, 0))) := Lib.hid (by rw [heap_alloc_old _ _ (by simp), heap_alloc_new])
  have TQ : Hid (((w3.alloc (.cells #[.int .i64 0, .int .i64 0, .int .i64 0, .int .i64 0, .int .i64 0, .int .i64 0, .int .i64 1, .slice la ln lc, .slice ha hn hc, .slice pa 2 pc, .int .i64 10] 68)).alloc (.cells #[.int .i64 0, .int .i64 0, .int .i64 0, .int .i64 0, .int .i64 0, .int .i64 0, .int .i64 1, .slice ma mn mc, .slice na nn nc, .slice qa 3 qc, .int .i64 10] 68)).heap[w3.heap.size + 1]? = some (.cells #[.int .i64 0, .int .i64 0, .int .i64 0, .int .i64 0, .int .i64 0, .int .i64 0, .int .i64 1, .slice ma mn mc, .slice na nn nc, .slice qa 3 qc, .int .i64 10] 68 (0, 0))) := Lib.hid (by simpa using heap_alloc_new (w3.alloc _) _)
  have HP4 := Lib.hid (HP3.out.after ga); have HQ4 := Lib.hid (HQ3.out.after ga); have SA4 := Lib.hid (SA3.out.after ga); have SB4 := Lib.hid (SB3.out.after ga); have HA4 := Lib.hid (block_kept ga HA3.out rfl); have HG4 := Lib.hid (gb_trans HG3.out ga)
  clear ga HP3 HQ3 SA3 SB3 HA3 HG3
  have TP0 := TP.out
  have e0_ := cell_of TP.out 0 _ rfl; have e1_ := cell_of TP.out 1 _ rfl; have e2_ := cell_of TP.out 2 _ rfl; have e3_ := cell_of TP.out 3 _ rfl; have e4_ := cell_of TP.out 4 _ rfl; have e5_ := cell_of TP.out 5 _ rfl; have e6_ := cell_of TP.out 6 _ rfl; have e7_ := cell_of TP.out 7 _ rfl; have e8_ := cell_of TP.out 8 _ rfl; have e9_ := cell_of TP.out 9 _ rfl; have e10_ := cell_of TP.out 10 _ rfl
  go_wp2_with fail
  generalize (w3.alloc (.cells #[.int .i64 0, .int .i64 0, .int .i64 0, .int .i64 0, .int .i64 0, .int .i64 0, .int .i64 1, .slice la ln lc, .slice ha hn hc, .slice pa 2 pc, .int .i64 10] 68)).alloc (.cells #[.int .i64 0, .int .i64 0, .int .i64 0, .int .i64 0, .int .i64 0, .int .i64 0, .int .i64 1, .slice ma mn mc, .slice na nn nc, .slice qa 3 qc, .int .i64 10] 68) = w4 at *
  clear e0_ e1_ e2_ e3_ e4_ e5_ e6_ e7_ e8_ e9_ e10_
  clear TP0
  (with_reducible refine (BA.out w4 HP4.out SA4.out).mono ?_)
  rintro e w5 ⟨rfl, hg⟩
  have TP5 := Lib.hid (block_kept hg TP.out rfl); have TQ5 := Lib.hid (block_kept hg TQ.out rfl); have HP5 := Lib.hid (HP4.out.after hg); have HQ5 := Lib.hid (HQ4.out.after hg); have SB5 := Lib.hid (SB4.out.after hg); have HA5 := Lib.hid (block_kept hg HA4.out rfl); have HG5 := Lib.hid (gb_trans HG4.out hg)
  clear hg TP TQ HP4 HQ4 SA4 SB4 HA4 HG4
  have e0_ := cell_of TQ5.out 0 _ rfl; have e1_ := cell_of TQ5.out 1 _ rfl; have e2_ := cell_of TQ5.out 2 _ rfl; have e3_ := cell_of TQ5.out 3 _ rfl; have e4_ := cell_of TQ5.out 4 _ rfl; have e5_ := cell_of TQ5.out 5 _ rfl; have e6_ := cell_of TQ5.out 6 _ rfl; have e7_ := cell_of TQ5.out 7 _ rfl; have e8_ := cell_of TQ5.out 8 _ rfl; have e9_ := cell_of TQ5.out 9 _ rfl; have e10_ := cell_of TQ5.out 10 _ rfl
  go_wp2_with fail
  (with_reducible refine (BB.out w5 HQ5.out SB5.out).mono ?_)
  rintro e w6 ⟨rfl, hg⟩
  clear e0_ e1_ e2_ e3_ e4_ e5_ e6_ e7_ e8_ e9_ e10_
  have TP6 := Lib.hid (block_kept hg TP5.out rfl); have HP6 := Lib.hid (HP5.out.after hg); have HA6 := Lib.hid (block_kept hg HA5.out rfl); have HG6 := Lib.hid (gb_trans HG5.out hg)
  clear hg TP5 TQ5 HP5 HQ5 SB5 HA5 HG5
  have e0_ := cell_of TP6.out 0 _ rfl; have e1_ := cell_of TP6.out 1 _ rfl; have e2_ := cell_of TP6.out 2 _ rfl; have e3_ := cell_of TP6.out 3 _ rfl; have e4_ := cell_of TP6.out 4 _ rfl; have e5_ := cell_of TP6.out 5 _ rfl; have e6_ := cell_of TP6.out 6 _ rfl; have e7_ := cell_of TP6.out 7 _ rfl; have e8_ := cell_of TP6.out 8 _ rfl; have e9_ := cell_of TP6.out 9 _ rfl; have e10_ := cell_of TP6.out 10 _ rfl
  go_wp2_with fail
  (with_reducible refine (AA.out w6 HP6.out).mono ?_)
  rintro e w7 ⟨rfl, hg⟩
  clear e0_ e1_ e2_ e3_ e4_ e5_ e6_ e7_ e8_ e9_ e10_
  have HA7 := Lib.hid (block_kept hg HA6.out rfl); have HG7 := Lib.hid (gb_trans HG6.out hg)
  clear hg TP6 HP6 HA6 HG6
  have z0 := cell_of HA7.out 0 (.int .i64 10) rfl; have z1 := cell_of HA7.out 1 (.int .i64 20) rfl
  go_wp2_with fail
  (with_reducible refine (RA.out w7).mono ?_)
  rintro e w8 ⟨rfl, hg⟩
  have HGE := Lib.hid (gb_trans HG7.out hg)
  go_wp2_with fail
  go_ret
  exact ⟨rfl, HGE.out⟩
end LAwake27
end Go.Proofs.Ytkckcaijfedijaa
