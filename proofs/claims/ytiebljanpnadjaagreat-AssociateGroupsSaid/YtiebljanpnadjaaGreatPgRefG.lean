import Derived.Test.YtiebljanpnadjaaGreatPgBentT
import Derived.Test.YtiebljanpnadjaaGreatPgRef27
namespace Go.Proofs.YtiebljanpnadjaaGreat
set_option linter.all false
open Go.RowKit Rg
structure Tb where
 st : Int
 vl : Value
 vh : Value
def Tb.cells (t : Tb) : List Value := [.int .i64 t.st, t.vl, t.vh]
def Apart (p : Nat) (v : Value) : Prop := ∀ b off len cap, v = .slice (some ⟨b, off, none⟩) len cap → 0 < len → b ≠ p
def TbOf (p : Nat) (u : World) (t : Tb) (ls hs : List Int) : Prop := Sl u t.vl ls ∧ Sl u t.vh hs ∧ Apart p t.vl ∧ Apart p t.vh
def TbIn (p : Nat) (u : World) (t : Tb) : Prop := ∃ ls hs : List Int, TbOf p u t ls hs
theorem TbOf.draw {p : Nat} {u u' : World} {t : Tb} {ls hs : List Int} (h : TbOf p u t ls hs) (hg : u.grownBy u' (some p)) : TbOf p u' t ls hs := by
 obtain ⟨h1, h2, a1, a2⟩ := h
 exact ⟨h1.later hg (fun b off len cap e hl => by have := a1 b off len cap e hl; simp; omega), h2.later hg (fun b off len cap e hl => by have := a2 b off len cap e hl; simp; omega), a1, a2⟩
theorem TbOf.in {p : Nat} {u : World} {t : Tb} {ls hs : List Int} (h : TbOf p u t ls hs) : TbIn p u t := ⟨ls, hs, h⟩
theorem TbIn.draw {p : Nat} {u u' : World} {t : Tb} (h : TbIn p u t) (hg : u.grownBy u' (some p)) : TbIn p u' t := by
 obtain ⟨ls, hs, h⟩ := h
 exact ⟨ls, hs, h.draw hg⟩
section
variable {ops : Array Oper} {md : Region.Mode} {w0 : World} {B p : Nat} {sp : Nat → Option (List Value → Value → World → Prop)} {al : Nat → Bool} {N : Nat} {Q : List Oper → Act → Facts → Prop} {n k : Nat} {o : Oper} {l : List Oper} {a : Act} {f : Facts}
theorem rg_drawM (F : Value → World → Prop) (fid : FuncId) (args : Array Value) (hs : sp k = some (fun _ v u => F v u)) (hw : Region.wanted o (yielded ops a.tmps) = true) (hst : ∀ v u u', F v u → u.grownBy u' (some p) → F v u')
  (hrun : ∀ w, (execOp a.eval o).run Tryz.prog w = .ok (.enter fid args) w)
  (hc : ∀ w, Pulled w0 B p w → Calls Tryz.prog fid args w fun e w' => ∃ v, e = .returned v ∧ F v w' ∧ Src B w' p ∧ w.grownBy w' (some p))
  (h : ∀ v u, F v u → rLexL Tryz.prog md ops ⟨In (Pulled w0 B p), Pull p, sp, fun _ => false, N⟩ Q n l (k + 1) (a.put o.dst v) (upd f k (F v))) :
  rLexL Tryz.prog md ops ⟨In (Pulled w0 B p), Pull p, sp, fun _ => false, N⟩ Q (n + 1) (o :: l) k a f := by
 refine rLexL_spec (fun _ v u => F v u) hs hw (fun v j w w' _ _ _ hR h => hst v w w' h hR) (fun w hC hd => stepTo_call (hrun w) ?_) (fun v w _ h' => h v w h')
 refine (hc w hC.out).mono ?_
 rintro e w' ⟨v, rfl, hF, hS, hg⟩
 exact ⟨_, rfl, In.mk ⟨gb_trans hC.out.1 hg, hS⟩, hg, hF, fun e => by cases e⟩
end
def BentV (p q : Nat) (v : Value) (u : World) : Prop := ∃ t : Tb, v = .agg #[.int .i64 t.st, t.vl, t.vh] ∧ TbIn p u t
theorem BentT.draw {B p : Nat} {w : World} {e : Ending} {w' : World} (hp : p < w.heap.size) (h : BentT B p w e w') : ∃ v, e = .returned v ∧ BentV p 0 v w' ∧ Src B w' p ∧ w.grownBy w' (some p) := by
 obtain ⟨st, vl, vh, ls, hs, rfl, h1, h2, h3, h4, h5⟩ := h
 exact ⟨_, rfl, ⟨⟨st, vl, vh⟩, rfl, ls, hs, h1, h2, fun b off len cap e _ => by have := h3 _ (.inl rfl) b off len cap e; omega, fun b off len cap e _ => by have := h3 _ (.inr rfl) b off len cap e; omega⟩, h4, h5⟩
theorem BentV.out {p q : Nat} {st : Int} {vl vh : Value} {u : World} (h : BentV p q (.agg #[st, vl, vh]) u) : TbIn p u ⟨st, vl, vh⟩ := by
 obtain ⟨⟨st', vl', vh'⟩, e, h⟩ := h
 simp only [Value.agg.injEq, Array.mk.injEq, List.cons.injEq, Value.int.injEq, true_and, and_true] at e
 obtain ⟨rfl, rfl, rfl⟩ := e
 exact h
theorem TbIn.mk {p : Nat} {u : World} {st : Int} {vl vh : Value} {ls hs : List Int} (h1 : Sl u vl ls) (h2 : Sl u vh hs) (a1 : Apart p vl) (a2 : Apart p vh) : TbIn p u ⟨st, vl, vh⟩ := ⟨ls, hs, h1, h2, a1, a2⟩
def sameZ (a b c d : Int) : Bool := a == c && b == d
theorem run_neqZ (a b c d : Int) (w : World) :
  (binOp .neq 97 (.agg #[a, b]) (.agg #[c, d])).run Tryz.prog w = .ok (.bool (!sameZ a b c d)) w := by
 unfold sameZ
 by_cases h0 : a = c <;> by_cases h1 : b = d <;> simp [go_sem, h0, h1]
attribute [go_sem high] run_neqZ
theorem Sl.apart_lt {u : World} {v : Value} {xs : List Int} {p : Nat} (h : Sl u v xs) (hp : u.heap.size ≤ p) : Apart p v := by
 rcases h with ⟨rfl, a, c, rfl⟩ | ⟨b, off, cap, rfl, hb, -⟩
 ·intro b' off' len cap' e hl
  simp at e; omega
 ·intro b' off' len cap' e hl
  simp at e; omega
def ZnOk (zs : List Zn) (v : Value) (u : World) : Prop := ∃ s, v = .tuple #[s, (0:Int)] ∧ SlC 2 u s zs.length (flatZ zs)
theorem ZnOk.after {zs : List Zn} (v : Value) (u u' : World) (h : ZnOk zs v u) (hg : u.grownBy u' none) : ZnOk zs v u' := by
 obtain ⟨s, e, h⟩ := h; exact ⟨s, e, h.after hg⟩
theorem ZnOk.out {zs : List Zn} {s : Value} {u : World} (h : ZnOk zs (.tuple #[s, (0:Int)]) u) : SlC 2 u s zs.length (flatZ zs) := by
 obtain ⟨s', e, h⟩ := h
 simp only [Value.tuple.injEq, Array.mk.injEq, List.cons.injEq, and_true] at e
 rw [e]; exact h
theorem Zoned.ok {w : World} {E : Int} {zs : List Zn} {e : Ending} {w' : World} (h : Zoned w E zs e w') (hE : E = 0) : ∃ v, e = .returned v ∧ ZnOk zs v w' ∧ w.grownBy w' none := by
 rcases h with ⟨-, v, rfl, h1, -, h2⟩ | ⟨h0, -, -⟩
 ·exact ⟨_, rfl, ⟨v, rfl, h1⟩, h2⟩
 ·exact absurd hE h0
theorem Zoned.bad {w : World} {E : Int} {zs : List Zn} {e : Ending} {w' : World} (h : Zoned w E zs e w') (hE : E ≠ 0) : e = .returned (.tuple #[.slice none 0 0, E]) ∧ w.grownBy w' none := by
 rcases h with ⟨h0, -⟩ | ⟨-, rfl, h2⟩
 ·exact absurd h0 hE
 ·exact ⟨rfl, h2⟩
set_option maxRecDepth 100000 in
set_option maxHeartbeats 2000000 in
theorem rbound_any (P : Prob) (vl vh vp : Value) (b0 b1 b2 b3 b4 b5 : Int) (w : World) (hi : ProbIn P vl vh vp w) (hbig : P.phs.length ≤ 1000000000) :
  Calls Tryz.prog 143 #[.agg (P.val vl vh vp), .agg #[b0, b1, b2, b3, b4, b5]] w fun e w' => e = .returned (bdV P b0 b1 b2 b3 b4 b5) ∧ w.grownBy w' none := by
 have hg0 := gb_alloc (gb_alloc (gb_refl w none) (.cells (P.val vl vh vp) 83)) (.cells #[b0, b1, b2, b3, b4, b5] 25)
 have hT : ((w.alloc (.cells (P.val vl vh vp) 83)).alloc (.cells #[b0, b1, b2, b3, b4, b5] 25)).heap[w.heap.size]? = some (.cells (P.val vl vh vp) 83 (0, 0)) := by rw [heap_alloc_old _ _ (by simp), heap_alloc_new]
 have HI := zH (hi.after hg0); have HG0 := zH hg0; have HT := zH hT
 obtain ⟨pa, pc, rfl⟩ := hi.p.slice
 obtain ⟨la, ln, lc, rfl⟩ := sl_slice hi.l
 obtain ⟨ha, hn, hc, rfl⟩ := sl_slice hi.h
 clear hi hg0 hT
 have HZ := zH (fun (u : World) hu => rZones_any P (.slice la ln lc) (.slice ha hn hc) (.slice pa P.phs.length pc) b0 b1 b2 b3 b4 b5 u hu hbig)
 have HA : Hid (zonesE P b0 b1 b2 b3 b4 b5 = 0 → bdV P b0 b1 b2 b3 b4 b5 = .tuple #[.int .i64 (best P.cap P.phs (zonesL P b0 b1 b2 b3 b4 b5)).2, (0:Int)]) := zH (fun h => if_pos h)
 have HA' : Hid (zonesE P b0 b1 b2 b3 b4 b5 ≠ 0 → bdV P b0 b1 b2 b3 b4 b5 = .tuple #[(0:Int), .int .i64 (zonesE P b0 b1 b2 b3 b4 b5)]) := zH (fun h => if_neg h)
 have HSO := zH (fun h => zonesE_sound (P := P) (b0 := b0) (b1 := b1) (b2 := b2) (b3 := b3) (b4 := b4) (b5 := b5) h)
 have HBE := zH (fun (u : World) (v : Value) (hS : Sound P) (h1 : SlC 6 u (.slice pa P.phs.length pc) P.phs.length (flatP P.phs)) (h2 : SlC 2 u v (zonesL P b0 b1 b2 b3 b4 b5).length (flatZ (zonesL P b0 b1 b2 b3 b4 b5))) => rbest_any P (.slice la ln lc) (.slice ha hn hc) (.slice pa P.phs.length pc) v (zonesL P b0 b1 b2 b3 b4 b5) u h1 h2 (hS.fair _ _ _ _ _ _) (zonesL_length P b0 b1 b2 b3 b4 b5) (by have := hS.some; simp [zonesL]; omega) rfl rfl)
 generalize zonesE P b0 b1 b2 b3 b4 b5 = zE at *
 generalize zonesL P b0 b1 b2 b3 b4 b5 = zL at *
 generalize bdV P b0 b1 b2 b3 b4 b5 = av at *
 obtain ⟨x0, y0, z0, x1, y1, z1, step, ls, hs, phs, cap⟩ := P
 simp only [Prob.val] at *
 generalize best cap phs zL = bb at *
 go_enter Tryz.func143, Tryz.ntmps143
 have e0_ := cell_of HT.out 0 _ rfl; have e1_ := cell_of HT.out 1 _ rfl; have e2_ := cell_of HT.out 2 _ rfl; have e3_ := cell_of HT.out 3 _ rfl; have e4_ := cell_of HT.out 4 _ rfl; have e5_ := cell_of HT.out 5 _ rfl; have e6_ := cell_of HT.out 6 _ rfl; have e7_ := cell_of HT.out 7 _ rfl; have e8_ := cell_of HT.out 8 _ rfl; have e9_ := cell_of HT.out 9 _ rfl; have e10_ := cell_of HT.out 10 _ rfl
 go_wp2_with fail
 generalize hw1 : (w.alloc (.cells #[x0, y0, z0, x1, y1, z1, step, .slice la ln lc, .slice ha hn hc, .slice pa phs.length pc, cap] 83)).alloc (.cells #[b0, b1, b2, b3, b4, b5] 25) = w1 at *
 clear hw1
 (with_reducible refine (HZ.out _ HI.out).mono ?_)
 rintro e w2 hZ
 clear e0_ e1_ e2_ e3_ e4_ e5_ e6_ e7_ e8_ e9_ e10_
 rcases hZ with ⟨h0, v, rfl, hsl, -, hg2⟩ | ⟨h0, rfl, hg2⟩
 ·have HSL := zH hsl
  obtain ⟨va, vc, rfl⟩ := hsl.slice
  have HT2 := zH (block_kept hg2 HT.out rfl); have HG2 := zH (gb_trans HG0.out hg2); have HP2 := zH (HI.out.p.after hg2)
  clear hg2 hsl HT HI
  have e0_ := cell_of HT2.out 0 _ rfl; have e1_ := cell_of HT2.out 1 _ rfl; have e2_ := cell_of HT2.out 2 _ rfl; have e3_ := cell_of HT2.out 3 _ rfl; have e4_ := cell_of HT2.out 4 _ rfl; have e5_ := cell_of HT2.out 5 _ rfl; have e6_ := cell_of HT2.out 6 _ rfl; have e7_ := cell_of HT2.out 7 _ rfl; have e8_ := cell_of HT2.out 8 _ rfl; have e9_ := cell_of HT2.out 9 _ rfl; have e10_ := cell_of HT2.out 10 _ rfl
  go_wp2_with fail
  (with_reducible refine (HBE.out _ _ (HSO.out h0) HP2.out HSL.out).mono ?_)
  rintro e w3 ⟨rfl, hg3⟩
  have HG3 := zH (gb_trans HG2.out hg3)
  clear e0_ e1_ e2_ e3_ e4_ e5_ e6_ e7_ e8_ e9_ e10_
  go_wp2_with fail
  exact bodyPost_ret (v := .tuple #[.int .i64 bb.2, (0:Int)]) (by simp [results, Tryz.results143, go_sem]) rfl ⟨by rw [HA.out h0], HG3.out⟩
 ·have HG2 := zH (gb_trans HG0.out hg2)
  clear hg2
  go_wp2_with fail
  exact bodyPost_ret (v := .tuple #[(0:Int), zE]) (by simp [results, Tryz.results143, go_sem]) rfl ⟨by rw [HA'.out h0], HG2.out⟩
set_option maxRecDepth 100000 in
set_option maxHeartbeats 2000000 in
theorem rat_any (P : Prob) (vl vh vp : Value) (x y z : Int) (w : World) (hi : ProbIn P vl vh vp w) (hbig : P.phs.length ≤ 1000000000) :
  Calls Tryz.prog 146 #[.agg (P.val vl vh vp), .agg #[x, y, z]] w fun e w' => e = .returned (atV P x y z) ∧ w.grownBy w' none := by
 have hg0 := gb_alloc (gb_alloc (gb_refl w none) (.cells (P.val vl vh vp) 83)) (.cells #[x, y, z] 23)
 have hT : ((w.alloc (.cells (P.val vl vh vp) 83)).alloc (.cells #[x, y, z] 23)).heap[w.heap.size]? = some (.cells (P.val vl vh vp) 83 (0, 0)) := by rw [heap_alloc_old _ _ (by simp), heap_alloc_new]
 have HX0 : Hid (((w.alloc (.cells (P.val vl vh vp) 83)).alloc (.cells #[x, y, z] 23)).heap[w.heap.size + 1]? = some (.cells #[x, y, z] 23 (0, 0))) := zH (by simpa using heap_alloc_new (w.alloc _) _)
 have HI := zH (hi.after hg0); have HG0 := zH hg0; have HT := zH hT
 obtain ⟨pa, pc, rfl⟩ := hi.p.slice
 obtain ⟨la, ln, lc, rfl⟩ := sl_slice hi.l
 obtain ⟨ha, hn, hc, rfl⟩ := sl_slice hi.h
 clear hi hg0 hT
 have HZ := zH (fun (u : World) hu => rZones_any P (.slice la ln lc) (.slice ha hn hc) (.slice pa P.phs.length pc) x y z x y z u hu hbig)
 have HA : Hid (zonesE P x y z x y z = 0 → atV P x y z = .tuple #[.int .i64 (best P.cap P.phs (zonesL P x y z x y z)).1, .int .i64 (best P.cap P.phs (zonesL P x y z x y z)).2, (0:Int)]) := zH (fun h => if_pos h)
 have HA' : Hid (zonesE P x y z x y z ≠ 0 → atV P x y z = .tuple #[(0:Int), (0:Int), .int .i64 (zonesE P x y z x y z)]) := zH (fun h => if_neg h)
 have HSO := zH (fun h => zonesE_sound (P := P) (b0 := x) (b1 := y) (b2 := z) (b3 := x) (b4 := y) (b5 := z) h)
 have HBE := zH (fun (u : World) (v : Value) (hS : Sound P) (h1 : SlC 6 u (.slice pa P.phs.length pc) P.phs.length (flatP P.phs)) (h2 : SlC 2 u v (zonesL P x y z x y z).length (flatZ (zonesL P x y z x y z))) => rbest_any P (.slice la ln lc) (.slice ha hn hc) (.slice pa P.phs.length pc) v (zonesL P x y z x y z) u h1 h2 (hS.fair _ _ _ _ _ _) (zonesL_length P x y z x y z) (by have := hS.some; simp [zonesL]; omega) rfl rfl)
 generalize zonesE P x y z x y z = zE at *
 generalize zonesL P x y z x y z = zL at *
 generalize atV P x y z = av at *
 obtain ⟨x0, y0, z0, x1, y1, z1, step, ls, hs, phs, cap⟩ := P
 simp only [Prob.val] at *
 generalize best cap phs zL = bb at *
 go_enter Tryz.func146, Tryz.ntmps146
 have e0_ := cell_of HT.out 0 _ rfl; have e1_ := cell_of HT.out 1 _ rfl; have e2_ := cell_of HT.out 2 _ rfl; have e3_ := cell_of HT.out 3 _ rfl; have e4_ := cell_of HT.out 4 _ rfl; have e5_ := cell_of HT.out 5 _ rfl; have e6_ := cell_of HT.out 6 _ rfl; have e7_ := cell_of HT.out 7 _ rfl; have e8_ := cell_of HT.out 8 _ rfl; have e9_ := cell_of HT.out 9 _ rfl; have e10_ := cell_of HT.out 10 _ rfl
 go_wp2_with fail
 generalize hw1 : (w.alloc (.cells #[x0, y0, z0, x1, y1, z1, step, .slice la ln lc, .slice ha hn hc, .slice pa phs.length pc, cap] 83)).alloc (.cells #[x, y, z] 23) = w1 at *
 clear hw1
 have HX : w1.heap[w.heap.size + 1]? = some (.cells #[x, y, z] 23 (0, 0)) := HX0.out
 obtain ⟨m0_, m1_, m2_⟩ := cells3 HX
 have u1 := Made.cells (block_lt' HT.out); have u2 := Made.cells (block_lt' HX)
 by_cases h0 : zE = 0
 ·subst h0
  refine Rg.rR (Made w1) Makes (fun k => if k = 2 then some (isV (.agg #[x, y, z, x, y, z])) else if k = 3 then some (isF (ZnOk zL)) else none) (fun _ => false) 0 9 Makes.size (Made.start w1) (fun hne => ?_)
  (repeat (refine rQ ?_; go_big_quiet_step (fail); refine wpQuiet_nil ?_))
  refine rg_fix (.agg #[x, y, z, x, y, z]) 95 #[.agg #[x, y, z]] rfl rfl rfl (fun _ => by go_simp) (fun u hu => one_any _ _ _ u) ?_
  simp only [zA, zB, zC, zD, zX]
  refine rg_fixF (ZnOk zL) 94 #[.agg #[x0, y0, z0, x1, y1, z1, step, .slice la ln lc, .slice ha hn hc, .slice pa phs.length pc, cap], .agg #[x, y, z, x, y, z]] rfl rfl rfl ZnOk.after (fun _ => by go_simp) (fun u hu => (HZ.out u (HI.out.after hu)).mono fun e w' h => h.ok rfl) (fun zv zu hzv => ?_)
  obtain ⟨zsl, rfl, hsl⟩ := hzv
  obtain ⟨va, vc, rfl⟩ := hsl.slice
  clear hsl zu
  simp only [zA, zB, zC, zD, zX]
  (repeat (refine rQ ?_; go_big_quiet_step (fail); refine wpQuiet_nil ?_))
  rintro wq hq hf -
  refine wpList_nil ?_
  have HSL := zH (ZnOk.out (hf 3))
  have HT2 := zH (block_kept hq HT.out rfl); have HG2 := zH (gb_trans HG0.out hq); have HP2 := zH (HI.out.p.after hq)
  clear hf hq hne u1 u2 m0_ m1_ m2_ HT HI
  clear e0_ e1_ e2_ e3_ e4_ e5_ e6_ e7_ e8_ e9_ e10_
  have e0_ := cell_of HT2.out 0 _ rfl; have e1_ := cell_of HT2.out 1 _ rfl; have e2_ := cell_of HT2.out 2 _ rfl; have e3_ := cell_of HT2.out 3 _ rfl; have e4_ := cell_of HT2.out 4 _ rfl; have e5_ := cell_of HT2.out 5 _ rfl; have e6_ := cell_of HT2.out 6 _ rfl; have e7_ := cell_of HT2.out 7 _ rfl; have e8_ := cell_of HT2.out 8 _ rfl; have e9_ := cell_of HT2.out 9 _ rfl; have e10_ := cell_of HT2.out 10 _ rfl
  go_wp2_with fail
  (with_reducible refine (HBE.out _ _ (HSO.out trivial) HP2.out HSL.out).mono ?_)
  rintro e w3 ⟨rfl, hg3⟩
  have HG3 := zH (gb_trans HG2.out hg3)
  clear e0_ e1_ e2_ e3_ e4_ e5_ e6_ e7_ e8_ e9_ e10_
  go_wp2_with fail
  exact bodyPost_ret (v := .tuple #[.int .i64 bb.1, .int .i64 bb.2, (0:Int)]) (by simp [results, Tryz.results146, go_sem]) rfl ⟨by rw [HA.out trivial], HG3.out⟩
 ·refine Rg.rR (Made w1) Makes (fun k => if k = 2 then some (isV (.agg #[x, y, z, x, y, z])) else if k = 3 then some (isV (.tuple #[.slice none 0 0, zE])) else none) (fun _ => false) 0 9 Makes.size (Made.start w1) (fun hne => ?_)
  (repeat (refine rQ ?_; go_big_quiet_step (fail); refine wpQuiet_nil ?_))
  refine rg_fix (.agg #[x, y, z, x, y, z]) 95 #[.agg #[x, y, z]] rfl rfl rfl (fun _ => by go_simp) (fun u hu => one_any _ _ _ u) ?_
  simp only [zA, zB, zC, zD, zX]
  refine rg_fix (.tuple #[.slice none 0 0, zE]) 94 #[.agg #[x0, y0, z0, x1, y1, z1, step, .slice la ln lc, .slice ha hn hc, .slice pa phs.length pc, cap], .agg #[x, y, z, x, y, z]] rfl rfl rfl (fun _ => by go_simp) (fun u hu => (HZ.out u (HI.out.after hu)).mono fun e w' h => h.bad h0) ?_
  simp only [zA, zB, zC, zD, zX]
  (repeat (refine rQ ?_; go_big_quiet_step (fail); refine wpQuiet_nil ?_))
  rintro wq hq - -
  refine wpList_nil ?_
  have HG2 := zH (gb_trans HG0.out hq)
  clear hq hne u1 u2 m0_ m1_ m2_
  clear e0_ e1_ e2_ e3_ e4_ e5_ e6_ e7_ e8_ e9_ e10_
  go_wp2_with fail
  exact bodyPost_ret (v := .tuple #[(0:Int), (0:Int), zE]) (by simp [results, Tryz.results146, go_sem]) rfl ⟨by rw [HA'.out h0], HG2.out⟩
set_option maxRecDepth 100000 in
set_option maxHeartbeats 1000000 in
theorem ints_same (v1 v2 : Value) (xs : List Int) (w : World) (h1 : Sl w v1 xs) (h2 : Sl w v2 xs) (hl : xs.length ≤ 1000000) :
  Calls Tryz.prog 19 #[v1, v2] w fun e w' => e = .returned (.bool true) ∧ w.grownBy w' none := by
 have H1 := zH h1; have H2 := zH h2
 obtain ⟨a1, c1, rfl⟩ := h1.shape; obtain ⟨a2, c2, rfl⟩ := h2.shape
 clear h1 h2
 go_enter Tryz.func19, Tryz.ntmps19
 go_wp2_with fail
 go_loopw [13] (fun i wr => ∃ k : Nat, k ≤ xs.length ∧ i = .int .i64 k ∧ w.grownBy wr none) (fun i _ => xs.length - (intOf i).toNat)
 case atStart => exact ⟨0, by omega, rfl, gb_refl _ _⟩
 case round =>
  obtain ⟨k, hk, rfl, hgr⟩ := hrel
  by_cases hlt : k < xs.length
  ·have hkd : decide ((k : Int) < (xs.length : Int)) = true := decide_eq_true (by omega)
   obtain ⟨b1, o1, d1, e1, hb1, -, -, hc1⟩ := (H1.out.after hgr).block (by omega)
   obtain ⟨b2, o2, d2, e2, hb2, -, -, hc2⟩ := (H2.out.after hgr).block (by omega)
   simp only [Value.slice.injEq, true_and] at e1 e2
   obtain ⟨rfl, rfl⟩ := e1; obtain ⟨rfl, rfl⟩ := e2
   have x1 := hc1 k hlt; have x2 := hc2 k hlt
   have u1 := fun (x : Up wr) (c : Nat) => ever_cell x (b := b1) (o := c) hb1
   have u2 := fun (x : Up wr) (c : Nat) => ever_cell x (b := b2) (o := c) hb2
   have HGR := zH hgr
   clear hc1 hc2 hgr
   generalize at0 xs k = y at *
   go_wp2_with fail
   (refine wp_region_grown (by kernel_rfl) (by kernel_rfl) ?_; (repeat (go_big_quiet_step (fail))); refine wpQuiet_nil ?_; intro wq hq)
   have HGN := zH (gb_trans HGR.out hq)
   clear hq u1 u2 x1 x2
   go_wp2_with fail
   go_roundw
   case rel => exact ⟨k + 1, by omega, by go_num, HGN.out⟩
   case measure => simp [intOf]; omega
  ·obtain rfl : k = xs.length := by omega
   have HGE := zH hgr
   go_wp2
   go_ret
   exact ⟨rfl, HGE.out⟩
end Go.Proofs.YtiebljanpnadjaaGreat
