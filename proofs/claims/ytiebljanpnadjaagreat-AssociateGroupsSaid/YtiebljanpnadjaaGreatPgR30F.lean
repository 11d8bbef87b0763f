import Derived.Test.YtiebljanpnadjaaGreatPgR30D
import Derived.Test.YtiebljanpnadjaaGreatPgSrch
namespace Go.Proofs.YtiebljanpnadjaaGreat
set_option linter.all false
open Go.RowKit Rg
set_option maxRecDepth 100000 in
set_option maxHeartbeats 4000000 in
theorem rlocate_any (P : Prob) (vl vh vp : Value) (tol : Int) (w : World) (hi : ProbIn P vl vh vp w) (hbig : P.phs.length ≤ 1000000000) :
  Calls Tryz.prog 78 #[.agg (P.val vl vh vp), tol] w fun e w' => e = .returned (.tuple #[.agg (srch P tol).1.val, .int .i64 (srch P tol).2.2]) ∧ w.grownBy w' none := by
 have SE := zH (fun (u : World) (h : w.grownBy u none) => rsearch_any P vl vh vp tol u (hi.after h) hbig)
 obtain ⟨pa, pc, rfl⟩ := hi.p.slice
 obtain ⟨la, ln, lc, rfl⟩ := sl_slice hi.l
 obtain ⟨ha, hn, hc, rfl⟩ := sl_slice hi.h
 clear hi hbig
 generalize srch P tol = pr at *
 obtain ⟨fx, tk, er⟩ := pr
 obtain ⟨x0, y0, z0, x1, y1, z1, step, ls, hs, phs, cap⟩ := P
 generalize hpn : phs.length = pn at *
 have hPV : Prob.val ⟨x0, y0, z0, x1, y1, z1, step, ls, hs, phs, cap⟩ (.slice la ln lc) (.slice ha hn hc) (.slice pa pn pc) = #[.int .i64 x0, .int .i64 y0, .int .i64 z0, .int .i64 x1, .int .i64 y1, .int .i64 z1, .int .i64 step, .slice la ln lc, .slice ha hn hc, .slice pa pn pc, .int .i64 cap] := rfl
 have hFX : Loc.val fx = #[.int .i64 fx.px, .int .i64 fx.py, .int .i64 fx.pz, .int .i64 fx.t, .int .i64 fx.m, .int .i64 fx.l, .int .i64 fx.a0, .int .i64 fx.a1, .int .i64 fx.a2, .int .i64 fx.a3, .int .i64 fx.a4, .int .i64 fx.a5] := rfl
 dsimp only at SE
 rw [hPV, hFX] at SE
 rw [hPV, hFX]
 have hg0 := gb_alloc (gb_alloc (gb_refl w none) (.cells #[x0, y0, z0, x1, y1, z1, step, .slice la ln lc, .slice ha hn hc, .slice pa pn pc, cap] 83)) (.cells #[(0:Int), (0:Int), (0:Int), (0:Int), (0:Int), (0:Int), (0:Int), (0:Int), (0:Int), (0:Int), (0:Int), (0:Int)] 79)
 have K0 : Hid (((w.alloc (.cells #[x0, y0, z0, x1, y1, z1, step, .slice la ln lc, .slice ha hn hc, .slice pa pn pc, cap] 83)).alloc (.cells #[(0:Int), (0:Int), (0:Int), (0:Int), (0:Int), (0:Int), (0:Int), (0:Int), (0:Int), (0:Int), (0:Int), (0:Int)] 79)).heap[w.heap.size]? = some (.cells #[x0, y0, z0, x1, y1, z1, step, .slice la ln lc, .slice ha hn hc, .slice pa pn pc, cap] 83 (0, 0))) := zH (by rw [heap_alloc_old _ _ (by simp), heap_alloc_new])
 have K1 : Hid (((w.alloc (.cells #[x0, y0, z0, x1, y1, z1, step, .slice la ln lc, .slice ha hn hc, .slice pa pn pc, cap] 83)).alloc (.cells #[(0:Int), (0:Int), (0:Int), (0:Int), (0:Int), (0:Int), (0:Int), (0:Int), (0:Int), (0:Int), (0:Int), (0:Int)] 79)).heap[w.heap.size + 1]? = some (.cells #[(0:Int), (0:Int), (0:Int), (0:Int), (0:Int), (0:Int), (0:Int), (0:Int), (0:Int), (0:Int), (0:Int), (0:Int)] 79 (0, 0))) := zH (by simpa using heap_alloc_new (w.alloc _) (.cells #[(0:Int), (0:Int), (0:Int), (0:Int), (0:Int), (0:Int), (0:Int), (0:Int), (0:Int), (0:Int), (0:Int), (0:Int)] 79))
 have G0 := zH hg0
 clear hg0
 obtain ⟨e0_, e1_, e2_, e3_, e4_, e5_, e6_, e7_, e8_, e9_, e10_⟩ := cells11 K0.out
 go_enter Tryz.func78, Tryz.ntmps78
 go_wp2_with fail
 generalize ((w.alloc (.cells #[x0, y0, z0, x1, y1, z1, step, .slice la ln lc, .slice ha hn hc, .slice pa pn pc, cap] 83)).alloc (.cells #[(0:Int), (0:Int), (0:Int), (0:Int), (0:Int), (0:Int), (0:Int), (0:Int), (0:Int), (0:Int), (0:Int), (0:Int)] 79)) = w1 at *
 (with_reducible refine (SE.out w1 G0.out).mono ?_)
 rintro r w2 ⟨rfl, hg⟩
 clear e0_ e1_ e2_ e3_ e4_ e5_ e6_ e7_ e8_ e9_ e10_
 have R2 := zH (block_kept hg K1.out rfl); have G2 := zH (gb_trans G0.out hg)
 clear hg K0 K1 G0 SE
 have hsz2 := block_lt' R2.out
 have hg3 : w2.grownBy (w2.alloc (.cells #[.int .i64 fx.px, .int .i64 fx.py, .int .i64 fx.pz, .int .i64 fx.t, .int .i64 fx.m, .int .i64 fx.l, .int .i64 fx.a0, .int .i64 fx.a1, .int .i64 fx.a2, .int .i64 fx.a3, .int .i64 fx.a4, .int .i64 fx.a5] 79)) none := gb_alloc (gb_refl _ _) _
 have R3 := zH (block_kept hg3 R2.out rfl); have G3 := zH (gb_trans G2.out hg3)
 have X3 := zH (heap_alloc_new w2 (.cells #[.int .i64 fx.px, .int .i64 fx.py, .int .i64 fx.pz, .int .i64 fx.t, .int .i64 fx.m, .int .i64 fx.l, .int .i64 fx.a0, .int .i64 fx.a1, .int .i64 fx.a2, .int .i64 fx.a3, .int .i64 fx.a4, .int .i64 fx.a5] 79))
 obtain ⟨d0_, d1_, d2_, d3_, d4_, d5_, d6_, d7_, d8_, d9_, d10_, d11_⟩ := cells12 X3.out
 clear hg3 R2 G2
 have HN := zH (setRow_at (cs := #[.int .i64 fx.px, .int .i64 fx.py, .int .i64 fx.pz, .int .i64 fx.t, .int .i64 fx.m, .int .i64 fx.l, .int .i64 fx.a0, .int .i64 fx.a1, .int .i64 fx.a2, .int .i64 fx.a3, .int .i64 fx.a4, .int .i64 fx.a5]) R3.out)
 have HGE := zH (gb_setRow (cs := #[.int .i64 fx.px, .int .i64 fx.py, .int .i64 fx.pz, .int .i64 fx.t, .int .i64 fx.m, .int .i64 fx.l, .int .i64 fx.a0, .int .i64 fx.a1, .int .i64 fx.a2, .int .i64 fx.a3, .int .i64 fx.a4, .int .i64 fx.a5]) G3.out (g := w.heap.size + 1) (.inl (by omega)))
 go_wp2_with (with_reducible refine wpList_store_row rfl _ _ _ rfl (w.heap.size + 1) #[.int .i64 fx.px, .int .i64 fx.py, .int .i64 fx.pz, .int .i64 fx.t, .int .i64 fx.m, .int .i64 fx.l, .int .i64 fx.a0, .int .i64 fx.a1, .int .i64 fx.a2, .int .i64 fx.a3, .int .i64 fx.a4, .int .i64 fx.a5] rfl rfl _ _ R3.out (by kernel_rfl) rfl (by simp [Value.oneCell']) ?_)
 obtain ⟨k0_, k1_, k2_, k3_, k4_, k5_, k6_, k7_, k8_, k9_, k10_, k11_⟩ := cells12 HN.out
 exact bodyPost_ret (v := .tuple #[.agg #[.int .i64 fx.px, .int .i64 fx.py, .int .i64 fx.pz, .int .i64 fx.t, .int .i64 fx.m, .int .i64 fx.l, .int .i64 fx.a0, .int .i64 fx.a1, .int .i64 fx.a2, .int .i64 fx.a3, .int .i64 fx.a4, .int .i64 fx.a5], er]) (by simp [results, Tryz.results78, go_sem, k0_, k1_, k2_, k3_, k4_, k5_, k6_, k7_, k8_, k9_, k10_, k11_]) rfl ⟨rfl, HGE.out⟩
section
variable {ops : Array Oper} {md : Region.Mode} {w0 : World} {sp : Nat → Option (List Value → Value → World → Prop)} {al : Nat → Bool} {N : Nat} {Q : List Oper → Act → Facts → Prop} {n k k0 : Nat} {o : Oper} {l : List Oper} {a : Act} {f : Facts} {P : Program}
theorem rg_fixBM {r m : Nat} {T : TypeId} (hk : k ≠ k0) (F : Value → World → Prop) (fid : FuncId) (args : Array Value) (hs : sp k = some (isF F)) (hw : Region.wanted o (yielded ops a.tmps) = true) (hal : al k = false) (hst : ∀ v u u', F v u → (u.grownBy u' none ∨ u.grownBy u' (some r)) → F v u')
  (hrun : ∀ w, (execOp a.eval o).run P w = .ok (.enter fid args) w)
  (hc : ∀ u, MadeB w0 r m T u → Calls P fid args u fun e w' => ∃ v, e = .returned v ∧ F v w' ∧ u.grownBy w' none)
  (h : ∀ v u, F v u → rLexL P md ops ⟨In (MadeB w0 r m T), MakesB k0 r, sp, al, N⟩ Q n l (k + 1) (a.put o.dst v) (upd f k (F v))) :
  rLexL P md ops ⟨In (MadeB w0 r m T), MakesB k0 r, sp, al, N⟩ Q (n + 1) (o :: l) k a f := by
 refine rLexL_spec (isF F) hs hw (fun v j w w' _ _ _ hR h => hst v w w' h ?_) (fun w hC hd => stepTo_call (hrun w) ?_) (fun v w _ h' => h v w h')
 ·unfold MakesB at hR
  split at hR
  ·exact .inr hR
  ·exact .inl hR
 ·refine (hc w hC.out).mono ?_
  rintro e w' ⟨v, rfl, hF, hg⟩
  exact ⟨_, rfl, In.mk (MadeB.grown _ _ hC.out hg), MakesB.none hk _ _ hg, hF, fun e => by rw [hal] at e; cases e⟩
abbrev isAtV (r : Nat) (T : TypeId) : List Value → Value → World → Prop := fun vs _ u => ∃ cs : Array Value, vs[1]? = some (.agg cs) ∧ u.heap[r]? = some (.cells cs T (0, 0))
theorem rg_storeBV (r : Nat) (cells : Array Value) (T ty : TypeId) (x y : Operand) (ho : o.op = .store ty x y) (hx : a.eval x = .pointer (some ⟨r, 0, none⟩)) (hy : a.eval y = .agg cells) (hi : (P.info? ty).map (·.size) = some cells.size) (h1 : cells.all (·.oneCell') = true)
  (hs : sp k = some (isAtV r T)) (hw : Region.wanted o (yielded ops a.tmps) = true) (hal : al k = false) (hdst : o.dst = none)
  (h : rLexL P md ops ⟨In (MadeB w0 r cells.size T), MakesB k r, sp, al, N⟩ Q n l (k + 1) (a.put o.dst undef) (upd f k fun u => ∃ cs : Array Value, [Value.pointer (some ⟨r, 0, none⟩), .agg cells][1]? = some (.agg cs) ∧ u.heap[r]? = some (.cells cs T (0, 0)))) :
  rLexL P md ops ⟨In (MadeB w0 r cells.size T), MakesB k r, sp, al, N⟩ Q (n + 1) (o :: l) k a f := by
 have hvals : vals a o = [.pointer (some ⟨r, 0, none⟩), .agg cells] := by simp [vals, ho, Op.operands, hx, hy]
 refine rLexL_spec (isAtV r T) hs hw ?_ (fun w hC hd => ?_) ?_
 ·rintro v j w w' hj _ _ hR ⟨cs, hcs, hh⟩
  unfold MakesB at hR; rw [if_neg hj] at hR
  exact ⟨cs, hcs, (World.grownBy.block hR r (Array.getElem?_eq_some_iff.1 hh).1 (by simp)).trans hh⟩
 ·obtain ⟨hg, cs, hcs, hh⟩ := hC.out
  unfold stepTo execOp
  simp only [ho, hx, hy, Instr.storeAt, Instr.sureAddr, Sem.run_bind, Sem.run_pure, Result.andThen_ok, run_storeVar_row (P := P) w r T ty cs cells hh hi hcs h1]
  have hg2 : w.grownBy (w.setRow r cells) (some r) := ⟨rfl, rfl, rfl, by simp [World.setRow], fun i hi hr => setRow_other w r i cells (fun e => hr (by rw [e]))⟩
  refine ⟨In.mk ⟨gb_trans hg hg2, cells, rfl, setRow_heap w r cs cells T _ hh⟩, ?_, ⟨cells, by rw [hvals]; rfl, setRow_heap w r cs cells T _ hh⟩, fun e => by rw [hal] at e; cases e⟩
  unfold MakesB; rw [if_pos rfl]; exact hg2
 ·intro v w hC _
  rw [hdst] at h ⊢
  rw [hvals]
  exact h
end
def IntsV (b0 : Nat) (xs : List Int) (v : Value) (u : World) : Prop := ∃ a c, v = .slice a xs.length c ∧ u.ownsRow b0 3 1 v xs.length (xs.map (Value.int .i64))
noncomputable def ixs (P : List Ph) (l : List Nat) : List Int := l.map (fun i => (oA P i : Int))
theorem ixs_length (P : List Ph) (l : List Nat) : (ixs P l).length = l.length := by simp [ixs]
theorem ixs_snoc (P : List Ph) (l : List Nat) (i : Nat) : ixs P (l ++ [i]) = ixs P l ++ [(oA P i : Int)] := by simp [ixs]
theorem ixs_at {P : List Ph} {l : List Nat} {k : Nat} (h : k < l.length) : at0 (ixs P l) k = (oA P l[k] : Int) := by simp [at0, ixs, h]
def RdRes (A : Asc) (P : List Ph) (pl : List Nat) (w : World) (e : Ending) (w' : World) : Prop :=
 w.grownBy w' none ∧
 ((((winOf A.span P pl).length : Int) < A.least ∧ e = .returned (.tuple #[.agg #[.slice none 0 0, (0:Int), (0:Int), (0:Int), (0:Int)], .bool false, (0:Int)])) ∨
  (A.least ≤ ((winOf A.span P pl).length : Int) ∧ (locA A P (winOf A.span P pl)).2 ≠ 0 ∧ e = .returned (.tuple #[.agg #[.slice none 0 0, (0:Int), (0:Int), (0:Int), (0:Int)], .bool false, .int .i64 (locA A P (winOf A.span P pl)).2])) ∨
  (A.least ≤ ((winOf A.span P pl).length : Int) ∧ (locA A P (winOf A.span P pl)).2 = 0 ∧ ∃ mv, w'.ownsRow w.heap.size 3 1 mv (memOf A P (winOf A.span P pl) (locA A P (winOf A.span P pl)).1).length ((srt (ixs P (memOf A P (winOf A.span P pl) (locA A P (winOf A.span P pl)).1))).map (Value.int .i64)) ∧
   e = .returned (.tuple #[.agg #[mv, .int .i64 (locA A P (winOf A.span P pl)).1.px, .int .i64 (locA A P (winOf A.span P pl)).1.py, .int .i64 (locA A P (winOf A.span P pl)).1.pz, .int .i64 (locA A P (winOf A.span P pl)).1.t], .bool (decide (A.least ≤ ((memOf A P (winOf A.span P pl) (locA A P (winOf A.span P pl)).1).length : Int))), (0:Int)])))
set_option maxRecDepth 100000 in
set_option maxHeartbeats 20000000 in
theorem rround_any (A : Asc) (P : List Ph) (r : Nat) (rs : List Nat) (vl vh pv ov : Value) (w : World) (hA : AscIn A vl vh w) (hp : SlC 6 w pv P.length (flatP P)) (hv : avE A P = 0) (hn : P.length ≤ 1000) (hs : (r :: rs).Pairwise (· < ·)) (hlt : ∀ i ∈ r :: rs, i < P.length) (ho : Sl w ov (ixs P (r :: rs)))
  (hrz : ∀ X, locA A P (winOf A.span P (r :: rs)) = (X, 0) → resEr (A.prob ((winOf A.span P (r :: rs)).map (phO P))) X = 0) :
  Calls Tryz.prog 49 #[.agg (A.val vl vh), pv, ov] w (RdRes A P (r :: rs) w) := by
 have hwf := win_filter (span := A.span) hs hlt
 have hphs := (avE_ok hv).2
 have hok := (avE_ok hv).1
 have hspan : 0 ≤ A.span ∧ A.span ≤ 1099511627776 ∧ 2 ≤ A.least ∧ A.least ≤ 16 := by
  unfold Asc.ok at hok
  simp only [Bool.and_eq_true, inI_iff] at hok
  omega
 have HEB : Hid (∀ i, i < P.length → 0 ≤ elA P i ∧ elA P i ≤ 18014398509481984) := zH (fun i hi => by
  have := phP_iff.1 (hphs _ (phO_mem hi))
  rw [elA_phO]; omega)
 have PRB := zH (fun (W : List Nat) (wv : Value) (u : World) (hu : w.grownBy u none) (h : Sl u wv ((W.map (oA P)).map (fun (i : Nat) => (i : Int)))) (hW : ∀ i ∈ W.map (oA P), i < P.length) (hl : (W.map (oA P)).length ≤ 1000) => rproblem30_any A P (W.map (oA P)) vl vh pv wv u (hA.after hu) (hp.after hu) h hW hl)
 have HAI := zH hA
 have RES := zH (fun (e : Ending) (w' : World) (h : RdRes A P (r :: rs) w e w') => h)
 have HRZ := zH hrz; have HWF := zH hwf; have HSP := zH hspan; have HLT := zH hlt; have HO := zH ho; have HP := zH hp
 have h1 := hA.l; have h2 := hA.h
 obtain ⟨la, ln, lc, rfl⟩ := sl_slice h1; obtain ⟨ha, hm, hc, rfl⟩ := sl_slice h2
 obtain ⟨pa, pc, rfl⟩ := hp.slice
 obtain ⟨sa, sc, rfl⟩ := ho.shape
 rw [ixs_length] at HO ⊢
 obtain ⟨m, hmm⟩ : ∃ m, (r :: rs).length = m := ⟨_, rfl⟩
 rw [hmm] at HO ⊢
 have HML := zH hmm
 have hm1 : 1 ≤ m := by rw [← hmm]; simp
 clear h1 h2 hA hp hv hs hlt ho hrz hwf hphs hok hmm hspan
 obtain ⟨x0, y0, z0, x1, y1, z1, st, ls, hs, cap, tol, span, lim, least⟩ := A
 simp only [Asc.val] at *
 generalize hpl : r :: rs = pl at *
 have HPL := zH hpl
 clear hpl
 have G1 := gb_alloc (gb_alloc (gb_refl w none) (.cells #[x0, y0, z0, x1, y1, z1, st, .slice la ln lc, .slice ha hm hc, cap, tol, span, lim, least] 30)) (.cells #[.slice none 0 0, (0:Int), (0:Int), (0:Int), (0:Int)] 53)
 have hk := gb_alloc (gb_refl (w.alloc (.cells #[x0, y0, z0, x1, y1, z1, st, .slice la ln lc, .slice ha hm hc, cap, tol, span, lim, least] 30)) none) (.cells #[.slice none 0 0, (0:Int), (0:Int), (0:Int), (0:Int)] 53)
 have B1 := block_kept hk (heap_alloc_new w (.cells #[x0, y0, z0, x1, y1, z1, st, .slice la ln lc, .slice ha hm hc, cap, tol, span, lim, least] 30)) rfl
 have l1 : (w.alloc (.cells #[x0, y0, z0, x1, y1, z1, st, .slice la ln lc, .slice ha hm hc, cap, tol, span, lim, least] 30)).heap.size = w.heap.size + 1 := by simp
 have R1 := heap_alloc_new (w.alloc (.cells #[x0, y0, z0, x1, y1, z1, st, .slice la ln lc, .slice ha hm hc, cap, tol, span, lim, least] 30)) (.cells #[.slice none 0 0, (0:Int), (0:Int), (0:Int), (0:Int)] 53)
 rw [l1] at R1
 have l2 : ((w.alloc (.cells #[x0, y0, z0, x1, y1, z1, st, .slice la ln lc, .slice ha hm hc, cap, tol, span, lim, least] 30)).alloc (.cells #[.slice none 0 0, (0:Int), (0:Int), (0:Int), (0:Int)] 53)).heap.size = w.heap.size + 2 := by simp
 have HG1 := zH G1; have HB1 := zH B1; have HR1 := zH R1; have HL2 := zH l2
 clear G1 hk B1 l1 R1 l2
 go_enter Tryz.func49, Tryz.ntmps49
 go_upto_block 0 with fail
 generalize (w.alloc (.cells #[x0, y0, z0, x1, y1, z1, st, .slice la ln lc, .slice ha hm hc, cap, tol, span, lim, least] 30)).alloc (.cells #[.slice none 0 0, (0:Int), (0:Int), (0:Int), (0:Int)] 53) = w2 at *
 obtain ⟨z, hz⟩ : ∃ z, w.heap.size = z := ⟨_, rfl⟩
 have HZ := zH hz
 rw [hz] at HB1 HR1 HL2 ⊢
 clear hz
 go_cut [9, 11] from 18 to 54 (fun wv _ wc => wc.ownsRow (z + 2) 3 1 wv (winOf span P pl).length ((ixs P (winOf span P pl)).map (Value.int .i64)) ∧ w2.grownBy wc none)
 case first =>
  go_wp2_with fail
  go_loopw [9, 11] (fun wv iv wr => ∃ (k : Nat) (W : List Nat), k ≤ m ∧ iv = .int .i64 k ∧ WinF span P r pl k W ∧ wr.ownsRow (z + 2) 3 1 wv W.length ((ixs P W).map (Value.int .i64)) ∧ w2.grownBy wr none) (fun _ iv _ => m - (intOf iv).toNat)
  case atStart => exact ⟨0, [], by omega, rfl, ⟨by simp, by simp⟩, World.ownsRow_nil _ _ _ _, gb_refl _ _⟩
  case round =>
   obtain ⟨k, W, hk, rfl, hwn, hown, hgr⟩ := hrel
   obtain ⟨oa, oc, rfl⟩ := owns_slice hown
   have WN := zH hwn; have OW := zH hown; have GR := zH hgr
   clear hwn hown hgr
   have hkm : Hid (k < m ∨ m ≤ k) := zH (by omega)
   by_cases hlt : k < m
   ·have hkd : decide ((k : Int) < (m : Int)) = true := decide_eq_true (by omega)
    by_cases h16 : W.length < 16
    ·have h16d : decide ((W.length : Int) < 16) = true := decide_eq_true (by omega)
     have hkp : k < pl.length := by rw [HML.out]; exact hlt
     have hiP := HLT.out pl[k] (List.getElem_mem hkp)
     have hrP := HLT.out r (HPL.out ▸ List.mem_cons_self ..)
     have h0p : 0 < pl.length := by omega
     have hr0 : pl[0] = r := by
      have h := congrArg (fun l => l[0]?) HPL.out
      simpa [h0p] using h.symm
     have GW := gb_trans HG1.out GR.out
     obtain ⟨sb, so, scap, se, hsb, hsm, hsc2, hsc⟩ := (HO.out.after GW).block (by rw [ixs_length]; exact h0p)
     rw [ixs_length, HML.out] at se hsc hsm
     simp only [Value.slice.injEq, true_and] at se
     obtain ⟨rfl, rfl⟩ := se
     have s0_ := hsc 0 hm1
     have sk_ := hsc k hlt
     rw [ixs_at h0p, hr0, Nat.add_zero] at s0_
     rw [ixs_at hkp] at sk_
     obtain ⟨pb, po, pcap, pe, hpb, -, -, hpc⟩ := (HP.out.after GW).block (by omega)
     simp only [Value.slice.injEq, true_and] at pe
     obtain ⟨rfl, rfl⟩ := pe
     have hjP := oA_lt hiP; have hjr := oA_lt hrP
     obtain ⟨-, -, -, e3_, -, -⟩ := SlC.ph hpc (oA P pl[k]) hjP
     obtain ⟨-, -, -, f3_, -, -⟩ := SlC.ph hpc (oA P r) hjr
     have hek : P[oA P pl[k]].e = elA P pl[k] := by rw [elA_phO]; show _ = (phA P (oA P pl[k])).e; rw [phA_eq hjP]
     have her : P[oA P r].e = elA P r := by rw [elA_phO]; show _ = (phA P (oA P r)).e; rw [phA_eq hjr]
     rw [hek] at e3_; rw [her] at f3_
     have hbk := HEB.out pl[k] hiP; have hbr := HEB.out r hrP
     have WS := zH (WN.out.step hkp h16)
     have HIN : Hid (inW span P r pl[k] = decide (elA P pl[k] ≤ elA P r + span)) := zH rfl
     obtain ⟨-, -, -, -, -, -, -, -, -, -, -, c11_, -, -⟩ := cells14 (block_kept GR.out HB1.out rfl)
     have hzl := block_lt' (block_kept GR.out HB1.out rfl)
     have HSN : Hid (ixs P (W ++ [pl[k]]) = ixs P W ++ [(oA P pl[k] : Int)]) := zH (ixs_snoc P W pl[k])
     have HKB : Hid (k < 9223372036854775807) := zH (by omega)
     clear hsc hpc hek her hsm hsc2
     generalize inW span P r pl[k] = cn at *
     generalize elA P pl[k] = ek at *
     generalize elA P r = er at *
     generalize hjk : oA P pl[k] = jk at *
     generalize oA P r = jr at *
     generalize pl[k] = ik at *
     generalize hpn : P.length = pn at *
     have hspan := HSP.out
     have hwe : IntKind.i64.wrap (er + span) = er + span := by rw [IntKind.wrap_i64]; omega
     have u1 := fun (x : Up wr) (c : Nat) => ever_cell x (b := sb) (o := c) hsb
     have u2 := fun (x : Up wr) (c : Nat) => ever_cell x (b := pb) (o := c) hpb
     have u3 := fun (x : Up wr) (c : Nat) => ever_cell x (b := z) (o := c) hzl
     have hlw : (ixs P W).length = W.length := ixs_length P W
     have hkb := HKB.out
     by_cases hcn : ek ≤ er + span
     ·have hcd : decide (ek ≤ er + span) = true := decide_eq_true hcn
      have WS2 : Hid (WinF span P r pl (k + 1) (W ++ [ik])) := zH (by have h := WS.out; rw [HIN.out, hcd] at h; exact h)
      clear hcn WS HIN
      go_wp2_with fail
      (refine wp_region_grown (by kernel_rfl) (by kernel_rfl) ?_; (repeat (go_big_quiet_step (fail))); refine wpQuiet_nil ?_; intro wq hq)
      have GQ := zH (gb_trans GR.out hq)
      have OQ := zH (owns_keep OW.out hq)
      have sq_ := (gb_cell hq hsb (by simp)).trans sk_
      have hsq := Nat.lt_of_lt_of_le hsb hq.size
      have hszq : z + 2 ≤ wq.heap.size := by have := GQ.out.size; have := HL2.out; omega
      clear hq u1 u2 u3 s0_ sk_ e3_ f3_ c11_ hzl hsb hpb OW GR
      go_wp2_with (at_builtin; (refine wpList_push rfl _ _ 26 rfl (z + 2) 3 (.int .i64 0) 1 8 Tryz.underlying26 info_intS rfl (by decide) (by decide) (.slice oa W.length oc) W.length ((ixs P W).map (Value.int .i64)) rfl (OQ.out.alloc _) wq.heap.size 1 [.int .i64 (jk : Int)] 3 rfl (heap_alloc_new _ _) rfl (by simp [Value.oneCell']) (by omega) (by simp; omega) ?_); refine Hid.out ?_)
      refine zH ?_
      intro v9 w9 hown9 hg9
      have G9 := zH (gb_new (gb_trans GQ.out (gb_alloc (gb_refl _ none) _)) hg9 (fun q e => by have := (OQ.out.lt q e).1; have := HL2.out; omega))
      have O9 : Hid (w9.ownsRow (z + 2) 3 1 v9 (W ++ [ik]).length ((ixs P (W ++ [ik])).map (Value.int .i64))) := zH (by rw [List.length_append, List.length_singleton, HSN.out, List.map_append]; exact hown9)
      obtain ⟨na, nc, rfl⟩ := owns_slice hown9
      clear hown9 hg9 sq_ hsq OQ GQ
      go_wp2_with fail
      go_roundw
      case rel => exact ⟨k + 1, W ++ [ik], by omega, by go_num, WS2.out, O9.out, G9.out⟩
      case measure => simp [intOf]; omega
     ·have hcd : decide (ek ≤ er + span) = false := decide_eq_false hcn
      have WS2 : Hid (WinF span P r pl (k + 1) W) := zH (by have h := WS.out; rw [HIN.out, hcd] at h; simpa using h)
      clear hcn WS HIN
      go_wp2_with fail
      (refine wp_region_grown (by kernel_rfl) (by kernel_rfl) ?_; (repeat (go_big_quiet_step (fail))); refine wpQuiet_nil ?_; intro wq hq)
      have GQ := zH (gb_trans GR.out hq)
      have OQ := zH (owns_keep OW.out hq)
      clear hq u1 u2 u3 s0_ sk_ e3_ f3_ c11_ hzl hsb hpb OW GR
      go_wp2_with fail
      go_roundw
      case rel => exact ⟨k + 1, W, by omega, by go_num, WS2.out, OQ.out, GQ.out⟩
      case measure => simp [intOf]; omega
    ·have h16d : decide ((W.length : Int) < 16) = false := decide_eq_false (by omega)
     have HWD : Hid (winOf span P pl = W) := zH (by rw [HWF.out]; exact WN.out.done (.inr (by have := WN.out.le; omega)))
     go_wp2_with fail
     go_meet
     case rel => exact ⟨by rw [HWD.out]; exact OW.out, GR.out⟩
   ·have hkd : decide ((k : Int) < (m : Int)) = false := decide_eq_false (by omega)
    have HWD : Hid (winOf span P pl = W) := zH (by rw [HWF.out]; exact WN.out.done (.inl (by rw [HML.out]; omega)))
    go_wp2_with fail
    go_meet
    case rel => exact ⟨by rw [HWD.out]; exact OW.out, GR.out⟩
 case rest =>
  obtain ⟨hown, hgr⟩ := hcut
  obtain ⟨wa, wcap, e9⟩ := owns_slice hown
  subst e9
  obtain ⟨W, hW⟩ : ∃ W, winOf span P pl = W := ⟨_, rfl⟩
  have hsub : W.Sublist pl := hW ▸ winOf_sub
  have h16 : W.length ≤ 16 := hW ▸ winOf_len
  have hWP : ∀ i ∈ W, i < P.length := fun i hi => HLT.out i (hsub.subset hi)
  rw [hW] at hown HRZ ⊢
  have RES2 : Hid (∀ (e : Ending) (w' : World), w.grownBy w' none ∧ (((W.length : Int) < least ∧ e = .returned (.tuple #[.agg #[.slice none 0 0, (0:Int), (0:Int), (0:Int), (0:Int)], .bool false, (0:Int)])) ∨
   (least ≤ (W.length : Int) ∧ (locA ⟨x0, y0, z0, x1, y1, z1, st, ls, hs, cap, tol, span, lim, least⟩ P W).2 ≠ 0 ∧ e = .returned (.tuple #[.agg #[.slice none 0 0, (0:Int), (0:Int), (0:Int), (0:Int)], .bool false, .int .i64 (locA ⟨x0, y0, z0, x1, y1, z1, st, ls, hs, cap, tol, span, lim, least⟩ P W).2])) ∨
   (least ≤ (W.length : Int) ∧ (locA ⟨x0, y0, z0, x1, y1, z1, st, ls, hs, cap, tol, span, lim, least⟩ P W).2 = 0 ∧ ∃ mv, w'.ownsRow w.heap.size 3 1 mv (memOf ⟨x0, y0, z0, x1, y1, z1, st, ls, hs, cap, tol, span, lim, least⟩ P W (locA ⟨x0, y0, z0, x1, y1, z1, st, ls, hs, cap, tol, span, lim, least⟩ P W).1).length ((srt (ixs P (memOf ⟨x0, y0, z0, x1, y1, z1, st, ls, hs, cap, tol, span, lim, least⟩ P W (locA ⟨x0, y0, z0, x1, y1, z1, st, ls, hs, cap, tol, span, lim, least⟩ P W).1))).map (Value.int .i64)) ∧
    e = .returned (.tuple #[.agg #[mv, .int .i64 (locA ⟨x0, y0, z0, x1, y1, z1, st, ls, hs, cap, tol, span, lim, least⟩ P W).1.px, .int .i64 (locA ⟨x0, y0, z0, x1, y1, z1, st, ls, hs, cap, tol, span, lim, least⟩ P W).1.py, .int .i64 (locA ⟨x0, y0, z0, x1, y1, z1, st, ls, hs, cap, tol, span, lim, least⟩ P W).1.pz, .int .i64 (locA ⟨x0, y0, z0, x1, y1, z1, st, ls, hs, cap, tol, span, lim, least⟩ P W).1.t], .bool (decide (least ≤ ((memOf ⟨x0, y0, z0, x1, y1, z1, st, ls, hs, cap, tol, span, lim, least⟩ P W (locA ⟨x0, y0, z0, x1, y1, z1, st, ls, hs, cap, tol, span, lim, least⟩ P W).1).length : Int))), (0:Int)]))) → RdRes ⟨x0, y0, z0, x1, y1, z1, st, ls, hs, cap, tol, span, lim, least⟩ P pl w e w') := zH (fun e w' h => by unfold RdRes; simp only []; rw [hW]; exact h)
  have OW := zH hown; have GC := zH hgr; have HWP := zH hWP; have H16 := zH h16
  have GW := zH (gb_trans HG1.out hgr)
  have GZ2 : Hid (z + 2 ≤ wc.heap.size) := zH (by have := hgr.size; have := HL2.out; omega)
  have BC := zH (block_kept hgr HB1.out rfl); have RC := zH (block_kept hgr HR1.out rfl)
  clear hown hgr hW hsub hWP RES HWF HB1 HR1 HLT HPL HEB HO
  obtain ⟨c0_, c1_, c2_, c3_, c4_, c5_, c6_, c7_, c8_, c9_, c10_, c11_, c12_, c13_⟩ := cells14 BC.out
  have hzl := block_lt' BC.out
  obtain ⟨nW, hnW⟩ : ∃ n, W.length = n := ⟨_, rfl⟩
  rw [hnW] at OW H16 ⊢
  have HNW := zH hnW
  clear hnW h16
  by_cases hls : (nW : Int) < least
  ·have hld : decide ((nW : Int) < least) = true := decide_eq_true hls
   have HLS := zH hls
   have N1 := zH (setRow_at (cs := #[.slice none 0 0, (0:Int), (0:Int), (0:Int), (0:Int)]) RC.out)
   have GN := zH (gb_setRow (g := z + 1) (cs := #[.slice none 0 0, (0:Int), (0:Int), (0:Int), (0:Int)]) GW.out (.inl (by have := HZ.out; omega)))
   clear hls
   go_wp2_with (with_reducible refine wpList_store_row rfl _ _ _ rfl (z + 1) #[.slice none 0 0, (0:Int), (0:Int), (0:Int), (0:Int)] rfl rfl _ _ RC.out (by kernel_rfl) rfl (by simp [Value.oneCell']) ?_)
   obtain ⟨g0_, g1_, g2_, g3_, g4_⟩ := cells5 N1.out
   exact bodyPost_ret (v := .tuple #[.agg #[.slice none 0 0, (0:Int), (0:Int), (0:Int), (0:Int)], .bool false, (0:Int)]) (by simp [results, Tryz.results49, go_sem, g0_, g1_, g2_, g3_, g4_]) rfl (RES2.out _ _ ⟨GN.out, .inl ⟨by rw [HNW.out]; exact HLS.out, rfl⟩⟩)
  have hld : decide ((nW : Int) < least) = false := decide_eq_false hls
  have HLS : Hid (least ≤ (nW : Int)) := zH (by omega)
  have hnW1 : 1 ≤ nW := by have := HSP.out; omega
  clear hls
  have hmap : ixs P W = (W.map (oA P)).map (fun (i : Nat) => (i : Int)) := by unfold ixs; rw [List.map_map]; rfl
  have PR := zH (PRB.out W (.slice wa nW wcap) wc GW.out (by have h := Sl_of_owns OW.out (by rw [ixs_length, HNW.out]); rw [hmap] at h; exact h) (fun i hi => by obtain ⟨k, hk, rfl⟩ := List.mem_map.1 hi; exact oA_lt (HWP.out k hk)) (by rw [List.length_map, HNW.out]; have := H16.out; omega))
  have hpp : (W.map (oA P)).map (phA P) = W.map (phO P) := by rw [List.map_map]; rfl
  rw [hpp, List.length_map, HNW.out] at PR
  clear hmap hpp PRB
  go_wp2_with (with_reducible refine wpList_load14 rfl _ rfl z rfl _ _ BC.out rfl ?_)
  clear c0_ c1_ c2_ c3_ c4_ c5_ c6_ c7_ c8_ c9_ c10_ c11_ c12_ c13_ hzl
  (with_reducible refine PR.out.mono ?_)
  rintro e w5 ⟨qa, qc, rfl, hq, hg⟩
  simp only [Asc.prob, Prob.val]
  obtain ⟨X, E, hX⟩ : ∃ X E, locA ⟨x0, y0, z0, x1, y1, z1, st, ls, hs, cap, tol, span, lim, least⟩ P W = (X, E) := ⟨_, _, rfl⟩
  have HIN5 : Hid (∀ u, w5.grownBy u none → ProbIn (Asc.prob ⟨x0, y0, z0, x1, y1, z1, st, ls, hs, cap, tol, span, lim, least⟩ (W.map (phO P))) (.slice la ln lc) (.slice ha hm hc) (.slice qa nW qc) u) := zH (fun u hu => ⟨(HAI.out.l.after (gb_trans GW.out (gb_trans hg hu))), (HAI.out.h.after (gb_trans GW.out (gb_trans hg hu))), by show SlC 6 u _ (W.map (phO P)).length _; rw [List.length_map, HNW.out]; exact hq.after hu⟩)
  have LA := zH (fun (u : World) (hu : w5.grownBy u none) => rlocate_any (Asc.prob ⟨x0, y0, z0, x1, y1, z1, st, ls, hs, cap, tol, span, lim, least⟩ (W.map (phO P))) _ _ _ tol u (HIN5.out u hu) (by show (W.map (phO P)).length ≤ _; rw [List.length_map, HNW.out]; have := H16.out; omega))
  have hsr := (loc_srch (Asc.prob ⟨x0, y0, z0, x1, y1, z1, st, ls, hs, cap, tol, span, lim, least⟩ (W.map (phO P))) tol).1
  have hlx : locP (Asc.prob ⟨x0, y0, z0, x1, y1, z1, st, ls, hs, cap, tol, span, lim, least⟩ (W.map (phO P))) tol = (X, E) := hX
  rw [hlx] at hsr
  simp only [Prod.mk.injEq] at hsr
  rw [← hsr.1, ← hsr.2] at LA
  have RA := zH (fun (u : World) (hu : w5.grownBy u none) => rresiduals_all (Asc.prob ⟨x0, y0, z0, x1, y1, z1, st, ls, hs, cap, tol, span, lim, least⟩ (W.map (phO P))) _ _ _ X.px X.py X.pz X.t u (HIN5.out u hu) (by show (W.map (phO P)).length ≤ _; rw [List.length_map, HNW.out]; have := H16.out; omega))
  rw [hX] at RES2 HRZ
  have HX := zH hX
  have G5 := zH (gb_trans GW.out hg)
  have GZ5 : Hid (z + 2 ≤ w5.heap.size) := zH (by have := hg.size; have := GZ2.out; omega)
  have OW5 := zH (owns_keep OW.out hg)
  have B5 := zH (block_kept hg BC.out rfl); have R5 := zH (block_kept hg RC.out rfl)
  simp only [Asc.prob, Prob.val] at LA RA
  clear hsr hlx hX hg hq PR GW BC RC OW GC HAI
  have hgQ := gb_alloc (gb_refl w5 none) (.cells #[x0, y0, z0, x1, y1, z1, st, .slice la ln lc, .slice ha hm hc, .slice qa nW qc, cap] 83)
  have Q6 := zH (heap_alloc_new w5 (.cells #[x0, y0, z0, x1, y1, z1, st, .slice la ln lc, .slice ha hm hc, .slice qa nW qc, cap] 83))
  have B6 := zH (block_kept hgQ B5.out rfl); have R6 := zH (block_kept hgQ R5.out rfl); have G56 := zH hgQ; have OW6 := zH (owns_keep OW5.out hgQ)
  obtain ⟨e0_, e1_, e2_, e3_, e4_, e5_, e6_, e7_, e8_, e9_, e10_⟩ := cells11 Q6.out
  obtain ⟨c0_, c1_, c2_, c3_, c4_, c5_, c6_, c7_, c8_, c9_, c10_, c11_, c12_, c13_⟩ := cells14 B6.out
  have hql := block_lt' Q6.out; have hzl := block_lt' B6.out
  clear hgQ B5 R5 OW5
  go_wp2_with fail
  clear e0_ e1_ e2_ e3_ e4_ e5_ e6_ e7_ e8_ e9_ e10_ c0_ c1_ c2_ c3_ c4_ c5_ c6_ c7_ c8_ c9_ c10_ c11_ c12_ c13_ hql hzl
  generalize w5.alloc (.cells #[x0, y0, z0, x1, y1, z1, st, .slice la ln lc, .slice ha hm hc, .slice qa nW qc, cap] 83) = w6 at *
  generalize hqq : w5.heap.size = Q at *
  have HQZ : Hid (z + 2 ≤ Q) := zH (by have := GZ5.out; omega)
  clear hqq
  (with_reducible refine (LA.out w6 G56.out).mono ?_)
  rintro e w7 ⟨rfl, hg⟩
  obtain ⟨px, py, pz, pt, pm, pl_, q0, q1, q2, q3, q4, q5⟩ := X
  simp only [Loc.val] at RA RES2 ⊢
  have hgX := gb_alloc (gb_refl w7 none) (.cells #[px, py, pz, pt, pm, pl_, q0, q1, q2, q3, q4, q5] 79)
  have X8 := zH (heap_alloc_new w7 (.cells #[px, py, pz, pt, pm, pl_, q0, q1, q2, q3, q4, q5] 79))
  have h78 := gb_trans hg hgX
  have Q8 := zH (block_kept h78 Q6.out rfl); have B8 := zH (block_kept h78 B6.out rfl); have R8 := zH (block_kept h78 R6.out rfl); have OW8 := zH (owns_keep OW6.out h78); have G58 := zH (gb_trans G56.out h78)
  have G8 := zH (gb_trans G5.out G58.out)
  have HXQ : Hid (Q < w7.heap.size) := zH (by have := block_lt' Q6.out; have := hg.size; omega)
  clear hg hgX h78 Q6 B6 R6 OW6 LA G56
  by_cases hE : E = 0
  rotate_left
  ·have hEb : (E != 0) = true := by simpa using hE
   have HEN := zH hE
   have N1 := zH (setRow_at (cs := #[.slice none 0 0, (0:Int), (0:Int), (0:Int), (0:Int)]) R8.out)
   have GN := zH (gb_setRow (g := z + 1) (cs := #[.slice none 0 0, (0:Int), (0:Int), (0:Int), (0:Int)]) G8.out (.inl (by have := HZ.out; omega)))
   clear hE
   go_wp2_with (with_reducible refine wpList_store_row rfl _ _ _ rfl (z + 1) #[.slice none 0 0, (0:Int), (0:Int), (0:Int), (0:Int)] rfl rfl _ _ R8.out (by kernel_rfl) rfl (by simp [Value.oneCell']) ?_)
   obtain ⟨g0_, g1_, g2_, g3_, g4_⟩ := cells5 N1.out
   exact bodyPost_ret (v := .tuple #[.agg #[.slice none 0 0, (0:Int), (0:Int), (0:Int), (0:Int)], .bool false, E]) (by simp [results, Tryz.results49, go_sem, g0_, g1_, g2_, g3_, g4_]) rfl (RES2.out _ _ ⟨GN.out, .inr (.inl ⟨by rw [HNW.out]; exact HLS.out, HEN.out, rfl⟩)⟩)
  subst hE
  have hrz := HRZ.out ⟨px, py, pz, pt, pm, pl_, q0, q1, q2, q3, q4, q5⟩ rfl
  obtain ⟨e0_, e1_, e2_, e3_, e4_, e5_, e6_, e7_, e8_, e9_, e10_⟩ := cells11 Q8.out
  obtain ⟨d0_, d1_, d2_, d3_, d4_, d5_, d6_, d7_, d8_, d9_, d10_, d11_⟩ := cells12 X8.out
  have hql := block_lt' Q8.out; have hxl := block_lt' X8.out
  go_wp2_with fail
  clear e0_ e1_ e2_ e3_ e4_ e5_ e6_ e7_ e8_ e9_ e10_ d0_ d1_ d2_ d3_ d4_ d5_ d6_ d7_ d8_ d9_ d10_ d11_ hql hxl
  generalize w7.alloc (.cells #[px, py, pz, pt, pm, pl_, q0, q1, q2, q3, q4, q5] 79) = w8 at *
  generalize w7.heap.size = xb at *
  (with_reducible refine (RA.out w8 G58.out).mono ?_)
  rintro e w9 hrd
  obtain ⟨v9, rfl, ⟨ra, rl, rc, rfl, -, hrs⟩, hg9⟩ := residd_at (Q := Asc.prob ⟨x0, y0, z0, x1, y1, z1, st, ls, hs, cap, tol, span, lim, least⟩ (W.map (phO P))) (X := ⟨px, py, pz, pt, pm, pl_, q0, q1, q2, q3, q4, q5⟩) hrd
  rw [hrz] at hrs ⊢
  have hrs := hrs rfl
  have HRL : Hid (∀ k i, W[k]? = some i → at0 (resL (zonesL (Asc.prob ⟨x0, y0, z0, x1, y1, z1, st, ls, hs, cap, tol, span, lim, least⟩ (W.map (phO P))) px py pz px py pz) pt) k = resOf ⟨x0, y0, z0, x1, y1, z1, st, ls, hs, cap, tol, span, lim, least⟩ ⟨px, py, pz, pt, pm, pl_, q0, q1, q2, q3, q4, q5⟩ (phO P i)) := zH (fun k i h => resL_get (A := ⟨x0, y0, z0, x1, y1, z1, st, ls, hs, cap, tol, span, lim, least⟩) (P := P) (W := W) (X := ⟨px, py, pz, pt, pm, pl_, q0, q1, q2, q3, q4, q5⟩) h)
  have hrlen : (resL (zonesL (Asc.prob ⟨x0, y0, z0, x1, y1, z1, st, ls, hs, cap, tol, span, lim, least⟩ (W.map (phO P))) px py pz px py pz) pt).length = nW := by
   unfold resL
   rw [List.length_map, zonesL_length]
   show (W.map (phO P)).length = nW
   rw [List.length_map]; exact HNW.out
  generalize resL (zonesL (Asc.prob ⟨x0, y0, z0, x1, y1, z1, st, ls, hs, cap, tol, span, lim, least⟩ (W.map (phO P))) px py pz px py pz) pt = RL at *
  have HRS := zH hrs; have HRN := zH hrlen
  have hrl : rl = nW := by
   rcases hrs.shape with ⟨a, c, e⟩
   simp only [Value.slice.injEq] at e
   rw [e.2.1]; exact hrlen
  subst rl
  have X9 := zH (block_kept hg9 X8.out rfl); have B9 := zH (block_kept hg9 B8.out rfl); have R9 := zH (block_kept hg9 R8.out rfl); have OW9 := zH (owns_keep OW8.out hg9); have G9 := zH (gb_trans G8.out hg9)
  have GZ9 : Hid (z + 2 ≤ w9.heap.size ∧ Q < w9.heap.size) := zH (by have := G58.out.size; have := GZ5.out; have := hg9.size; have := block_lt' Q8.out; omega)
  clear hrz hrd hrs hrlen hg9 X8 B8 R8 OW8 G8 G58 RA HIN5 Q8 HRZ
  go_wp2_with fail
  obtain ⟨gw, gwc, hvw, hgwB, hgwl⟩ := OW9.out.form (by omega)
  simp only [Value.slice.injEq, true_and] at hvw
  obtain ⟨rfl, rfl⟩ := hvw
  clear hgwB hgwl
  go_loopw [10, 17] (fun mv iv wr => ∃ k : Nat, k ≤ nW ∧ iv = .int .i64 k ∧ wr.ownsRow w9.heap.size 3 1 mv (memOf ⟨x0, y0, z0, x1, y1, z1, st, ls, hs, cap, tol, span, lim, least⟩ P (W.take k) ⟨px, py, pz, pt, pm, pl_, q0, q1, q2, q3, q4, q5⟩).length ((ixs P (memOf ⟨x0, y0, z0, x1, y1, z1, st, ls, hs, cap, tol, span, lim, least⟩ P (W.take k) ⟨px, py, pz, pt, pm, pl_, q0, q1, q2, q3, q4, q5⟩)).map (Value.int .i64)) ∧ w9.grownBy wr none) (fun _ iv _ => nW - (intOf iv).toNat)
  case atStart => exact ⟨0, by omega, rfl, World.ownsRow_nil _ _ _ _, gb_refl _ _⟩
  case round =>
   obtain ⟨k, hk, rfl, hown, hgr⟩ := hrel
   obtain ⟨M, hM⟩ : ∃ M, memOf ⟨x0, y0, z0, x1, y1, z1, st, ls, hs, cap, tol, span, lim, least⟩ P (W.take k) ⟨px, py, pz, pt, pm, pl_, q0, q1, q2, q3, q4, q5⟩ = M := ⟨_, rfl⟩
   have hMl : M.length ≤ 16 := by rw [← hM]; refine Nat.le_trans (memOf_len ..) ?_; rw [List.length_take, HNW.out]; have := H16.out; omega
   rw [hM] at hown
   obtain ⟨ma, mc, rfl⟩ := owns_slice hown
   have OM := zH hown; have GR := zH hgr; have HM := zH hM
   clear hown hgr hM
   by_cases hlt : k < nW
   ·have hkd : decide ((k : Int) < (nW : Int)) = true := decide_eq_true (by omega)
    have hkW : k < W.length := by rw [HNW.out]; exact hlt
    have hWk : W[k]? = some W[k] := List.getElem?_eq_getElem hkW
    obtain ⟨rb, ro, rcap, re, hrb, -, -, hrc⟩ := (HRS.out.after GR.out).block (by rw [HRN.out]; omega)
    simp only [Value.slice.injEq] at re
    obtain ⟨rfl, -, rfl⟩ := re
    have r0_ := hrc k (by rw [HRN.out]; exact hlt)
    rw [HRL.out k W[k] hWk] at r0_
    have OWr := owns_keep OW9.out GR.out
    have w0_ := OWr.cellAt k (by omega)
    have hix : ((ixs P W).map (Value.int .i64))[k]? = some (.int .i64 (oA P W[k] : Int)) := by unfold ixs; simp [hkW]
    rw [hix] at w0_
    have hgwl := (OWr.lt gw rfl).2
    have HMT := zH (memOf_take (A := ⟨x0, y0, z0, x1, y1, z1, st, ls, hs, cap, tol, span, lim, least⟩) (P := P) (X := ⟨px, py, pz, pt, pm, pl_, q0, q1, q2, q3, q4, q5⟩) hWk)
    rw [HM.out] at HMT
    obtain ⟨-, -, -, -, -, -, -, -, -, -, -, -, c12_, -⟩ := cells14 (block_kept GR.out B9.out rfl)
    have hzl := block_lt' (block_kept GR.out B9.out rfl)
    clear hrc OWr hix hWk
    generalize hrv : resOf ⟨x0, y0, z0, x1, y1, z1, st, ls, hs, cap, tol, span, lim, least⟩ ⟨px, py, pz, pt, pm, pl_, q0, q1, q2, q3, q4, q5⟩ (phO P W[k]) = rv at *
    generalize hik : W[k] = ik at *
    have HSN : Hid (ixs P (M ++ [ik]) = ixs P M ++ [(oA P ik : Int)]) := zH (ixs_snoc P M ik)
    generalize oA P ik = jk at *
    clear hrv hik
    have hlm : (ixs P M).length = M.length := ixs_length P M
    have u1 := fun (x : Up wr) (c : Nat) => ever_cell x (b := rb) (o := c) hrb
    have u2 := fun (x : Up wr) (c : Nat) => ever_cell x (b := z) (o := c) hzl
    have H16k := H16.out
    by_cases hcn : rv ≤ lim
    ·have hcd : decide (rv ≤ lim) = true := decide_eq_true hcn
     have HM2 : Hid (memOf ⟨x0, y0, z0, x1, y1, z1, st, ls, hs, cap, tol, span, lim, least⟩ P (W.take (k + 1)) ⟨px, py, pz, pt, pm, pl_, q0, q1, q2, q3, q4, q5⟩ = M ++ [ik]) := zH (by rw [HMT.out, if_pos hcn])
     clear hcn HMT
     go_wp2_with fail
     (refine wp_region_grown (by kernel_rfl) (by kernel_rfl) ?_; (repeat (go_big_quiet_step (fail))); refine wpQuiet_nil ?_; intro wq hq)
     have GQ := zH (gb_trans GR.out hq); have OQ := zH (owns_keep OM.out hq)
     have wq_ := (gb_cell hq hgwl (by simp)).trans w0_
     have hgq := Nat.lt_of_lt_of_le hgwl hq.size
     have hszq := GQ.out.size
     clear hq u1 u2 r0_ w0_ c12_ hzl hrb hgwl GR OM
     go_wp2_with (at_builtin; (refine wpList_push rfl _ _ 26 rfl w9.heap.size 3 (.int .i64 0) 1 8 Tryz.underlying26 info_intS rfl (by decide) (by decide) (.slice ma M.length mc) M.length ((ixs P M).map (Value.int .i64)) rfl (OQ.out.alloc _) wq.heap.size 1 [.int .i64 (jk : Int)] 3 rfl (heap_alloc_new _ _) rfl (by simp [Value.oneCell']) (by omega) (by simp; omega) ?_); refine Hid.out ?_)
     refine zH ?_
     intro v9 w10 hown9 hg9
     have G10 := zH (push_grown GQ.out OQ.out (Nat.le_refl _) hg9)
     have O10 : Hid (w10.ownsRow w9.heap.size 3 1 v9 (M ++ [ik]).length ((ixs P (M ++ [ik])).map (Value.int .i64))) := zH (by rw [List.length_append, List.length_singleton, HSN.out, List.map_append]; exact hown9)
     obtain ⟨na, nc, rfl⟩ := owns_slice hown9
     clear hown9 hg9 wq_ hgq OQ GQ
     go_wp2_with fail
     go_roundw
     case rel => exact ⟨k + 1, by omega, by go_num, by rw [HM2.out]; exact O10.out, G10.out⟩
     case measure => simp [intOf]; omega
    ·have hcd : decide (rv ≤ lim) = false := decide_eq_false hcn
     have HM2 : Hid (memOf ⟨x0, y0, z0, x1, y1, z1, st, ls, hs, cap, tol, span, lim, least⟩ P (W.take (k + 1)) ⟨px, py, pz, pt, pm, pl_, q0, q1, q2, q3, q4, q5⟩ = M) := zH (by rw [HMT.out, if_neg hcn, List.append_nil])
     clear hcn HMT
     go_wp2_with fail
     (refine wp_region_grown (by kernel_rfl) (by kernel_rfl) ?_; (repeat (go_big_quiet_step (fail))); refine wpQuiet_nil ?_; intro wq hq)
     have GQ := zH (gb_trans GR.out hq); have OQ := zH (owns_keep OM.out hq)
     clear hq u1 u2 r0_ w0_ c12_ hzl hrb hgwl GR OM
     go_wp2_with fail
     go_roundw
     case rel => exact ⟨k + 1, by omega, by go_num, by rw [HM2.out]; exact OQ.out, GQ.out⟩
     case measure => simp [intOf]; omega
   ·have hkd : decide ((k : Int) < (nW : Int)) = false := decide_eq_false (by omega)
    have HMW : Hid (memOf ⟨x0, y0, z0, x1, y1, z1, st, ls, hs, cap, tol, span, lim, least⟩ P W ⟨px, py, pz, pt, pm, pl_, q0, q1, q2, q3, q4, q5⟩ = M) := zH (by have h := HM.out; rw [List.take_of_length_le (by rw [HNW.out]; omega)] at h; exact h)
    have HSA := zH (Sl_of_owns OM.out (ixs_length P M).symm)
    have BR := zH (block_kept GR.out B9.out rfl); have XR := zH (block_kept GR.out X9.out rfl); have RR := zH (block_kept GR.out R9.out rfl)
    have GWR := zH (gb_trans G9.out GR.out)
    have HMA : Hid (∀ b off len cap, Value.slice ma M.length mc = .slice (some ⟨b, off, none⟩) len cap → w9.heap.size ≤ b) := zH (fun b off len cap e => by
     simp only [Value.slice.injEq] at e
     obtain ⟨rfl, -, -⟩ := e
     exact (OM.out.lt b rfl).1)
    have HZR : Hid (z + 2 ≤ wr.heap.size ∧ z + 1 ≠ xb ∧ z + 1 < w9.heap.size) := zH (by have := GZ9.out; have := GR.out.size; have := HXQ.out; have := HQZ.out; omega)
    have RES3 := RES2
    rw [HMW.out] at RES3
    generalize hdm : decide (least ≤ (M.length : Int)) = dm at *
    have HDM := zH hdm
    have hlm : (ixs P M).length = M.length := ixs_length P M
    have SRT := zH (fun (u : World) (h : Sl u (.slice ma M.length mc) (ixs P M)) => rsorted30_any (ixs P M) _ u h (by rw [ixs_length]; omega))
    have hslen : (srt (ixs P M)).length = M.length := by rw [srt_len, hlm]
    obtain ⟨c0_, c1_, c2_, c3_, c4_, c5_, c6_, c7_, c8_, c9_, c10_, c11_, c12_, c13_⟩ := cells14 BR.out
    obtain ⟨d0_, d1_, d2_, d3_, d4_, d5_, d6_, d7_, d8_, d9_, d10_, d11_⟩ := cells12 XR.out
    have hzl := block_lt' BR.out; have hxl := block_lt' XR.out
    have hz1 : z ≠ z + 1 := by omega
    have hx1 : xb ≠ z + 1 := by have := HZR.out; omega
    clear RES2 OM HM HMW hdm GR B9 X9 R9 OW9 HRS HRL HRN
    go_wp2_with fail
    have uz_ := MadeB.cells (n := 5) (T := 53) hzl hz1; have ux_ := MadeB.cells (n := 5) (T := 53) hxl hx1
    generalize hml : M.length = ml at *
    refine Rg.rR (MadeB wr (z + 1) 5 53) (MakesB 12 (z + 1)) (fun k_ => if k_ = 1 then some (isF (IntsV wr.heap.size (srt (ixs P M)))) else if k_ = 12 then some (isAtV (z + 1) 53) else none) (fun _ => false) 0 15 (MakesB.size 12 (z + 1)) (MadeB.start RR.out rfl) (fun hne => ?_)
    (repeat (refine rQ ?_; go_big_quiet_step (fail); refine wpQuiet_nil ?_))
    refine rg_fixBM (by decide) (IntsV wr.heap.size (srt (ixs P M))) 51 #[.slice ma ml mc] rfl (by rfl) rfl (fun v u u' hv hg => ?_) (fun _ => by go_simp) (fun u hu => ?_) (fun sv su hsv => ?_)
    ·obtain ⟨a_, c_, rfl, ho_⟩ := hv
     refine ⟨a_, c_, rfl, ?_⟩
     rcases hg with hg | hg
     ·exact owns_keep ho_ hg
     ·exact owns_keepp ho_ hg (by have := HZR.out; omega)
    ·have hsl := HSA.out.later hu.1 (fun b off len cap e _ => by have := HMA.out b off len cap e; have := HZR.out; simp; omega)
     refine (SRT.out u hsl).mono ?_
     rintro e w' ⟨v, rfl, ho_, hg_⟩
     obtain ⟨a_, c_, rfl⟩ := owns_slice ho_
     rw [hlm] at ho_
     exact ⟨_, rfl, ⟨a_, c_, by rw [hslen, hlm], by rw [hslen]; rw [hlm]; exact owns_mono ho_ hu.1.size⟩, hg_⟩
    obtain ⟨va, vc, rfl, -⟩ := hsv
    rw [hslen]
    simp only [zA, zB, zC, zD, zX]
    (repeat (refine rQ ?_; go_big_quiet_step (fail); refine wpQuiet_nil ?_))
    refine rLexL_val (.int .i64 ml) (by rfl) (by rfl) (by rfl) (by rfl) (fun _ => by go_simp) ?_
    simp only [zA, zB, zC, zD, zX]
    (repeat (refine rQ ?_; go_big_quiet_step (fail); refine wpQuiet_nil ?_))
    refine rg_storeBV (z + 1) #[.slice va ml vc, px, py, pz, pt] 53 _ _ _ rfl rfl rfl (by kernel_rfl) (by simp [Value.oneCell']) rfl (by rfl) rfl rfl ?_
    simp only [zA, zB, zC, zD, zX]
    (repeat (refine rQ ?_; go_big_quiet_step (fail); refine wpQuiet_nil ?_))
    rintro w20 ⟨hg20, -⟩ hf -
    obtain ⟨cs, hcs, hblk⟩ := hf 12
    simp only [List.getElem?_cons_succ, List.getElem?_cons_zero, Option.some.injEq, Value.agg.injEq] at hcs
    subst hcs
    obtain ⟨a_, c_, e_, ho_⟩ := hf 1
    rw [hslen] at ho_
    have GE := zH (gb_new GWR.out hg20 (fun p_ hp_ => by simp at hp_; have := HZ.out; omega))
    have OE := zH (owns_mono ho_ GWR.out.size)
    have BE := zH hblk
    refine wpList_nil ?_
    clear hf hg20 hne hblk ho_ e_ uz_ ux_ c0_ c1_ c2_ c3_ c4_ c5_ c6_ c7_ c8_ c9_ c10_ c11_ c12_ c13_ d0_ d1_ d2_ d3_ d4_ d5_ d6_ d7_ d8_ d9_ d10_ d11_ hzl hxl
    obtain ⟨g0_, g1_, g2_, g3_, g4_⟩ := cells5 BE.out
    have hgl := block_lt' BE.out
    go_wp2_with fail
    exact bodyPost_ret (v := .tuple #[.agg #[.slice va ml vc, px, py, pz, pt], .bool dm, (0:Int)]) (by simp [results, Tryz.results49, go_sem, g0_, g1_, g2_, g3_, g4_, HDM.out]) rfl (RES3.out _ _ ⟨GE.out, .inr (.inr ⟨by rw [HNW.out]; exact HLS.out, trivial, .slice va ml vc, OE.out, rfl⟩)⟩)
end Go.Proofs.YtiebljanpnadjaaGreat
