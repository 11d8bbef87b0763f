import Derived.WalkMore
import Derived.ScopeJumps
import Derived.Test.YtiebljanpnadjaaGreatPgAsR
namespace Go.Proofs.YtiebljanpnadjaaGreat
set_option linter.all false
open Go.RowKit Rg
theorem range14 {w : World} {b : Nat} {cs : Array Value} {T : TypeId} {fr : Nat × Nat} (hb : w.heap[b]? = some (.cells cs T fr)) : w.rangeAt b 0 cs.toList := fun j v hj => by
 rw [Nat.zero_add]
 simp only [World.cell?, hb]
 simpa using hj
theorem info_grp : (Tryz.prog.info? 53).map (fun i => (i.zero, i.size, i.bytes)) = some (some (.agg #[.slice none 0 0, (0:Int), (0:Int), (0:Int), (0:Int)]), 5, 56) := by kernel_rfl
theorem asDesc : ∃ d, Tryz.prog.underlying 30 = some d ∧ d.isRow = true := ⟨_, Tryz.underlying30, rfl⟩
theorem asInfo : (Tryz.prog.info? 30).map (·.size) = some 14 := by kernel_rfl
theorem wpList_load14 {ops : Array Oper} {rest : List Oper} {o : Oper} {a : Act} {w : World} {Q : Exit → Act → World → Prop} (hgd : o.guard = none) (x : Operand) (ho : o.op = .load 30 x) (b : Nat) (hx : a.eval x = .pointer (some ⟨b, 0, none⟩)) (cs : Array Value) (T : TypeId)
  (hb : w.heap[b]? = some (.cells cs T (0, 0))) (hsz : cs.size = 14) (h : wpList Tryz.prog ops Q rest (a.put o.dst (.agg cs)) w) : wpList Tryz.prog ops Q (o :: rest) a w := by
 obtain ⟨d, h1, h2⟩ := asDesc
 exact wpList_load_mid hgd 30 x ho b 0 hx cs.toList d (range14 hb) h1 h2 (by rw [asInfo, Array.length_toList, hsz]) (by simpa using h)
theorem rg_load14 {ops : Array Oper} {md : Region.Mode} {w0 : World} {sp : Nat → Option (List Value → Value → World → Prop)} {al : Nat → Bool} {N : Nat} {Q : List Oper → Act → Facts → Prop} {n k : Nat} {o : Oper} {l : List Oper} {a : Act} {f : Facts} {R : Nat → World → World → Prop}
  (hR : ∀ u, R k u u) (x : Operand) (b : Nat) (cs : Array Value) (T : TypeId) (hb : w0.heap[b]? = some (.cells cs T (0, 0))) (hsz : cs.size = 14) (hs : sp k = some (isV (.agg cs))) (hw : Region.wanted o (yielded ops a.tmps) = true) (hal : al k = false) (ho : o.op = .load 30 x) (hx : a.eval x = .pointer (some ⟨b, 0, none⟩))
  (h : rLexL Tryz.prog md ops ⟨In (Made w0), R, sp, al, N⟩ Q n l (k + 1) (a.put o.dst (.agg cs)) (upd f k fun _ => Value.agg cs = Value.agg cs)) : rLexL Tryz.prog md ops ⟨In (Made w0), R, sp, al, N⟩ Q (n + 1) (o :: l) k a f := by
 obtain ⟨d, h1, h2⟩ := asDesc
 have hrun : ∀ w, Made w0 w → (execOp a.eval o).run Tryz.prog w = .ok (.value (.agg cs)) w := fun w hw' => by
  unfold execOp
  simp only [ho, hx, Instr.loadAt, Instr.sureAddr, Sem.run_bind, Sem.run_pure, Result.andThen_ok, run_loadVar_mid w b 0 30 cs.toList d (range14 (block_kept hw' hb rfl)) h1 h2 (by rw [asInfo, Array.length_toList, hsz]), Array.toArray_toList]
 refine rLexL_spec (isV (.agg cs)) hs hw (fun v j w w' _ _ _ _ h => h) (fun w hC hd => stepTo_run (hrun w hC.out) ?_) ?_
 ·exact ⟨hC, hR w, rfl, fun e => by rw [hal] at e; cases e⟩
 ·rintro v w hC rfl
  exact h
def ResAt (er : Int) (rs : List Int) (v : Value) (u : World) : Prop := ∃ a l c, v = .tuple #[.slice a l c, er] ∧ (er ≠ 0 → a = none ∧ l = 0 ∧ c = 0) ∧ (er = 0 → Sl u (.slice a l c) rs)
theorem ResAt.after {er : Int} {rs : List Int} (v : Value) (u u' : World) (h : ResAt er rs v u) (hg : u.grownBy u' none) : ResAt er rs v u' := by
 obtain ⟨a, l, c, rfl, h1, h2⟩ := h
 exact ⟨a, l, c, rfl, h1, fun e => (h2 e).after hg⟩
theorem residd_at {Q : Prob} {X : Loc} {u : World} {e : Ending} {w' : World} (h : Residd u (zonesE Q X.px X.py X.pz X.px X.py X.pz) (zonesL Q X.px X.py X.pz X.px X.py X.pz) X.t e w') : ∃ v, e = .returned v ∧ ResAt (resEr Q X) (resL (zonesL Q X.px X.py X.pz X.px X.py X.pz) X.t) v w' ∧ u.grownBy w' none := by
 obtain ⟨hg, h⟩ := h
 unfold resEr
 rcases h with ⟨h1, rfl⟩ | ⟨h1, h2, rfl⟩ | ⟨h1, h2, v, rfl, h3⟩
 ·rw [if_pos h1]
  exact ⟨_, rfl, ⟨none, 0, 0, rfl, fun _ => ⟨rfl, rfl, rfl⟩, fun e => absurd e h1⟩, hg⟩
 ·rw [if_neg (by rw [h1]; decide), if_pos h2]
  exact ⟨_, rfl, ⟨none, 0, 0, rfl, fun _ => ⟨rfl, rfl, rfl⟩, fun e => absurd e (by decide)⟩, hg⟩
 ·rw [if_neg (by rw [h1]; decide), if_neg (by omega)]
  obtain ⟨a, l, c, rfl⟩ := sl_slice h3
  exact ⟨_, rfl, ⟨a, l, c, rfl, fun e => absurd rfl e, fun _ => h3⟩, hg⟩
theorem resL_get {A : Asc} {P : List Ph} {W : List Nat} {X : Loc} {k i : Nat} (h : W[k]? = some i) : at0 (resL (zonesL (A.prob (W.map (phO P))) X.px X.py X.pz X.px X.py X.pz) X.t) k = resOf A X (phO P i) := by
 unfold at0 resL zonesL resOf Asc.prob
 simp [h]
theorem memOf_take {A : Asc} {P : List Ph} {W : List Nat} {X : Loc} {k i : Nat} (h : W[k]? = some i) : memOf A P (W.take (k + 1)) X = memOf A P (W.take k) X ++ (if resOf A X (phO P i) ≤ A.lim then [i] else []) := by
 unfold memOf
 rw [List.take_add_one, h, List.filter_append]
 congr 1
 simp only [Option.toList_some, List.filter_cons, List.filter_nil, decide_eq_true_eq]
theorem aproblem_any (x0 y0 z0 x1 y1 z1 st cap tol span lim least : Int) (la ha fa : Option Addr) (ln lc hm hc fn fc : Nat) (w : World) :
  Calls Tryz.prog 45 #[.agg #[x0, y0, z0, x1, y1, z1, st, .slice la ln lc, .slice ha hm hc, cap, tol, span, lim, least], .slice fa fn fc] w fun e w' => e = .returned (.agg #[x0, y0, z0, x1, y1, z1, st, .slice la ln lc, .slice ha hm hc, .slice fa fn fc, cap]) ∧ w.grownBy w' none := by
 have g1 := gb_alloc (gb_refl w none) (.cells #[x0, y0, z0, x1, y1, z1, st, .slice la ln lc, .slice ha hm hc, cap, tol, span, lim, least] 30)
 have b1 := heap_alloc_new w (.cells #[x0, y0, z0, x1, y1, z1, st, .slice la ln lc, .slice ha hm hc, cap, tol, span, lim, least] 30)
 have l1 : (w.alloc (.cells #[x0, y0, z0, x1, y1, z1, st, .slice la ln lc, .slice ha hm hc, cap, tol, span, lim, least] 30)).heap.size = w.heap.size + 1 := by simp
 have g2 := gb_alloc (gb_refl (w.alloc (.cells #[x0, y0, z0, x1, y1, z1, st, .slice la ln lc, .slice ha hm hc, cap, tol, span, lim, least] 30)) none) (.cells #[(0:Int), (0:Int), (0:Int), (0:Int), (0:Int), (0:Int), (0:Int), .slice none 0 0, .slice none 0 0, .slice none 0 0, (0:Int)] 83)
 have b2 := heap_alloc_new (w.alloc (.cells #[x0, y0, z0, x1, y1, z1, st, .slice la ln lc, .slice ha hm hc, cap, tol, span, lim, least] 30)) (.cells #[(0:Int), (0:Int), (0:Int), (0:Int), (0:Int), (0:Int), (0:Int), .slice none 0 0, .slice none 0 0, .slice none 0 0, (0:Int)] 83)
 rw [l1] at b2
 have B2 := zH b2
 have HN := zH (setRow_at (cs := #[x0, y0, z0, x1, y1, z1, st, .slice la ln lc, .slice ha hm hc, .slice fa fn fc, cap]) b2)
 have HG := zH (gb_setRow (cs := #[x0, y0, z0, x1, y1, z1, st, .slice la ln lc, .slice ha hm hc, .slice fa fn fc, cap]) (gb_trans g1 g2) (g := w.heap.size + 1) (.inl (by omega)))
 obtain ⟨c0_, c1_, c2_, c3_, c4_, c5_, c6_, c7_, c8_, c9_, c10_, c11_, c12_, c13_⟩ := cells14 (block_kept g2 b1 rfl)
 have hz := block_lt' (block_kept g2 b1 rfl)
 clear g1 b1 l1 g2 b2
 go_enter Tryz.func45, Tryz.ntmps45
 go_wp2_with (with_reducible refine wpList_store_row rfl _ _ _ rfl (w.heap.size + 1) #[x0, y0, z0, x1, y1, z1, st, .slice la ln lc, .slice ha hm hc, .slice fa fn fc, cap] rfl rfl _ _ B2.out (by kernel_rfl) rfl (by simp [Value.oneCell']) ?_)
 obtain ⟨e0_, e1_, e2_, e3_, e4_, e5_, e6_, e7_, e8_, e9_, e10_⟩ := cells11 HN.out
 exact bodyPost_ret (v := .agg #[x0, y0, z0, x1, y1, z1, st, .slice la ln lc, .slice ha hm hc, .slice fa fn fc, cap]) (by simp [results, Tryz.results45, go_sem, e0_, e1_, e2_, e3_, e4_, e5_, e6_, e7_, e8_, e9_, e10_]) rfl ⟨rfl, HG.out⟩
theorem avE_ok {A : Asc} {P : List Ph} (h : avE A P = 0) : A.ok = true ∧ ∀ a ∈ P, phP a.x a.y a.z a.e a.l a.n = true := by
 unfold avE at h
 cases ho : A.ok with
 | false => rw [ho] at h; simp at h
 | true =>
  refine ⟨rfl, fun a ha => ?_⟩
  rw [if_neg (by rw [ho]; decide)] at h
  split at h
  ·cases h
  ·have := errOf_zero.1 h a ha
   unfold zoneE znE at this
   split at this
   ·split at this
    ·cases hp : phP a.x a.y a.z a.e a.l a.n
     ·rw [hp] at this; simp at this
     ·rfl
    ·cases this
   ·cases this
theorem winOf_head {span : Int} {P : List Ph} {r : Nat} {rs : List Nat} (h : 0 ≤ span) : ∃ t, winOf span P (r :: rs) = r :: t := by
 show ∃ t, ((r :: rs).takeWhile (winC span P r)).take 16 = r :: t
 rw [List.takeWhile_cons, if_pos (by unfold winC; exact decide_eq_true (by omega)), List.take_succ_cons]
 exact ⟨_, rfl⟩
theorem winOf_sub {span : Int} {P : List Ph} {rest : List Nat} : (winOf span P rest).Sublist rest := by
 cases rest with
 | nil => exact List.Sublist.refl _
 | cons r rs => exact (List.take_sublist _ _).trans (List.takeWhile_sublist _)
theorem winOf_len {span : Int} {P : List Ph} {rest : List Nat} : (winOf span P rest).length ≤ 16 := by
 cases rest with
 | nil => simp [winOf]
 | cons r rs => unfold winOf; exact List.length_take_le _ _
structure GsOwn (b0 : Nat) (u : World) (L : List Grv) (gv lv : Value) (LF : List Int) : Prop where
 gr : u.ownsRow b0 53 5 gv L.length (flatG L)
 lr : u.ownsRow b0 3 1 lv LF.length (LF.map (Value.int .i64))
 ms : ∀ x ∈ L, Sl u x.mv x.g.ms ∧ ∀ b off len cap, x.mv = .slice (some ⟨b, off, none⟩) len cap → b0 ≤ b ∧ b < u.heap.size ∧ gv.ownBlock ≠ some b ∧ lv.ownBlock ≠ some b
 ap : ∀ g, gv.ownBlock = some g → lv.ownBlock ≠ some g
theorem GsOwn.later {b0 : Nat} {u u' : World} {L : List Grv} {gv lv : Value} {LF : List Int} (h : GsOwn b0 u L gv lv LF) (hg : u.grownBy u' none) : GsOwn b0 u' L gv lv LF :=
 ⟨owns_keep h.gr hg, owns_keep h.lr hg, fun x hx => ⟨(h.ms x hx).1.after hg, fun b off len cap e => by have := (h.ms x hx).2 b off len cap e; have hs := hg.size; exact ⟨by omega, by omega, this.2.2⟩⟩, h.ap⟩
def AsResO (A : Asc) (P : List Ph) (w : World) (e : Ending) (w' : World) : Prop :=
 ∃ (L : List Grv) (gv lv : Value), e = .returned (.tuple #[gv, lv, .int .i64 (assocR A P).1]) ∧ GsOwn w.heap.size w' L gv lv (assocR A P).2.2 ∧ L.map Grv.g = (assocR A P).2.1 ∧ w.grownBy w' none
theorem AsResO.err {A : Asc} {P : List Ph} {w w' : World} {c : Int} (h : assocR A P = (c, [], [])) (hg : w.grownBy w' none) : AsResO A P w (.returned (.tuple #[.slice none 0 0, .slice none 0 0, c])) w' := by
 refine ⟨[], _, _, by rw [h], ⟨World.ownsRow_nil _ _ _ _, ?_, by simp, by simp [Value.ownBlock]⟩, by rw [h]; rfl, hg⟩
 rw [h]; exact World.ownsRow_nil _ _ _ _
def AsRes (A : Asc) (P : List Ph) (w : World) (e : Ending) (w' : World) : Prop :=
 ∃ (L : List Grv) (gv lv : Value), e = .returned (.tuple #[gv, lv, .int .i64 (assocR A P).1]) ∧ GrIn w' gv L ∧ L.map Grv.g = (assocR A P).2.1 ∧ Sl w' lv (assocR A P).2.2 ∧ w.grownBy w' none
theorem AsAt.done {wo : World} {B gn gb n cb : Nat} {rest : List Nat} {gs : List Grv} {lf : List Nat} {gv lv : Value} {u u' : World} {LF : List Int} {b0 : Nat} (h : AsAt wo B gn gb n cb rest gs lf gv lv u) (hg : u.grownBy u' lv.ownBlock) (ho : u'.ownsRow B 3 1 lv LF.length (LF.map (Value.int .i64))) (hb : b0 ≤ wo.heap.size) : GsOwn b0 u' gs gv lv LF ∧ wo.grownBy u' none := by
 have ll : ∀ g, lv.ownBlock = some g → B ≤ g := fun g e => (h.lr.lt g e).1
 have hB := h.lt
 refine ⟨⟨owns_mono (h.gr.kept hg ?_) (by omega), owns_mono ho (by omega), fun x hx => ?_, h.ap⟩, gb_new h.gw hg (fun p hp => by have := ll p hp; omega)⟩
 ·cases hb : gv.ownBlock with
  | none => exact .inl rfl
  | some g => exact .inr (fun e => h.ap g hb e.symm)
 ·obtain ⟨t1, t2⟩ := h.ms x hx
  refine ⟨t1.later hg (fun b off len cap e _ e2 => (t2 b off len cap e).2.2.2 e2.symm), fun b off len cap e => ?_⟩
  obtain ⟨a1, a2, a3, a4⟩ := t2 b off len cap e
  exact ⟨by omega, Nat.lt_of_lt_of_le a2 hg.size, a3, a4⟩
theorem assocR_ok {A : Asc} {P : List Ph} (h : avE A P = 0) : assocR A P = ((rnd A P (P.length + 1) (List.range P.length) [] []).1, (rnd A P (P.length + 1) (List.range P.length) [] []).2.1, srt ((rnd A P (P.length + 1) (List.range P.length) [] []).2.2.map (fun (i : Nat) => (i : Int)))) := by
 unfold assocR; rw [if_neg (by rw [h]; simp)]
theorem assocR_rerr {A : Asc} {P : List Ph} {c : Int} (h : avE A P = 0) (hr : rnd A P (P.length + 1) (List.range P.length) [] [] = (c, [], [])) : assocR A P = (c, [], []) := by
 rw [assocR_ok h, hr]
 have e : srt [] = [] := List.length_eq_zero_iff.1 (srt_len [])
 simp [e]
set_option maxRecDepth 100000 in
set_option maxHeartbeats 20000000 in
theorem associate_own (A : Asc) (P : List Ph) (vl vh pv : Value) (w : World) (hA : AscIn A vl vh w) (hp : SlC 6 w pv P.length (flatP P)) (h20 : P.length < 20) :
  Calls Tryz.prog 15 #[.agg (A.val vl vh), pv] w (AsResO A P w) := by
 obtain ⟨n, hn⟩ : ∃ n, P.length = n := ⟨_, rfl⟩
 have h1 := hA.l; have h2 := hA.h
 obtain ⟨la, ln, lc, rfl⟩ := sl_slice h1; obtain ⟨ha, hm, hc, rfl⟩ := sl_slice h2
 obtain ⟨pa, pc, rfl⟩ := hp.slice
 have HAW := zH hA; have HP := zH hp
 have RES := zH (fun (e : Ending) (w' : World) (h : AsResO A P w e w') => h)
 have hspan : A.ok = true → 0 ≤ A.span ∧ A.span ≤ 1099511627776 ∧ 2 ≤ A.least ∧ A.least ≤ 16 ∧ 0 ≤ A.tol := fun h => by
  unfold Asc.ok at h
  simp only [Bool.and_eq_true, inI_iff] at h
  omega
 have HSP := zH hspan
 clear h1 h2 hA hp hspan
 have VA := zH (fun (u : World) (hu : w.grownBy u none) => avalidate_any A _ _ _ P u (HAW.out.after hu) (HP.out.after hu))
 have OR := zH (fun (u : World) (hu : w.grownBy u none) => order_any P _ u (HP.out.after hu) h20)
 have WI := zH (fun (gn gb r : Nat) (rs : List Nat) (ov : Value) (u : World) (hu : w.grownBy u none) (ho : Sl u ov ((ordA P).map (fun (i : Nat) => (i : Int)))) (hc : ChAt gn gb n (r :: rs) u) (hb : ∀ a ∈ P, 0 ≤ a.e ∧ a.e ≤ 18014398509481984) => window_any A P gn gb n r rs _ _ _ ov u (HAW.out.after hu) hn (by omega) (HP.out.after hu) ho hc hb)
 have HE0 := zH (fun (h : avE A P ≠ 0) => (by unfold assocR; rw [if_pos h] : assocR A P = (avE A P, [], [])))
 have HE1 := zH (fun (h : avE A P = 0) => assocR_ok h); have HE2 := zH (fun (h : avE A P = 0) (c : Int) => assocR_rerr (c := c) h)
 have AOK := zH (fun (h : avE A P = 0) => avE_ok h)
 obtain ⟨x0, y0, z0, x1, y1, z1, st, ls, hs, cap, tol, span, lim, least⟩ := A
 simp only [Asc.val] at *
 rw [hn] at VA OR WI HE1 HE2 h20 HP
 rw [hn]
 have HN := zH hn
 clear hn
 have G1 := zH (gb_alloc (gb_refl w none) (.cells #[x0, y0, z0, x1, y1, z1, st, .slice la ln lc, .slice ha hm hc, cap, tol, span, lim, least] 30))
 have B1 := zH (heap_alloc_new w (.cells #[x0, y0, z0, x1, y1, z1, st, .slice la ln lc, .slice ha hm hc, cap, tol, span, lim, least] 30))
 go_enter Tryz.func15, Tryz.ntmps15
 go_wp2_with fail
 go_step3
 go_wp2_with (with_reducible refine wpList_load14 rfl _ rfl w.heap.size rfl _ _ B1.out rfl ?_)
 generalize w.alloc (.cells #[x0, y0, z0, x1, y1, z1, st, .slice la ln lc, .slice ha hm hc, cap, tol, span, lim, least] 30) = w1 at *
 generalize hzw : w.heap.size = z at *
 have HZW := zH hzw
 clear hzw
 (with_reducible refine (VA.out w1 G1.out).mono ?_)
 rintro e w2 ⟨rfl, hg⟩
 have G2 := zH (gb_trans G1.out hg); have B2 := zH (block_kept hg B1.out rfl)
 clear hg G1 B1 VA
 by_cases hv : avE ⟨x0, y0, z0, x1, y1, z1, st, ls, hs, cap, tol, span, lim, least⟩ P = 0
 rotate_left
 ·have hv' : (avE ⟨x0, y0, z0, x1, y1, z1, st, ls, hs, cap, tol, span, lim, least⟩ P != 0) = true := by simpa using hv
  have HR := zH (HE0.out hv)
  generalize avE ⟨x0, y0, z0, x1, y1, z1, st, ls, hs, cap, tol, span, lim, least⟩ P = ve at *
  clear hv
  go_wp2_with fail
  exact bodyPost_ret (v := .tuple #[.slice none 0 0, .slice none 0 0, ve]) (by simp [results, Tryz.results15, go_sem]) rfl (AsResO.err HR.out G2.out)
 have HR1 := zH (HE1.out hv); have HR2 := zH (HE2.out hv)
 obtain ⟨hok, hph⟩ := AOK.out hv
 obtain ⟨hsp0, hsp1, hl2, hl16, ht0⟩ := HSP.out hok
 have HB : Hid (∀ a ∈ P, 0 ≤ a.e ∧ a.e ≤ 18014398509481984) := zH (fun a ha => by have := phP_iff.1 (hph a ha); omega)
 have hv' : (avE ⟨x0, y0, z0, x1, y1, z1, st, ls, hs, cap, tol, span, lim, least⟩ P != 0) = false := by rw [hv]; rfl
 have HLS := zH (And.intro hsp0 (And.intro hl2 hl16))
 clear hv hok hph HE0 HE1 HE2 AOK HSP hsp0 hsp1 ht0
 go_wp2_with fail
 clear hv'
 (with_reducible refine (OR.out w2 G2.out).mono ?_)
 rintro e w3 ⟨ov, rfl, ho, hg⟩
 have G3 := zH (gb_trans G2.out hg); have B3 := zH (block_kept hg B2.out rfl); have HO3 := zH ho
 obtain ⟨oa, on, oc, rfl⟩ := sl_slice ho
 clear hg G2 B2 OR ho
 go_wp2_with fail
 (with_reducible refine (newChain_any n w3 (by omega)).mono ?_)
 rintro e w4 ⟨gn, gb, rfl, hch, hgn, hgb, hg⟩
 have ga := gb_alloc hg (.cells #[.slice (some ⟨gn, 0, none⟩) (n + 1) (n + 1), .slice (some ⟨gb, 0, none⟩) (n + 1) (n + 1)] 74)
 have bc := heap_alloc_new w4 (.cells #[.slice (some ⟨gn, 0, none⟩) (n + 1) (n + 1), .slice (some ⟨gb, 0, none⟩) (n + 1) (n + 1)] 74)
 have G5 := zH (gb_trans G3.out ga); have B5 := zH (block_kept ga B3.out rfl)
 have HST : Hid (AsAt w3 (w4.alloc (.cells #[.slice (some ⟨gn, 0, none⟩) (n + 1) (n + 1), .slice (some ⟨gb, 0, none⟩) (n + 1) (n + 1)] 74)).heap.size gn gb n w4.heap.size (List.range n) [] [] (.slice none 0 0) (.slice none 0 0) (w4.alloc (.cells #[.slice (some ⟨gn, 0, none⟩) (n + 1) (n + 1), .slice (some ⟨gb, 0, none⟩) (n + 1) (n + 1)] 74))) := zH (by
  have hch2 := hch
  obtain ⟨-, X, Y, hx, hy, -⟩ := hch2
  have l1 := block_lt' hx; have l2 := block_lt' hy; have l3 := hg.size
  have l4 : (w4.alloc (.cells #[.slice (some ⟨gn, 0, none⟩) (n + 1) (n + 1), .slice (some ⟨gb, 0, none⟩) (n + 1) (n + 1)] 74)).heap.size = w4.heap.size + 1 := by simp
  exact ⟨ga, hch.later (row := none) (gb_alloc (gb_refl _ _) _) (by simp) (by simp), bc, World.ownsRow_nil _ _ _ _, World.ownsRow_nil _ _ _ _, by simp, by simp [Value.ownBlock], by omega, Nat.le_refl _⟩)
 clear hch hgn hgb hg ga bc
 go_wp2_with fail
 go_step3
 go_wp2_with fail
 generalize w4.alloc (.cells #[.slice (some ⟨gn, 0, none⟩) (n + 1) (n + 1), .slice (some ⟨gb, 0, none⟩) (n + 1) (n + 1)] 74) = w5 at *
 generalize w4.heap.size = cb at *
 generalize hbb : w5.heap.size = B at *
 have HBB := zH hbb
 clear hbb
 obtain ⟨R0, hR0⟩ : ∃ R0, rnd ⟨x0, y0, z0, x1, y1, z1, st, ls, hs, cap, tol, span, lim, least⟩ P (n + 1) (List.range n) [] [] = R0 := ⟨_, rfl⟩
 rw [hR0] at HR1 HR2
 have HR0 := zH hR0
 clear hR0
 go_loopw [8, 9] (fun gv lv wr => ∃ (rest : List Nat) (gs : List Grv) (lf : List Nat) (f : Nat), AsAt w3 B gn gb n cb rest gs lf gv lv wr ∧ rnd ⟨x0, y0, z0, x1, y1, z1, st, ls, hs, cap, tol, span, lim, least⟩ P f rest (gs.map Grv.g) lf = R0 ∧ rest.length < f ∧ gs.length + lf.length + rest.length ≤ n) (fun gv lv _ => n + 1 - (slLen gv + slLen lv))
 case atStart => exact ⟨List.range n, [], [], n + 1, HST.out, HR0.out, by simp, by simp⟩
 case round =>
  obtain ⟨rest, gs, lf, f, hA, hrn, hlf, hcnt⟩ := hrel
  have HA := zH hA; have HRN := zH hrn
  obtain ⟨gva, gvc, rfl⟩ := owns_slice hA.gr
  obtain ⟨lva, lvc, rfl⟩ := owns_slice hA.lr
  obtain ⟨-, X, Y, hx, hy, hl⟩ := hA.ch
  have hnf := hl.first
  have q_ := vi_cell hx hnf
  have hgl_ := block_lt' hx
  obtain ⟨v0_, v1_⟩ := cells2 hA.cv
  have hcl_ := block_lt' hA.cv
  have u0_ := fun (q : Up wr) => (ever_cell q (o := 0) hcl_).trans v0_
  have u1_ := fun (q : Up wr) => (ever_cell q (o := 1) hcl_).trans v1_
  have u2_ := fun (q : Up wr) => (ever_cell q (o := n) hgl_).trans q_
  have hnn : n < n + 1 := Nat.lt_succ_self n
  have hlt := hl.lt
  clear hA hx hy hl hnf hrn
  cases rest with
  | nil =>
   have hne : ((n : Int) != (n : Int)) = false := by simp
   simp only [List.nil_append, List.head_cons] at q_ u2_
   clear hlt
   go_wp2_with fail
   (refine wp_region_grown (by kernel_rfl) (by kernel_rfl) ?_; (repeat (go_big_quiet_step (first | (go_at_call 42; exact Calls.grown_of (end_any _ n _ _ _ rfl (by omega)))))); refine wpQuiet_nil ?_; intro wq hq)
   have HAQ := zH (HA.out.later hq)
   have SO := zH (sort_own (lf.map (fun (i : Nat) => (i : Int))) B (.slice lva lf.length lvc) wq (by have := HAQ.out.lr; rw [vi_int] at this; simpa using this) (by simp; simp at hcnt; omega))
   obtain ⟨f, rfl⟩ : ∃ f', f = f' + 1 := ⟨f - 1, by simp at hlf; omega⟩
   have HRN2 : Hid (rnd ⟨x0, y0, z0, x1, y1, z1, st, ls, hs, cap, tol, span, lim, least⟩ P (f + 1) [] (gs.map Grv.g) lf = R0) := HRN
   rw [rnd] at HRN2
   clear HRN hq u0_ u1_ u2_ v0_ v1_ q_ hcl_ hgl_ hnn hne
   go_wp2_with fail
   (with_reducible refine SO.out.mono ?_)
   rintro e w6 ⟨rfl, ho, hg⟩
   have DN := zH (HAQ.out.done (LF := srt (lf.map (fun (i : Nat) => (i : Int)))) hg (by rw [srt_len]; simpa using ho) G3.out.size)
   clear ho hg SO HAQ
   go_wp2_with fail
   refine bodyPost_ret (v := .tuple #[.slice gva gs.length gvc, .slice lva lf.length lvc, (0:Int)]) (by simp [results, Tryz.results15, go_sem]) rfl ?_
   have e1 := HR1.out
   rw [← HRN2.out] at e1
   exact ⟨gs, _, _, by rw [e1], by rw [e1]; exact DN.out.1, by rw [e1], gb_trans G3.out DN.out.2⟩
  | cons r rs =>
   have hrn_ : r < n := hlt r (by simp)
   have hne : ((r : Int) != (n : Int)) = true := by simp; omega
   simp only [List.cons_append, List.head_cons] at q_ u2_
   clear hlt
   go_wp2_with fail
   (refine wp_region_grown (by kernel_rfl) (by kernel_rfl) ?_; (repeat (go_big_quiet_step (first | (go_at_call 42; exact Calls.grown_of (end_any _ n _ _ _ rfl (by omega)))))); refine wpQuiet_nil ?_; intro wq hq)
   have HAQ := zH (HA.out.later hq)
   have GWQ := zH (gb_trans G3.out HAQ.out.gw)
   have BQ := zH (block_kept HAQ.out.gw B3.out rfl)
   have HOQ := zH (HO3.out.after HAQ.out.gw)
   clear hq u0_ u1_ u2_ v0_ v1_ q_ hcl_ hgl_ hnn hne
   obtain ⟨v0_, v1_⟩ := cells2 HAQ.out.cv
   have hcl_ := block_lt' HAQ.out.cv
   obtain ⟨f, rfl⟩ : ∃ f', f = f' + 1 := ⟨f - 1, by omega⟩
   go_wp2_with (with_reducible refine wpList_load14 rfl _ rfl z rfl _ _ BQ.out rfl ?_)
   clear v0_ v1_ hcl_
   (with_reducible refine (WI.out gn gb r rs _ wq GWQ.out HOQ.out HAQ.out.ch HB.out).mono ?_)
   rintro e w6 ⟨wv, Bw, rfl, hBw, hpo, hg⟩
   obtain ⟨W, hW⟩ : ∃ W, winOf span P (r :: rs) = W := ⟨_, rfl⟩
   have HWR0 := winOf_head (P := P) (r := r) (rs := rs) HLS.out.1
   rw [hW] at hpo HWR0
   obtain ⟨Wt, hWt⟩ := HWR0
   obtain ⟨qa, qc, rfl⟩ := owns_slice hpo
   have HA6 := zH (HAQ.out.later hg)
   have HPL : Hid (Sl w6 (.slice qa W.length qc) (W.map (fun (i : Nat) => (i : Int)))) := zH (by rw [vi_int] at hpo; exact Sl_of_owns hpo (by simp))
   have HPFB : Hid (∀ b off, qa = some ⟨b, off, none⟩ → wq.heap.size ≤ b) := zH (fun b off e => by
    subst e
    have := (hpo.lt b rfl).1; omega)
   have HWL : Hid (W.length ≤ 16 ∧ W.Sublist (r :: rs)) := zH (by rw [← hW]; exact ⟨winOf_len, winOf_sub⟩)
   have HWR := zH hWt
   have HWE := zH hW
   have HRN2 : Hid (rnd ⟨x0, y0, z0, x1, y1, z1, st, ls, hs, cap, tol, span, lim, least⟩ P (f + 1) (r :: rs) (gs.map Grv.g) lf = R0) := HRN
   rw [rnd, hW] at HRN2
   clear hpo hg hBw hWt hW HRN
   generalize hWm : W.length = m at *
   have HWM := zH hWm
   clear hWm
   obtain ⟨v0_, v1_, v2_, v3_, v4_, v5_, v6_, v7_, v8_, v9_, v10_, v11_, v12_, v13_⟩ := cells14 (block_kept HA6.out.gw B3.out rfl)
   have hzl_ := block_lt' (block_kept HA6.out.gw B3.out rfl)
   clear v0_ v1_ v2_ v3_ v4_ v5_ v6_ v7_ v8_ v9_ v10_ v11_ v12_
   by_cases hWl : (m : Int) < least
   ·have hd1 : decide ((m : Int) ≥ least) = false := decide_eq_false (by omega)
    rw [if_pos hWl] at HRN2
    clear hWl
    obtain ⟨pb0, po0, pcap0, pe0, hpb0, -, -, hpc0⟩ := HPL.out.block (by have := HWR.out; simp [this])
    simp only [Value.slice.injEq] at pe0
    obtain ⟨rfl, -, rfl⟩ := pe0
    have p0_ : w6.cell? ⟨pb0, po0, none⟩ = some (.int .i64 (r : Int)) := by
     have := hpc0 0 (by have := HWR.out; simp [this])
     rw [Nat.add_zero] at this
     rw [this]
     have e := HWR.out
     simp [at0, e]
    obtain ⟨ob, oo, oc0, oe0, hob, -, -, hoc0⟩ := HO3.out.block (by rw [List.length_map, ordA_length, HN.out]; omega)
    simp only [Value.slice.injEq] at oe0
    obtain ⟨rfl, -, rfl⟩ := oe0
    have o0_ : w6.cell? ⟨ob, oo + r, none⟩ = some (.int .i64 (oA P r : Int)) := by
     have hr2 : r < (ordA P).length := by rw [ordA_length, HN.out]; exact hrn_
     have := hoc0 r (by rw [List.length_map]; exact hr2)
     rw [(gb_cell HA6.out.gw hob (by simp)).trans this]
     simp [at0, oA, hr2]
    have hob_ : ob < w6.heap.size := Nat.lt_of_lt_of_le hob HA6.out.gw.size
    have hron : r < on := by have h1 := HO3.out; rcases h1 with ⟨h1, -⟩ | ⟨_, _, _, h1, -⟩ <;> first | (have := congrArg List.length h1; simp [ordA_length, HN.out] at this; omega) | (simp only [Value.slice.injEq] at h1; have := h1.2.1; rw [List.length_map, ordA_length, HN.out] at this; omega)
    clear hob hoc0
    have HLR := zH HA6.out.lr
    have hszB := HA6.out.sz
    have hm0 : 0 < m := by have := HWM.out; rw [HWR.out] at this; simp at this; omega
    have HPF : Hid ((Value.slice lva lf.length lvc).ownBlock ≠ some pb0) := zH (fun e => by have := HPFB.out pb0 po0 rfl; have := (HAQ.out.lr.lt pb0 e).2; omega)
    generalize hor : oA P r = kr at *
    have HOR := zH hor
    clear hor
    go_wp2_with (at_builtin; (refine wpList_pushAt rfl _ _ 26 rfl B 3 (.int .i64 0) 1 8 Tryz.underlying26 info_intS rfl (by decide) (by decide) (.slice lva lf.length lvc) lf.length (vi lf) rfl (HLR.out.alloc _) w6.heap.size 1 [.int .i64 (kr : Int)] 3 rfl (heap_alloc_new _ _) rfl (by simp [Value.oneCell']) (by omega) (by simp; omega) ?_); refine Hid.out ?_)
    refine zH ?_
    intro v8 w8 hown8 hg8 hv8
    have hga8 := gb_alloc (gb_refl w6 none) (.cells #[(kr : Int)] 3)
    have HA8 := zH ((HA6.out.later hga8).left hown8 hg8 (by simpa using hv8))
    have p8_ : w8.cell? ⟨pb0, po0, none⟩ = some (.int .i64 (r : Int)) := by
     have e1 := (gb_cell hga8 hpb0 (by simp)).trans p0_
     have hb8 : pb0 < (w6.alloc (.cells #[(kr : Int)] 3)).heap.size := Nat.lt_of_lt_of_le hpb0 hga8.size
     exact (gb_cell hg8 hb8 (fun e => HPF.out (by simpa using e.symm))).trans e1
    have hpb8 : pb0 < w8.heap.size := Nat.lt_of_lt_of_le (Nat.lt_of_lt_of_le hpb0 hga8.size) hg8.size
    obtain ⟨v8a, v8c, rfl⟩ := owns_slice hown8
    clear hown8 hg8 hv8 hga8 p0_ hpb0 hpc0 o0_ hob_ HLR hszB
    obtain ⟨v0_, v1_⟩ := cells2 HA8.out.cv
    have hcl_ := block_lt' HA8.out.cv
    have u0_ := Made.cells hcl_
    have u1_ := Made.cells hpb8
    go_wp2_with fail
    refine Rg.rR (Made w8) Makes (fun _ => none) (fun _ => false) 0 4 Makes.size (Made.start w8) (fun hne => ?_)
    (repeat (refine rQ ?_; go_big_quiet_step (fail); refine wpQuiet_nil ?_))
    rintro wz hqz - -
    have HAZ := zH (HA8.out.later hqz)
    have RMV := zH (remove_any gn gb n r [] rs wz (by simpa using HAZ.out.ch) (by omega))
    clear hqz hne u0_ u1_ v0_ v1_ hcl_ p8_ hpb8
    go_wp2_with fail
    (with_reducible refine RMV.out.mono ?_)
    rintro e w9 ⟨rfl, hch9, wm, h91, h92⟩
    have HA9 := zH (HAZ.out.chain h91 h92 (by simpa using hch9))
    clear hch9 h91 h92 RMV HAZ
    go_wp2_with fail
    go_roundw
    case rel => exact ⟨rs, gs, lf ++ [kr], f, HA9.out, HRN2.out, by simp at hlf; omega, by simp at hcnt ⊢; omega⟩
    case measure => simp [slLen]; simp at hcnt; omega
   ·have hd1 : decide ((m : Int) ≥ least) = true := decide_eq_true (by omega)
    rw [if_neg hWl] at HRN2
    clear hWl
    have hm0 : 0 < m := by have := HWM.out; rw [HWR.out] at this; simp at this; omega
    have hm16 : m ≤ 16 := by have := HWL.out.1; omega
    obtain ⟨pb0, po0, pcap0, pe0, hpb0, -, -, hpc0⟩ := HPL.out.block (by have := HWR.out; simp [this])
    simp only [Value.slice.injEq] at pe0
    obtain ⟨rfl, -, rfl⟩ := pe0
    obtain ⟨ob, oo, oc0, oe0, hob, -, -, hoc0⟩ := HO3.out.block (by rw [List.length_map, ordA_length, HN.out]; omega)
    simp only [Value.slice.injEq] at oe0
    obtain ⟨rfl, -, rfl⟩ := oe0
    obtain ⟨pb, po, pc', pe, hpb, -, -, hpc⟩ := HP.out.block (by omega)
    simp only [Value.slice.injEq] at pe
    obtain ⟨rfl, -, rfl⟩ := pe
    have hon : n = on := by
     have h1 := HO3.out
     rcases h1 with ⟨h1, -⟩ | ⟨_, _, _, h1, -⟩
     ·have := congrArg List.length h1; simp [ordA_length, HN.out] at this; omega
     ·simp only [Value.slice.injEq] at h1; have := h1.2.1; rw [List.length_map, ordA_length, HN.out] at this; omega
    have OC : Hid (∀ k, k < m → ∃ i j : Nat, W[k]? = some i ∧ i < n ∧ i ∈ (r :: rs) ∧ oA P i = j ∧ j < n ∧ ∃ a : Ph, phO P i = a ∧ ∀ u : World, w6.grownBy u none → (u.cell? ⟨pb0, po0 + k, none⟩ = some (.int .i64 (i : Int)) ∧ u.cell? ⟨ob, oo + i, none⟩ = some (.int .i64 (j : Int)) ∧ u.cell? ⟨pb, po + j * 6, none⟩ = some (.int .i64 a.x) ∧ u.cell? ⟨pb, po + j * 6 + 1, none⟩ = some (.int .i64 a.y) ∧ u.cell? ⟨pb, po + j * 6 + 2, none⟩ = some (.int .i64 a.z) ∧ u.cell? ⟨pb, po + j * 6 + 3, none⟩ = some (.int .i64 a.e) ∧ u.cell? ⟨pb, po + j * 6 + 4, none⟩ = some (.int .i64 a.l) ∧ u.cell? ⟨pb, po + j * 6 + 5, none⟩ = some (.int .i64 a.n))) := zH (by
     intro k hk
     have hkW : k < W.length := by rw [HWM.out]; exact hk
     have him : W[k] ∈ r :: rs := HWL.out.2.subset (List.getElem_mem hkW)
     have hin : W[k] < n := by
      obtain ⟨-, X, Y, hx, hy, hl⟩ := HA6.out.ch
      exact hl.lt _ him
     have hio : W[k] < (ordA P).length := by rw [ordA_length, HN.out]; exact hin
     have hj : (ordA P)[W[k]] < P.length := ordA_lt (List.getElem_mem hio)
     have hoA : oA P W[k] = (ordA P)[W[k]] := by unfold oA; rw [List.getElem?_eq_getElem hio]; rfl
     have hph : phO P W[k] = P[(ordA P)[W[k]]] := by unfold phO phA; rw [List.getElem?_eq_getElem hio, Option.getD_some, List.getElem?_eq_getElem hj]; rfl
     refine ⟨W[k], (ordA P)[W[k]], List.getElem?_eq_getElem hkW, hin, him, hoA, by have := HN.out; omega, _, hph, fun u hu => ?_⟩
     have hwu := gb_trans G3.out (gb_trans HA6.out.gw hu)
     have h3u := gb_trans HA6.out.gw hu
     have e0 := hpc0 k (by rw [List.length_map]; exact hkW)
     have e1 := hoc0 W[k] (by rw [List.length_map]; exact hio)
     unfold at0 at e0 e1
     rw [List.getElem?_map, List.getElem?_eq_getElem hkW] at e0
     rw [List.getElem?_map, List.getElem?_eq_getElem hio] at e1
     obtain ⟨q0, q1, q2, q3, q4, q5⟩ := SlC.ph hpc _ hj
     exact ⟨(gb_cell hu hpb0 (by simp)).trans e0, (gb_cell h3u hob (by simp)).trans e1, (gb_cell hwu hpb (by simp)).trans q0, (gb_cell hwu hpb (by simp)).trans q1, (gb_cell hwu hpb (by simp)).trans q2, (gb_cell hwu hpb (by simp)).trans q3, (gb_cell hwu hpb (by simp)).trans q4, (gb_cell hwu hpb (by simp)).trans q5⟩)
    have HPBS : Hid (pb0 < w6.heap.size ∧ ob < w6.heap.size ∧ pb < w6.heap.size) := zH ⟨hpb0, Nat.lt_of_lt_of_le hob HA6.out.gw.size, Nat.lt_of_lt_of_le hpb (gb_trans G3.out HA6.out.gw).size⟩
    have hszB := HA6.out.sz
    clear hpb0 hpc0 hob hoc0 hpb hpc
    subst hon
    go_wp2_with fail
    go_loopw [13, 57] (fun sv kv wr => ∃ k : Nat, k ≤ m ∧ kv = .int .i64 (k : Int) ∧ wr.ownsRow w6.heap.size 51 6 sv k (flatP ((W.take k).map (phO P))) ∧ w6.grownBy wr none) (fun _ kv _ => m - (intOf kv).toNat)
    case atStart => exact ⟨0, by omega, rfl, World.ownsRow_nil _ _ _ _, gb_refl _ _⟩
    case round =>
     obtain ⟨k, hkm, rfl, hown, hgr⟩ := hrel
     obtain ⟨sa, sc, rfl⟩ := owns_slice hown
     have HOW := zH hown; have HGR := zH hgr
     clear hown hgr
     by_cases hlt : k < m
     ·have hkd : decide ((k : Int) < (m : Int)) = true := decide_eq_true (by omega)
      obtain ⟨i, j, eWk, hin, -, -, hjn, a, hpa, hcs⟩ := OC.out k hlt
      obtain ⟨p0_, p1_, p2_, p3_, p4_, p5_, p6_, p7_⟩ := hcs wr HGR.out
      obtain ⟨ax, ay, az, ae, al, an⟩ := a
      simp only at p2_ p3_ p4_ p5_ p6_ p7_
      have HWK : Hid (flatP ((W.take (k + 1)).map (phO P)) = flatP ((W.take k).map (phO P)) ++ [.int .i64 ax, .int .i64 ay, .int .i64 az, .int .i64 ae, .int .i64 al, .int .i64 an]) := zH (by
       rw [List.take_add_one, eWk, List.map_append]; simp [flatP, hpa, Ph.cells])
      have hlen6 : (flatP ((W.take k).map (phO P))).length = k * 6 := by rw [flatP_length, List.length_map, List.length_take, HWM.out]; omega
      have hszr := HGR.out.size
      generalize flatP ((W.take k).map (phO P)) = ys at *
      clear hcs hpa eWk
      go_wp2_with (at_builtin; (refine wpList_push rfl _ _ 31 rfl w6.heap.size 51 (.agg #[(0:Int), (0:Int), (0:Int), (0:Int), (0:Int), (0:Int)]) 6 48 Tryz.underlying31 Tryz.infoPhaseT rfl (by decide) (by decide) (.slice sa k sc) k _ rfl (HOW.out.alloc _) wr.heap.size 1 [.int .i64 ax, .int .i64 ay, .int .i64 az, .int .i64 ae, .int .i64 al, .int .i64 an] 51 rfl (heap_alloc_new _ _) rfl (by simp [Value.oneCell']) (by omega) (by simp; omega) ?_); refine Hid.out ?_)
      refine zH ?_
      intro v' w8 hown' hg'
      have R1 : Hid (w8.ownsRow w6.heap.size 51 6 v' (k + 1) (flatP ((W.take (k + 1)).map (phO P)))) := zH (by rw [HWK.out]; exact hown')
      have R2 := zH (push_grown HGR.out HOW.out (Nat.le_refl _) hg')
      clear hown' hg' p0_ p1_ p2_ p3_ p4_ p5_ p6_ p7_ hlen6 hszr
      go_wp2_with fail
      go_roundw
      case rel => exact ⟨k + 1, by omega, by simp, R1.out, R2.out⟩
      case measure => simp [intOf]; omega
     ·have hkd : decide ((k : Int) < (m : Int)) = false := decide_eq_false (by omega)
      have HKM : Hid (k = m) := zH (by omega)
      have HA7 := zH (HA6.out.later HGR.out)
      have HSO : Hid (SlC 6 wr (.slice sa k sc) (W.map (phO P)).length (flatP (W.map (phO P)))) := zH (by
       have h := SlC.of_owns HOW.out
       rw [HKM.out] at h ⊢
       rw [List.take_of_length_le (by rw [HWM.out]; exact Nat.le_refl _)] at h
       rw [List.length_map, HWM.out]; exact h)
      clear HOW
      go_wp2_with fail
      obtain ⟨⟨LX, le⟩, hL⟩ : ∃ p, locA ⟨x0, y0, z0, x1, y1, z1, st, ls, hs, cap, tol, span, lim, least⟩ P W = p := ⟨_, rfl⟩
      rw [hL] at HRN2
      dsimp only at HRN2
      obtain ⟨px, py, pz, pt, pm, pl, q0, q1, q2, q3, q4, q5⟩ := LX
      have HIN : Hid (∀ u, wr.grownBy u none → ProbIn (Asc.prob ⟨x0, y0, z0, x1, y1, z1, st, ls, hs, cap, tol, span, lim, least⟩ (W.map (phO P))) (.slice la ln lc) (.slice ha hm hc) (.slice sa k sc) u) := zH (fun u hu =>
       ⟨(HAW.out.after (gb_trans (gb_trans G3.out HA7.out.gw) hu)).l, (HAW.out.after (gb_trans (gb_trans G3.out HA7.out.gw) hu)).h, HSO.out.after hu⟩)
      have LOC : Hid (∀ u, wr.grownBy u none → Calls Tryz.prog 44 #[.agg #[x0, y0, z0, x1, y1, z1, st, .slice la ln lc, .slice ha hm hc, .slice sa k sc, cap], tol] u fun e w' => e = .returned (.tuple #[.agg #[px, py, pz, pt, pm, pl, q0, q1, q2, q3, q4, q5], le]) ∧ u.grownBy w' none) := zH (fun u hu => by
       have h := locate_any (Asc.prob ⟨x0, y0, z0, x1, y1, z1, st, ls, hs, cap, tol, span, lim, least⟩ (W.map (phO P))) (.slice la ln lc) (.slice ha hm hc) (.slice sa k sc) tol u (HIN.out u hu) (by show (W.map (phO P)).length ≤ _; rw [List.length_map, HWM.out]; omega)
       have e : locP (Asc.prob ⟨x0, y0, z0, x1, y1, z1, st, ls, hs, cap, tol, span, lim, least⟩ (W.map (phO P))) tol = (⟨px, py, pz, pt, pm, pl, q0, q1, q2, q3, q4, q5⟩, le) := hL
       rw [e] at h; exact h)
      clear hL
      have B7 := block_kept HA7.out.gw B3.out rfl
      have hz_ := block_lt' B7
      have s10_ : wr.cell? ⟨z, 10, none⟩ = some (.int .i64 tol) := cell_of B7 10 _ rfl
      have u0_ := Made.cells hz_
      go_wp2_with fail
      refine Rg.rR (Made wr) (MakesS 10) (fun k_ => if k_ = 0 then some (isV (.agg #[x0, y0, z0, x1, y1, z1, st, .slice la ln lc, .slice ha hm hc, cap, tol, span, lim, least])) else if k_ = 2 then some (isV (.agg #[x0, y0, z0, x1, y1, z1, st, .slice la ln lc, .slice ha hm hc, .slice sa k sc, cap])) else if k_ = 5 then some (isV (.tuple #[.agg #[px, py, pz, pt, pm, pl, q0, q1, q2, q3, q4, q5], le])) else if k_ = 9 then some (isVar wr 12 79) else if k_ = 10 then some (isRow #[px, py, pz, pt, pm, pl, q0, q1, q2, q3, q4, q5] 79) else none)
       (fun k_ => k_ == 9) 0 11 (MakesS.size 10) (Made.start wr) (fun hne => ?_)
      refine rg_load14 (fun u => MakesS.none (by decide) u u (gb_refl _ _)) _ z #[x0, y0, z0, x1, y1, z1, st, .slice la ln lc, .slice ha hm hc, cap, tol, span, lim, least] 30 B7 rfl rfl rfl rfl rfl rfl ?_
      simp only [zA, zB, zC, zD, zX]
      (repeat (refine rQ ?_; go_big_quiet_step (fail); refine wpQuiet_nil ?_))
      refine rg_fixG Made.grown (MakesS.none (by decide)) (.agg #[x0, y0, z0, x1, y1, z1, st, .slice la ln lc, .slice ha hm hc, .slice sa k sc, cap]) 45 #[.agg #[x0, y0, z0, x1, y1, z1, st, .slice la ln lc, .slice ha hm hc, cap, tol, span, lim, least], .slice sa k sc] rfl rfl rfl (fun _ => by go_simp) (fun u hu => aproblem_any _ _ _ _ _ _ _ _ _ _ _ _ _ _ _ _ _ _ _ _ _ u) ?_
      simp only [zA, zB, zC, zD, zX]
      (repeat (refine rQ ?_; go_big_quiet_step (fail); refine wpQuiet_nil ?_))
      refine rg_fixG Made.grown (MakesS.none (by decide)) (.tuple #[.agg #[px, py, pz, pt, pm, pl, q0, q1, q2, q3, q4, q5], le]) 44 #[.agg #[x0, y0, z0, x1, y1, z1, st, .slice la ln lc, .slice ha hm hc, .slice sa k sc, cap], tol] rfl rfl rfl (fun _ => by go_simp) (fun u hu => LOC.out u hu) ?_
      simp only [zA, zB, zC, zD, zX]
      (repeat (refine rQ ?_; go_big_quiet_step (fail); refine wpQuiet_nil ?_))
      refine rg_var #[(0:Int), (0:Int), (0:Int), (0:Int), (0:Int), (0:Int), (0:Int), (0:Int), (0:Int), (0:Int), (0:Int), (0:Int)] 79 (by decide) rfl rfl (fun _ => by go_simp) (fun xb hxb => ?_)
      simp only [zA, zB, zC, zD, zX]
      refine rg_storeRow xb #[px, py, pz, pt, pm, pl, q0, q1, q2, q3, q4, q5] 79 _ _ _ 9 ⟨⟨9, .data⟩, by simp, rfl, rfl⟩ rfl rfl rfl rfl (by kernel_rfl) (by simp [Value.oneCell']) hxb rfl rfl rfl ?_ rfl
      simp only [zA, zB, zC, zD, zX]
      rintro wz hqz hf -
      have XB8 := zH (isRow.out (v := undef) (hf 10))
      have HA8 := zH (HA7.out.later hqz)
      have HGZ := zH hqz
      clear hf hqz hne u0_ s10_ hz_ B7 LOC
      by_cases hle : le = 0
      rotate_left
      ·have hle' : (le != 0) = true := by simpa using hle
       rw [if_pos hle] at HRN2
       clear hle
       go_wp2_with fail
       exact bodyPost_ret (v := .tuple #[.slice none 0 0, .slice none 0 0, le]) (by simp [results, Tryz.results15, go_sem]) rfl (AsResO.err (HR2.out _ HRN2.out.symm) (gb_trans G3.out HA8.out.gw))
      have hle' : (le != 0) = false := by rw [hle]; rfl
      rw [if_neg (by rw [hle]; decide)] at HRN2
      clear hle
      go_wp2_with fail
      clear hle'
      obtain ⟨er, hEr⟩ : ∃ er, resEr (Asc.prob ⟨x0, y0, z0, x1, y1, z1, st, ls, hs, cap, tol, span, lim, least⟩ (W.map (phO P))) ⟨px, py, pz, pt, pm, pl, q0, q1, q2, q3, q4, q5⟩ = er := ⟨_, rfl⟩
      obtain ⟨RS, hRS⟩ : ∃ RS, resL (zonesL (Asc.prob ⟨x0, y0, z0, x1, y1, z1, st, ls, hs, cap, tol, span, lim, least⟩ (W.map (phO P))) px py pz px py pz) pt = RS := ⟨_, rfl⟩
      have RESI : Hid (∀ u, wr.grownBy u none → Calls Tryz.prog 46 #[.agg #[x0, y0, z0, x1, y1, z1, st, .slice la ln lc, .slice ha hm hc, .slice sa k sc, cap], .agg #[px, py, pz], pt] u fun e w' => ∃ v, e = .returned v ∧ ResAt er RS v w' ∧ u.grownBy w' none) := zH (fun u hu => by
       have h := residuals_all (Asc.prob ⟨x0, y0, z0, x1, y1, z1, st, ls, hs, cap, tol, span, lim, least⟩ (W.map (phO P))) (.slice la ln lc) (.slice ha hm hc) (.slice sa k sc) px py pz pt u (HIN.out u hu) (by show (W.map (phO P)).length ≤ _; rw [List.length_map, HWM.out]; omega)
       refine h.mono fun e w' h => ?_
       have h2 := residd_at (X := ⟨px, py, pz, pt, pm, pl, q0, q1, q2, q3, q4, q5⟩) h
       rw [hEr] at h2
       dsimp only at h2
       rw [hRS] at h2
       exact h2)
      have HRSG : Hid (RS.length = m ∧ ∀ k_ i_, W[k_]? = some i_ → at0 RS k_ = resOf ⟨x0, y0, z0, x1, y1, z1, st, ls, hs, cap, tol, span, lim, least⟩ ⟨px, py, pz, pt, pm, pl, q0, q1, q2, q3, q4, q5⟩ (phO P i_)) := zH (by
       rw [← hRS]
       refine ⟨by rw [← HWM.out]; simp [resL, zonesL, Asc.prob], fun k_ i_ h => ?_⟩
       exact resL_get (A := ⟨x0, y0, z0, x1, y1, z1, st, ls, hs, cap, tol, span, lim, least⟩) (X := ⟨px, py, pz, pt, pm, pl, q0, q1, q2, q3, q4, q5⟩) h)
      rw [hEr] at HRN2
      clear hEr hRS
      have B8 := block_kept HA8.out.gw B3.out rfl
      have hz_ := block_lt' B8
      have hx_ := block_lt' XB8.out
      obtain ⟨l0_, l1_, l2_, l3_, l4_, l5_, l6_, l7_, l8_, l9_, l10_, l11_⟩ := cells12 XB8.out
      clear l4_ l5_ l6_ l7_ l8_ l9_ l10_ l11_
      have u1_ := Made.cells hx_
      refine Rg.rR (Made wz) Makes (fun k_ => if k_ = 0 then some (isV (.agg #[x0, y0, z0, x1, y1, z1, st, .slice la ln lc, .slice ha hm hc, cap, tol, span, lim, least])) else if k_ = 2 then some (isV (.agg #[x0, y0, z0, x1, y1, z1, st, .slice la ln lc, .slice ha hm hc, .slice sa k sc, cap])) else if k_ = 7 then some (isF (ResAt er RS)) else none)
       (fun _ => false) 0 12 Makes.size (Made.start wz) (fun hne => ?_)
      refine rg_load14 (fun u => gb_refl u none) _ z #[x0, y0, z0, x1, y1, z1, st, .slice la ln lc, .slice ha hm hc, cap, tol, span, lim, least] 30 B8 rfl rfl rfl rfl rfl rfl ?_
      simp only [zA, zB, zC, zD, zX]
      (repeat (refine rQ ?_; go_big_quiet_step (fail); refine wpQuiet_nil ?_))
      refine rg_fix (.agg #[x0, y0, z0, x1, y1, z1, st, .slice la ln lc, .slice ha hm hc, .slice sa k sc, cap]) 45 #[.agg #[x0, y0, z0, x1, y1, z1, st, .slice la ln lc, .slice ha hm hc, cap, tol, span, lim, least], .slice sa k sc] rfl rfl rfl (fun _ => by go_simp) (fun u hu => aproblem_any _ _ _ _ _ _ _ _ _ _ _ _ _ _ _ _ _ _ _ _ _ u) ?_
      simp only [zA, zB, zC, zD, zX]
      (repeat (refine rQ ?_; go_big_quiet_step (fail); refine wpQuiet_nil ?_))
      refine rg_fixF (ResAt er RS) 46 #[.agg #[x0, y0, z0, x1, y1, z1, st, .slice la ln lc, .slice ha hm hc, .slice sa k sc, cap], .agg #[px, py, pz], pt] rfl rfl rfl ResAt.after (fun _ => by go_simp) (fun u hu => RESI.out u (gb_trans HGZ.out hu)) (fun rv ru hrv => ?_)
      obtain ⟨ra, rl, rc, rfl, hr1, -⟩ := hrv
      simp only [zA, zB, zC, zD, zX]
      (repeat (refine rQ ?_; go_big_quiet_step (fail); refine wpQuiet_nil ?_))
      rintro wy hqy hf -
      have HRV := zH (hf 7)
      have HA9 := zH (HA8.out.later hqy)
      have XB9 := zH (block_kept hqy XB8.out rfl)
      have HGY := zH (gb_trans HGZ.out hqy)
      clear hf hqy hne u1_ hz_ hx_ l0_ l1_ l2_ l3_ B8 RESI
      by_cases her : er = 0
      rotate_left
      ·have her' : (er != 0) = true := by simpa using her
       rw [if_pos her] at HRN2
       obtain ⟨rfl, rfl, rfl⟩ := hr1 her
       clear her
       go_wp2_with fail
       exact bodyPost_ret (v := .tuple #[.slice none 0 0, .slice none 0 0, er]) (by simp [results, Tryz.results15, go_sem]) rfl (AsResO.err (HR2.out _ HRN2.out.symm) (gb_trans G3.out HA9.out.gw))
      have her' : (er != 0) = false := by rw [her]; rfl
      rw [if_neg (by rw [her]; decide)] at HRN2
      have HRW : Hid (Sl wy (.slice ra rl rc) RS) := zH (by
       obtain ⟨a, l, c, e, -, h⟩ := HRV.out
       simp only [Value.tuple.injEq, Array.mk.injEq, List.cons.injEq, Value.slice.injEq, and_true] at e
       obtain ⟨rfl, rfl, rfl⟩ := e
       exact h her)
      clear her hr1 HRV
      go_wp2_with fail
      clear her'
      obtain ⟨rb, ro, rc', re, hrb, -, -, hrc⟩ := HRW.out.block (by rw [HRSG.out.1]; exact hm0)
      simp only [Value.slice.injEq] at re
      obtain ⟨rfl, hrl, rfl⟩ := re
      have hrl2 : m = rl := by rw [hrl, HRSG.out.1]
      clear hrl
      subst hrl2
      have HRB := zH hrb
      have RC : Hid (∀ k_ i_, k_ < m → W[k_]? = some i_ → ∀ u : World, wy.grownBy u none → u.cell? ⟨rb, ro + k_, none⟩ = some (.int .i64 (resOf ⟨x0, y0, z0, x1, y1, z1, st, ls, hs, cap, tol, span, lim, least⟩ ⟨px, py, pz, pt, pm, pl, q0, q1, q2, q3, q4, q5⟩ (phO P i_)))) := zH (fun k_ i_ h1 h2 u hu => by
       have e := hrc k_ (by rw [HRSG.out.1]; exact h1)
       rw [HRSG.out.2 k_ i_ h2] at e
       exact (gb_cell hu hrb (by simp)).trans e)
      have HGY6 := zH (gb_trans HGR.out HGY.out)
      have hszY : B ≤ wy.heap.size := HA9.out.sz
      clear hrb hrc HRW HRSG HGZ HGR HGY HSO HIN HA7 HA8 XB8
      go_loopw [19, 100] (fun sv kv wr => ∃ k : Nat, k ≤ m ∧ kv = .int .i64 (k : Int) ∧ wr.ownsRow wy.heap.size 3 1 sv (memOf ⟨x0, y0, z0, x1, y1, z1, st, ls, hs, cap, tol, span, lim, least⟩ P (W.take k) ⟨px, py, pz, pt, pm, pl, q0, q1, q2, q3, q4, q5⟩).length (vi (memOf ⟨x0, y0, z0, x1, y1, z1, st, ls, hs, cap, tol, span, lim, least⟩ P (W.take k) ⟨px, py, pz, pt, pm, pl, q0, q1, q2, q3, q4, q5⟩)) ∧ wy.grownBy wr none) (fun _ kv _ => m - (intOf kv).toNat)
      case atStart => exact ⟨0, by omega, rfl, World.ownsRow_nil _ _ _ _, gb_refl _ _⟩
      case round =>
       obtain ⟨k2, hkm2, rfl, hown, hgr⟩ := hrel
       have hML : (memOf ⟨x0, y0, z0, x1, y1, z1, st, ls, hs, cap, tol, span, lim, least⟩ P (W.take k2) ⟨px, py, pz, pt, pm, pl, q0, q1, q2, q3, q4, q5⟩).length ≤ 16 := by
        refine Nat.le_trans (List.length_filter_le _ _) ?_
        rw [List.length_take, HWM.out]; omega
       obtain ⟨M, hM⟩ : ∃ M, memOf ⟨x0, y0, z0, x1, y1, z1, st, ls, hs, cap, tol, span, lim, least⟩ P (W.take k2) ⟨px, py, pz, pt, pm, pl, q0, q1, q2, q3, q4, q5⟩ = M := ⟨_, rfl⟩
       rw [hM] at hown hML
       obtain ⟨ma, mc, rfl⟩ := owns_slice hown
       have HOW := zH hown; have HGR2 := zH hgr; have HM := zH hM
       have HAM := zH (HA9.out.later hgr)
       have XBM := zH (block_kept hgr XB9.out rfl)
       clear hown hgr hM
       by_cases hlt2 : k2 < m
       ·have hkd2 : decide ((k2 : Int) < (m : Int)) = true := decide_eq_true (by omega)
        obtain ⟨i, j, eWk, hin, -, -, hjn, a, hpa, hcs⟩ := OC.out k2 hlt2
        have c0_ := (hcs wr (gb_trans HGY6.out HGR2.out)).1
        have r0_ := RC.out k2 i hlt2 eWk wr HGR2.out
        have HMT := zH (memOf_take (A := ⟨x0, y0, z0, x1, y1, z1, st, ls, hs, cap, tol, span, lim, least⟩) (P := P) (X := ⟨px, py, pz, pt, pm, pl, q0, q1, q2, q3, q4, q5⟩) eWk)
        have BM := block_kept HAM.out.gw B3.out rfl
        have s12_ : wr.cell? ⟨z, 12, none⟩ = some (.int .i64 lim) := cell_of BM 12 _ rfl
        have hz_ := block_lt' BM
        have hrb_ : rb < wr.heap.size := by have := HRB.out; have := HGR2.out.size; omega
        have u0_ := fun (q : Up wr) => (ever_cell q (o := ro + k2) hrb_).trans r0_
        have u1_ := fun (q : Up wr) => (ever_cell q (o := 12) hz_).trans s12_
        rw [HM.out] at HMT
        dsimp only at HMT
        generalize resOf ⟨x0, y0, z0, x1, y1, z1, st, ls, hs, cap, tol, span, lim, least⟩ ⟨px, py, pz, pt, pm, pl, q0, q1, q2, q3, q4, q5⟩ (phO P i) = rk at *
        clear hcs hpa eWk BM
        by_cases hcc : rk ≤ lim
        ·have hd2 : decide (rk ≤ lim) = true := decide_eq_true hcc
         rw [if_pos hcc] at HMT
         clear hcc
         go_wp2_with fail
         (refine wp_region_grown (by kernel_rfl) (by kernel_rfl) ?_; (repeat (go_big_quiet_step (fail))); refine wpQuiet_nil ?_; intro wq hq)
         have HOQ2 := zH (owns_keep HOW.out hq); have HGQ2 := zH (gb_trans HGR2.out hq)
         have hszq := (gb_trans HGR2.out hq).size
         clear hq u0_ u1_ c0_ r0_ s12_ hz_ hrb_
         go_wp2_with (at_builtin; (refine wpList_push rfl _ _ 26 rfl wy.heap.size 3 (.int .i64 0) 1 8 Tryz.underlying26 info_intS rfl (by decide) (by decide) (.slice ma M.length mc) M.length (vi M) rfl (HOQ2.out.alloc _) wq.heap.size 1 [.int .i64 (i : Int)] 3 rfl (heap_alloc_new _ _) rfl (by simp [Value.oneCell']) (by omega) (by simp; omega) ?_); refine Hid.out ?_)
         refine zH ?_
         intro v' w8 hown' hg'
         have R1 : Hid (w8.ownsRow wy.heap.size 3 1 v' (M ++ [i]).length (vi (M ++ [i]))) := zH (by
          have e : vi (M ++ [i]) = vi M ++ [.int .i64 (i : Int)] := by simp [vi]
          rw [List.length_append, List.length_singleton, e]; exact hown')
         have R2 := zH (push_grown HGQ2.out HOQ2.out (Nat.le_refl _) hg')
         clear hown' hg' hszq
         go_wp2_with fail
         go_roundw
         case rel => exact ⟨k2 + 1, by omega, by simp, by rw [HMT.out]; exact R1.out, R2.out⟩
         case measure => simp [intOf]; omega
        ·have hd2 : decide (rk ≤ lim) = false := decide_eq_false hcc
         rw [if_neg hcc, List.append_nil] at HMT
         clear hcc
         go_wp2_with fail
         (refine wp_region_grown (by kernel_rfl) (by kernel_rfl) ?_; (repeat (go_big_quiet_step (fail))); refine wpQuiet_nil ?_; intro wq hq)
         have HOQ2 := zH (owns_keep HOW.out hq); have HGQ2 := zH (gb_trans HGR2.out hq)
         clear hq u0_ u1_ c0_ r0_ s12_ hz_ hrb_
         go_wp2_with fail
         go_roundw
         case rel => exact ⟨k2 + 1, by omega, by simp, by rw [HMT.out]; exact HOQ2.out, HGQ2.out⟩
         case measure => simp [intOf]; omega
       ·have hkd2 : decide ((k2 : Int) < (m : Int)) = false := decide_eq_false (by omega)
        have hM2 : memOf ⟨x0, y0, z0, x1, y1, z1, st, ls, hs, cap, tol, span, lim, least⟩ P W ⟨px, py, pz, pt, pm, pl, q0, q1, q2, q3, q4, q5⟩ = M := by
         have h := HM.out
         rwa [List.take_of_length_le (by rw [HWM.out]; omega)] at h
        rw [hM2] at HRN2
        have HM3 := zH hM2
        have BM := block_kept HAM.out.gw B3.out rfl
        have s13_ : wr.cell? ⟨z, 13, none⟩ = some (.int .i64 least) := cell_of BM 13 _ rfl
        have hz_ := block_lt' BM
        clear hM2 BM HM
        by_cases hMl : (M.length : Int) < least
        ·have hd3 : decide ((M.length : Int) ≥ least) = false := decide_eq_false (by omega)
         rw [if_pos hMl] at HRN2
         clear hMl
         obtain ⟨i0, j0, eW0, -, -, hor0, hjn0, a, hpa, hcs⟩ := OC.out 0 hm0
         have ei0 : r = i0 := by rw [HWR.out] at eW0; simpa using eW0
         subst ei0
         obtain ⟨p0_, o0_, -⟩ := hcs wr (gb_trans HGY6.out HGR2.out)
         rw [Nat.add_zero] at p0_
         rw [← hor0] at o0_
         have hpb0 : pb0 < wr.heap.size := by have := HPBS.out.1; have := (gb_trans HGY6.out HGR2.out).size; omega
         have hob_ : ob < wr.heap.size := by have := HPBS.out.2.1; have := (gb_trans HGY6.out HGR2.out).size; omega
         have hpc0 : True := trivial
         clear hcs hpa hor0 hjn0 eW0
         have HLR := zH HAM.out.lr
         have hszB := HAM.out.sz
         have hm0 : 0 < m := by have := HWM.out; rw [HWR.out] at this; simp at this; omega
         have HPF : Hid ((Value.slice lva lf.length lvc).ownBlock ≠ some pb0) := zH (fun e => by have := HPFB.out pb0 po0 rfl; have := (HAQ.out.lr.lt pb0 e).2; omega)
         generalize hor : oA P r = kr at *
         have HOR := zH hor
         clear hor
         go_wp2_with (at_builtin; (refine wpList_pushAt rfl _ _ 26 rfl B 3 (.int .i64 0) 1 8 Tryz.underlying26 info_intS rfl (by decide) (by decide) (.slice lva lf.length lvc) lf.length (vi lf) rfl (HLR.out.alloc _) wr.heap.size 1 [.int .i64 (kr : Int)] 3 rfl (heap_alloc_new _ _) rfl (by simp [Value.oneCell']) (by omega) (by simp; omega) ?_); refine Hid.out ?_)
         refine zH ?_
         intro v8 w8 hown8 hg8 hv8
         have hga8 := gb_alloc (gb_refl wr none) (.cells #[(kr : Int)] 3)
         have HA8 := zH ((HAM.out.later hga8).left hown8 hg8 (by simpa using hv8))
         have p8_ : w8.cell? ⟨pb0, po0, none⟩ = some (.int .i64 (r : Int)) := by
          have e1 := (gb_cell hga8 hpb0 (by simp)).trans p0_
          have hb8 : pb0 < (wr.alloc (.cells #[(kr : Int)] 3)).heap.size := Nat.lt_of_lt_of_le hpb0 hga8.size
          exact (gb_cell hg8 hb8 (fun e => HPF.out (by simpa using e.symm))).trans e1
         have hpb8 : pb0 < w8.heap.size := Nat.lt_of_lt_of_le (Nat.lt_of_lt_of_le hpb0 hga8.size) hg8.size
         obtain ⟨v8a, v8c, rfl⟩ := owns_slice hown8
         clear hown8 hg8 hv8 hga8 p0_ hpb0 hpc0 o0_ hob_ HLR hszB
         obtain ⟨v0_, v1_⟩ := cells2 HA8.out.cv
         have hcl_ := block_lt' HA8.out.cv
         have u0_ := Made.cells hcl_
         have u1_ := Made.cells hpb8
         go_wp2_with fail
         refine Rg.rR (Made w8) Makes (fun _ => none) (fun _ => false) 0 4 Makes.size (Made.start w8) (fun hne => ?_)
         (repeat (refine rQ ?_; go_big_quiet_step (fail); refine wpQuiet_nil ?_))
         rintro wz hqz - -
         have HAZ := zH (HA8.out.later hqz)
         have RMV := zH (remove_any gn gb n r [] rs wz (by simpa using HAZ.out.ch) (by omega))
         clear hqz hne u0_ u1_ v0_ v1_ hcl_ p8_ hpb8
         go_wp2_with fail
         (with_reducible refine RMV.out.mono ?_)
         rintro e w9 ⟨rfl, hch9, wm, h91, h92⟩
         have HA9 := zH (HAZ.out.chain h91 h92 (by simpa using hch9))
         clear hch9 h91 h92 RMV HAZ
         go_wp2_with fail
         go_roundw
         case rel => exact ⟨rs, gs, lf ++ [kr], f, HA9.out, HRN2.out, by simp at hlf; omega, by simp at hcnt ⊢; omega⟩
         case measure => simp [slLen]; simp at hcnt; omega
        ·have hd3 : decide ((M.length : Int) ≥ least) = true := decide_eq_true (by omega)
         rw [if_neg hMl] at HRN2
         have hM0 : 0 < M.length := by omega
         clear hMl
         have HMS := zH (Sl_of_owns (xs := M.map (fun (i : Nat) => (i : Int))) (by have h := HOW.out; rw [vi_int] at h; exact h) (by simp))
         obtain ⟨mb_, mo, mc', me, -, -, -, -⟩ := HMS.out.block (by rw [List.length_map]; exact hM0)
         simp only [Value.slice.injEq] at me
         obtain ⟨rfl, -, rfl⟩ := me
         have HMN : Hid (M.Nodup ∧ (r :: rs).Nodup ∧ ∀ i ∈ M, i ∈ r :: rs ∧ i < n) := zH (by
          obtain ⟨-, X1, Y1, -, -, hl⟩ := HAM.out.ch
          have hsub : M.Sublist (r :: rs) := by rw [← HM3.out]; exact (List.filter_sublist).trans HWL.out.2
          have hnd : (r :: rs).Nodup := hl.asc.imp (fun h => Nat.ne_of_lt h)
          exact ⟨hsub.nodup hnd, hnd, fun i hi => ⟨hsub.subset hi, hl.lt i (hsub.subset hi)⟩⟩)
         have OCC : Hid (∀ i, i < n → ∀ u : World, w3.grownBy u none → u.cell? ⟨ob, oo + i, none⟩ = some (.int .i64 (oA P i : Int)) ∧ ob < u.heap.size) := zH (by
          obtain ⟨ob2, oo2, oc2, e2, hob2, -, -, hoc2⟩ := HO3.out.block (by rw [List.length_map, ordA_length, HN.out]; omega)
          simp only [Value.slice.injEq] at e2
          obtain ⟨h1, -, -⟩ := e2
          cases h1
          intro i hi u hu
          have hio : i < (ordA P).length := by rw [ordA_length, HN.out]; exact hi
          have e1 := hoc2 i (by rw [List.length_map]; exact hio)
          unfold at0 at e1
          rw [List.getElem?_map, List.getElem?_eq_getElem hio] at e1
          have hoA : oA P i = (ordA P)[i] := by unfold oA; rw [List.getElem?_eq_getElem hio]; rfl
          rw [hoA]
          exact ⟨(gb_cell hu hob2 (by simp)).trans e1, Nat.lt_of_lt_of_le hob2 hu.size⟩)
         obtain ⟨l0_, l1_, l2_, l3_, l4_, l5_, l6_, l7_, l8_, l9_, l10_, l11_⟩ := cells12 XBM.out
         clear l4_ l5_ l6_ l7_ l8_ l9_ l10_ l11_
         have g1 := gb_alloc (gb_refl wr none) (.cells #[.slice none 0 0, (0:Int), (0:Int), (0:Int), (0:Int)] 53)
         have A1 := zH (heap_alloc_new wr (.cells #[.slice none 0 0, (0:Int), (0:Int), (0:Int), (0:Int)] 53))
         have HGS : Hid (GrAt w3 B gn gb n cb (r :: rs) gs lf (.slice gva gs.length gvc) (.slice lva lf.length lvc) wr.heap.size (wr.heap.size + 1) (.slice none 0 0) [] px py pz pt (.slice (some ⟨mb_, mo, none⟩) M.length mc) M ((wr.alloc (.cells #[.slice none 0 0, (0:Int), (0:Int), (0:Int), (0:Int)] 53)).setRow wr.heap.size #[.slice none 0 0, px, py, pz, pt])) := zH (by
          refine GrAt.start HAM.out (by have := HGR2.out.size; omega) (gb_setRow g1 (.inl (Nat.le_refl _))) rfl (by simp [World.setRow]) (setRow_at A1.out) HMS.out (fun b off len cap e => ?_)
          simp only [Value.slice.injEq] at e
          obtain ⟨h1, -, -⟩ := e
          cases h1
          have := HOW.out.lt mb_ rfl
          omega)
         clear g1
         go_wp2_with (with_reducible refine wpList_store_row rfl _ _ _ rfl wr.heap.size #[.slice none 0 0, px, py, pz, pt] rfl rfl _ _ A1.out (by kernel_rfl) rfl (by simp [Value.oneCell']) ?_)
         clear A1 l0_ l1_ l2_ l3_ s13_ hz_ HMS
         generalize (wr.alloc (.cells #[.slice none 0 0, (0:Int), (0:Int), (0:Int), (0:Int)] 53)).setRow wr.heap.size #[.slice none 0 0, px, py, pz, pt] = wg at *
         generalize hXX : wr.heap.size = X at *
         clear hXX
         go_loopw [129] (fun kv wr => ∃ (k : Nat) (mv : Value) (ms : List Nat), k ≤ M.length ∧ kv = .int .i64 (k : Int) ∧ ms = (M.take k).map (oA P) ∧ GrAt w3 B gn gb n cb ((r :: rs).filter (fun i => decide (i ∉ M.take k))) gs lf (.slice gva gs.length gvc) (.slice lva lf.length lvc) X (X + 1) mv ms px py pz pt (.slice (some ⟨mb_, mo, none⟩) M.length mc) M wr) (fun kv _ => M.length - (intOf kv).toNat)
         case atStart => exact ⟨0, _, [], by omega, rfl, rfl, by rw [List.take_zero, filt_nil]; exact HGS.out⟩
         case round =>
          obtain ⟨k3, mv, ms, hkm3, rfl, hms, hG⟩ := hrel
          have hmsl : ms.length = k3 := by rw [hms, List.length_map, List.length_take]; omega
          obtain ⟨va, vc, rfl⟩ := owns_slice hG.ow
          have HGM := zH hG; have HMSE := zH hms; have HML := zH hmsl
          clear hG hms hmsl
          by_cases hlt3 : k3 < M.length
          ·have hkd3 : decide ((k3 : Int) < (M.length : Int)) = true := decide_eq_true (by omega)
           obtain ⟨i, hi⟩ : ∃ i, M[k3] = i := ⟨_, rfl⟩
           have him : i ∈ M := hi ▸ List.getElem_mem hlt3
           obtain ⟨hir, hin⟩ := HMN.out.2.2 i him
           have hMt0 : M.take (k3 + 1) = M.take k3 ++ [i] := by rw [List.take_succ_eq_append_getElem hlt3, hi]
           have hiT : i ∉ M.take k3 := fun hm => by
            have hd : (M.take (k3 + 1)).Nodup := (List.take_sublist _ _).nodup HMN.out.1
            rw [hMt0] at hd
            exact (List.nodup_append.1 hd).2.2 i hm i (by simp) rfl
           obtain ⟨r1, r2, hr1, hr2⟩ := filt_step HMN.out.2.1 hir hiT
           have HMT := zH hMt0; have HR2F := zH hr2
           obtain ⟨mb2, mo2, mc2, e2, hmb2, -, -, hmc2⟩ := HGM.out.mm.block (by rw [List.length_map]; exact hM0)
           have c0_ : wr.cell? ⟨mb_, mo + k3, none⟩ = some (.int .i64 (i : Int)) := by
            simp only [Value.slice.injEq] at e2
            obtain ⟨h1, -, -⟩ := e2
            cases h1
            rw [hmc2 k3 (by rw [List.length_map]; exact hlt3)]
            simp [at0, hlt3, hi]
           rw [hr1] at HGM
           have RMV := zH (remove_any gn gb n i r1 r2 wr HGM.out.aa.ch (by omega))
           obtain ⟨v0_, v1_⟩ := cells2 HGM.out.aa.cv
           have hcl_ := block_lt' HGM.out.aa.cv
           clear hi him hir hMt0 hiT hr1 hr2 e2 hmb2 hmc2
           go_wp2_with fail
           (with_reducible refine RMV.out.mono ?_)
           rintro e w9 ⟨rfl, hch9, wm, h91, h92⟩
           have HG9 := zH (HGM.out.chain h91 h92 hch9)
           clear hch9 h91 h92 RMV HGM v0_ v1_ hcl_ c0_
           have x0_ := cell_of HG9.out.xb 0 _ rfl
           have hX_ := block_lt' HG9.out.xb
           obtain ⟨o_, hob_⟩ := OCC.out i hin w9 HG9.out.aa.gw
           have u0_ := Made.cells hX_; have u1_ := Made.cells hob_
           generalize hj : oA P i = j at *
           have HJ := zH hj
           clear hj
           go_wp2_with fail
           refine Rg.rR (Made w9) Makes (fun k_ => if k_ = 6 then some (isMk w9 1 #[(j : Int)] 3) else none) (fun _ => false) 0 7 Makes.size (Made.start w9) (fun hne => ?_)
           (repeat (refine rQ ?_; go_big_quiet_step (fail); refine wpQuiet_nil ?_))
           refine rg_mk 1 #[(j : Int)] 3 [.int .i64 (j : Int)] rfl rfl rfl (fun _ => by go_simp) (fun lb hlb => ?_)
           simp only [zA, zB, zC, zD, zX]
           rintro wz hqz hf -
           have L1 := isMk.out (hf 6)
           have HGZ := zH (HG9.out.later hqz)
           have hsz := HGZ.out.lt.2.2
           have hmsb : ms.length < 100 := by have := HML.out; omega
           clear hf hqz hne u0_ u1_ x0_ hX_ o_ hob_
           refine wpList_pushAt rfl _ _ 26 rfl (X + 1) 3 (.int .i64 0) 1 8 Tryz.underlying26 info_intS rfl (by decide) (by decide) (.slice va ms.length vc) ms.length (vi ms) rfl HGZ.out.ow lb 1 [.int .i64 (j : Int)] 3 rfl L1 rfl (by simp [Value.oneCell']) (by omega) hsz ?_
           intro v' w10 hown hg hv
           obtain ⟨x1, hG2⟩ := HGZ.out.push hown hg
           have HG10 := zH hG2
           obtain ⟨va', vc', rfl⟩ := owns_slice hown
           have x0_ := cell_of x1 0 _ rfl
           have z_ := frzA x1 0
           clear hown hg hv hG2 x1 L1 HGZ hsz
           simp only [zA, zB, zC, zD, zX]
           go_wp2_with fail
           go_roundw
           case rel => exact ⟨k3 + 1, _, ms ++ [j], by omega, by simp, by rw [HMT.out, List.map_append, ← HMSE.out, ← HJ.out]; rfl, by rw [HMT.out, HR2F.out]; exact HG10.out⟩
           case measure => simp [intOf]; omega
          ·have hkd3 : decide ((k3 : Int) < (M.length : Int)) = false := decide_eq_false (by omega)
           have hMt : M.take k3 = M := List.take_of_length_le (by omega)
           rw [hMt] at HGM HMSE
           clear hMt
           have SO := zH (sort_own (ms.map (fun (i : Nat) => (i : Int))) (X + 1) (.slice va ms.length vc) wr (by have := HGM.out.ow; rw [vi_int] at this; simpa using this) (by have := HML.out; simp; omega))
           have x0_ := cell_of HGM.out.xb 0 _ rfl
           have hX_ := block_lt' HGM.out.xb
           go_wp2_with fail
           (with_reducible refine SO.out.mono ?_)
           rintro e w11 ⟨rfl, ho, hg⟩
           obtain ⟨hA11, hx11, hb11⟩ := HGM.out.sorted hg
           have HA11 := zH hA11; have HB11 := zH hb11
           have HS11 := zH (Sl_of_owns (xs := srt (ms.map (fun (i : Nat) => (i : Int)))) ho (by simp [srt_len]))
           obtain ⟨y0_, y1_, y2_, y3_, y4_⟩ := cells5 hx11
           have ga := gb_alloc (gb_refl w11 none) (.cells #[.slice va ms.length vc, px, py, pz, pt] 53)
           have HGA := zH ga
           have hszA : B ≤ w11.heap.size := hA11.sz
           have hgl : gs.length < 100 := by simp at hcnt; omega
           have hflG : (flatG gs).length = gs.length * 5 := flatG_length gs
           generalize hGF : flatG gs = fG at *
           have HGF := zH hGF
           clear hGF ho hg hA11 hx11 hb11 ga SO x0_ hX_ HGM
           have hgr11 := HA11.out.gr
           rw [HGF.out] at hgr11
           have HGR11 := zH hgr11
           clear hgr11
           go_wp2_with (at_builtin; (refine wpList_pushAt rfl _ _ 41 rfl B 53 (.agg #[.slice none 0 0, (0:Int), (0:Int), (0:Int), (0:Int)]) 5 56 Tryz.underlying41 info_grp rfl (by decide) (by decide) (.slice gva gs.length gvc) gs.length fG rfl (HGR11.out.alloc _) w11.heap.size 1 [.slice va ms.length vc, .int .i64 px, .int .i64 py, .int .i64 pz, .int .i64 pt] 53 rfl (heap_alloc_new _ _) rfl (by simp [Value.oneCell']) (by omega) (by simp; omega) ?_); refine Hid.out ?_)
           refine zH ?_
           intro v12 w12 hown12 hg12 hv12
           have HA12 := zH ((HA11.out.later HGA.out).group (x := ⟨grpOf P M ⟨px, py, pz, pt, pm, pl, q0, q1, q2, q3, q4, q5⟩, .slice va ms.length vc⟩) (by rw [HGF.out]; exact hown12) hg12 (by simpa using hv12) (by
            have h := HS11.out.after HGA.out
            have e : ms.map (fun (i : Nat) => (i : Int)) = M.map (fun i => (oA P i : Int)) := by rw [HMSE.out, List.map_map]; rfl
            rw [e] at h
            exact h) (fun b off len cap e => by
            have h := HB11.out b off len cap e
            exact ⟨h.1, Nat.lt_of_lt_of_le h.2.1 HGA.out.size, h.2.2⟩))
           obtain ⟨g12a, g12c, rfl⟩ := owns_slice hown12
           clear hown12 hg12 hv12
           have hlen12 : ((r :: rs).filter (fun i => decide (i ∉ M))).length < (r :: rs).length := by
            refine List.length_filter_lt_length_iff_exists.2 ?_
            exact ⟨M[0], (HMN.out.2.2 _ (List.getElem_mem hM0)).1, by simp⟩
           have HLEN := zH hlen12
           clear hlen12
           go_wp2_with fail
           go_roundw
           case rel => exact ⟨(r :: rs).filter (fun i => decide (i ∉ M)), gs ++ [⟨grpOf P M ⟨px, py, pz, pt, pm, pl, q0, q1, q2, q3, q4, q5⟩, .slice va ms.length vc⟩], lf, f, HA12.out, by rw [List.map_append]; exact HRN2.out, by have := HLEN.out; omega, by have := HLEN.out; rw [List.length_append, List.length_singleton]; omega⟩
           case measure => simp [slLen]; simp at hcnt; omega
theorem associate_any (A : Asc) (P : List Ph) (vl vh pv : Value) (w : World) (hA : AscIn A vl vh w) (hp : SlC 6 w pv P.length (flatP P)) (h20 : P.length < 20) :
  Calls Tryz.prog 15 #[.agg (A.val vl vh), pv] w (AsRes A P w) := by
 refine (associate_own A P vl vh pv w hA hp h20).mono ?_
 rintro e w' ⟨L, gv, lv, rfl, h, hL, hg⟩
 exact ⟨L, gv, lv, rfl, ⟨SlC.of_owns h.gr, fun x hx => (h.ms x hx).1⟩, hL, Sl_of_owns h.lr rfl, hg⟩
end Go.Proofs.YtiebljanpnadjaaGreat
