/- RgApp Bent Lit Ref27 -/
import Derived.ArgAppend
import Derived.BigRegion
import Derived.Deep.AppendLies
import Derived.Laws.OwnMore
import Derived.Test.YtnmjefgldoaneaaGreatDoorToRgMade
import Derived.Test.YtnmjefgldoaneaaGreatDoorToRgPos
import Derived.Test.YtnmjefgldoaneaaGreatDoorToMem
import Derived.Test.YtnmjefgldoaneaaGreatDoorToRef
import Derived.Test.YtnmjefgldoaneaaGreatDoorToMis
import Derived.Test.YtnmjefgldoaneaaGreatDoorToMisP
namespace Go.Proofs.YtnmjefgldoaneaaGreatDoor
set_option linter.all false
open Go.RowKit Rg
/-- A value that owns a row of its own. -/
abbrev isOwn (B : Nat) (e : TypeId) (size n : Nat) (xs : List Value) : List Value → Value → World → Prop := fun _ v u => u.ownsRow B e size v n xs
section
variable {P : Program} {ops : Array Oper} {md : Region.Mode} {w0 : World} {sp : Nat → Option (List Value → Value → World → Prop)} {al : Nat → Bool} {N : Nat} {Q : List Oper → Act → Facts → Prop} {n k : Nat} {o : Oper} {l : List Oper} {a : Act} {f : Facts}
/-- A literal slice of structs. -/
theorem rg_litN (m : Nat) (cs : Array Value) (T : TypeId) (hs : sp k = some (isBlk w0 m T)) (hw : Region.wanted o (yielded ops a.tmps) = true) (hal : al k = false) (hcs : ((vals a o).flatMap (fun v => v.cells.toList)).toArray = cs)
    (hrun : ∀ w, (execOp a.eval o).run P w = .ok (.value (.slice (some ⟨w.heap.size, 0, none⟩) m m)) (w.alloc (.cells cs T)))
    (h : ∀ b, w0.heap.size ≤ b → rLexL P md ops ⟨In (Made w0), Makes, sp, al, N⟩ Q n l (k + 1) (a.put o.dst (.slice (some ⟨b, 0, none⟩) m m)) (upd f k fun u => u.heap[b]? = some (.cells cs T (0, 0)))) :
    rLexL P md ops ⟨In (Made w0), Makes, sp, al, N⟩ Q (n + 1) (o :: l) k a f := by
  refine rLexL_spec (isBlk w0 m T) hs hw ?_ (fun w hC hd => stepTo_run (hrun w) ?_) ?_
  · rintro v j w w' _ _ _ hR ⟨b, e, hb, hh⟩
    exact ⟨b, e, hb, (World.grownBy.block hR b (Array.getElem?_eq_some_iff.1 hh).1 (by simp)).trans hh⟩
  · have hsz := hC.out.size
    exact ⟨In.mk (gb_alloc hC.out _), gb_alloc (gb_refl w _) _, ⟨_, rfl, hsz, by rw [hcs]; exact heap_alloc_new w _⟩, fun e => by rw [hal] at e; cases e⟩
  · rintro v w hC ⟨b, rfl, hb, -⟩
    have e : (isBlk w0 m T (vals a o) (.slice (some ⟨b, 0, none⟩) m m)) = fun u => u.heap[b]? = some (.cells cs T (0, 0)) := by
      funext u
      refine propext ⟨?_, fun h => ⟨b, rfl, hb, by rw [hcs]; exact h⟩⟩
      rintro ⟨b', e, -, h⟩
      simp at e; subst e; rw [hcs] at h; exact h
    rw [e]
    exact h b hb
/-- append(s, x): s is full, x one element that a literal has laid. -/
theorem rg_appN (s x : Operand) (t e : TypeId) (z : Value) (size bytes : Nat) (ht : P.underlying t = some (.slice e)) (hinfo : (P.info? e).map (fun i => (i.zero, i.size, i.bytes)) = some (some z, size, bytes)) (hzs : z.cells.size = size) (hsz : 0 < size)
    (b : Addr) (m : Nat) (olds : List Value) (c cc : Nat) (news : List Value) (T : TypeId) (kb : Nat)
    (hs : sp k = some (isOwn w0.heap.size e size (m + 1) (olds ++ news))) (hw : Region.wanted o (yielded ops a.tmps) = true) (hal : al k = false)
    (ho : o.op = .call { callee := .builtin .append, args := #[s, x], argTypes := #[t, t] })
    (hsv : a.eval s = .slice (some b) m m) (hxv : a.eval x = .slice (some ⟨c, 0, none⟩) 1 cc)
    (hlo : olds.length = m * size) (holds : ∀ u, w0.grownBy u none → ∀ j y, olds[j]? = some y → u.cell? (b.add j) = some y)
    (hl : news.length = size) (hafter : ∃ e ∈ o.after, Region.binds md e = true ∧ e.on = kb) (hf : f kb = fun u => u.heap[c]? = some (.cells news.toArray T (0, 0)))
    (h63 : m + 1 ≤ 1000000) (hbytes : (m + 1) * bytes ≤ 140737488355328)
    (h : ∀ v, rLexL P md ops ⟨In (Made w0), Makes, sp, al, N⟩ Q n l (k + 1) (a.put o.dst v) (upd f k (isOwn w0.heap.size e size (m + 1) (olds ++ news) [] v))) :
    rLexL P md ops ⟨In (Made w0), Makes, sp, al, N⟩ Q (n + 1) (o :: l) k a f := by
  refine rLexL_spec (isOwn w0.heap.size e size (m + 1) (olds ++ news)) hs hw (fun v j w w' _ _ _ hR h => owns_keep h hR) (fun w hC hd => ?_) (fun v w _ _ => h v)
  obtain ⟨ed, he, hbd, rfl⟩ := hafter
  have hdep := hd ed he hbd
  rw [hf] at hdep
  obtain ⟨i0, hi, hz0, hz1, hz2⟩ := info_parts hinfo
  have hnews : ∀ j u, news[j]? = some u → w.cell? ((⟨c, 0, none⟩ : Addr).add j) = some u := World.news_of_block (cs := news.toArray) (by simpa using hdep)
  obtain ⟨v', w', hr, h2, h3⟩ := run_append_arg_grows (P := P) w t o.type e i0 z size bytes ht hi hz0 hz1 hz2 hzs hsz b m m olds hlo (holds w hC.out) ⟨c, 0, none⟩ 1 cc news (by omega) hnews (by omega) (by unfold maxLen; omega) hbytes
  unfold stepTo execOp
  simp only [ho, resolve, invoke, builtin, Sem.run_bind, Sem.run_pure, Result.andThen_ok, List.map_toArray, List.map_cons, List.map_nil, hsv, hxv, hr]
  refine ⟨In.mk (gb_trans hC.out h3), h3, ?_, fun e => by rw [hal] at e; cases e⟩
  have hsz := hC.out.size
  refine ⟨h2.1, h2.2.imp id ?_⟩
  rintro ⟨g, cap, cur, e1, e2, e3⟩
  exact ⟨g, cap, cur, e1, by omega, e3⟩
end
end Go.Proofs.YtnmjefgldoaneaaGreatDoor
namespace Go.Proofs.YtnmjefgldoaneaaGreatDoor
set_option linter.all false
open Go.RowKit Rg
/-- One of the numbers of a literal that lies in a block of its own. -/
theorem pickL_any (B : Nat) (w : World) (p : Nat) (xs : List Int) (n : Nat) (hn : xs.length = n) (cs : Array Value) (hcs : (xs.map (Value.int .i64)).toArray = cs) (e : TypeId) (h : Src B w p) (g : Nat) (hz : w.heap.size = g) (h0 : 0 < xs.length) (hl : xs.length ≤ 1000) :
    Calls Tryz.prog 8 #[.pointer (some ⟨p, 0, none⟩), .slice (some ⟨g, 0, none⟩) n n] (w.alloc (.cells cs e)) (fun r w' => ∃ x : Int, r = .returned (.int .i64 x) ∧ x ∈ xs ∧ Src B w' p ∧ w.grownBy w' (some p)) := by
  subst hz; subst hn; subst hcs
  have hp := h.lt.2
  have hs : Sl (w.alloc (.cells (xs.map (Value.int .i64)).toArray e)) (.slice (some ⟨w.heap.size, 0, none⟩) xs.length xs.length) xs :=
    .inr ⟨w.heap.size, 0, xs.length, rfl, by simp, Nat.le_refl _, by omega, fun k hk => by rw [cell_new]; simp [hk]⟩
  refine (pick_any B _ p _ xs (h.later (gb_alloc (gb_refl w none) _) (by simp)) hs h0 hl (fun b off len cap he => by simp at he; omega)).mono ?_
  rintro r w' ⟨x, rfl, hx, hS, hg⟩
  exact ⟨x, rfl, hx, hS, gb_trans (gb_none (gb_alloc (gb_refl w none) _)) hg⟩
end Go.Proofs.YtnmjefgldoaneaaGreatDoor
namespace Go.Proofs.YtnmjefgldoaneaaGreatDoor
set_option linter.all false
open Go.RowKit Rg
/-- A slice of ints apart from block p. -/
def Apart (p : Nat) (v : Value) : Prop := ∀ b off len cap, v = .slice (some ⟨b, off, none⟩) len cap → 0 < len → b ≠ p
section
end
/-- Two zones are compared. -/
def sameZ (a b c d : Int) : Bool := a == c && b == d
theorem run_neqZ (a b c d : Int) (w : World) :
    (binOp .neq 129 (.agg #[.int .i64 a, .int .i64 b]) (.agg #[.int .i64 c, .int .i64 d])).run Tryz.prog w = .ok (.bool (!sameZ a b c d)) w := by
  unfold sameZ
  by_cases h0 : a = c <;> by_cases h1 : b = d <;> simp [go_sem, h0, h1]
attribute [go_sem high] run_neqZ
end Go.Proofs.YtnmjefgldoaneaaGreatDoor
namespace Go.Proofs.YtnmjefgldoaneaaGreatDoor
set_option linter.all false
section LRefE
open Go.RowKit Rg
theorem rresidual_any (z : Zn) (t : Int) (w : World) (h1 : -72057594037927936 ≤ z.f ∧ z.f ≤ 72057594037927936) (h2 : -72057594037927936 ≤ z.t ∧ z.t ≤ 72057594037927936) (h3 : -72057594037927936 ≤ t ∧ t ≤ 72057594037927936) :
    Calls Tryz.prog 131 #[.agg #[.int .i64 z.f, .int .i64 z.t], .int .i64 t] w fun e w' => e = .returned (.int .i64 (resid z t)) ∧ w.grownBy w' none := by
  obtain ⟨f, g⟩ := z
  simp only [] at h1 h2
  have HG := Lib.hid (gb_alloc (gb_refl w none) (.cells #[.int .i64 f, .int .i64 g] 129))
  go_enter Tryz.func131, Tryz.ntmps131
  go_wp2
  all_goals
    go_ret
    exact ⟨ret_int (by unfold resid; simp only []; omega), HG.out⟩
set_option maxRecDepth 100000 in
set_option maxHeartbeats 2000000 in
theorem rcost_any (P : Prob) (vl vh vp vz : Value) (zs : List Zn) (t : Int) (w : World) (hp : SlC 6 w vp P.phs.length (flatP P.phs)) (hz : SlC 2 w vz zs.length (flatZ zs)) (hf : Fair P.cap P.phs zs) (ht : -72057594037927936 ≤ t ∧ t ≤ 72057594037927936) (hzl : zs.length = P.phs.length) :
    Calls Tryz.prog 79 #[.agg (P.val vl vh vp), vz, .int .i64 t] w fun e w' => e = .returned (.int .i64 (cost P.cap P.phs zs t)) ∧ w.grownBy w' none := by
  obtain ⟨x0, y0, z0, x1, y1, z1, step, ls, hs, phs, cap⟩ := P
  simp only [Prob.val] at *
  have hg0 := gb_alloc (gb_refl w none) (.cells #[.int .i64 x0, .int .i64 y0, .int .i64 z0, .int .i64 x1, .int .i64 y1, .int .i64 z1, .int .i64 step, vl, vh, vp, .int .i64 cap] 33)
  have hT := heap_alloc_new w (.cells #[.int .i64 x0, .int .i64 y0, .int .i64 z0, .int .i64 x1, .int .i64 y1, .int .i64 z1, .int .i64 step, vl, vh, vp, .int .i64 cap] 33)
  have HP := Lib.hid (hp.after hg0); have HZ := Lib.hid (hz.after hg0); have HG0 := Lib.hid hg0; have HT := Lib.hid hT
  obtain ⟨pa, pc, rfl⟩ := hp.slice
  obtain ⟨za, zc, rfl⟩ := hz.slice
  clear hp hz hg0 hT
  have hfew := hf.few
  have HCO : Hid (cost cap phs zs t = costN cap phs zs t zs.length) := Lib.hid (by unfold cost; rw [hzl])
  have HZL := Lib.hid hzl
  have hfz : zs.length ≤ 70 := by omega
  clear hzl
  go_enter Tryz.func79, Tryz.ntmps79
  go_wp2_with fail
  generalize w.alloc (.cells #[.int .i64 x0, .int .i64 y0, .int .i64 z0, .int .i64 x1, .int .i64 y1, .int .i64 z1, .int .i64 step, vl, vh, .slice pa phs.length pc, .int .i64 cap] 33) = w1 at *
  generalize w.heap.size = q at *
  have HF := Lib.hid hf; clear hf
  go_loopw [7, 8] (fun s i wr => ∃ k : Nat, k ≤ zs.length ∧ i = .int .i64 k ∧ s = .int .i64 (costN cap phs zs t k) ∧ w1.grownBy wr none) (fun _ i _ => zs.length - (intOf i).toNat)
  case atStart => exact ⟨0, by omega, rfl, rfl, gb_refl _ _⟩
  case round =>
    obtain ⟨k, hk, rfl, rfl, hgr⟩ := hrel
    by_cases hlt : k < zs.length
    · have hlp : k < phs.length := by have := HZL.out; omega
      obtain ⟨pb, poff, pcap, hpv, hpb, hpc, hpm, hpcell⟩ := (HP.out.after hgr).block (by omega)
      simp only [Value.slice.injEq, true_and] at hpv
      obtain ⟨rfl, rfl⟩ := hpv
      obtain ⟨c0, c1, c2, c3, c4, c5⟩ := SlC.ph hpcell k hlp
      have hin := HF.out.costN_in t k (by omega)
      have htm := HF.out.term_in t hlp
      have hwt := HF.out.wt k hlp
      have hget : phs[k]?.getD default = phs[k] := by simp [hlp]
      rw [hget] at hwt
      have hsucc : Hid (costN cap phs zs t (k + 1) = costN cap phs zs t k + term cap phs zs t k) := Lib.hid rfl
      have HTM : Hid (term cap phs zs t k = phs[k].n * min cap (resid (zs[k]?.getD default) t)) := Lib.hid (by unfold term; rw [hget, if_pos hlt])
      obtain ⟨zb, zoff, zcap, hzv, hzb, hzc, hzm, hzcell⟩ := (HZ.out.after hgr).block (by omega)
      simp only [Value.slice.injEq, true_and] at hzv
      obtain ⟨rfl, rfl⟩ := hzv
      obtain ⟨d0, d1⟩ := SlC.zn hzcell k hlt
      obtain ⟨t1, t2⟩ := HF.out.tame k hlt
      have hget : zs[k]?.getD default = zs[k] := by simp [hlt]
      rw [hget] at t1 t2 HTM
      clear hpcell hzcell hget c0 c1 c2 c3 c4
      generalize zs[k] = zk at *
      have RS := Lib.hid (fun (u : World) => rresidual_any zk t u t1 t2 ht)
      generalize phs[k] = ph at *
      obtain ⟨ax, ay, az, ae, al, an⟩ := ph
      obtain ⟨zf, zt⟩ := zk
      simp only [] at c5 hwt HTM d0 d1 RS t1 t2
      have hT := Lib.hid (block_kept hgr HT.out rfl)
      have HGR := Lib.hid hgr
      have rn := resid_nn ⟨zf, zt⟩ t
      generalize costN cap phs zs t k = s at *
      generalize term cap phs zs t k = tm at *
      generalize resid ⟨zf, zt⟩ t = rs at *
      have WM : Hid (wrap64 (an * min cap rs) = tm) := Lib.hid (by rw [← HTM.out]; exact IntWalk.wrap64_in _ (by omega))
      have WS : IntKind.i64.wrap (s + tm) = s + tm := by rw [IntKind.wrap_i64]; omega
      have hmin := HTM.out
      have e9 := cell_of hT.out 9 _ rfl
      have e10 := cell_of hT.out 10 _ rfl
      have u1 := fun (x : Up wr) (c : Nat) => ever_cell x (b := q) (o := c) (block_lt' hT.out)
      have u2 := fun (x : Up wr) (c : Nat) => ever_cell x (b := pb) (o := c) hpb
      have u3 := fun (x : Up wr) (c : Nat) => ever_cell x (b := zb) (o := c) hzb
      have hlz := HZL.out
      clear hgr hmin t1 t2
      go_wp2_with fail
      (refine wp_region_grown (by kernel_rfl) (by kernel_rfl) ?_; (repeat (go_big_quiet_step (first
        | (go_at_call 131; exact Calls.grown_of (RS.out _))))); refine wpQuiet_nil ?_; intro wq hq)
      have HGN := Lib.hid (gb_trans HGR.out hq)
      clear u1 u2 u3 e9 e10
      go_wp2_with fail
      go_roundw
      case rel => exact ⟨k + 1, by omega, by go_num, congrArg (Value.int .i64) (by rw [hsucc.out, WM.out]; exact IntWalk.wrap64_in _ (by omega)), HGN.out⟩
      case measure => simp [intOf]; omega
    · obtain rfl : k = zs.length := by omega
      have HGE := Lib.hid (gb_trans HG0.out hgr)
      go_wp2
      go_ret
      exact ⟨ret_int HCO.out.symm, HGE.out⟩
/-- The reference begins with the first time, and tries it once more. -/
theorem best_again {cap : Int} {phs : List Ph} {z : Zn} {zs : List Zn} : (timesOf (z :: zs)).foldl (better cap phs (z :: zs)) (z.f, cost cap phs (z :: zs) z.f) = best cap phs (z :: zs) := by
  unfold best timesOf
  rw [List.flatMap_cons]
  show List.foldl _ (better cap phs (z :: zs) (z.f, cost cap phs (z :: zs) z.f) z.f) _ = _
  rw [show better cap phs (z :: zs) (z.f, cost cap phs (z :: zs) z.f) z.f = (z.f, cost cap phs (z :: zs) z.f) by unfold better; rw [if_neg (by simp)]]
  rfl
set_option maxRecDepth 100000 in
set_option maxHeartbeats 4000000 in
theorem rbest_any (P : Prob) (vl vh vp vz : Value) (zs : List Zn) (w : World) (hp : SlC 6 w vp P.phs.length (flatP P.phs)) (hz : SlC 2 w vz zs.length (flatZ zs)) (hf : Fair P.cap P.phs zs) (hzl : zs.length = P.phs.length) (h0 : 0 < zs.length) (ol : vl.oneCell' = true) (oh : vh.oneCell' = true) :
    Calls Tryz.prog 45 #[.agg (P.val vl vh vp), vz] w fun e w' => e = .returned (.tuple #[.int .i64 (best P.cap P.phs zs).1, .int .i64 (best P.cap P.phs zs).2]) ∧ w.grownBy w' none := by
  have hg0 := gb_alloc (gb_refl w none) (.cells (P.val vl vh vp) 33)
  have hT := heap_alloc_new w (.cells (P.val vl vh vp) 33)
  have HP := Lib.hid (hp.after hg0); have HZ := Lib.hid (hz.after hg0); have HG0 := Lib.hid hg0; have HT := Lib.hid hT
  have op : vp.oneCell' = true := by obtain ⟨a, c, rfl⟩ := hp.slice; rfl
  obtain ⟨zb, zoff, zcap, rfl, hzb, -⟩ := hz.block h0
  clear hp hz hg0 hT
  have HF := Lib.hid hf
  have hfew := hf.few
  clear hf
  obtain ⟨x0, y0, z0, x1, y1, z1, step, ls, hs, phs, cap⟩ := P
  simp only [Prob.val] at *
  have hfz : zs.length ≤ 70 := by omega
  have HTB := Lib.hid (fun t ht => timesOf_at HF.out.tame (t := t) ht)
  have HZL := Lib.hid hzl
  have COST := Lib.hid (fun (t : Int) (ht : -72057594037927936 ≤ t ∧ t ≤ 72057594037927936) (u : World) (hu : (w.alloc (.cells #[.int .i64 x0, .int .i64 y0, .int .i64 z0, .int .i64 x1, .int .i64 y1, .int .i64 z1, .int .i64 step, vl, vh, vp, .int .i64 cap] 33)).grownBy u none) => rcost_any ⟨x0, y0, z0, x1, y1, z1, step, ls, hs, phs, cap⟩ vl vh vp (.slice (some ⟨zb, zoff, none⟩) zs.length zcap) zs t u (HP.out.after hu) (HZ.out.after hu) HF.out ht HZL.out)
  simp only [Prob.val] at COST
  clear hzl
  obtain ⟨zz, zr, hzz⟩ : ∃ zz zr, zs = zz :: zr := by
    cases zs with
    | nil => simp at h0
    | cons a b => exact ⟨a, b, rfl⟩
  have HBA : Hid ((timesOf zs).foldl (better cap phs zs) (zz.f, cost cap phs zs zz.f) = best cap phs zs) := Lib.hid (by rw [hzz]; exact best_again)
  have hz0 : zs[0] = zz := by simp [hzz]
  have hzt : zz.f ∈ timesOf zs := by rw [hzz]; simp [timesOf]
  clear hzz
  go_enter Tryz.func45, Tryz.ntmps45
  have e0_ := cell_of HT.out 0 _ rfl; have e1_ := cell_of HT.out 1 _ rfl; have e2_ := cell_of HT.out 2 _ rfl; have e3_ := cell_of HT.out 3 _ rfl; have e4_ := cell_of HT.out 4 _ rfl; have e5_ := cell_of HT.out 5 _ rfl; have e6_ := cell_of HT.out 6 _ rfl; have e7_ := cell_of HT.out 7 _ rfl; have e8_ := cell_of HT.out 8 _ rfl; have e9_ := cell_of HT.out 9 _ rfl; have e10_ := cell_of HT.out 10 _ rfl
  go_wp2_with fail
  generalize w.alloc (.cells #[.int .i64 x0, .int .i64 y0, .int .i64 z0, .int .i64 x1, .int .i64 y1, .int .i64 z1, .int .i64 step, vl, vh, vp, .int .i64 cap] 33) = w1 at *
  obtain ⟨zb', zoff', zcap', hzv, hzb', hzc, hzm, hzcell⟩ := HZ.out.block h0
  simp only [Value.slice.injEq, Option.some.injEq, Addr.mk.injEq, true_and, and_true] at hzv
  obtain ⟨⟨rfl, rfl⟩, rfl⟩ := hzv
  obtain ⟨d0, -⟩ := SlC.zn hzcell 0 h0
  rw [hz0, Nat.zero_mul, Nat.add_zero] at d0
  clear hzcell hz0
  have htz := HTB.out _ hzt
  generalize zz.f = t0 at *
  have u1 := fun (x : Up w1) (c : Nat) => ever_cell x (b := w.heap.size) (o := c) (block_lt' HT.out)
  have u2 := fun (x : Up w1) (c : Nat) => ever_cell x (b := zb) (o := c) hzb'
  (refine wp_region_grown (by kernel_rfl) (by kernel_rfl) ?_; (repeat (go_big_quiet_step (first
    | (go_at_call 79; exact Calls.grown_of (COST.out t0 htz _ (ever_up _)))))); refine wpQuiet_nil ?_; intro wq hq)
  have HGQ := Lib.hid hq
  have HTQ := Lib.hid (block_kept hq HT.out rfl)
  have HZQ := Lib.hid (HZ.out.after hq)
  clear u1 u2 hq HT d0 hzb'
  clear e0_ e1_ e2_ e3_ e4_ e5_ e6_ e7_ e8_ e9_ e10_
  go_wp2_with fail
  go_loopw [6, 7, 8] (fun bt bc i wr => ∃ k : Nat, k ≤ zs.length ∧ i = .int .i64 k ∧ bt = .int .i64 ((timesOf (zs.take k)).foldl (better cap phs zs) (t0, cost cap phs zs t0)).1 ∧ bc = .int .i64 ((timesOf (zs.take k)).foldl (better cap phs zs) (t0, cost cap phs zs t0)).2 ∧ wq.grownBy wr none) (fun _ _ i _ => zs.length - (intOf i).toNat)
  case atStart => exact ⟨0, by omega, rfl, by simp [timesOf], by simp [timesOf], gb_refl _ _⟩
  case round =>
    obtain ⟨k, hk, rfl, rfl, rfl, hgr⟩ := hrel
    by_cases hlt : k < zs.length
    · obtain ⟨zb', zoff', zcap', hzv, hzb', hzc, hzm, hzcell⟩ := (HZQ.out.after hgr).block h0
      simp only [Value.slice.injEq, Option.some.injEq, Addr.mk.injEq, true_and, and_true] at hzv
      obtain ⟨⟨rfl, rfl⟩, rfl⟩ := hzv
      obtain ⟨d0, d1⟩ := SlC.zn hzcell k hlt
      have HTK : Hid ((timesOf (zs.take (k + 1))).foldl (better cap phs zs) (t0, cost cap phs zs t0) = [zs[k].f, zs[k].t].foldl (better cap phs zs) ((timesOf (zs.take k)).foldl (better cap phs zs) (t0, cost cap phs zs t0))) := Lib.hid (by rw [timesOf_take zs k hlt, List.foldl_append])
      have hm1 := HTB.out zs[k].f (mem_timesOf.2 ⟨zs[k], List.getElem_mem hlt, .inl rfl⟩)
      have hm2 := HTB.out zs[k].t (mem_timesOf.2 ⟨zs[k], List.getElem_mem hlt, .inr rfl⟩)
      clear hzcell
      generalize zs[k] = zk at *
      obtain ⟨zf, zt⟩ := zk
      simp only [] at d0 d1 HTK hm1 hm2
      generalize (timesOf (zs.take k)).foldl (better cap phs zs) (t0, cost cap phs zs t0) = b0 at *
      have HGR := Lib.hid (gb_trans HGQ.out hgr)
      have HTR := Lib.hid (block_kept hgr HTQ.out rfl)
      have u2 := Made.cells hzb'
      go_wp2_with fail
      refine Rg.region (Made wr) Makes (fun k => if k = 10 then some (isBlk wr 2 3) else none) (fun _ => false) 0 13 (by kernel_rfl) (by kernel_rfl) (by kernel_rfl) (by kernel_rfl) (by kernel_rfl) (by kernel_rfl) (by kernel_rfl) Makes.size (Made.start wr) (fun hne => ?_)
      (repeat (refine rLexL_quiet (by rfl) (by rfl) (by rfl) (by rfl) ?_; go_big_quiet_step (fail); refine wpQuiet_nil ?_))
      refine rg_litN 2 #[.int .i64 zf, .int .i64 zt] 3 rfl rfl rfl rfl (fun _ => by go_simp) (fun nb hnb => ?_)
      simp only [Act.put, List.setIfInBounds_toArray, List.set_cons_zero, List.set_cons_succ]
      refine rLexL_val (.int .i64 2) (by rfl) (by rfl) (by rfl) (by rfl) (fun _ => by go_simp) ?_
      simp only [Act.put, List.setIfInBounds_toArray, List.set_cons_zero, List.set_cons_succ]
      (repeat (refine rLexL_quiet (by rfl) (by rfl) (by rfl) (by rfl) ?_; go_big_quiet_step (fail); refine wpQuiet_nil ?_))
      rintro wx hx hf -
      have hB : wx.heap[nb]? = some (.cells #[.int .i64 zf, .int .i64 zt] 3 (0, 0)) := hf 10
      have HB := Lib.hid hB
      have HGX := Lib.hid (gb_trans HGR.out hx)
      have HTX := Lib.hid (block_kept hx HTR.out rfl)
      have hgx := gb_trans hgr hx
      clear hf hB hx hne u2 d0 d1 HGR HTR hzb' hgr
      have HGW := Lib.hid hgx; clear hgx
      refine wpList_nil ?_
      go_wp2_with fail
      go_loopw [6, 7, 41] (fun bt bc i wr => ∃ k : Nat, k ≤ 2 ∧ i = .int .i64 k ∧ bt = .int .i64 (([zf, zt].take k).foldl (better cap phs zs) b0).1 ∧ bc = .int .i64 (([zf, zt].take k).foldl (better cap phs zs) b0).2 ∧ wx.grownBy wr none) (fun _ _ i _ => 2 - (intOf i).toNat)
      case atStart => exact ⟨0, by omega, rfl, rfl, rfl, gb_refl _ _⟩
      case round =>
        obtain ⟨j, hj, rfl, rfl, rfl, hgr⟩ := hrel
        by_cases hlt2 : j < 2
        · obtain ⟨tk, htk, ck⟩ : ∃ tk, (j = 0 ∧ tk = zf ∨ j = 1 ∧ tk = zt) ∧ wr.cell? ⟨nb, j, none⟩ = some (.int .i64 tk) := by
            have hb := block_kept hgr HB.out rfl
            obtain rfl | rfl : j = 0 ∨ j = 1 := by omega
            · exact ⟨zf, .inl ⟨rfl, rfl⟩, by simp [World.cell?, hb]⟩
            · exact ⟨zt, .inr ⟨rfl, rfl⟩, by simp [World.cell?, hb]⟩
          have hbt : -72057594037927936 ≤ tk ∧ tk ≤ 72057594037927936 := by rcases htk with ⟨-, rfl⟩ | ⟨-, rfl⟩ <;> omega
          have HFOLD : Hid (([zf, zt].take (j + 1)).foldl (better cap phs zs) b0 = better cap phs zs (([zf, zt].take j).foldl (better cap phs zs) b0) tk) := Lib.hid (by
            rcases htk with ⟨rfl, rfl⟩ | ⟨rfl, rfl⟩ <;> rfl)
          generalize ([zf, zt].take j).foldl (better cap phs zs) b0 = bb at *
          obtain ⟨bt, bc⟩ := bb
          have hT := Lib.hid (block_kept hgr HTX.out rfl)
          have e0_ := cell_of hT.out 0 _ rfl; have e1_ := cell_of hT.out 1 _ rfl; have e2_ := cell_of hT.out 2 _ rfl; have e3_ := cell_of hT.out 3 _ rfl; have e4_ := cell_of hT.out 4 _ rfl; have e5_ := cell_of hT.out 5 _ rfl; have e6_ := cell_of hT.out 6 _ rfl; have e7_ := cell_of hT.out 7 _ rfl; have e8_ := cell_of hT.out 8 _ rfl; have e9_ := cell_of hT.out 9 _ rfl; have e10_ := cell_of hT.out 10 _ rfl
          have CK := Lib.hid (COST.out tk hbt wr (gb_trans HGX.out hgr))
          have HGRR := Lib.hid hgr
          clear hT hgr htk hbt
          simp only []
          go_wp2_with fail
          (with_reducible refine CK.out.mono ?_)
          rintro e w7 ⟨rfl, hg7⟩
          have HN := Lib.hid (gb_trans HGRR.out hg7)
          have HBT : Hid (better cap phs zs (bt, bc) tk = if cost cap phs zs tk < bc ∨ (cost cap phs zs tk = bc ∧ tk < bt) then (tk, cost cap phs zs tk) else (bt, bc)) := Lib.hid rfl
          clear e0_ e1_ e2_ e3_ e4_ e5_ e6_ e7_ e8_ e9_ e10_
          clear CK hg7 ck
          generalize better cap phs zs (bt, bc) tk = nb' at *
          generalize cost cap phs zs tk = ck at *
          by_cases c1 : ck < bc
          · have HB2 := Lib.hid (HBT.out.trans (if_pos (.inl c1)))
            go_wp2_with fail
            go_roundw
            case rel => exact ⟨j + 1, by omega, by go_num, by (rw [HFOLD.out, HB2.out]; first | done | (simp; omega)), by (rw [HFOLD.out, HB2.out]; first | done | (simp; omega)), HN.out⟩
            case measure => simp [intOf]; omega
          · by_cases c2 : ck = bc
            · by_cases c3 : tk < bt
              · have HB2 := Lib.hid (HBT.out.trans (if_pos (.inr ⟨c2, c3⟩)))
                go_wp2_with fail
                go_roundw
                case rel => exact ⟨j + 1, by omega, by go_num, by (rw [HFOLD.out, HB2.out]; first | done | (simp; omega)), by (rw [HFOLD.out, HB2.out]; first | done | (simp; omega)), HN.out⟩
                case measure => simp [intOf]; omega
              · have HB2 := Lib.hid (HBT.out.trans (if_neg (by omega)))
                go_wp2_with fail
                go_roundw
                case rel => exact ⟨j + 1, by omega, by go_num, by (rw [HFOLD.out, HB2.out]; first | done | (simp; omega)), by (rw [HFOLD.out, HB2.out]; first | done | (simp; omega)), HN.out⟩
                case measure => simp [intOf]; omega
            · have c4 : (ck == bc) = false := by simpa using c2
              have HB2 := Lib.hid (HBT.out.trans (if_neg (by omega)))
              go_wp2_with fail
              go_roundw
              case rel => exact ⟨j + 1, by omega, by go_num, by (rw [HFOLD.out, HB2.out]; first | done | (simp; omega)), by (rw [HFOLD.out, HB2.out]; first | done | (simp; omega)), HN.out⟩
              case measure => simp [intOf]; omega
        · obtain rfl : j = 2 := by omega
          have HN := Lib.hid (gb_trans HGW.out hgr)
          go_wp2_with fail
          go_roundw
          case rel => exact ⟨k + 1, by omega, by go_num, by rw [HTK.out]; rfl, by rw [HTK.out]; rfl, HN.out⟩
          case measure => simp [intOf]; omega
    · obtain rfl : k = zs.length := by omega
      have HGE := Lib.hid (gb_trans HG0.out (gb_trans HGQ.out hgr))
      rw [List.take_length, HBA.out]
      obtain ⟨bb, hbb⟩ : ∃ bb, bb = best cap phs zs := ⟨_, rfl⟩
      rw [← hbb]
      have HBB := Lib.hid hbb; clear hbb
      go_wp2_with fail
      exact bodyPost_ret (v := .tuple #[.int .i64 bb.1, .int .i64 bb.2]) (by simp [results, Tryz.results45, go_sem]) rfl ⟨by rw [HBB.out], HGE.out⟩
end LRefE
section LRefF
open Go.RowKit Rg
set_option maxRecDepth 100000 in
set_option maxHeartbeats 4000000 in
theorem rmvalidate_any (P : Prob) (vl vh vp : Value) (w : World) (hi : ProbIn P vl vh vp w) (hbig : P.phs.length ≤ 1000000000) :
    Calls Tryz.prog 76 #[.agg (P.val vl vh vp)] w fun e w' => e = .returned (.int .i64 (valE P)) ∧ w.grownBy w' none := by
  have hg0 := gb_alloc (gb_refl w none) (.cells (P.val vl vh vp) 33)
  have HT := Lib.hid (heap_alloc_new w (.cells (P.val vl vh vp) 33))
  have HI := Lib.hid (hi.after hg0); have HG0 := Lib.hid hg0
  obtain ⟨pa, pc, rfl⟩ := hi.p.slice
  obtain ⟨la, ln, lc, rfl⟩ := sl_slice hi.l
  obtain ⟨ha, hn, hc, rfl⟩ := sl_slice hi.h
  clear hi hg0
  have HVE : Hid (valE P = valE P) := Lib.hid rfl
  have HV0 : Hid (bP P.x0 P.y0 P.z0 P.x1 P.y1 P.z1 = false → valE P = 20) := Lib.hid (fun h => by unfold valE; rw [h]; rfl)
  have HV1 : Hid (bP P.x0 P.y0 P.z0 P.x1 P.y1 P.z1 = true → ¬ tOk P.step P.ls P.hs → valE P = 21) := Lib.hid (fun h h' => by unfold valE; rw [if_pos h, if_neg h'])
  have HV2 : Hid (bP P.x0 P.y0 P.z0 P.x1 P.y1 P.z1 = true → tOk P.step P.ls P.hs → valE P = if P.phs.length = 0 then 24 else if 64 < P.phs.length then 8 else if P.cap < 1 ∨ 1099511627776 < P.cap then 2 else errOf (zoneE P.step P.ls P.hs P.x0 P.y0 P.z0 P.x1 P.y1 P.z1) P.phs) := Lib.hid (fun h h' => by unfold valE; rw [if_pos h, if_pos h'])
  clear HVE
  generalize valE P = vE at *
  obtain ⟨x0, y0, z0, x1, y1, z1, step, ls, hs, phs, cap⟩ := P
  simp only [Prob.val] at *
  go_enter Tryz.func76, Tryz.ntmps76
  have e0_ := cell_of HT.out 0 _ rfl; have e1_ := cell_of HT.out 1 _ rfl; have e2_ := cell_of HT.out 2 _ rfl; have e3_ := cell_of HT.out 3 _ rfl; have e4_ := cell_of HT.out 4 _ rfl; have e5_ := cell_of HT.out 5 _ rfl; have e6_ := cell_of HT.out 6 _ rfl; have e7_ := cell_of HT.out 7 _ rfl; have e8_ := cell_of HT.out 8 _ rfl; have e9_ := cell_of HT.out 9 _ rfl; have e10_ := cell_of HT.out 10 _ rfl
  go_wp2_with fail
  generalize w.alloc (.cells #[.int .i64 x0, .int .i64 y0, .int .i64 z0, .int .i64 x1, .int .i64 y1, .int .i64 z1, .int .i64 step, .slice la ln lc, .slice ha hn hc, .slice pa phs.length pc, .int .i64 cap] 33) = w1 at *
  generalize w.heap.size = q at *
  (with_reducible refine (rvalidBox_any _ _ _ _ _ _ _).mono ?_)
  rintro e w2 ⟨rfl, hg2⟩
  clear e0_ e1_ e2_ e3_ e4_ e5_ e6_ e7_ e8_ e9_ e10_
  have HT2 := Lib.hid (block_kept hg2 HT.out rfl); have HI2 := Lib.hid (HI.out.after hg2); have HG2 := Lib.hid (gb_trans HG0.out hg2)
  clear hg2 HT HI HG0
  cases hv0 : bP x0 y0 z0 x1 y1 z1
  · have := HV0.out hv0
    go_wp2
    go_ret
    exact ⟨ret_int this.symm, HG2.out⟩
  have HV0' := Lib.hid hv0; clear hv0 HV0
  have e0_ := cell_of HT2.out 0 _ rfl; have e1_ := cell_of HT2.out 1 _ rfl; have e2_ := cell_of HT2.out 2 _ rfl; have e3_ := cell_of HT2.out 3 _ rfl; have e4_ := cell_of HT2.out 4 _ rfl; have e5_ := cell_of HT2.out 5 _ rfl; have e6_ := cell_of HT2.out 6 _ rfl; have e7_ := cell_of HT2.out 7 _ rfl; have e8_ := cell_of HT2.out 8 _ rfl; have e9_ := cell_of HT2.out 9 _ rfl; have e10_ := cell_of HT2.out 10 _ rfl
  go_wp2_with fail
  (with_reducible refine (rvalidate_any _ _ _ ls hs _ HI2.out.l HI2.out.h).mono ?_)
  rintro e w3 ⟨rfl, hg3⟩
  clear e0_ e1_ e2_ e3_ e4_ e5_ e6_ e7_ e8_ e9_ e10_
  have HT3 := Lib.hid (block_kept hg3 HT2.out rfl); have HI3 := Lib.hid (HI2.out.after hg3); have HG3 := Lib.hid (gb_trans HG2.out hg3)
  clear hg3 HT2 HI2 HG2
  by_cases hok : tOk step ls hs
  rotate_left
  · have he : tE step ls hs = 21 := tE_ne hok
    have := HV1.out HV0'.out hok
    rw [he]
    go_wp2
    go_ret
    exact ⟨ret_int this.symm, HG3.out⟩
  have he : tE step ls hs = 0 := (tE_ok hok).symm
  have HV3 := Lib.hid (HV2.out HV0'.out hok)
  have HOK := Lib.hid hok
  clear HV1 HV2 hok
  rw [he]
  clear he
  have e0_ := cell_of HT3.out 0 _ rfl; have e1_ := cell_of HT3.out 1 _ rfl; have e2_ := cell_of HT3.out 2 _ rfl; have e3_ := cell_of HT3.out 3 _ rfl; have e4_ := cell_of HT3.out 4 _ rfl; have e5_ := cell_of HT3.out 5 _ rfl; have e6_ := cell_of HT3.out 6 _ rfl; have e7_ := cell_of HT3.out 7 _ rfl; have e8_ := cell_of HT3.out 8 _ rfl; have e9_ := cell_of HT3.out 9 _ rfl; have e10_ := cell_of HT3.out 10 _ rfl
  by_cases hl0 : phs.length = 0
  · have := HV3.out; rw [if_pos hl0] at this
    go_wp2
    go_ret
    exact ⟨ret_int this.symm, HG3.out⟩
  by_cases hl1 : 64 < phs.length
  · have := HV3.out; rw [if_neg hl0, if_pos hl1] at this
    go_wp2
    go_ret
    exact ⟨ret_int this.symm, HG3.out⟩
  by_cases hc0 : cap < 1
  · have := HV3.out; rw [if_neg hl0, if_neg hl1, if_pos (.inl hc0)] at this
    go_wp2
    go_ret
    exact ⟨ret_int this.symm, HG3.out⟩
  by_cases hc1 : 1099511627776 < cap
  · have := HV3.out; rw [if_neg hl0, if_neg hl1, if_pos (.inr hc1)] at this
    go_wp2
    go_ret
    exact ⟨ret_int this.symm, HG3.out⟩
  have HV4 : Hid (vE = errOf (zoneE step ls hs x0 y0 z0 x1 y1 z1) phs) := Lib.hid (by have := HV3.out; rwa [if_neg hl0, if_neg hl1, if_neg (by omega)] at this)
  clear HV3
  have HZE0 := Lib.hid (fun (a : Ph) (h : phP a.x a.y a.z a.e a.l a.n = false) => show zoneE step ls hs x0 y0 z0 x1 y1 z1 a = 23 from by unfold zoneE znE; rw [if_pos HOK.out, if_pos HV0'.out, h]; rfl)
  have HZE1 := Lib.hid (fun (a : Ph) (h : phP a.x a.y a.z a.e a.l a.n = true) => show zoneE step ls hs x0 y0 z0 x1 y1 z1 a = bndE step ls hs x0 y0 z0 x1 y1 z1 a.x a.y a.z from by unfold zoneE znE; rw [if_pos HOK.out, if_pos HV0'.out, if_pos h])
  generalize hze : zoneE step ls hs x0 y0 z0 x1 y1 z1 = ze at *
  clear hze
  have hl0f : ((phs.length : Int) == 0) = false := by rw [beq_eq_false_iff_ne]; omega
  go_wp2_with fail
  clear e0_ e1_ e2_ e3_ e4_ e5_ e6_ e7_ e8_ e9_ e10_
  go_loopw [3] (fun i wr => ∃ k : Nat, k ≤ phs.length ∧ i = .int .i64 k ∧ (∀ a ∈ phs.take k, ze a = 0) ∧ w3.grownBy wr none) (fun i _ => phs.length - (intOf i).toNat)
  case atStart => exact ⟨0, by omega, rfl, by simp, gb_refl _ _⟩
  case round =>
    obtain ⟨k, hk, rfl, hzero, hgr⟩ := hrel
    have HZE := Lib.hid hzero; clear hzero
    have hT := Lib.hid (block_kept hgr HT3.out rfl)
    by_cases hlt : k < phs.length
    · obtain ⟨pb, poff, pcap, hpv, hpb, hpc, hpm, hpcell⟩ := (HI3.out.after hgr).p.block (by show 0 < phs.length; omega)
      simp only [Value.slice.injEq, true_and] at hpv
      obtain ⟨rfl, rfl⟩ := hpv
      have HPC := Lib.hid (fun (u : World) (hu : wr.grownBy u none) => SlC.ph (fun j y hj => (gb_cell hu hpb (by simp)).trans (hpcell j y hj)) k hlt)
      have HTK : Hid (phs.take (k + 1) = phs.take k ++ [phs[k]]) := Lib.hid (List.take_succ_eq_append_getElem hlt)
      have HFST := Lib.hid (errOf_first (g := ze) phs k hlt HZE.out)
      clear hpcell
      generalize hph : phs[k] = ph at *
      have HE0 := Lib.hid (HZE0.out ph); have HE1 := Lib.hid (HZE1.out ph)
      clear hph
      obtain ⟨c0, c1, c2, c3, c4, c5⟩ := HPC.out wr (gb_refl _ _)
      have HGR := Lib.hid hgr
      have HIR := Lib.hid (HI3.out.after hgr)
      have e0_ := cell_of hT.out 0 _ rfl; have e1_ := cell_of hT.out 1 _ rfl; have e2_ := cell_of hT.out 2 _ rfl; have e3_ := cell_of hT.out 3 _ rfl; have e4_ := cell_of hT.out 4 _ rfl; have e5_ := cell_of hT.out 5 _ rfl; have e6_ := cell_of hT.out 6 _ rfl; have e7_ := cell_of hT.out 7 _ rfl; have e8_ := cell_of hT.out 8 _ rfl; have e9_ := cell_of hT.out 9 _ rfl; have e10_ := cell_of hT.out 10 _ rfl
      clear hgr
      go_wp2_with fail
      (with_reducible refine (rvalidPhase_any _ _ _ _ _ _ _).mono ?_)
      rintro r w5 ⟨rfl, hg5⟩
      clear e0_ e1_ e2_ e3_ e4_ e5_ e6_ e7_ e8_ e9_ e10_
      clear c0 c1 c2 c3 c4 c5
      have HG5 := Lib.hid (gb_trans HGR.out hg5)
      cases hp : phP ph.x ph.y ph.z ph.e ph.l ph.n
      · have hz := HE0.out hp
        have HE := Lib.hid (HFST.out (by omega))
        have HGE := Lib.hid (gb_trans HG3.out HG5.out)
        clear hg5
        go_wp2_with fail
        go_ret
        exact ⟨ret_int (by rw [HV4.out, HE.out, hz]), HGE.out⟩
      have hz := HE1.out hp
      have hT5 := Lib.hid (block_kept hg5 hT.out rfl)
      have HI5 := Lib.hid (HIR.out.after hg5)
      obtain ⟨c0, c1, c2, c3, c4, c5⟩ := HPC.out w5 hg5
      have hpb5 := Nat.lt_of_lt_of_le hpb hg5.size
      have e0_ := cell_of hT5.out 0 _ rfl; have e1_ := cell_of hT5.out 1 _ rfl; have e2_ := cell_of hT5.out 2 _ rfl; have e3_ := cell_of hT5.out 3 _ rfl; have e4_ := cell_of hT5.out 4 _ rfl; have e5_ := cell_of hT5.out 5 _ rfl; have e6_ := cell_of hT5.out 6 _ rfl; have e7_ := cell_of hT5.out 7 _ rfl; have e8_ := cell_of hT5.out 8 _ rfl; have e9_ := cell_of hT5.out 9 _ rfl; have e10_ := cell_of hT5.out 10 _ rfl
      have u1 := fun (x : Up w5) (c : Nat) => ever_cell x (b := pb) (o := c) hpb5
      have u2 := fun (x : Up w5) (c : Nat) => ever_cell x (b := q) (o := c) (block_lt' hT5.out)
      have BV : bndV step ls hs x0 y0 z0 x1 y1 z1 ph.x ph.y ph.z = .tuple #[.int .i64 (bndA step ls hs x0 y0 z0 x1 y1 z1 ph.x ph.y ph.z), .int .i64 (bndB step ls hs x0 y0 z0 x1 y1 z1 ph.x ph.y ph.z), .int .i64 (ze ph)] := by unfold bndV; rw [hz]
      have HB := Lib.hid (fun (u : World) (hu : w5.grownBy u none) => rbinterval_any step (.slice la ln lc) (.slice ha hn hc) ls hs x0 y0 z0 x1 y1 z1 ph.x ph.y ph.z u (HI5.out.l.after hu) (HI5.out.h.after hu))
      rw [BV] at HB
      clear hg5 HE0 HE1 BV hz
      generalize bndA step ls hs x0 y0 z0 x1 y1 z1 ph.x ph.y ph.z = ba at *
      generalize bndB step ls hs x0 y0 z0 x1 y1 z1 ph.x ph.y ph.z = bb at *
      go_wp2_with fail
      (refine wp_region_grown (by kernel_rfl) (by kernel_rfl) ?_; (repeat (go_big_quiet_step (first
        | (go_at_call 129; exact Calls.grown_of (HB.out _ (ever_up _)))))); refine wpQuiet_nil ?_; intro wq hq)
      clear e0_ e1_ e2_ e3_ e4_ e5_ e6_ e7_ e8_ e9_ e10_
      clear c0 c1 c2 c3 c4 c5 u1 u2
      have HG6 := Lib.hid (gb_trans HG5.out hq)
      by_cases hz : ze ph = 0
      rotate_left
      · have HE := Lib.hid (HFST.out hz)
        have HGE := Lib.hid (gb_trans HG3.out HG6.out)
        clear HFST
        generalize ze ph = zz at *
        go_wp2_with fail
        go_ret
        exact ⟨ret_int (by rw [HV4.out, HE.out]), HGE.out⟩
      have HTZ : Hid (∀ a ∈ phs.take (k + 1), ze a = 0) := Lib.hid (by
        rw [HTK.out]
        intro a ha
        rcases List.mem_append.1 ha with h | h
        · exact HZE.out a h
        · rw [List.mem_singleton.1 h]; exact hz)
      rw [hz]
      clear hz hq HZE HFST
      go_wp2_with fail
      go_roundw
      case rel => exact ⟨k + 1, by omega, by go_num, HTZ.out, HG6.out⟩
      case measure => simp [intOf]; omega
    · obtain rfl : k = phs.length := by omega
      rw [List.take_length] at HZE
      have HE := Lib.hid (errOf_zero.2 HZE.out)
      have HGE := Lib.hid (gb_trans HG3.out hgr)
      have e0_ := cell_of hT.out 0 _ rfl; have e1_ := cell_of hT.out 1 _ rfl; have e2_ := cell_of hT.out 2 _ rfl; have e3_ := cell_of hT.out 3 _ rfl; have e4_ := cell_of hT.out 4 _ rfl; have e5_ := cell_of hT.out 5 _ rfl; have e6_ := cell_of hT.out 6 _ rfl; have e7_ := cell_of hT.out 7 _ rfl; have e8_ := cell_of hT.out 8 _ rfl; have e9_ := cell_of hT.out 9 _ rfl; have e10_ := cell_of hT.out 10 _ rfl
      go_wp2
      go_ret
      exact ⟨ret_int (by rw [HV4.out, HE.out]), HGE.out⟩
theorem Sound.near {P : Prob} (h : Sound P) {a : Ph} (ha : a ∈ P.phs) : Near P.step P.ls P.hs P.x0 P.y0 P.z0 P.x1 P.y1 P.z1 a.x a.y a.z := by
  have hp := h.phase ha
  have hz := h.ph a ha
  have hv := (phP_iff.1 hp).1
  have hf : farP P.x0 P.y0 P.z0 P.x1 P.y1 P.z1 a.x a.y a.z = farD P.x0 P.y0 P.z0 P.x1 P.y1 P.z1 a.x a.y a.z := by unfold farP; rw [h.vb, hv]; rfl
  unfold zoneE znE at hz
  rw [if_pos h.ok, if_pos h.vb, if_pos hp] at hz
  unfold bndE at hz
  rw [if_pos h.ok, if_pos (by rw [h.vb, hv]; rfl)] at hz
  unfold btwE at hz
  rw [if_neg (fun e => e h.ok)] at hz
  refine ⟨h.ok, h.vb, hv, ?_⟩
  split at hz
  · omega
  · split at hz
    · omega
    · rw [hf] at *; omega
theorem Sound.zone0 {P : Prob} (h : Sound P) {b0 b1 b2 b3 b4 b5 : Int} (hw : wiP b0 b1 b2 b3 b4 b5 P.x0 P.y0 P.z0 P.x1 P.y1 P.z1 = true) {a : Ph} (ha : a ∈ P.phs) : zoneE P.step P.ls P.hs b0 b1 b2 b3 b4 b5 a = 0 :=
  (((h.near ha).within hw).1.zE (h.phase ha)).1
theorem zc_any {f : FuncId} {args : Array Value} {u : World} {v : Value} {F T E : Int} (hv : v = .tuple #[.agg #[.int .i64 F, .int .i64 T], .int .i64 E]) (hE : E = 0) (h : Calls Tryz.prog f args u fun r w' => r = .returned v ∧ u.grownBy w' none) :
    Calls Tryz.prog f args u fun r w' => r = .returned (.tuple #[.agg #[.int .i64 F, .int .i64 T], .int .i64 0]) ∧ u.grownBy w' none := by
  subst hE; subst hv; exact h
set_option maxRecDepth 100000 in
set_option maxHeartbeats 2000000 in
theorem rZones_any (P : Prob) (vl vh vp : Value) (b0 b1 b2 b3 b4 b5 : Int) (w : World) (hi : ProbIn P vl vh vp w) (hbig : P.phs.length ≤ 1000000000) :
    Calls Tryz.prog 43 #[.agg (P.val vl vh vp), .agg #[.int .i64 b0, .int .i64 b1, .int .i64 b2, .int .i64 b3, .int .i64 b4, .int .i64 b5]] w (Zoned w (zonesE P b0 b1 b2 b3 b4 b5) (zonesL P b0 b1 b2 b3 b4 b5)) := by
  have hg0 := gb_alloc (gb_alloc (gb_refl w none) (.cells (P.val vl vh vp) 33)) (.cells #[.int .i64 b0, .int .i64 b1, .int .i64 b2, .int .i64 b3, .int .i64 b4, .int .i64 b5] 28)
  have hT : ((w.alloc (.cells (P.val vl vh vp) 33)).alloc (.cells #[.int .i64 b0, .int .i64 b1, .int .i64 b2, .int .i64 b3, .int .i64 b4, .int .i64 b5] 28)).heap[w.heap.size]? = some (.cells (P.val vl vh vp) 33 (0, 0)) := by rw [heap_alloc_old _ _ (by simp), heap_alloc_new]
  have hB : ((w.alloc (.cells (P.val vl vh vp) 33)).alloc (.cells #[.int .i64 b0, .int .i64 b1, .int .i64 b2, .int .i64 b3, .int .i64 b4, .int .i64 b5] 28)).heap[w.heap.size + 1]? = some (.cells #[.int .i64 b0, .int .i64 b1, .int .i64 b2, .int .i64 b3, .int .i64 b4, .int .i64 b5] 28 (0, 0)) := by simpa using heap_alloc_new (w.alloc _) _
  have HI := Lib.hid (hi.after hg0); have HG0 := Lib.hid hg0; have HT := Lib.hid hT; have HB := Lib.hid hB
  obtain ⟨pa, pc, rfl⟩ := hi.p.slice
  obtain ⟨la, ln, lc, rfl⟩ := sl_slice hi.l
  obtain ⟨ha, hn, hc, rfl⟩ := sl_slice hi.h
  clear hi hg0 hT hB
  have HE0 : Hid (valE P ≠ 0 → zonesE P b0 b1 b2 b3 b4 b5 = valE P) := Lib.hid (fun h => by unfold zonesE; rw [if_neg h])
  have HE1 : Hid (valE P = 0 → wiP b0 b1 b2 b3 b4 b5 P.x0 P.y0 P.z0 P.x1 P.y1 P.z1 = false → zonesE P b0 b1 b2 b3 b4 b5 = 20) := Lib.hid (fun h h' => by unfold zonesE; rw [if_pos h, h']; rfl)
  have HE2 : Hid (valE P = 0 → wiP b0 b1 b2 b3 b4 b5 P.x0 P.y0 P.z0 P.x1 P.y1 P.z1 = true → zonesE P b0 b1 b2 b3 b4 b5 = errOf (zoneE P.step P.ls P.hs b0 b1 b2 b3 b4 b5) P.phs) := Lib.hid (fun h h' => by unfold zonesE; rw [if_pos h, if_pos h'])
  have HS := Lib.hid (fun h => (sound_iff (P := P)).1 h)
  have HV := Lib.hid (fun (u : World) hu => rmvalidate_any P (.slice la ln lc) (.slice ha hn hc) (.slice pa P.phs.length pc) u hu hbig)
  have HZA : Hid (valE P = 0 → wiP b0 b1 b2 b3 b4 b5 P.x0 P.y0 P.z0 P.x1 P.y1 P.z1 = true → ∀ a ∈ P.phs, zoneE P.step P.ls P.hs b0 b1 b2 b3 b4 b5 a = 0) := Lib.hid (fun h h' a ha => (sound_iff.1 h).zone0 h' ha)
  have HL : Hid (zonesL P b0 b1 b2 b3 b4 b5 = P.phs.map (zoneOf P.step P.ls P.hs b0 b1 b2 b3 b4 b5)) := Lib.hid rfl
  generalize hzE : zonesE P b0 b1 b2 b3 b4 b5 = zE at *
  generalize zonesL P b0 b1 b2 b3 b4 b5 = zL at *
  generalize hvE : valE P = vE at *
  clear hzE
  obtain ⟨x0, y0, z0, x1, y1, z1, step, ls, hs, phs, cap⟩ := P
  simp only [Prob.val] at *
  go_enter Tryz.func43, Tryz.ntmps43
  have e0_ := cell_of HT.out 0 _ rfl; have e1_ := cell_of HT.out 1 _ rfl; have e2_ := cell_of HT.out 2 _ rfl; have e3_ := cell_of HT.out 3 _ rfl; have e4_ := cell_of HT.out 4 _ rfl; have e5_ := cell_of HT.out 5 _ rfl; have e6_ := cell_of HT.out 6 _ rfl; have e7_ := cell_of HT.out 7 _ rfl; have e8_ := cell_of HT.out 8 _ rfl; have e9_ := cell_of HT.out 9 _ rfl; have e10_ := cell_of HT.out 10 _ rfl
  go_wp2_with fail
  generalize hw1 : (w.alloc (.cells #[.int .i64 x0, .int .i64 y0, .int .i64 z0, .int .i64 x1, .int .i64 y1, .int .i64 z1, .int .i64 step, .slice la ln lc, .slice ha hn hc, .slice pa phs.length pc, .int .i64 cap] 33)).alloc (.cells #[.int .i64 b0, .int .i64 b1, .int .i64 b2, .int .i64 b3, .int .i64 b4, .int .i64 b5] 28) = w1 at *
  clear hw1
  (with_reducible refine (HV.out _ HI.out).mono ?_)
  rintro e w2 ⟨rfl, hg2⟩
  clear e0_ e1_ e2_ e3_ e4_ e5_ e6_ e7_ e8_ e9_ e10_
  have HT2 := Lib.hid (block_kept hg2 HT.out rfl); have HB2 := Lib.hid (block_kept hg2 HB.out rfl); have HI2 := Lib.hid (HI.out.after hg2); have HG2 := Lib.hid (gb_trans HG0.out hg2)
  clear hg2 HT HB HI HG0
  by_cases hv0 : vE = 0
  rotate_left
  · have hE := HE0.out hv0
    go_wp2_with fail
    exact bodyPost_ret (v := .tuple #[.slice none 0 0, .int .i64 vE]) (by simp [results, Tryz.results43, go_sem]) rfl (.inr ⟨by rw [hE]; exact hv0, by rw [hE], HG2.out⟩)
  have hS := HS.out hv0
  have hfew := hS.some
  clear hS HS
  have HE1 := Lib.hid (HE1.out hv0); have HE2 := Lib.hid (HE2.out hv0)
  rw [hv0]
  clear hvE HE0 HV
  have e0_ := cell_of HT2.out 0 _ rfl; have e1_ := cell_of HT2.out 1 _ rfl; have e2_ := cell_of HT2.out 2 _ rfl; have e3_ := cell_of HT2.out 3 _ rfl; have e4_ := cell_of HT2.out 4 _ rfl; have e5_ := cell_of HT2.out 5 _ rfl; have e6_ := cell_of HT2.out 6 _ rfl; have e7_ := cell_of HT2.out 7 _ rfl; have e8_ := cell_of HT2.out 8 _ rfl; have e9_ := cell_of HT2.out 9 _ rfl; have e10_ := cell_of HT2.out 10 _ rfl
  obtain ⟨r0, r1, r2, r3, r4, r5⟩ := six HB2.out
  go_wp2_with fail
  (with_reducible refine (rwithin_any _ _ _ _ _ _ _ _ _ _ _ _ _).mono ?_)
  rintro e w3 ⟨rfl, hg3⟩
  clear e0_ e1_ e2_ e3_ e4_ e5_ e6_ e7_ e8_ e9_ e10_
  clear r0 r1 r2 r3 r4 r5
  have HT3 := Lib.hid (block_kept hg3 HT2.out rfl); have HB3 := Lib.hid (block_kept hg3 HB2.out rfl); have HI3 := Lib.hid (HI2.out.after hg3); have HG3 := Lib.hid (gb_trans HG2.out hg3)
  clear hg3 HT2 HB2 HI2 HG2
  cases hwi : wiP b0 b1 b2 b3 b4 b5 x0 y0 z0 x1 y1 z1
  · have hE := HE1.out hwi
    go_wp2_with fail
    exact bodyPost_ret (v := .tuple #[.slice none 0 0, .int .i64 20]) (by simp [results, Tryz.results43, go_sem]) rfl (.inr ⟨by rw [hE]; omega, by rw [hE], HG3.out⟩)
  have HEE := Lib.hid (HE2.out hwi)
  have HZ0 := Lib.hid (HZA.out hv0 hwi)
  clear HE1 HE2 hwi HZA
  have HZ1 := Lib.hid (fun a => znV_is step ls hs b0 b1 b2 b3 b4 b5 a)
  have HL0 : Hid (∀ k (h : k < phs.length), (phs.take (k + 1)).map (zoneOf step ls hs b0 b1 b2 b3 b4 b5) = (phs.take k).map (zoneOf step ls hs b0 b1 b2 b3 b4 b5) ++ [zoneOf step ls hs b0 b1 b2 b3 b4 b5 phs[k]]) := Lib.hid (fun k h => by rw [List.take_succ_eq_append_getElem h, List.map_append]; rfl)
  generalize zoneOf step ls hs b0 b1 b2 b3 b4 b5 = zo at *
  generalize zoneE step ls hs b0 b1 b2 b3 b4 b5 = ze at *
  have hfe : phs.length ≤ 64 := hfew.2
  have hw3 := HG3.out.size
  go_wp2_with fail
  go_loopw [7, 8] (fun v i wr => ∃ k : Nat, k ≤ phs.length ∧ i = .int .i64 k ∧ wr.ownsRow w3.heap.size 129 2 v k (flatZ ((phs.take k).map zo)) ∧ w3.grownBy wr none) (fun _ i _ => phs.length - (intOf i).toNat)
  case atStart => exact ⟨0, by omega, rfl, by simpa [flatZ] using World.ownsRow_nil _ _ _ _, gb_refl _ _⟩
  case round =>
    obtain ⟨k, hk, rfl, hown, hgr⟩ := hrel
    have HOW := Lib.hid hown
    have HT4 := Lib.hid (block_kept hgr HT3.out rfl); have HB4 := Lib.hid (block_kept hgr HB3.out rfl); have HI4 := Lib.hid (HI3.out.after hgr)
    obtain ⟨oa, oc, rfl⟩ := owns_slice hown
    clear hown
    by_cases hlt : k < phs.length
    · obtain ⟨pb, poff, pcap, hpv, hpb, hpc, hpm, hpcell⟩ := HI4.out.p.block (by show 0 < phs.length; omega)
      simp only [Value.slice.injEq, true_and] at hpv
      obtain ⟨rfl, rfl⟩ := hpv
      obtain ⟨c0, c1, c2, c3, c4, c5⟩ := SlC.ph hpcell k hlt
      have hz0 := HZ0.out _ (List.getElem_mem hlt)
      have HTK := Lib.hid (HL0.out k hlt)
      have HV := Lib.hid (HZ1.out phs[k])
      clear hpcell
      generalize phs[k] = ph at *
      have HFL : Hid (flatZ ((phs.take (k + 1)).map zo) = flatZ ((phs.take k).map zo) ++ [.int .i64 (zo ph).f, .int .i64 (zo ph).t]) := Lib.hid (by
        rw [HTK.out]; simp [flatZ, Zn.cells])
      have ZC := Lib.hid (fun (u : World) (hu : wr.grownBy u none) => zc_any HV.out hz0 (rzone_any step (.slice la ln lc) (.slice ha hn hc) ls hs b0 b1 b2 b3 b4 b5 ph.x ph.y ph.z ph.e ph.l ph.n u (HI4.out.l.after hu) (HI4.out.h.after hu)))
      have u1 := Made.cells hpb
      have u2 := Made.cells (block_lt' HT4.out)
      have u3 := Made.cells (block_lt' HB4.out)
      have e0_ := cell_of HT4.out 0 _ rfl; have e1_ := cell_of HT4.out 1 _ rfl; have e2_ := cell_of HT4.out 2 _ rfl; have e3_ := cell_of HT4.out 3 _ rfl; have e4_ := cell_of HT4.out 4 _ rfl; have e5_ := cell_of HT4.out 5 _ rfl; have e6_ := cell_of HT4.out 6 _ rfl; have e7_ := cell_of HT4.out 7 _ rfl; have e8_ := cell_of HT4.out 8 _ rfl; have e9_ := cell_of HT4.out 9 _ rfl; have e10_ := cell_of HT4.out 10 _ rfl
      obtain ⟨r0, r1, r2, r3, r4, r5⟩ := six HB4.out
      have HGR := Lib.hid hgr
      clear hgr hz0 HV HTK
      generalize (zo ph).f = zf at *
      generalize (zo ph).t = zt at *
      go_wp2_with fail
      refine Rg.region (Made wr) (MakesS 13) (fun k => if k = 8 then some (isV (.tuple #[.agg #[.int .i64 zf, .int .i64 zt], .int .i64 0])) else if k = 12 then some (isVar wr 2 129) else if k = 13 then some (isRow #[.int .i64 zf, .int .i64 zt] 129) else none)
        (fun k => k == 12) 0 15 (by kernel_rfl) (by kernel_rfl) (by kernel_rfl) (by kernel_rfl) (by kernel_rfl) (by kernel_rfl) (by kernel_rfl) (MakesS.size 13) (Made.start wr) (fun hne => ?_)
      (repeat (refine rLexL_quiet (by rfl) (by rfl) (by rfl) (by rfl) ?_; go_big_quiet_step (fail); refine wpQuiet_nil ?_))
      refine rg_fixG Made.grown (MakesS.none (by decide)) (.tuple #[.agg #[.int .i64 zf, .int .i64 zt], .int .i64 0]) 78 #[.agg #[.int .i64 step, .slice la ln lc, .slice ha hn hc], .agg #[.int .i64 b0, .int .i64 b1, .int .i64 b2, .int .i64 b3, .int .i64 b4, .int .i64 b5], .agg #[.int .i64 ph.x, .int .i64 ph.y, .int .i64 ph.z, .int .i64 ph.e, .int .i64 ph.l, .int .i64 ph.n]] rfl rfl rfl (fun _ => by go_simp) (fun u hu => ZC.out u hu) ?_
      simp only [Act.put, List.setIfInBounds_toArray, List.set_cons_zero, List.set_cons_succ]
      (repeat (refine rLexL_quiet (by rfl) (by rfl) (by rfl) (by rfl) ?_; go_big_quiet_step (fail); refine wpQuiet_nil ?_))
      refine rg_var #[.int .i64 0, .int .i64 0] 129 (by decide) rfl rfl (fun _ => by go_simp) (fun zb hzb => ?_)
      simp only [Act.put, List.setIfInBounds_toArray, List.set_cons_zero, List.set_cons_succ]
      refine rg_storeRow zb #[.int .i64 zf, .int .i64 zt] 129 _ _ _ 12 ⟨⟨12, .data⟩, by simp, rfl, rfl⟩ rfl rfl rfl rfl (by kernel_rfl) (by simp [Value.oneCell']) hzb rfl rfl rfl ?_ rfl
      simp only [Act.put, List.setIfInBounds_toArray, List.set_cons_zero, List.set_cons_succ]
      (repeat (refine rLexL_quiet (by rfl) (by rfl) (by rfl) (by rfl) ?_; go_big_quiet_step (fail); refine wpQuiet_nil ?_))
      rintro wq hq hf hD
      have hc6 := isRow.out (v := undef) (hf 13)
      have HC6 := Lib.hid hc6
      have HOQ := Lib.hid (owns_keep HOW.out hq)
      have HGQ := Lib.hid (gb_trans HGR.out hq)
      have hsq := HGQ.out.size
      clear hf hD hc6 hq hne HOW HGR u1 u2 u3 c0 c1 c2 c3 c4 c5 r0 r1 r2 r3 r4 r5 hzb
      clear e0_ e1_ e2_ e3_ e4_ e5_ e6_ e7_ e8_ e9_ e10_
      refine wpList_nil ?_
      obtain ⟨z0_, z1_⟩ := cells2 HC6.out
      have hlen : (flatZ ((phs.take k).map zo)).length = k * 2 := by rw [flatZ_length]; simp; omega
      have PUSH := Lib.hid (fun (v' : Value) (u : World) (h : u.ownsRow w3.heap.size 129 2 v' (k + 1) (flatZ ((phs.take k).map zo) ++ [.int .i64 zf, .int .i64 zt])) (hg : (wq.alloc (.cells #[.int .i64 zf, .int .i64 zt] 129)).grownBy u (Value.slice oa k oc).ownBlock) =>
        show u.ownsRow w3.heap.size 129 2 v' (k + 1) (flatZ ((phs.take (k + 1)).map zo)) ∧ w3.grownBy u none from
          ⟨by rw [HFL.out]; exact h, gb_new (gb_alloc HGQ.out _) hg (fun q hq => (HOQ.out.lt q hq).1)⟩)
      go_wp2_with (at_builtin; refine wpList_push rfl _ _ 68 rfl w3.heap.size 129 (.agg #[.int .i64 0, .int .i64 0]) 2 16 Tryz.underlying68 Tryz.infoZoneT rfl (by decide) (by decide) _ _ _ rfl (HOQ.out.alloc _) wq.heap.size 1 [.int .i64 zf, .int .i64 zt] 129 rfl (heap_alloc_new _ _) rfl (by simp [Value.oneCell']) (by omega) (by simp; omega) ?_; intro v' w6 hown' hg')
      have HN := Lib.hid (PUSH.out v' w6 hown' hg')
      clear hown' hg' PUSH HOQ
      go_roundw
      case rel => exact ⟨k + 1, by omega, by go_num, HN.out.1, HN.out.2⟩
      case measure => simp [intOf]; omega
    · obtain rfl : k = phs.length := by omega
      rw [List.take_length] at HOW
      have HE := Lib.hid (errOf_zero.2 HZ0.out)
      have HGE := Lib.hid (gb_trans HG3.out hgr)
      have e0_ := cell_of HT4.out 0 _ rfl; have e1_ := cell_of HT4.out 1 _ rfl; have e2_ := cell_of HT4.out 2 _ rfl; have e3_ := cell_of HT4.out 3 _ rfl; have e4_ := cell_of HT4.out 4 _ rfl; have e5_ := cell_of HT4.out 5 _ rfl; have e6_ := cell_of HT4.out 6 _ rfl; have e7_ := cell_of HT4.out 7 _ rfl; have e8_ := cell_of HT4.out 8 _ rfl; have e9_ := cell_of HT4.out 9 _ rfl; have e10_ := cell_of HT4.out 10 _ rfl
      go_wp2_with fail
      exact bodyPost_ret (v := .tuple #[.slice oa phs.length oc, .int .i64 0]) (by simp [results, Tryz.results43, go_sem]) rfl (.inl ⟨by rw [HEE.out, HE.out], _, rfl, by rw [HL.out]; have := SlC.of_owns HOW.out; rwa [List.length_map], fun b off len cap e => by
        rcases HOW.out.2 with ⟨e', -⟩ | ⟨g, cap', cur, e', hb, -⟩
        · rw [e] at e'; simp at e'
        · rw [e] at e'; simp at e'; omega, HGE.out⟩)
end LRefF
end Go.Proofs.YtnmjefgldoaneaaGreatDoor
