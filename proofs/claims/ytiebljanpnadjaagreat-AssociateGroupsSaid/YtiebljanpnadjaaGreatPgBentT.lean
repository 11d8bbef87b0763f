import Derived.Laws.OwnMore
import Derived.Test.YtiebljanpnadjaaGreatPgBent
namespace Go.Proofs.YtiebljanpnadjaaGreat
set_option linter.all false
open Go.RowKit Rg
section
variable {P : Program} {ops : Array Oper} {md : Region.Mode} {w0 : World} {sp : Nat → Option (List Value → Value → World → Prop)} {al : Nat → Bool} {N : Nat} {Q : List Oper → Act → Facts → Prop} {n k : Nat} {o : Oper} {l : List Oper} {a : Act} {f : Facts}
theorem rg_copyN (s x : Operand) (t e : TypeId) (z : Value) (size bytes : Nat) (ht : P.underlying t = some (.slice e)) (hinfo : (P.info? e).map (fun i => (i.zero, i.size, i.bytes)) = some (some z, size, bytes)) (hzs : z.cells.size = size) (hsz : 0 < size)
  (c cc : Nat) (b : Addr) (m mc : Nat) (news : List Value)
  (hs : sp k = some (isOwn w0.heap.size e size m news)) (hw : Region.wanted o (yielded ops a.tmps) = true)
  (ho : o.op = .call { callee := .builtin .append, args := #[s, x], argTypes := #[t, t] })
  (hsv : a.eval s = .slice (some ⟨c, 0, none⟩) 0 0) (hxv : a.eval x = .slice (some b) m mc) (hm : 0 < m)
  (hl : news.length = m * size) (hnews : ∀ u, w0.grownBy u none → ∀ j y, news[j]? = some y → u.cell? (b.add j) = some y)
  (h63 : m ≤ 1000000) (hbytes : m * bytes ≤ 140737488355328)
  (h : ∀ g gc, w0.heap.size ≤ g → rLexL P md ops ⟨In (Made w0), Makes, sp, al, N⟩ Q n l (k + 1) (a.put o.dst (.slice (some ⟨g, 0, none⟩) m gc)) (upd f k (isOwn w0.heap.size e size m news [] (.slice (some ⟨g, 0, none⟩) m gc)))) :
  rLexL P md ops ⟨In (Made w0), Makes, sp, al, N⟩ Q (n + 1) (o :: l) k a f := by
 refine rLexL_spec (isOwn w0.heap.size e size m news) hs hw (fun v j w w' _ _ _ hR h => owns_keep h hR) (fun w hC hd => ?_) (fun v w _ hF => by
  have hF' : w.ownsRow w0.heap.size e size v m news := hF
  obtain ⟨g, gc, rfl, hb, -⟩ := hF'.form hm
  exact h g gc hb)
 obtain ⟨i0, hi, hz0, hz1, hz2⟩ := info_parts hinfo
 obtain ⟨v', w', hr, h2, h3⟩ := run_append_arg_grows (P := P) w t o.type e i0 z size bytes ht hi hz0 hz1 hz2 hzs hsz ⟨c, 0, none⟩ 0 0 [] (by simp) (fun j u hj => by simp at hj) b m mc news hl (hnews w hC.out) (by omega) (by unfold maxLen; omega) (by rwa [Nat.zero_add])
 rw [Nat.zero_add, List.nil_append] at h2
 unfold stepTo execOp
 simp only [ho, resolve, invoke, builtin, Sem.run_bind, Sem.run_pure, Result.andThen_ok, List.map_toArray, List.map_cons, List.map_nil, hsv, hxv, hr]
 have hsz := hC.out.size
 refine ⟨In.mk (gb_trans hC.out h3), h3, ⟨h2.1, h2.2.imp id ?_⟩, fun _ bb hbb _ => ?_⟩
 ·rintro ⟨g, cap, cur, e1, e2, e3⟩
  exact ⟨g, cap, cur, e1, by omega, e3⟩
 ·rcases h2.2 with ⟨rfl, -⟩ | ⟨g, cap, cur, rfl, e2, e3, -⟩
  ·simp [blk] at hbb
  ·simp [blk] at hbb; subst hbb
   exact ⟨e2, block_lt' e3⟩
end
theorem Sl.drop1 {w : World} {b off n cap : Nat} {xs : List Int} (h : Sl w (.slice (some ⟨b, off, none⟩) (n + 1) cap) xs) : Sl w (.slice (some ⟨b, off + 1, none⟩) n (cap - 1)) (xs.drop 1) := by
 rcases h with ⟨rfl, a, c, e⟩ | ⟨b', off', cap', e, hb, h1, h2, h3⟩
 ·simp at e
 ·simp only [Value.slice.injEq, Option.some.injEq, Addr.mk.injEq, and_true] at e
  obtain ⟨⟨rfl, rfl⟩, hn, rfl⟩ := e
  refine .inr ⟨b, off + 1, cap - 1, by rw [List.length_drop]; congr 1; omega, hb, by rw [List.length_drop]; omega, by omega, fun k hk => ?_⟩
  rw [List.length_drop] at hk
  rw [Nat.add_assoc, h3 (1 + k) (by omega), List.getElem?_drop]
theorem owns_ints' {w : World} {base : Nat} {E : TypeId} {g n cap : Nat} {xs : List Int} (h : w.ownsRow base E 1 (.slice (some ⟨g, 0, none⟩) n cap) n (xs.map (Value.int .i64))) (j : Nat) (hj : j < xs.length) : w.cell? ⟨g, j, none⟩ = some (.int .i64 (xs[j]?.getD 0)) := by
 have := h.cells (g := g) rfl j (.int .i64 (xs[j]?.getD 0)) (by simp [List.getElem?_map, List.getElem?_eq_getElem hj])
 rw [← this]; congr 1
 unfold Addr.add; split <;> simp_all
theorem owns_cap {w : World} {B e s g n c : Nat} {ys : List Value} (h : w.ownsRow B e s (.slice (some ⟨g, 0, none⟩) n c) n ys) : n ≤ c := by
 rcases h.2 with ⟨e, -⟩ | ⟨g', cap, cur, e, -, -, hle, -⟩
 ·simp at e
 ·simp at e; omega
def BentT (B p : Nat) (w : World) (e : Ending) (w' : World) : Prop :=
 ∃ (step : Int) (vl vh : Value) (ls hs : List Int), e = .returned (.agg #[step, vl, vh]) ∧ Sl w' vl ls ∧ Sl w' vh hs ∧ (∀ v, v = vl ∨ v = vh → ∀ b off len cap, v = .slice (some ⟨b, off, none⟩) len cap → w.heap.size ≤ b) ∧ Src B w' p ∧ w.grownBy w' (some p)
theorem bt_end {w u : World} {B p : Nat} {st : Int} {v1 v2 : Value} {ls' hs' : List Int} {cs : Array Value} {T : TypeId} (hp0 : B ≤ p) (hp : p < w.heap.size) (hR : u.heap[w.heap.size + 1]? = some (.cells cs T (0, 0))) (h1 : Sl u v1 ls') (h2 : Sl u v2 hs')
  (hb1 : ∀ b off len cap, v1 = .slice (some ⟨b, off, none⟩) len cap → w.heap.size + 1 < b) (hb2 : ∀ b off len cap, v2 = .slice (some ⟨b, off, none⟩) len cap → w.heap.size + 1 < b) (hS : Src B u p) (hG : w.grownBy u (some p)) :
  BentT B p w (.returned (.agg #[st, v1, v2])) (u.setRow (w.heap.size + 1) #[st, v1, v2]) := by
 have hg : u.grownBy (u.setRow (w.heap.size + 1) #[st, v1, v2]) (some (w.heap.size + 1)) := gb_setRow (gb_refl _ _) (.inr rfl)
 refine ⟨st, v1, v2, ls', hs', rfl, h1.later hg (fun b off len cap e _ => by have := hb1 b off len cap e; simp; omega), h2.later hg (fun b off len cap e _ => by have := hb2 b off len cap e; simp; omega), ?_, hS.later hg (fun q hq => by simp at hq; omega), gb_setRow hG (.inl (by omega))⟩
 rintro v (rfl | rfl) b off len cap e
 ·have := hb1 b off len cap e; omega
 ·have := hb2 b off len cap e; omega
set_option maxRecDepth 100000 in
set_option maxHeartbeats 4000000 in
theorem bentTable_any (B : Nat) (w : World) (p : Nat) (step : Int) (vl vh : Value) (ls hs : List Int) (h : Src B w p) (h1 : Sl w vl ls) (h2 : Sl w vh hs) (hl0 : 2 ≤ ls.length) (hlh : ls.length = hs.length) (hl : ls.length ≤ 300) :
  Calls Tryz.prog 40 #[.pointer (some ⟨p, 0, none⟩), .agg #[step, vl, vh]] w (BentT B p w) := by
 obtain ⟨b1, off1, cap1, rfl, hb1, -, -, hc1⟩ := h1.block (by omega)
 obtain ⟨b2, off2, cap2, rfl, hb2, -, -, hc2⟩ := h2.block (by omega)
 rw [← hlh] at hc2 h2 ⊢
 have HC1 : Hid (∀ u, w.grownBy u none → ∀ j y, (ls.map (Value.int .i64))[j]? = some y → u.cell? ((⟨b1, off1, none⟩ : Addr).add j) = some y) := zH (fun u hu j y hj => by
  have hj' : j < ls.length := by have := (List.getElem?_eq_some_iff.1 hj).1; simpa using this
  rw [show (⟨b1, off1, none⟩ : Addr).add j = ⟨b1, off1 + j, none⟩ by unfold Addr.add; split <;> simp_all, gb_cell hu hb1 (by simp), hc1 j hj', ← hj]; simp [at0, hj'])
 have HC2 : Hid (∀ u, w.grownBy u none → ∀ j y, (hs.map (Value.int .i64))[j]? = some y → u.cell? ((⟨b2, off2, none⟩ : Addr).add j) = some y) := zH (fun u hu j y hj => by
  have hj' : j < ls.length := by have := (List.getElem?_eq_some_iff.1 hj).1; simpa [hlh] using this
  rw [show (⟨b2, off2, none⟩ : Addr).add j = ⟨b2, off2 + j, none⟩ by unfold Addr.add; split <;> simp_all, gb_cell hu hb2 (by simp), hc2 j hj', ← hj]; simp [at0, ← hlh, hj'])
 have HL1 : Hid ((ls.map (Value.int .i64)).length = ls.length * 1) := zH (by simp)
 have HL2 : Hid ((hs.map (Value.int .i64)).length = ls.length * 1) := zH (by simp [hlh])
 have HLH := zH hlh
 clear hc1 hc2 h1 h2 hlh hb1 hb2
 generalize hn : ls.length = n at *
 have HN1 := zH hn; clear hn
 have HNM : Hid (∃ m, n = m + 2) := zH ⟨n - 2, by omega⟩
 have hp0 := h.lt.1; have hp := h.lt.2
 have hg0 := gb_alloc (gb_alloc (gb_refl w none) (.cells #[step, .slice (some ⟨b1, off1, none⟩) n cap1, .slice (some ⟨b2, off2, none⟩) n cap2] 28)) (.cells #[(0:Int), .slice none 0 0, .slice none 0 0] 28)
 have X0 : Hid (((w.alloc (.cells #[step, .slice (some ⟨b1, off1, none⟩) n cap1, .slice (some ⟨b2, off2, none⟩) n cap2] 28)).alloc (.cells #[(0:Int), .slice none 0 0, .slice none 0 0] 28)).heap[w.heap.size]? = some (.cells #[step, .slice (some ⟨b1, off1, none⟩) n cap1, .slice (some ⟨b2, off2, none⟩) n cap2] 28 (0, 0))) := zH (by rw [heap_alloc_old _ _ (by simp), heap_alloc_new])
 have R0 : Hid (((w.alloc (.cells #[step, .slice (some ⟨b1, off1, none⟩) n cap1, .slice (some ⟨b2, off2, none⟩) n cap2] 28)).alloc (.cells #[(0:Int), .slice none 0 0, .slice none 0 0] 28)).heap[w.heap.size + 1]? = some (.cells #[(0:Int), .slice none 0 0, .slice none 0 0] 28 (0, 0))) := zH (by simpa using heap_alloc_new (w.alloc _) _)
 have Z0 : Hid (((w.alloc (.cells #[step, .slice (some ⟨b1, off1, none⟩) n cap1, .slice (some ⟨b2, off2, none⟩) n cap2] 28)).alloc (.cells #[(0:Int), .slice none 0 0, .slice none 0 0] 28)).heap.size = w.heap.size + 2) := zH (by simp)
 have S0 := zH (h.later hg0 (by simp)); have G0 := zH hg0
 clear h hg0
 go_enter Tryz.func40, Tryz.ntmps40
 go_wp2_with fail
 generalize (w.alloc (.cells #[step, .slice (some ⟨b1, off1, none⟩) n cap1, .slice (some ⟨b2, off2, none⟩) n cap2] 28)).alloc (.cells #[(0:Int), .slice none 0 0, .slice none 0 0] 28) = w1 at *
 obtain ⟨a0_, a1_, a2_⟩ := cells3 X0.out
 have ua := Made.cells (block_lt' X0.out)
 have h300 : n ≤ 1000000 := by omega
 have h300b : n * 8 ≤ 140737488355328 := by omega
 refine Rg.rR (Made w1) Makes (fun k => if k = 2 then some (isBlk w1 0 3) else if k = 5 then some (isOwn w1.heap.size 3 1 n (ls.map (Value.int .i64))) else if k = 6 then some (isBlk w1 0 3) else if k = 9 then some (isOwn w1.heap.size 3 1 n (hs.map (Value.int .i64))) else if k = 11 then some (isNew w1 #[(0:Int), .slice none 0 0, .slice none 0 0] 28) else none)
  (fun k => k == 5 || k == 9 || k == 11) 0 12 Makes.size (Made.start w1) (fun hne => ?_)
 (repeat (refine rQ ?_; go_big_quiet_step (fail); refine wpQuiet_nil ?_))
 refine rg_litN 0 #[] 3 rfl rfl rfl rfl (fun _ => by go_simp) (fun l1 hl1 => ?_)
 simp only [zA, zB, zC, zD, zX]
 (repeat (refine rQ ?_; go_big_quiet_step (fail); refine wpQuiet_nil ?_))
 refine rg_copyN _ _ 26 3 (.int .i64 0) 1 8 Tryz.underlying26 Tryz.infoIntT rfl (by decide) l1 0 ⟨b1, off1, none⟩ n cap1 (ls.map (Value.int .i64)) rfl rfl rfl rfl rfl (by omega) HL1.out (fun u hu => HC1.out u (gb_trans G0.out hu)) h300 h300b (fun g1 c1 hg1 => ?_)
 simp only [zA, zB, zC, zD, zX]
 (repeat (refine rQ ?_; go_big_quiet_step (fail); refine wpQuiet_nil ?_))
 refine rg_litN 0 #[] 3 rfl rfl rfl rfl (fun _ => by go_simp) (fun l2 hl2 => ?_)
 simp only [zA, zB, zC, zD, zX]
 (repeat (refine rQ ?_; go_big_quiet_step (fail); refine wpQuiet_nil ?_))
 refine rg_copyN _ _ 26 3 (.int .i64 0) 1 8 Tryz.underlying26 Tryz.infoIntT rfl (by decide) l2 0 ⟨b2, off2, none⟩ n cap2 (hs.map (Value.int .i64)) rfl rfl rfl rfl rfl (by omega) HL2.out (fun u hu => HC2.out u (gb_trans G0.out hu)) h300 h300b (fun g2 c2 hg2 => ?_)
 simp only [zA, zB, zC, zD, zX]
 (repeat (refine rQ ?_; go_big_quiet_step (fail); refine wpQuiet_nil ?_))
 refine rg_new #[(0:Int), .slice none 0 0, .slice none 0 0] 28 rfl rfl (fun _ => by go_simp) (fun tb htbs => ?_)
 simp only [zA, zB, zC, zD, zX]
 (repeat (refine rQ ?_; go_big_quiet_step (fail); refine wpQuiet_nil ?_))
 rintro wq hq hf hD
 have ho1 : wq.ownsRow w1.heap.size 3 1 (.slice (some ⟨g1, 0, none⟩) n c1) n (ls.map (Value.int .i64)) := hf 5
 have ho2 : wq.ownsRow w1.heap.size 3 1 (.slice (some ⟨g2, 0, none⟩) n c2) n (hs.map (Value.int .i64)) := hf 9
 have htb := isNew.out (hf 11)
 have h12 : g1 ≠ g2 := (hD 5 _ _ rfl (by kernel_rfl) rfl rfl g1 rfl (Nat.zero_le _)).2 9 _ _ rfl (by decide) (by kernel_rfl) rfl rfl g2 rfl (Nat.zero_le _)
 have h1t : g1 ≠ tb := (hD 5 _ _ rfl (by kernel_rfl) rfl rfl g1 rfl (Nat.zero_le _)).2 11 _ _ rfl (by decide) (by kernel_rfl) rfl rfl tb rfl (Nat.zero_le _)
 have h2t : g2 ≠ tb := (hD 9 _ _ rfl (by kernel_rfl) rfl rfl g2 rfl (Nat.zero_le _)).2 11 _ _ rfl (by decide) (by kernel_rfl) rfl rfl tb rfl (Nat.zero_le _)
 have hz1 := Z0.out
 refine wpList_store_row rfl _ _ _ rfl tb #[step, .slice (some ⟨g1, 0, none⟩) n c1, .slice (some ⟨g2, 0, none⟩) n c2] rfl rfl _ _ htb (by kernel_rfl) rfl (by simp [Value.oneCell']) ?_
 have hgs : wq.grownBy (wq.setRow tb #[step, .slice (some ⟨g1, 0, none⟩) n c1, .slice (some ⟨g2, 0, none⟩) n c2]) (some tb) := gb_setRow (gb_refl _ _) (.inr rfl)
 have T5 := zH (setRow_at (cs := #[step, .slice (some ⟨g1, 0, none⟩) n c1, .slice (some ⟨g2, 0, none⟩) n c2]) htb)
 have O1 := zH (ho1.kept hgs (.inr (fun e => by simp [Value.ownBlock] at e; omega)))
 have O2 := zH (ho2.kept hgs (.inr (fun e => by simp [Value.ownBlock] at e; omega)))
 have R5 := zH ((setRow_far (g := tb) (cs := #[step, .slice (some ⟨g1, 0, none⟩) n c1, .slice (some ⟨g2, 0, none⟩) n c2]) (by omega)).trans (block_kept hq R0.out rfl))
 have S5 := zH ((S0.out.later (row := none) hq (by simp)).later hgs (fun q hq => by simp at hq; omega))
 have G5 := zH (gb_none (row := some p) (gb_setRow (g := tb) (cs := #[step, .slice (some ⟨g1, 0, none⟩) n c1, .slice (some ⟨g2, 0, none⟩) n c2]) (gb_trans G0.out hq) (.inl (by omega))))
 have ht5 : tb < (wq.setRow tb #[step, .slice (some ⟨g1, 0, none⟩) n c1, .slice (some ⟨g2, 0, none⟩) n c2]).heap.size := block_lt' T5.out
 generalize wq.setRow tb #[step, .slice (some ⟨g1, 0, none⟩) n c1, .slice (some ⟨g2, 0, none⟩) n c2] = w5 at *
 clear hf hD ho1 ho2 htb hgs hq hne X0 R0 S0 G0 ua a0_ a1_ a2_ HC1 HC2 HL1 HL2 h300 h300b hl1 hl2 Z0
 refine wpList_nil ?_
 simp only [zA, zB, zC, zD, zX]
 obtain ⟨t0_, t1_, t2_⟩ := cells3 T5.out
 have hnz : ((n : Int) == 0) = false := by rw [beq_eq_false_iff_ne]; omega
 go_wp2_with fail
 (with_reducible refine (n_any B w5 p 6 S5.out (by omega) (by omega)).mono ?_)
 rintro r w6 ⟨kk, rfl, hkk, hS, hg⟩
 have htp : tb ≠ p := by omega
 have T6 := zH (block_keptp hg T5.out htp); have R6 := zH (block_keptp hg R5.out (by omega)); have S6 := zH hS; have G6 := zH (gb_trans G5.out hg)
 have O16 := zH (owns_keepp O1.out hg (by omega)); have O26 := zH (owns_keepp O2.out hg (by omega))
 have L16 := zH (Sl_of_owns O16.out HN1.out.symm); have L26 := zH (Sl_of_owns O26.out HLH.out)
 have HB1 : Hid (∀ b off len cap, Value.slice (some ⟨g1, 0, none⟩) n c1 = .slice (some ⟨b, off, none⟩) len cap → w.heap.size + 1 < b) := zH (fun b off len cap e => by simp at e; omega)
 have HB2 : Hid (∀ b off len cap, Value.slice (some ⟨g2, 0, none⟩) n c2 = .slice (some ⟨b, off, none⟩) len cap → w.heap.size + 1 < b) := zH (fun b off len cap e => by simp at e; omega)
 clear hS hg T5 R5 S5 G5 O1 O2 t0_ t1_ t2_
 obtain ⟨t0_, t1_, t2_⟩ := cells3 T6.out
 rcases (by omega : kk = 0 ∨ kk = 1 ∨ kk = 2 ∨ kk = 3 ∨ kk = 4 ∨ kk = 5) with _ | _ | _ | _ | _ | _
 ·obtain rfl : kk = 0 := by omega
  go_wp2_with fail
  (with_reducible refine (pickL_any B _ p [-1, 0, 1, 1048576, 1048577] 5 rfl #[.int .i64 (-1), (0:Int), (1:Int), (1048576:Int), (1048577:Int)] rfl _ S6.out _ rfl (by decide) (by decide)).mono ?_)
  rintro r w7 ⟨odd, rfl, -, hS, hg⟩
  clear t0_ t1_ t2_
  have T7 := zH (block_keptp hg T6.out htp); have R7 := zH (block_keptp hg R6.out (by omega)); have G7 := zH (gb_trans G6.out hg)
  have L17 := zH (L16.out.later hg (fun b off len cap e _ => by have := HB1.out b off len cap e; simp; omega)); have L27 := zH (L26.out.later hg (fun b off len cap e _ => by have := HB2.out b off len cap e; simp; omega))
  have hF := frozen3 T7.out (o := 0); obtain ⟨t0_, t1_, t2_⟩ := cells3 T7.out
  have hgs : w7.grownBy (w7.setCell ⟨tb, 0, none⟩ (.int .i64 odd)) (some tb) := gb_setCell (gb_refl _ _) (.inr rfl) _
  have TS : Hid ((w7.setCell ⟨tb, 0, none⟩ (.int .i64 odd)).heap[tb]? = some (.cells #[odd, .slice (some ⟨g1, 0, none⟩) n c1, .slice (some ⟨g2, 0, none⟩) n c2] 28 (0, 0))) := zH (set_block T7.out 0 _)
  have RS := zH ((setCell_far (a := ⟨tb, 0, none⟩) (u := .int .i64 odd) (by show w.heap.size + 1 ≠ tb; omega)).trans R7.out)
  have SS := zH (hS.later hgs (fun q hq => by simp at hq; omega))
  have L1S := zH (L17.out.later hgs (fun b off len cap e _ => by simp at e ⊢; omega)); have L2S := zH (L27.out.later hgs (fun b off len cap e _ => by simp at e ⊢; omega))
  have GS := zH (gb_setCell G7.out (a := ⟨tb, 0, none⟩) (.inl (by show w.heap.size ≤ tb; omega)) (.int .i64 odd))
  clear hS hg hgs R7 G7 L17 L27 S6 T6 R6 G6 O16 O26 L16 L26
  have HN := zH (setRow_at (cs := #[odd, .slice (some ⟨g1, 0, none⟩) n c1, .slice (some ⟨g2, 0, none⟩) n c2]) RS.out)
  have HE := zH (bt_end (w := w) (B := B) (p := p) (st := odd) (ls' := ls) (hs' := hs) hp0 hp RS.out L1S.out L2S.out HB1.out HB2.out SS.out GS.out)
  obtain ⟨s0_, s1_, s2_⟩ := cells3 TS.out
  go_wp2_with (with_reducible refine wpList_store_row rfl _ _ _ rfl (w.heap.size + 1) #[odd, .slice (some ⟨g1, 0, none⟩) n c1, .slice (some ⟨g2, 0, none⟩) n c2] rfl rfl _ _ RS.out (by kernel_rfl) rfl (by simp [Value.oneCell']) ?_)
  obtain ⟨e0_, e1_, e2_⟩ := cells3 HN.out
  exact bodyPost_ret (v := .agg #[odd, .slice (some ⟨g1, 0, none⟩) n c1, .slice (some ⟨g2, 0, none⟩) n c2]) (by simp [results, Tryz.results40, go_sem, e0_, e1_, e2_]) rfl HE.out
 ·obtain rfl : kk = 1 := by omega
  have hp6 := S6.out.lt.2
  have d1 := Pulled.cell (B := B) (p := p) t1_ (block_lt' T6.out) htp
  go_wp2_with fail
  refine Rg.rR (Pulled w6 B p) (Pull p) (fun k => if k = 6 then some (isInt fun x => 0 ≤ x ∧ x < (n : Int)) else if k = 8 then some (isLit w6 [-1, 0, 1099511627776, 1099511627777]) else if k = 9 then some (isInt fun x => x ∈ ([-1, 0, 1099511627776, 1099511627777] : List Int)) else none) (fun _ => false) 0 10 Pull.size (Pulled.start S6.out) (fun hne => ?_)
  (repeat (refine rQ ?_; go_big_quiet_step (fail); refine wpQuiet_nil ?_))
  refine rLexL_val (.int .i64 n) (by rfl) (by rfl) (by rfl) (by rfl) (fun _ => by go_simp) ?_
  simp only [zA, zB, zC, zD, zX]
  (repeat (refine rQ ?_; go_big_quiet_step (fail); refine wpQuiet_nil ?_))
  refine rg_draw (fun x => 0 ≤ x ∧ x < (n : Int)) 26 #[.pointer (some ⟨p, 0, none⟩), n] rfl rfl (fun _ => by go_simp) (fun u hu _ => n_any B u p _ hu.2 (by omega) (by omega)) (fun ix hix => ?_)
  simp only [zA, zB, zC, zD, zX]
  obtain ⟨i, rfl⟩ : ∃ i : Nat, ix = i := ⟨ix.toNat, by omega⟩
  (repeat (refine rQ ?_; go_big_quiet_step (fail); refine wpQuiet_nil ?_))
  refine rg_lit [-1, 0, 1099511627776, 1099511627777] 3 rfl rfl (fun _ => by go_simp) rfl hp6 (fun lv => ?_)
  simp only [zA, zB, zC, zD, zX]
  refine rg_draw (fun x => x ∈ ([-1, 0, 1099511627776, 1099511627777] : List Int)) 37 #[.pointer (some ⟨p, 0, none⟩), lv] rfl rfl (fun _ => by go_simp) (fun u hu hd => pick_lit w6 B p u [-1, 0, 1099511627776, 1099511627777] lv hu (hd ⟨8, .data⟩ (by simp) rfl) hp6 (by decide) (by decide)) (fun y hy => ?_)
  simp only [zA, zB, zC, zD, zX]
  rintro w7 ⟨hg, hS⟩ - -
  clear t0_ t1_ t2_ hy d1
  have T7 := zH (block_keptp hg T6.out htp); have R7 := zH (block_keptp hg R6.out (by omega)); have G7 := zH (gb_trans G6.out hg)
  have O17 := zH (owns_keepp O16.out hg (by omega)); have O27 := zH (owns_keepp O26.out hg (by omega))
  have hF := O17.out.frozenAt i
  obtain ⟨OS, hgs⟩ := O17.out.stored i (.int .i64 y)
  have hi : i < n := by omega
  have hcx : w7.cell? ⟨g1, i, none⟩ = some (.int .i64 (ls[i]?.getD 0)) := owns_ints' O17.out i (by have := HN1.out; have := HLH.out; omega)
  have OO := zH (O27.out.kept hgs (.inr (fun e => by simp [Value.ownBlock] at e; omega)))
  have TS := zH ((setCell_far (a := ⟨g1, i, none⟩) (u := .int .i64 y) (by show tb ≠ g1; omega)).trans T7.out)
  have RS := zH ((setCell_far (a := ⟨g1, i, none⟩) (u := .int .i64 y) (by show w.heap.size + 1 ≠ g1; omega)).trans R7.out)
  have SS := zH (hS.later hgs (fun q hq => by simp at hq; omega))
  have LS1 := zH (Sl_of_owns (xs := ls.set i y) (by rw [List.map_set]; exact OS) (by rw [List.length_set]; have := HN1.out; have := HLH.out; omega))
  have LS2 := zH (Sl_of_owns OO.out (by have := HN1.out; have := HLH.out; omega))
  have GS := zH (gb_setCell G7.out (a := ⟨g1, i, none⟩) (.inl (by show w.heap.size ≤ g1; omega)) (.int .i64 y))
  clear hS hg hgs R7 G7 O17 O27 OS OO S6 T6 R6 G6 O16 O26 L16 L26 hne hix
  have HN := zH (setRow_at (cs := #[step, .slice (some ⟨g1, 0, none⟩) n c1, .slice (some ⟨g2, 0, none⟩) n c2]) RS.out)
  have HE := zH (bt_end (w := w) (B := B) (p := p) (st := step) (ls' := ls.set i y) (hs' := hs) hp0 hp RS.out LS1.out LS2.out HB1.out HB2.out SS.out GS.out)
  obtain ⟨s0_, s1_, s2_⟩ := cells3 TS.out
  go_wp2_with (with_reducible refine wpList_store_row rfl _ _ _ rfl (w.heap.size + 1) #[step, .slice (some ⟨g1, 0, none⟩) n c1, .slice (some ⟨g2, 0, none⟩) n c2] rfl rfl _ _ RS.out (by kernel_rfl) rfl (by simp [Value.oneCell']) ?_)
  obtain ⟨e0_, e1_, e2_⟩ := cells3 HN.out
  exact bodyPost_ret (v := .agg #[step, .slice (some ⟨g1, 0, none⟩) n c1, .slice (some ⟨g2, 0, none⟩) n c2]) (by simp [results, Tryz.results40, go_sem, e0_, e1_, e2_]) rfl HE.out
 ·obtain rfl : kk = 2 := by omega
  have hp6 := S6.out.lt.2
  have d1 := Pulled.cell (B := B) (p := p) t2_ (block_lt' T6.out) htp
  go_wp2_with fail
  refine Rg.rR (Pulled w6 B p) (Pull p) (fun k => if k = 6 then some (isInt fun x => 0 ≤ x ∧ x < (n : Int)) else if k = 8 then some (isLit w6 [-1, 0, 1099511627776, 1099511627777]) else if k = 9 then some (isInt fun x => x ∈ ([-1, 0, 1099511627776, 1099511627777] : List Int)) else none) (fun _ => false) 0 10 Pull.size (Pulled.start S6.out) (fun hne => ?_)
  (repeat (refine rQ ?_; go_big_quiet_step (fail); refine wpQuiet_nil ?_))
  refine rLexL_val (.int .i64 n) (by rfl) (by rfl) (by rfl) (by rfl) (fun _ => by go_simp) ?_
  simp only [zA, zB, zC, zD, zX]
  (repeat (refine rQ ?_; go_big_quiet_step (fail); refine wpQuiet_nil ?_))
  refine rg_draw (fun x => 0 ≤ x ∧ x < (n : Int)) 26 #[.pointer (some ⟨p, 0, none⟩), n] rfl rfl (fun _ => by go_simp) (fun u hu _ => n_any B u p _ hu.2 (by omega) (by omega)) (fun ix hix => ?_)
  simp only [zA, zB, zC, zD, zX]
  obtain ⟨i, rfl⟩ : ∃ i : Nat, ix = i := ⟨ix.toNat, by omega⟩
  (repeat (refine rQ ?_; go_big_quiet_step (fail); refine wpQuiet_nil ?_))
  refine rg_lit [-1, 0, 1099511627776, 1099511627777] 3 rfl rfl (fun _ => by go_simp) rfl hp6 (fun lv => ?_)
  simp only [zA, zB, zC, zD, zX]
  refine rg_draw (fun x => x ∈ ([-1, 0, 1099511627776, 1099511627777] : List Int)) 37 #[.pointer (some ⟨p, 0, none⟩), lv] rfl rfl (fun _ => by go_simp) (fun u hu hd => pick_lit w6 B p u [-1, 0, 1099511627776, 1099511627777] lv hu (hd ⟨8, .data⟩ (by simp) rfl) hp6 (by decide) (by decide)) (fun y hy => ?_)
  simp only [zA, zB, zC, zD, zX]
  rintro w7 ⟨hg, hS⟩ - -
  clear t0_ t1_ t2_ hy d1
  have T7 := zH (block_keptp hg T6.out htp); have R7 := zH (block_keptp hg R6.out (by omega)); have G7 := zH (gb_trans G6.out hg)
  have O17 := zH (owns_keepp O16.out hg (by omega)); have O27 := zH (owns_keepp O26.out hg (by omega))
  have hF := O27.out.frozenAt i
  obtain ⟨OS, hgs⟩ := O27.out.stored i (.int .i64 y)
  have hi : i < n := by omega
  have hcx : w7.cell? ⟨g2, i, none⟩ = some (.int .i64 (hs[i]?.getD 0)) := owns_ints' O27.out i (by have := HN1.out; have := HLH.out; omega)
  have OO := zH (O17.out.kept hgs (.inr (fun e => by simp [Value.ownBlock] at e; omega)))
  have TS := zH ((setCell_far (a := ⟨g2, i, none⟩) (u := .int .i64 y) (by show tb ≠ g2; omega)).trans T7.out)
  have RS := zH ((setCell_far (a := ⟨g2, i, none⟩) (u := .int .i64 y) (by show w.heap.size + 1 ≠ g2; omega)).trans R7.out)
  have SS := zH (hS.later hgs (fun q hq => by simp at hq; omega))
  have LS2 := zH (Sl_of_owns (xs := hs.set i y) (by rw [List.map_set]; exact OS) (by rw [List.length_set]; have := HN1.out; have := HLH.out; omega))
  have LS1 := zH (Sl_of_owns OO.out (by have := HN1.out; have := HLH.out; omega))
  have GS := zH (gb_setCell G7.out (a := ⟨g2, i, none⟩) (.inl (by show w.heap.size ≤ g2; omega)) (.int .i64 y))
  clear hS hg hgs R7 G7 O17 O27 OS OO S6 T6 R6 G6 O16 O26 L16 L26 hne hix
  have HN := zH (setRow_at (cs := #[step, .slice (some ⟨g1, 0, none⟩) n c1, .slice (some ⟨g2, 0, none⟩) n c2]) RS.out)
  have HE := zH (bt_end (w := w) (B := B) (p := p) (st := step) (ls' := ls) (hs' := hs.set i y) hp0 hp RS.out LS1.out LS2.out HB1.out HB2.out SS.out GS.out)
  obtain ⟨s0_, s1_, s2_⟩ := cells3 TS.out
  go_wp2_with (with_reducible refine wpList_store_row rfl _ _ _ rfl (w.heap.size + 1) #[step, .slice (some ⟨g1, 0, none⟩) n c1, .slice (some ⟨g2, 0, none⟩) n c2] rfl rfl _ _ RS.out (by kernel_rfl) rfl (by simp [Value.oneCell']) ?_)
  obtain ⟨e0_, e1_, e2_⟩ := cells3 HN.out
  exact bodyPost_ret (v := .agg #[step, .slice (some ⟨g1, 0, none⟩) n c1, .slice (some ⟨g2, 0, none⟩) n c2]) (by simp [results, Tryz.results40, go_sem, e0_, e1_, e2_]) rfl HE.out
 ·obtain rfl : kk = 3 := by omega
  obtain ⟨m, rfl⟩ := HNM.out
  have hF := frozen3 T6.out (o := 1)
  have hc1 := owns_cap O16.out; have hc2 := owns_cap O26.out
  have hgs : w6.grownBy (w6.setCell ⟨tb, 1, none⟩ (.slice (some ⟨g1, 0, none⟩) (m + 1) c1)) (some tb) := gb_setCell (gb_refl _ _) (.inr rfl) _
  have TS : Hid ((w6.setCell ⟨tb, 1, none⟩ (.slice (some ⟨g1, 0, none⟩) (m + 1) c1)).heap[tb]? = some (.cells #[step, .slice (some ⟨g1, 0, none⟩) (m + 1) c1, .slice (some ⟨g2, 0, none⟩) (m + 2) c2] 28 (0, 0))) := zH (set_block T6.out 1 _)
  have RS := zH ((setCell_far (a := ⟨tb, 1, none⟩) (u := .slice (some ⟨g1, 0, none⟩) (m + 1) c1) (by show w.heap.size + 1 ≠ tb; omega)).trans R6.out)
  have SS := zH (S6.out.later hgs (fun q hq => by simp at hq; omega))
  have L1S := zH (L16.out.later hgs (fun b off len cap e _ => by simp at e ⊢; omega)); have L2S := zH (L26.out.later hgs (fun b off len cap e _ => by simp at e ⊢; omega))
  have CUT := zH (L1S.out.take (m := m + 1) (by omega))
  have GS := zH (gb_setCell G6.out (a := ⟨tb, 1, none⟩) (.inl (by show w.heap.size ≤ tb; omega)) (.slice (some ⟨g1, 0, none⟩) (m + 1) c1))
  have HBC : Hid (∀ b off len cap, Value.slice (some ⟨g1, 0, none⟩) (m + 1) c1 = .slice (some ⟨b, off, none⟩) len cap → w.heap.size + 1 < b) := zH (fun b off len cap e => by simp at e; omega)
  clear hgs S6 T6 R6 G6 O16 O26 L16 L26
  have HN := zH (setRow_at (cs := #[step, .slice (some ⟨g1, 0, none⟩) (m + 1) c1, .slice (some ⟨g2, 0, none⟩) (m + 2) c2]) RS.out)
  have HE := zH (bt_end (w := w) (B := B) (p := p) (st := step) (ls' := ls.take (m + 1)) (hs' := hs) hp0 hp RS.out CUT.out L2S.out HBC.out HB2.out SS.out GS.out)
  obtain ⟨s0_, s1_, s2_⟩ := cells3 TS.out
  go_wp2_with (with_reducible refine wpList_store_row rfl _ _ _ rfl (w.heap.size + 1) #[step, .slice (some ⟨g1, 0, none⟩) (m + 1) c1, .slice (some ⟨g2, 0, none⟩) (m + 2) c2] rfl rfl _ _ RS.out (by kernel_rfl) rfl (by simp [Value.oneCell']) ?_)
  obtain ⟨e0_, e1_, e2_⟩ := cells3 HN.out
  exact bodyPost_ret (v := .agg #[step, .slice (some ⟨g1, 0, none⟩) (m + 1) c1, .slice (some ⟨g2, 0, none⟩) (m + 2) c2]) (by simp [results, Tryz.results40, go_sem, e0_, e1_, e2_]) rfl HE.out
 ·obtain rfl : kk = 4 := by omega
  obtain ⟨m, rfl⟩ := HNM.out
  have hF := frozen3 T6.out (o := 2)
  have hc1 := owns_cap O16.out; have hc2 := owns_cap O26.out
  have hgs : w6.grownBy (w6.setCell ⟨tb, 2, none⟩ (.slice (some ⟨g2, 1, none⟩) (m + 1) (c2 - 1))) (some tb) := gb_setCell (gb_refl _ _) (.inr rfl) _
  have TS : Hid ((w6.setCell ⟨tb, 2, none⟩ (.slice (some ⟨g2, 1, none⟩) (m + 1) (c2 - 1))).heap[tb]? = some (.cells #[step, .slice (some ⟨g1, 0, none⟩) (m + 2) c1, .slice (some ⟨g2, 1, none⟩) (m + 1) (c2 - 1)] 28 (0, 0))) := zH (set_block T6.out 2 _)
  have RS := zH ((setCell_far (a := ⟨tb, 2, none⟩) (u := .slice (some ⟨g2, 1, none⟩) (m + 1) (c2 - 1)) (by show w.heap.size + 1 ≠ tb; omega)).trans R6.out)
  have SS := zH (S6.out.later hgs (fun q hq => by simp at hq; omega))
  have L1S := zH (L16.out.later hgs (fun b off len cap e _ => by simp at e ⊢; omega)); have L2S := zH (L26.out.later hgs (fun b off len cap e _ => by simp at e ⊢; omega))
  have CUT := zH (Sl.drop1 (n := m + 1) L2S.out)
  have GS := zH (gb_setCell G6.out (a := ⟨tb, 2, none⟩) (.inl (by show w.heap.size ≤ tb; omega)) (.slice (some ⟨g2, 1, none⟩) (m + 1) (c2 - 1)))
  have HBC : Hid (∀ b off len cap, Value.slice (some ⟨g2, 1, none⟩) (m + 1) (c2 - 1) = .slice (some ⟨b, off, none⟩) len cap → w.heap.size + 1 < b) := zH (fun b off len cap e => by simp at e; omega)
  clear hgs S6 T6 R6 G6 O16 O26 L16 L26
  have HN := zH (setRow_at (cs := #[step, .slice (some ⟨g1, 0, none⟩) (m + 2) c1, .slice (some ⟨g2, 1, none⟩) (m + 1) (c2 - 1)]) RS.out)
  have HE := zH (bt_end (w := w) (B := B) (p := p) (st := step) (ls' := ls) (hs' := hs.drop 1) hp0 hp RS.out L1S.out CUT.out HB1.out HBC.out SS.out GS.out)
  obtain ⟨s0_, s1_, s2_⟩ := cells3 TS.out
  go_wp2_with (with_reducible refine wpList_store_row rfl _ _ _ rfl (w.heap.size + 1) #[step, .slice (some ⟨g1, 0, none⟩) (m + 2) c1, .slice (some ⟨g2, 1, none⟩) (m + 1) (c2 - 1)] rfl rfl _ _ RS.out (by kernel_rfl) rfl (by simp [Value.oneCell']) ?_)
  obtain ⟨e0_, e1_, e2_⟩ := cells3 HN.out
  exact bodyPost_ret (v := .agg #[step, .slice (some ⟨g1, 0, none⟩) (m + 2) c1, .slice (some ⟨g2, 1, none⟩) (m + 1) (c2 - 1)]) (by simp [results, Tryz.results40, go_sem, e0_, e1_, e2_]) rfl HE.out
 ·obtain rfl : kk = 5 := by omega
  have hF := frozen3 T6.out
  have hc1 := owns_cap O16.out; have hc2 := owns_cap O26.out
  go_wp2_with fail
  go_region
  have hgs : w6.grownBy ((w6.setCell ⟨tb, 1, none⟩ (.slice (some ⟨g1, 0, none⟩) 1 c1)).setCell ⟨tb, 2, none⟩ (.slice (some ⟨g2, 0, none⟩) 1 c2)).drew (some tb) := gb_drew (gb_setCell (a := ⟨tb, 2, none⟩) (gb_setCell (a := ⟨tb, 1, none⟩) (gb_refl w6 (some tb)) (.inr rfl) _) (.inr rfl) _)
  have TS : Hid (((w6.setCell ⟨tb, 1, none⟩ (.slice (some ⟨g1, 0, none⟩) 1 c1)).setCell ⟨tb, 2, none⟩ (.slice (some ⟨g2, 0, none⟩) 1 c2)).drew.heap[tb]? = some (.cells #[step, .slice (some ⟨g1, 0, none⟩) 1 c1, .slice (some ⟨g2, 0, none⟩) 1 c2] 28 (0, 0))) := zH (set_block (set_block T6.out 1 _) 2 _)
  have RS : Hid (((w6.setCell ⟨tb, 1, none⟩ (.slice (some ⟨g1, 0, none⟩) 1 c1)).setCell ⟨tb, 2, none⟩ (.slice (some ⟨g2, 0, none⟩) 1 c2)).drew.heap[w.heap.size + 1]? = some (.cells #[(0:Int), .slice none 0 0, .slice none 0 0] 28 (0, 0))) := zH ((setCell_far (a := ⟨tb, 2, none⟩) (by show w.heap.size + 1 ≠ tb; omega)).trans ((setCell_far (a := ⟨tb, 1, none⟩) (by show w.heap.size + 1 ≠ tb; omega)).trans R6.out))
  have SS := zH (S6.out.later hgs (fun q hq => by simp at hq; omega))
  have L1S := zH ((L16.out.later hgs (fun b off len cap e _ => by simp at e ⊢; omega)).take (m := 1) (by omega)); have L2S := zH ((L26.out.later hgs (fun b off len cap e _ => by simp at e ⊢; omega)).take (m := 1) (by omega))
  have GS := zH (gb_drew (gb_setCell (gb_setCell G6.out (a := ⟨tb, 1, none⟩) (.inl (by show w.heap.size ≤ tb; omega)) (.slice (some ⟨g1, 0, none⟩) 1 c1)) (a := ⟨tb, 2, none⟩) (.inl (by show w.heap.size ≤ tb; omega)) (.slice (some ⟨g2, 0, none⟩) 1 c2)))
  have HC1 : Hid (∀ b off len cap, Value.slice (some ⟨g1, 0, none⟩) 1 c1 = .slice (some ⟨b, off, none⟩) len cap → w.heap.size + 1 < b) := zH (fun b off len cap e => by simp at e; omega)
  have HC2 : Hid (∀ b off len cap, Value.slice (some ⟨g2, 0, none⟩) 1 c2 = .slice (some ⟨b, off, none⟩) len cap → w.heap.size + 1 < b) := zH (fun b off len cap e => by simp at e; omega)
  generalize ((w6.setCell ⟨tb, 1, none⟩ (.slice (some ⟨g1, 0, none⟩) 1 c1)).setCell ⟨tb, 2, none⟩ (.slice (some ⟨g2, 0, none⟩) 1 c2)).drew = w7 at *
  clear hgs S6 T6 R6 G6 O16 O26 L16 L26 t0_ t1_ t2_ hF
  have HN := zH (setRow_at (cs := #[step, .slice (some ⟨g1, 0, none⟩) 1 c1, .slice (some ⟨g2, 0, none⟩) 1 c2]) RS.out)
  have HE := zH (bt_end (w := w) (B := B) (p := p) (st := step) (ls' := ls.take 1) (hs' := hs.take 1) hp0 hp RS.out L1S.out L2S.out HC1.out HC2.out SS.out GS.out)
  obtain ⟨s0_, s1_, s2_⟩ := cells3 TS.out
  go_wp2_with (with_reducible refine wpList_store_row rfl _ _ _ rfl (w.heap.size + 1) #[step, .slice (some ⟨g1, 0, none⟩) 1 c1, .slice (some ⟨g2, 0, none⟩) 1 c2] rfl rfl _ _ RS.out (by kernel_rfl) rfl (by simp [Value.oneCell']) ?_)
  obtain ⟨e0_, e1_, e2_⟩ := cells3 HN.out
  exact bodyPost_ret (v := .agg #[step, .slice (some ⟨g1, 0, none⟩) 1 c1, .slice (some ⟨g2, 0, none⟩) 1 c2]) (by simp [results, Tryz.results40, go_sem, e0_, e1_, e2_]) rfl HE.out
end Go.Proofs.YtiebljanpnadjaaGreat
