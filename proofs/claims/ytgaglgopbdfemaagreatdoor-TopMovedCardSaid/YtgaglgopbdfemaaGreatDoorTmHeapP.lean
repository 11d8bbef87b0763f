/- HeapP -/
import Derived.Test.YtgaglgopbdfemaaGreatDoorTmHeapA
namespace Go.Proofs.YtgaglgopbdfemaaGreatDoor
set_option linter.all false
open Go.RowKit Rg
theorem Tryz.infoItemT : (Tryz.prog.info? 63).map (fun i => (i.zero, i.size, i.bytes)) = some (some (.agg #[.int .i64 0, .int .i64 0, .int .i64 0, .int .i64 0, .int .i64 0, .int .i64 0, .int .i64 0, .int .i64 0]), 8, 64) := by kernel_rfl
@[go_sem] theorem as_item (t : TypeId) (v : Value) (w : World) : (Instr.typeAssert (.iface 63 v) t 63 true).run Tryz.prog w = .ok (.tuple #[v, .bool true]) w := by kernel_rfl
/-- The class of Push's region: the queue's row may grow. -/
def PushG (v : Value) (B : Nat) (l : List Hi) (w u : World) : Prop := w.grownBy u v.ownBlock ∧ Row B l v u
def PushR (v : Value) : Nat → World → World → Prop := fun k u u' => if k = 6 then u.grownBy u' v.ownBlock else u.grownBy u' none
theorem PushR.size {v : Value} (i : Nat) (w w' : World) (h : PushR v i w w') : w.heap.size ≤ w'.heap.size := by
  unfold PushR at h; split at h <;> exact World.grownBy.size h
theorem PushG.cell {v : Value} {B : Nat} {l : List Hi} {w : World} {b : Nat} (hb : b < w.heap.size) (hr : some b ≠ v.ownBlock) (o : Nat) (u : Cls (PushG v B l w)) : (evr u).cell? ⟨b, o, none⟩ = w.cell? ⟨b, o, none⟩ := gb_cell (evr_h u).1 hb hr
abbrev isOneB (w : World) (cs : Array Value) (T : TypeId) : List Value → Value → World → Prop := fun _ v u => ∃ b, v = .slice (some ⟨b, 0, none⟩) 1 1 ∧ w.heap.size ≤ b ∧ u.heap[b]? = some (.cells cs T (0, 0))
abbrev isGrownRow (w : World) (B : Nat) (l : List Hi) (v : Value) (x : Hi) : List Value → Value → World → Prop := fun _ v' u => Row B (l ++ [x]) v' u ∧ (v'.ownBlock = v.ownBlock ∨ ∀ g, v'.ownBlock = some g → w.heap.size ≤ g)
section
variable {ops : Array Oper} {md : Region.Mode} {w0 : World} {v : Value} {B : Nat} {ll : List Hi} {sp : Nat → Option (List Value → Value → World → Prop)} {N : Nat} {Q : List Oper → Act → Facts → Prop} {n k : Nat} {o : Oper} {l : List Oper} {a : Act} {f : Facts}
theorem rg_litQ (hk : k ≠ 6) (hq : ∀ g, v.ownBlock = some g → g < w0.heap.size) (cs : Array Value) (T : TypeId) (hs : sp k = some (isOneB w0 cs T)) (hw : Region.wanted o (yielded ops a.tmps) = true)
    (hrun : ∀ w, (execOp a.eval o).run Tryz.prog w = .ok (.value (.slice (some ⟨w.heap.size, 0, none⟩) 1 1)) (w.alloc (.cells cs T)))
    (h : ∀ b, w0.heap.size ≤ b → rLexL Tryz.prog md ops ⟨In (PushG v B ll w0), PushR v, sp, fun _ => false, N⟩ Q n l (k + 1) (a.put o.dst (.slice (some ⟨b, 0, none⟩) 1 1)) (upd f k fun u => u.heap[b]? = some (.cells cs T (0, 0)))) :
    rLexL Tryz.prog md ops ⟨In (PushG v B ll w0), PushR v, sp, fun _ => false, N⟩ Q (n + 1) (o :: l) k a f := by
  refine rLexL_spec (isOneB w0 cs T) hs hw ?_ (fun w hC hd => stepTo_run (hrun w) ?_) ?_
  · rintro v' j w w' _ _ _ hR ⟨b, e, hb, hh⟩
    refine ⟨b, e, hb, ?_⟩
    unfold PushR at hR; split at hR
    · rw [World.grownBy.block hR b (block_lt' hh) (fun e => by have := hq b e.symm; omega)]; exact hh
    · exact block_kept hR hh rfl
  · have hsz := hC.out.1.size
    exact ⟨In.mk ⟨gb_alloc hC.out.1 _, hC.out.2.keep (gb_alloc (gb_refl _ _) _)⟩, by unfold PushR; rw [if_neg hk]; exact gb_alloc (gb_refl _ _) _, ⟨_, rfl, hsz, heap_alloc_new w _⟩, fun e => by cases e⟩
  · rintro v' w hC ⟨b, rfl, hb, -⟩
    have e : (isOneB w0 cs T (vals a o) (.slice (some ⟨b, 0, none⟩) 1 1)) = fun u => u.heap[b]? = some (.cells cs T (0, 0)) := by
      funext u
      refine propext ⟨?_, fun h => ⟨b, rfl, hb, h⟩⟩
      rintro ⟨b', e, -, h⟩
      simp at e; subst e; exact h
    rw [e]
    exact h b hb
theorem rg_pushQ (hk : k = 6) (hB : B ≤ w0.heap.size) (x : Hi) (s y : Operand) (b : Nat) (kb : Nat) (hs : sp k = some (isGrownRow w0 B ll v x)) (hw : Region.wanted o (yielded ops a.tmps) = true)
    (ho : o.op = .call { callee := .builtin .append, args := #[s, y], argTypes := #[59, 59] }) (hu : Tryz.prog.underlying 59 = some (.slice 63)) (hsv : a.eval s = v) (hyv : a.eval y = .slice (some ⟨b, 0, none⟩) 1 1)
    (hafter : ∃ e ∈ o.after, Region.binds md e = true ∧ e.on = kb) (hf : f kb = fun u => u.heap[b]? = some (.cells x.cells.toArray 63 (0, 0))) (hlen : ll.length + 1 ≤ 1000000)
    (h : ∀ v' u, isGrownRow w0 B ll v x [] v' u → rLexL Tryz.prog md ops ⟨In (PushG v B ll w0), PushR v, sp, fun _ => false, N⟩ Q n l (k + 1) (a.put o.dst v') (upd f k (isGrownRow w0 B ll v x [] v'))) :
    rLexL Tryz.prog md ops ⟨In (PushG v B ll w0), PushR v, sp, fun _ => false, N⟩ Q (n + 1) (o :: l) k a f := by
  refine rLexL_spec (isGrownRow w0 B ll v x) hs hw ?_ (fun w hC hd => ?_) (fun v' w _ h' => h v' w h')
  · rintro v' j w w' hj _ _ hR ⟨h1, h2⟩
    unfold PushR at hR; rw [if_neg (by omega)] at hR
    exact ⟨h1.keep hR, h2⟩
  · obtain ⟨e, he, hbd, rfl⟩ := hafter
    have hdep := hd e he hbd
    rw [hf] at hdep
    have hsz := hC.out.1.size
    refine stepTo_push s y 59 ho B 63 (.agg #[.int .i64 0, .int .i64 0, .int .i64 0, .int .i64 0, .int .i64 0, .int .i64 0, .int .i64 0, .int .i64 0]) 8 64 hu Tryz.infoItemT rfl (by omega) v ll.length _ hsv hC.out.2 b 1 x.cells 63 hyv hdep rfl (by simp [Hi.cells, Value.oneCell']) hlen (by omega) (by omega) ?_
    intro v' u' o1 o2 hg hat
    refine ⟨In.mk ⟨gb_trans hC.out.1 hg, o2⟩, by unfold PushR; rw [if_pos hk]; exact hg, ⟨?_, ?_⟩, fun e => by cases e⟩
    · unfold Row; rw [List.length_append, flatHi_append, show flatHi [x] = x.cells by simp [flatHi]]; exact o1
    · rcases hat with h1 | h1
      · exact .inl h1
      · exact .inr (fun g hg' => by rw [h1] at hg'; cases hg'; exact hsz)
end
theorem Qu.old {S B : Nat} {cs : Array Value} {l : List Hi} {v : Value} {u : World} (h : Qu S B cs l v u) (g : Nat) (e : v.ownBlock = some g) : B ≤ g ∧ g < u.heap.size := World.ownsRow.lt h.row g e
theorem Qu.sne {S B : Nat} {cs : Array Value} {l : List Hi} {v : Value} {u : World} (h : Qu S B cs l v u) : some S ≠ v.ownBlock := fun e => by have := (h.old S e.symm).1; have := h.lt; omega
theorem Qu.size11 {S B : Nat} {cs : Array Value} {l : List Hi} {v : Value} {u : World} (h : Qu S B cs l v u) : 11 < cs.size := (Array.getElem?_eq_some_iff.1 h.hv).1
theorem Qu.frozen {S B : Nat} {cs : Array Value} {l : List Hi} {v : Value} {u : World} (h : Qu S B cs l v u) (o : Nat) : u.frozen? ⟨S, o, none⟩ = false := frozen3 h.s o
/-- The queue's variable is overwritten. -/
theorem Qu.put {S B : Nat} {cs : Array Value} {l l' : List Hi} {v v' : Value} {w u : World} (h : Qu S B cs l v w) (hg : w.grownBy u v.ownBlock) (hr : Row B l' v' u) (ho : ∀ g, v'.ownBlock = some g → v.ownBlock = some g ∨ w.heap.size ≤ g) :
    Qu S B (cs.set! 11 v') l' v' (u.setCell ⟨S, 11, none⟩ v') ∧ Fr S v v' w (u.setCell ⟨S, 11, none⟩ v') := by
  have hS := block_lt' h.s
  have hs : u.heap[S]? = some (.cells cs 61 (0, 0)) := (hg.block S hS h.sne).trans h.s
  have hset : u.grownBy (u.setCell ⟨S, 11, none⟩ v') (some S) := gb_setCell (gb_refl _ _) (.inr rfl) _
  have hsz := hg.size
  have hB := h.le
  refine ⟨⟨set_block hs 11 v', ?_, ?_, h.lt, by have := hset.size; omega⟩, hset.os.trans hg.os, hset.tape.trans hg.tape, hset.output.trans hg.output, by have := hset.size; omega, ?_, ho⟩
  · simp [Array.set!, Array.getElem?_setIfInBounds, h.size11]
  · exact World.ownsRow.kept hr hset (by
      cases e : v'.ownBlock with
      | none => exact .inl rfl
      | some k =>
        refine .inr (fun e2 => ?_)
        cases e2
        rcases ho S e with h1 | h1
        · exact h.sne h1.symm
        · omega)
  · intro k hk hkS hkv
    rw [hset.block k (by omega) (by simpa using hkS), hg.block k hk hkv]
set_option maxRecDepth 100000 in
set_option maxHeartbeats 4000000 in
theorem qpush_any (S B : Nat) (cs : Array Value) (v : Value) (l : List Hi) (x : Hi) (w : World) (h : Qu S B cs l v w) (hl : l.length + 1 ≤ 1000000) :
    Calls Tryz.prog 554 #[(.pointer (some ⟨S, 11, none⟩)), .iface 63 (.agg x.cells.toArray)] w fun e w' => e = .returned (.tuple #[]) ∧ ∃ v', Qu S B (cs.set! 11 v') (l ++ [x]) v' w' ∧ Fr S v v' w w' := by
  have Q0 := Lib.hid h
  obtain ⟨a, c0, rfl⟩ := owns_slice h.row
  clear h
  obtain ⟨⟨xa, xb, xc, xd, xe, xf⟩, c, m⟩ := x
  generalize hX : (⟨⟨xa, xb, xc, xd, xe, xf⟩, c, m⟩ : Hi) = X at *
  have hXC : X.cells = [.int .i64 xa, .int .i64 xb, .int .i64 xc, .int .i64 xd, .int .i64 xe, .int .i64 xf, .int .i64 c, .int .i64 m] := by rw [← hX]; rfl
  rw [hXC]
  have hg1 : w.grownBy (w.alloc (.cells #[.int .i64 xa, .int .i64 xb, .int .i64 xc, .int .i64 xd, .int .i64 xe, .int .i64 xf, .int .i64 c, .int .i64 m] 63)) none := gb_alloc (gb_refl _ _) _
  have Q1 := Lib.hid (Q0.out.keep hg1); have G1 := Lib.hid hg1
  have X1 := Lib.hid (heap_alloc_new w (.cells #[.int .i64 xa, .int .i64 xb, .int .i64 xc, .int .i64 xd, .int .i64 xe, .int .i64 xf, .int .i64 c, .int .i64 m] 63))
  have hsz : w.heap.size < (w.alloc (.cells #[.int .i64 xa, .int .i64 xb, .int .i64 xc, .int .i64 xd, .int .i64 xe, .int .i64 xf, .int .i64 c, .int .i64 m] 63)).heap.size := by simp
  clear hg1 hX
  go_enter Tryz.func554, Tryz.ntmps554
  go_wp2_with fail
  generalize w.alloc (.cells #[.int .i64 xa, .int .i64 xb, .int .i64 xc, .int .i64 xd, .int .i64 xe, .int .i64 xf, .int .i64 c, .int .i64 m] 63) = w1 at *
  have hc := Q1.out.cell
  obtain ⟨i0_, i1_, i2_, i3_, i4_, i5_, i6_, i7_⟩ := (show w1.cell? ⟨w.heap.size, 0, none⟩ = some (.int .i64 xa) ∧ w1.cell? ⟨w.heap.size, 1, none⟩ = some (.int .i64 xb) ∧ w1.cell? ⟨w.heap.size, 2, none⟩ = some (.int .i64 xc) ∧ w1.cell? ⟨w.heap.size, 3, none⟩ = some (.int .i64 xd) ∧ w1.cell? ⟨w.heap.size, 4, none⟩ = some (.int .i64 xe) ∧ w1.cell? ⟨w.heap.size, 5, none⟩ = some (.int .i64 xf) ∧ w1.cell? ⟨w.heap.size, 6, none⟩ = some (.int .i64 c) ∧ w1.cell? ⟨w.heap.size, 7, none⟩ = some (.int .i64 m) from by simp [World.cell?, X1.out])
  have hown : ∀ g, (Value.slice a l.length c0).ownBlock = some g → g < w.heap.size := fun g e => (Q0.out.old g e).2
  refine Rg.region (PushG (.slice a l.length c0) B l w1) (PushR (.slice a l.length c0)) (fun k => if k = 5 then some (isOneB w1 #[.int .i64 xa, .int .i64 xb, .int .i64 xc, .int .i64 xd, .int .i64 xe, .int .i64 xf, .int .i64 c, .int .i64 m] 63) else if k = 6 then some (isGrownRow w1 B l (.slice a l.length c0) X) else none) (fun _ => false) 0 7 (by kernel_rfl) (by kernel_rfl) (by kernel_rfl) (by kernel_rfl) (by kernel_rfl) (by kernel_rfl) (by kernel_rfl) PushR.size ⟨gb_drew (gb_refl _ _), Q1.out.row.keep (gb_drew (gb_refl _ _))⟩ (fun hne => ?_)
  have ls := PushG.cell (v := .slice a l.length c0) (B := B) (l := l) (block_lt' Q1.out.s) Q1.out.sne
  have li := PushG.cell (v := .slice a l.length c0) (B := B) (l := l) (w := w1) hsz (fun e => by have := hown _ e.symm; omega)
  (repeat (refine rLexL_quiet (by rfl) (by rfl) (by rfl) (by rfl) ?_; go_big_quiet_step (fail); refine wpQuiet_nil ?_))
  refine rLexL_val (.pointer (some ⟨S, 11, none⟩)) (by rfl) (by rfl) (by rfl) (by rfl) (fun _ => by go_simp) ?_
  simp only [Act.put, List.setIfInBounds_toArray, List.set_cons_zero, List.set_cons_succ]
  (repeat (refine rLexL_quiet (by rfl) (by rfl) (by rfl) (by rfl) ?_; go_big_quiet_step (fail); refine wpQuiet_nil ?_))
  refine rg_litQ (by decide) (fun g e => (Q1.out.old g e).2) #[.int .i64 xa, .int .i64 xb, .int .i64 xc, .int .i64 xd, .int .i64 xe, .int .i64 xf, .int .i64 c, .int .i64 m] 63 rfl rfl (fun _ => by go_simp) (fun b hb => ?_)
  simp only [Act.put, List.setIfInBounds_toArray, List.set_cons_zero, List.set_cons_succ]
  (repeat (refine rLexL_quiet (by rfl) (by rfl) (by rfl) (by rfl) ?_; go_big_quiet_step (fail); refine wpQuiet_nil ?_))
  refine rg_pushQ rfl Q1.out.le X _ _ b 5 rfl rfl rfl Tryz.underlying59 rfl rfl ⟨⟨5, .data⟩, by simp, rfl, rfl⟩ (by rw [hXC]; rfl) hl (fun v' u hv => ?_)
  obtain ⟨oa, oc, rfl⟩ := owns_slice hv.1
  clear hv
  simp only [Act.put, List.setIfInBounds_toArray, List.set_cons_zero, List.set_cons_succ]
  (repeat (refine rLexL_quiet (by rfl) (by rfl) (by rfl) (by rfl) ?_; go_big_quiet_step (fail); refine wpQuiet_nil ?_))
  rintro wq hGq hf -
  have hr := hf 6
  have HP := Lib.hid (Q1.out.put hGq.1 hr.1 (fun g e => by
    rcases hr.2 with h1 | h1
    · exact .inl (h1 ▸ e)
    · exact .inr (h1 g e)))
  have hcq := (gb_cell hGq.1 (block_lt' Q1.out.s) Q1.out.sne (o := 11)).trans hc
  have hfq := (gb_frozen hGq.1 (block_lt' Q1.out.s) Q1.out.sne (o := 11)).trans (Q1.out.frozen 11)
  simp only [List.length_append, List.length_cons, List.length_nil, Nat.zero_add] at HP
  clear hr hf hGq hne ls li i0_ i1_ i2_ i3_ i4_ i5_ i6_ i7_
  go_wp2_with fail
  refine bodyPost_end (results_none rfl _ _ _) rfl ⟨rfl, _, HP.out.1, (Fr.gb G1.out).trans HP.out.2⟩
theorem Fr.turn {S q n cp : Nat} {u u' : World} (hg : u.grownBy u' (some q)) : Fr S (.slice (some ⟨q, 0, none⟩) n cp) (.slice (some ⟨q, 0, none⟩) n cp) u u' :=
  ⟨hg.os, hg.tape, hg.output, hg.size, fun k hk _ hko => hg.block k hk hko, fun _ e => .inl e⟩
/-- Without the last one. -/
theorem Row.last {B : Nat} {l : List Hi} {u : World} {q cp n : Nat} (h : Row B l (.slice (some ⟨q, 0, none⟩) l.length cp) u) (hn : l.length = n + 1) : Row B (l.take n) (.slice (some ⟨q, 0, none⟩) n cp) u := by
  obtain ⟨h1, ⟨-, h2⟩ | ⟨q', cp', cur, he, hb, hg, hle, hcap, hcs, ht⟩⟩ := h
  · omega
  simp only [Value.slice.injEq, Option.some.injEq, Addr.mk.injEq, true_and, and_true] at he
  obtain ⟨rfl, rfl⟩ := he
  have hln : (l.take n).length = n := by simp; omega
  refine ⟨flatHi_length _, .inr ⟨q, cp, cur, by rw [hln], hb, hg, by omega, hcap, hcs, ?_⟩⟩
  rw [hln]
  have e2 : flatHi l = flatHi (l.take n) ++ flatHi (l.drop n) := by rw [← flatHi_append, List.take_append_drop]
  have e3 : (flatHi (l.take n)).length = n * 8 := by rw [flatHi_length, hln]
  have e4 : (cur.toList.take (l.length * 8)).take (n * 8) = cur.toList.take (n * 8) := by rw [List.take_take, Nat.min_eq_left (by omega)]
  rw [← e4, ht, e2, List.take_left' e3]
set_option maxRecDepth 100000 in
set_option maxHeartbeats 4000000 in
theorem qpop_any (S B : Nat) (cs : Array Value) (q cp : Nat) (l : List Hi) (n : Nat) (w : World) (h : Qu S B cs l (.slice (some ⟨q, 0, none⟩) l.length cp) w) (hl : l.length = n + 1) :
    Calls Tryz.prog 553 #[.pointer (some ⟨S, 11, none⟩)] w fun e w' => e = .returned (.iface 63 (.agg (hiAt l n).cells.toArray)) ∧ Qu S B (cs.set! 11 (.slice (some ⟨q, 0, none⟩) n cp)) (l.take n) (.slice (some ⟨q, 0, none⟩) n cp) w' ∧ Fr S (.slice (some ⟨q, 0, none⟩) l.length cp) (.slice (some ⟨q, 0, none⟩) n cp) w w' := by
  have Q0 := Lib.hid h
  have hqq : B ≤ q ∧ l.length ≤ cp ∧ cp ≤ 9223372036854775807 := by
    obtain ⟨q', cp', he, -, hb, hcp, hcp2⟩ := h.row.at (by omega)
    simp only [Value.slice.injEq, Option.some.injEq, Addr.mk.injEq, true_and, and_true] at he
    obtain ⟨rfl, rfl⟩ := he
    exact ⟨hb, hcp, hcp2⟩
  obtain ⟨i0_, i1_, i2_, i3_, i4_, i5_, i6_, i7_⟩ := h.row.it n (by omega)
  have hc := h.cell
  have hf := h.frozen 11
  have hql := (h.old q rfl).2
  have hSl := block_lt' h.s
  have HC : Hid ((hiAt l n).cells = [.int .i64 (hiAt l n).b.a, .int .i64 (hiAt l n).b.b, .int .i64 (hiAt l n).b.c, .int .i64 (hiAt l n).b.d, .int .i64 (hiAt l n).b.e, .int .i64 (hiAt l n).b.f, .int .i64 (hiAt l n).c, .int .i64 (hiAt l n).n]) := Lib.hid rfl
  have HP := Lib.hid (fun (u : World) (hg : w.grownBy u none) => (h.keep hg).put (l' := l.take n) (v' := .slice (some ⟨q, 0, none⟩) n cp) (gb_refl u _) ((h.row.keep hg).last hl) (fun g e => .inl e))
  have HQ := Lib.hid (HP.out w (gb_refl _ _))
  clear h
  generalize hiAt l n = x at *
  rw [HC.out]
  have hnn : ((l.length : Nat) : Int) = (n : Int) + 1 := by omega
  go_enter Tryz.func553, Tryz.ntmps553
  go_wp2_with fail
  go_ret
  exact ⟨rfl, HQ.out.1.keep (gb_alloc (gb_refl _ _) _), HQ.out.2.trans (Fr.gb (gb_alloc (gb_refl _ _) _))⟩
/-- heap.Push and heap.Pop. -/
def pushH (l : List Hi) (x : Hi) : List Hi := upF (l.length + 1) (l ++ [x]) l.length
def popL (l : List Hi) (n : Nat) : List Hi := downF (n + 1) (swapL l 0 n) 0 n
set_option maxRecDepth 100000 in
set_option maxHeartbeats 4000000 in
theorem hpush_any (S B : Nat) (cs : Array Value) (v : Value) (l : List Hi) (x : Hi) (w : World) (h : Qu S B cs l v w) (hl : l.length + 1 ≤ 1000000) :
    Calls Tryz.prog 59 #[.iface 174 (.pointer (some ⟨S, 11, none⟩)), .iface 63 (.agg x.cells.toArray)] w fun e w' => e = .returned (.tuple #[]) ∧ ∃ v', Qu S B (cs.set! 11 v') (pushH l x) v' w' ∧ Fr S v v' w w' := by
  have PU := Lib.hid (qpush_any S B cs v l x w h hl)
  have hmp := meth_push S w
  go_enter Tryz.func59, Tryz.ntmps59
  go_wp2_with fail
  (with_reducible refine PU.out.mono ?_)
  rintro e w1 ⟨rfl, v', hq, hf⟩
  have Q1 := Lib.hid hq; have F1 := Lib.hid hf
  have hll : (l ++ [x]).length = l.length + 1 := by simp
  obtain ⟨q, cp, rfl, -, -, hcp, hcp2⟩ := hq.row.at (by omega)
  have hc := hq.cell
  clear hq hf hmp PU h
  have UP := Lib.hid (up_any S B _ q cp (l ++ [x]) l.length w1 Q1.out (by omega))
  rw [hll] at hc UP
  have hml := meth_len hc
  have LE := Lib.hid (qlen_any (.slice (some ⟨q, 0, none⟩) (l.length + 1) cp) _ _ _ w1 rfl)
  go_wp2_with fail
  (with_reducible refine LE.out.mono ?_)
  rintro e w2 ⟨rfl, rfl⟩
  have hlb : (l.length : Int) ≤ 1000000 := by omega
  go_wp2_with fail
  (with_reducible refine UP.out.mono ?_)
  rintro e w3 ⟨rfl, hq, hg⟩
  have Q3 := Lib.hid hq
  rw [hll] at F1
  have F3 := Lib.hid (F1.out.trans (Fr.turn hg))
  clear hq hg
  go_wp2_with fail
  refine bodyPost_end (results_none rfl _ _ _) rfl ⟨rfl, _, Q3.out, F3.out⟩
set_option maxRecDepth 100000 in
set_option maxHeartbeats 4000000 in
theorem hpop_any (S B : Nat) (cs : Array Value) (q cp : Nat) (l : List Hi) (n : Nat) (w : World) (h : Qu S B cs l (.slice (some ⟨q, 0, none⟩) l.length cp) w) (hl : l.length = n + 1) (hlb : l.length ≤ 1000000) :
    Calls Tryz.prog 60 #[.iface 174 (.pointer (some ⟨S, 11, none⟩))] w fun e w' => (∃ r, e = .returned r) ∧ Qu S B (cs.set! 11 (.slice (some ⟨q, 0, none⟩) n cp)) ((popL l n).take n) (.slice (some ⟨q, 0, none⟩) n cp) w' ∧ Fr S (.slice (some ⟨q, 0, none⟩) l.length cp) (.slice (some ⟨q, 0, none⟩) n cp) w w' := by
  have Q0 := Lib.hid h
  have hc := h.cell
  have SW := Lib.hid (qswap_any B l q cp w h.row 0 n (by omega) (by omega))
  rw [show ((0 : Nat) : Int) = 0 from rfl] at SW
  have LE := Lib.hid (qlen_any (.slice (some ⟨q, 0, none⟩) l.length cp) _ _ _ w rfl)
  have hlen1 : (swapL l 0 n).length = l.length := swapL_length _ _ _
  have hlen2 : (popL l n).length = l.length := by unfold popL; rw [downF_length, hlen1]
  have DO := Lib.hid (fun (u : World) (hq : Qu S B cs (swapL l 0 n) (.slice (some ⟨q, 0, none⟩) l.length cp) u) => (by
    have := down_any S B cs q cp (swapL l 0 n) n u (by rw [hlen1]; exact hq) (by omega) (by omega) (by omega)
    rw [hlen1] at this; exact this : Calls Tryz.prog 108 #[.iface 174 (.pointer (some ⟨S, 11, none⟩)), .int .i64 0, .int .i64 n] u fun e w' => ∃ b, e = .returned (.bool b) ∧ Qu S B cs (popL l n) (.slice (some ⟨q, 0, none⟩) l.length cp) w' ∧ u.grownBy w' (some q)))
  have PO := Lib.hid (fun (u : World) (hq : Qu S B cs (popL l n) (.slice (some ⟨q, 0, none⟩) l.length cp) u) => (by
    have := qpop_any S B cs q cp (popL l n) n u (by rw [hlen2]; exact hq) (by omega)
    rw [hlen2] at this; exact this : Calls Tryz.prog 553 #[.pointer (some ⟨S, 11, none⟩)] u fun e w' => e = .returned (.iface 63 (.agg (hiAt (popL l n) n).cells.toArray)) ∧ Qu S B (cs.set! 11 (.slice (some ⟨q, 0, none⟩) n cp)) ((popL l n).take n) (.slice (some ⟨q, 0, none⟩) n cp) w' ∧ Fr S (.slice (some ⟨q, 0, none⟩) l.length cp) (.slice (some ⟨q, 0, none⟩) n cp) u w'))
  clear h hlen1 hlen2
  have hnn : ((l.length : Nat) : Int) = (n : Int) + 1 := by omega
  have hnb : (n : Int) ≤ 1000000 := by omega
  have hml := meth_len hc
  clear hc
  generalize l.length = m at *
  subst hl
  clear hnn
  go_enter Tryz.func60, Tryz.ntmps60
  go_wp2_with fail
  (with_reducible refine LE.out.mono ?_)
  rintro e w1 ⟨rfl, rfl⟩
  clear hml LE
  have hc := Q0.out.cell
  have hms := meth_swap hc
  go_wp2_with fail
  (with_reducible refine SW.out.mono ?_)
  rintro e w2 ⟨rfl, hr, hg⟩
  have Q2 := Lib.hid (Q0.out.turn hr hg); have F2 := Lib.hid (Fr.turn (S := S) (n := n + 1) (cp := cp) hg)
  clear hr hg hms hc SW Q0
  go_wp2_with fail
  (with_reducible refine (DO.out w2 Q2.out).mono ?_)
  rintro e w3 ⟨b, rfl, hq, hg⟩
  have Q3 := Lib.hid hq; have F3 := Lib.hid (F2.out.trans (Fr.turn hg))
  clear hq hg Q2 F2 DO
  have hmp := meth_pop S w3
  go_wp2_with fail
  (with_reducible refine (PO.out w3 Q3.out).mono ?_)
  rintro e w4 ⟨rfl, hq, hf⟩
  have Q4 := Lib.hid hq; have F4 := Lib.hid (F3.out.trans hf)
  clear hq hf hmp Q3 F3 PO
  go_wp2_with fail
  go_ret
  exact ⟨⟨_, rfl⟩, Q4.out, F4.out⟩
end Go.Proofs.YtgaglgopbdfemaaGreatDoor
