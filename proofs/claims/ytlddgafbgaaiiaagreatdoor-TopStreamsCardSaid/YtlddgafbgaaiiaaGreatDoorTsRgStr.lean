/- RgStr -/
import Derived.Laws.OwnMore
import Derived.Test.YtlddgafbgaaiiaaGreatDoorTsRgOwn
import Derived.Test.YtlddgafbgaaiiaaGreatDoorTsDetL
namespace Go.Proofs.YtlddgafbgaaiiaaGreatDoor
set_option linter.all false
open Go.RowKit Rg
/-- A block of type T is written. -/
def StF (T : TypeId) (w w' : World) : Prop := ∃ (g : Nat) (cs cs' : Array Value), cs'.size = cs.size ∧ w.heap[g]? = some (.cells cs T (0, 0)) ∧ w'.heap[g]? = some (.cells cs' T (0, 0)) ∧ w.grownBy w' (some g)
def StR (k0 : Nat) (T : TypeId) : Nat → World → World → Prop := fun k w w' => if k = k0 then StF T w w' else w.grownBy w' none
theorem StR.size {k0 : Nat} {T : TypeId} (i : Nat) (w w' : World) (h : StR k0 T i w w') : w.heap.size ≤ w'.heap.size := by
  unfold StR at h; split at h
  · obtain ⟨g, cs, cs', -, -, -, h⟩ := h; exact h.size
  · exact World.grownBy.size h
theorem Slb.stF {T : TypeId} {B : Nat} {w w' : World} {v : Value} {xs : List Int} (h : Slb B w v xs) (hs : StF T w w') (hT : 3 ≠ T) : Slb B w' v xs := by
  obtain ⟨g, c1, c2, -, h1, -, hg⟩ := hs
  have hne : ∀ b off n c, v = .slice (some ⟨b, off, Option.none⟩) n c → 0 < n → b ≠ g := fun b off n c e h0 he => by
    obtain ⟨cs, hc⟩ := h.ty b off n c e h0
    subst he
    rw [h1] at hc
    simp only [Option.some.injEq, Obj.cells.injEq] at hc
    exact hT hc.2.1.symm
  refine ⟨h.sl.later hg (fun b off n c e h0 he => hne b off n c e h0 (by simpa using he)), h.nn, h.low, h.ty' fun b off n c e h0 => ?_⟩
  obtain ⟨cs, hc⟩ := h.ty b off n c e h0
  exact hg.block b (blkLt hc) (fun he => hne b off n c e h0 (by simpa using he))
abbrev isRowF (T : TypeId) : List Value → Value → World → Prop := fun vs _ u => ∃ (b : Nat) (cs : Array Value), vs[0]? = some (.pointer (some ⟨b, 0, none⟩)) ∧ vs[1]? = some (.agg cs) ∧ u.heap[b]? = some (.cells cs T (0, 0))
section
variable {P : Program} {ops : Array Oper} {md : Region.Mode} {w0 : World} {sp : Nat → Option (List Value → Value → World → Prop)} {N : Nat} {Q : List Oper → Act → Facts → Prop} {n k k0 : Nat} {o : Oper} {l : List Oper} {a : Act} {f : Facts} {T : TypeId}
/-- A call whose value, and what it points to, is described. -/
theorem rg_callF (hk : k ≠ k0) (F : Value → World → Prop) (hF : ∀ v u u', StF T u u' → F v u → F v u') (hF0 : ∀ v u u', u.grownBy u' none → F v u → F v u') (fid : FuncId) (args : Array Value) (hs : sp k = some (fun _ v u => F v u)) (hw : Region.wanted o (yielded ops a.tmps) = true)
    (hrun : ∀ w, (execOp a.eval o).run P w = .ok (.enter fid args) w)
    (hc : ∀ u, w0.grownBy u none → Calls P fid args u fun e w' => ∃ v, e = .returned v ∧ F v w' ∧ u.grownBy w' none)
    (h : ∀ v u, F v u → rLexL P md ops ⟨In (Made w0), StR k0 T, sp, fun _ => false, N⟩ Q n l (k + 1) (a.put o.dst v) (upd f k (F v))) :
    rLexL P md ops ⟨In (Made w0), StR k0 T, sp, fun _ => false, N⟩ Q (n + 1) (o :: l) k a f := by
  refine rLexL_spec (fun _ v u => F v u) hs hw ?_ (fun w hC hd => stepTo_call (hrun w) ?_) (fun v w _ h' => h v w h')
  · rintro v j w w' _ _ _ hR hv
    unfold StR at hR; split at hR
    · exact hF v _ _ hR hv
    · exact hF0 v _ _ hR hv
  · refine (hc w hC.out).mono ?_
    rintro e w' ⟨v, rfl, hv, hg⟩
    exact ⟨_, rfl, In.mk (gb_trans hC.out hg), by unfold StR; rw [if_neg hk]; exact hg, hv, fun e => by cases e⟩
theorem rg_varF (zs : Array Value) (hk : k ≠ k0) (hs : sp k = some (isVar w0 zs.size T)) (hw : Region.wanted o (yielded ops a.tmps) = true)
    (hrun : ∀ w, (execOp a.eval o).run P w = .ok (.value (.pointer (some ⟨w.heap.size, 0, none⟩))) (w.alloc (.cells zs T)))
    (h : ∀ b, w0.heap.size ≤ b → rLexL P md ops ⟨In (Made w0), StR k0 T, sp, fun _ => false, N⟩ Q n l (k + 1) (a.put o.dst (.pointer (some ⟨b, 0, none⟩))) (upd f k (isVar w0 zs.size T [] (.pointer (some ⟨b, 0, none⟩))))) :
    rLexL P md ops ⟨In (Made w0), StR k0 T, sp, fun _ => false, N⟩ Q (n + 1) (o :: l) k a f := by
  refine rLexL_spec (isVar w0 zs.size T) hs hw ?_ (fun w hC hd => stepTo_run (hrun w) ?_) ?_
  · rintro v j w w' _ _ _ hR ⟨b, e, hb, cs, hcs, hh⟩
    refine ⟨b, e, hb, ?_⟩
    unfold StR at hR; split at hR
    · obtain ⟨g, c1, c2, hz, h1, h2, hg⟩ := hR
      by_cases he : b = g
      · subst he
        rw [h1] at hh; cases hh
        exact ⟨c2, hz.trans hcs, h2⟩
      · exact ⟨cs, hcs, (hg.block b (blkLt hh) (by simpa using he)).trans hh⟩
    · exact ⟨cs, hcs, (World.grownBy.block hR b (blkLt hh) (by simp)).trans hh⟩
  · have hg : w.grownBy (w.alloc (.cells zs T)) none := gb_alloc (gb_refl _ _) _
    exact ⟨In.mk (gb_trans hC.out hg), by unfold StR; rw [if_neg hk]; exact hg, ⟨_, rfl, hC.out.size, zs, rfl, heap_alloc_new w _⟩, fun e => by cases e⟩
  · rintro v w hC ⟨b, rfl, hb, -⟩
    exact h b hb
theorem rg_storeF (hk : k = k0) (b : Nat) (cells : Array Value) (ty : TypeId) (x y : Operand) (kb : Nat) (hafter : ∃ e ∈ o.after, Region.binds md e = true ∧ e.on = kb) (hf : f kb = isVar w0 cells.size T [] (.pointer (some ⟨b, 0, none⟩)))
    (ho : o.op = .store ty x y) (hx : a.eval x = .pointer (some ⟨b, 0, none⟩)) (hy : a.eval y = .agg cells) (hi : (P.info? ty).map (·.size) = some cells.size) (h1 : cells.all (·.oneCell') = true) (hb : w0.heap.size ≤ b)
    (hs : sp k = some (isRowF T)) (hw : Region.wanted o (yielded ops a.tmps) = true) (hdst : o.dst = none)
    (h : rLexL P md ops ⟨In (Made w0), StR k0 T, sp, fun _ => false, N⟩ Q n l (k + 1) (a.put o.dst undef) (upd f k (isRowF T [Value.pointer (some ⟨b, 0, none⟩), .agg cells] undef))) :
    rLexL P md ops ⟨In (Made w0), StR k0 T, sp, fun _ => false, N⟩ Q (n + 1) (o :: l) k a f := by
  have hvals : vals a o = [.pointer (some ⟨b, 0, none⟩), .agg cells] := by simp [vals, ho, Op.operands, hx, hy]
  refine rLexL_spec (isRowF T) hs hw ?_ (fun w hC hd => ?_) ?_
  · rintro v j w w' hj _ _ hR ⟨b', cs', hb', hc', hh⟩
    unfold StR at hR; rw [if_neg (by omega)] at hR
    exact ⟨b', cs', hb', hc', (World.grownBy.block hR b' (blkLt hh) (by simp)).trans hh⟩
  · obtain ⟨e, he, hbd, rfl⟩ := hafter
    have hdep := hd e he hbd
    rw [hf] at hdep
    obtain ⟨cs, hcs, hh⟩ := isVar.out hdep
    unfold stepTo execOp
    simp only [ho, hx, hy, Instr.storeAt, Instr.sureAddr, Sem.run_bind, Sem.run_pure, Result.andThen_ok, run_storeVar_row (P := P) w b T ty cs cells hh hi hcs h1]
    have hg2 : w.grownBy (w.setRow b cells) (some b) := ⟨rfl, rfl, rfl, by simp [World.setRow], fun i hi hr => setRow_other w b i cells (fun e => hr (by rw [e]))⟩
    refine ⟨In.mk (gb_setRow' hC.out hb), ?_, ⟨b, cells, by rw [hvals]; rfl, by rw [hvals]; rfl, setRow_heap w b cs cells T _ hh⟩, fun e => by cases e⟩
    unfold StR; rw [if_pos hk]
    exact ⟨b, cs, cells, hcs.symm, hh, setRow_heap w b cs cells T _ hh, hg2⟩
  · intro v w hC _
    rw [hvals]
    rw [hdst] at h ⊢
    exact h
theorem isRowF.out {b : Nat} {cs : Array Value} {v : Value} {u : World} (h : isRowF T [.pointer (some ⟨b, 0, none⟩), .agg cs] v u) : u.heap[b]? = some (.cells cs T (0, 0)) := by
  obtain ⟨b', cs', e1, e2, h⟩ := h
  simp at e1 e2; subst e1; subst e2; exact h
end
/-- append(s, y...), both rows of their own. -/
theorem run_pushes {P : Program} {w : World} (base base' : Nat) (t ty e : TypeId) (z : Value) (size bytes : Nat) (ht : P.underlying t = some (.slice e)) (hinfo : (P.info? e).map (fun i => (i.zero, i.size, i.bytes)) = some (some z, size, bytes)) (hzs : z.cells.size = size) (hsz : 0 < size)
    (v y : Value) (n m : Nat) (xs ys : List Value) (hown : w.ownsRow base e size v n xs) (hy : w.ownsRow base' e size y m ys) (h1 : ∀ u ∈ ys, u.oneCell' = true)
    (h63 : n + m ≤ 1000000) (hbytes : (n + m) * bytes ≤ 140737488355328) (hbase : base ≤ w.heap.size) :
    ∃ v' w', (Builtin.append_ #[t, t] ty #[v, y]).run P w = .ok v' w' ∧ w'.ownsRow base e size v' (n + m) (xs ++ ys) ∧ w'.ownsRow base e size v n xs ∧ w.grownBy w' v.ownBlock ∧ (v'.ownBlock = v.ownBlock ∨ v'.ownBlock = some w.heap.size) := by
  obtain ⟨i0, hi, hz0, hz1, hz2⟩ := info_parts hinfo
  have hly := hy.1
  rcases hy.2 with ⟨rfl, rfl⟩ | ⟨g, cap, cur, rfl, -⟩
  · obtain rfl : ys = [] := List.eq_nil_of_length_eq_zero (by rw [hly, Nat.zero_mul])
    exact ⟨v, w, run_append_owned_none (P := P) (w := w) base t ty e i0 size ht hi v n xs hown, by simpa using hown, hown, gb_refl _ _, .inl rfl⟩
  · have hnews : ∀ j u, ys[j]? = some u → w.cell? ((⟨g, 0, none⟩ : Addr).add j) = some u := hy.cells rfl
    have h63' : n + m ≤ maxLen := by unfold maxLen; omega
    obtain ⟨v', w', hr, h2, h3, _, h5⟩ := run_append_own_at (P := P) w base t ty e i0 z size bytes ht hi hz0 hz1 hz2 hzs hsz v n xs hown ⟨g, 0, none⟩ m cap ys hly hnews h1 h63' hbytes hbase
    exact ⟨v', w', hr, h2, own_keeps (w' := w') ht hi hz0 hz1 hz2 hown hly hnews h1 h63' hbytes hr, h3, h5⟩
theorem wpList_pushes2 {P : Program} {w : World} {ops : Array Oper} {rest : List Oper} {o : Oper} {a : Act} {Q : Exit → Act → World → Prop} (hgd : Region.wanted o (yielded ops a.tmps) = true) (s x : Operand) (t : TypeId)
    (ho : o.op = .call { callee := .builtin .append, args := #[s, x], argTypes := #[t, t] })
    (base base' : Nat) (e : TypeId) (z : Value) (size bytes : Nat) (ht : P.underlying t = some (.slice e)) (hinfo : (P.info? e).map (fun i => (i.zero, i.size, i.bytes)) = some (some z, size, bytes)) (hzs : z.cells.size = size) (hsz : 0 < size)
    (v y : Value) (n m : Nat) (xs ys : List Value) (hs : a.eval s = v) (hx : a.eval x = y) (hown : w.ownsRow base e size v n xs) (hy : w.ownsRow base' e size y m ys) (h1 : ∀ u ∈ ys, u.oneCell' = true)
    (h63 : n + m ≤ 1000000) (hbytes : (n + m) * bytes ≤ 140737488355328) (hbase : base ≤ w.heap.size)
    (h : ∀ v' w', w'.ownsRow base e size v' (n + m) (xs ++ ys) → w.grownBy w' v.ownBlock → wpList P ops Q rest (a.put o.dst v') w') : wpList P ops Q (o :: rest) a w := by
  refine wpList_step fun K hK => ?_
  rw [if_pos hgd]
  obtain ⟨v', w', hr, h2, -, h3, -⟩ := run_pushes (P := P) (w := w) base base' t o.type e z size bytes ht hinfo hzs hsz v y n m xs ys hown hy h1 h63 hbytes hbase
  unfold Oper.wp execOp
  simp only [ho, resolve, invoke, builtin, Sem.run_bind, Sem.run_pure, Result.andThen_ok, List.map_toArray, List.map_cons, List.map_nil, hs, hx, hr]
  exact hK _ _ (h v' w' h2 h3)
/-- The class: but for X, Y and the row of v, all is as it was. -/
structure T2 (w0 : World) (X Y nx ny : Nat) (TX TY : TypeId) (v : Value) (B : Nat) (e : TypeId) (size n : Nat) (xs : List Value) (u : World) : Prop where
  os : u.os = w0.os
  tape : u.tape = w0.tape
  output : u.output = w0.output
  sz : w0.heap.size ≤ u.heap.size
  block : ∀ i, i < w0.heap.size → i ≠ X → i ≠ Y → some i ≠ v.ownBlock → u.heap[i]? = w0.heap[i]?
  bx : ∃ cs : Array Value, cs.size = nx ∧ u.heap[X]? = some (.cells cs TX (0, 0))
  byy : ∃ cs : Array Value, cs.size = ny ∧ u.heap[Y]? = some (.cells cs TY (0, 0))
  own : u.ownsRow B e size v n xs
def R2 (v : Value) (X Y ka kx ky : Nat) : Nat → World → World → Prop := fun k u u' => if k = ka then u.grownBy u' v.ownBlock else if k = kx then u.grownBy u' (some X) else if k = ky then u.grownBy u' (some Y) else u.grownBy u' none
theorem R2.size {v : Value} {X Y ka kx ky : Nat} (i : Nat) (w w' : World) (h : R2 v X Y ka kx ky i w w') : w.heap.size ≤ w'.heap.size := by
  unfold R2 at h; repeat (split at h; exact World.grownBy.size h)
  exact World.grownBy.size h
section
variable {P : Program} {ops : Array Oper} {md : Region.Mode} {w0 : World} {v : Value} {X Y nx ny B m size ka kx ky : Nat} {TX TY e : TypeId} {xs : List Value} {sp : Nat → Option (List Value → Value → World → Prop)} {N : Nat} {Q : List Oper → Act → Facts → Prop} {n k : Nat} {o : Oper} {l : List Oper} {a : Act} {f : Facts}
theorem T2.start {csx csy : Array Value} (hX : w0.heap[X]? = some (.cells csx TX (0, 0))) (hY : w0.heap[Y]? = some (.cells csy TY (0, 0))) (hx : csx.size = nx) (hy : csy.size = ny) (ho : w0.ownsRow B e size v m xs) : T2 w0 X Y nx ny TX TY v B e size m xs w0.drew :=
  ⟨rfl, rfl, rfl, Nat.le_refl _, fun _ _ _ _ _ => rfl, ⟨csx, hx, hX⟩, ⟨csy, hy, hY⟩, owns_keep ho (gb_drew (gb_refl _ _))⟩
theorem T2.cell {b : Nat} (hb : b < w0.heap.size) (h1 : b ≠ X) (h2 : b ≠ Y) (hr : some b ≠ v.ownBlock) (o : Nat) (u : Cls (T2 w0 X Y nx ny TX TY v B e size m xs)) : (evr u).cell? ⟨b, o, none⟩ = w0.cell? ⟨b, o, none⟩ := by
  unfold World.cell?
  rw [(evr_h u).block b hb h1 h2 hr]
theorem rg_pushT (hk : k = ka) (hB : B ≤ w0.heap.size) (hXY : X ≠ Y) (hxB : X < B) (hyB : Y < B) (hvX : ∀ g, v.ownBlock = some g → g < w0.heap.size) (y : Value) (B' m' : Nat) (ys : List Value) (hy : w0.ownsRow B' e size y m' ys) (hyX : ∀ g, y.ownBlock = some g → g ≠ X ∧ g ≠ Y ∧ some g ≠ v.ownBlock ∧ g < w0.heap.size)
    (s x : Operand) (t : TypeId) (z : Value) (bytes : Nat) (ht : P.underlying t = some (.slice e)) (hinfo : (P.info? e).map (fun i => (i.zero, i.size, i.bytes)) = some (some z, size, bytes)) (hzs : z.cells.size = size) (hsz : 0 < size)
    (hs : sp k = some (fun _ v' u => u.ownsRow B e size v' (m + m') (xs ++ ys))) (hw : Region.wanted o (yielded ops a.tmps) = true)
    (ho : o.op = .call { callee := .builtin .append, args := #[s, x], argTypes := #[t, t] }) (hsv : a.eval s = v) (hyv : a.eval x = y) (h1 : ∀ u ∈ ys, u.oneCell' = true) (hlen : m + m' ≤ 1000000) (hbytes : (m + m') * bytes ≤ 140737488355328)
    (h : ∀ (v' : Value) (u : World), u.ownsRow B e size v' (m + m') (xs ++ ys) → rLexL P md ops ⟨In (T2 w0 X Y nx ny TX TY v B e size m xs), R2 v X Y ka kx ky, sp, fun _ => false, N⟩ Q n l (k + 1) (a.put o.dst v') (upd f k fun u => u.ownsRow B e size v' (m + m') (xs ++ ys))) :
    rLexL P md ops ⟨In (T2 w0 X Y nx ny TX TY v B e size m xs), R2 v X Y ka kx ky, sp, fun _ => false, N⟩ Q (n + 1) (o :: l) k a f := by
  refine rLexL_spec (fun _ v' u => u.ownsRow B e size v' (m + m') (xs ++ ys)) hs hw ?_ (fun w hC hd => ?_) (fun v' w _ h' => h v' w h')
  · rintro v' j w w' hj _ _ hR h1
    unfold R2 at hR; rw [if_neg (by omega)] at hR
    split at hR
    · exact owns_keepp h1 hR hxB
    · split at hR
      · exact owns_keepp h1 hR hyB
      · exact owns_keep h1 hR
  · have hC' := hC.out
    have hyw : w.ownsRow B' e size y m' ys := by
      refine ⟨hy.1, hy.2.imp id ?_⟩
      rintro ⟨g, cap, cur, e1, e2, e3, e4⟩
      have := hyX g (by rw [e1]; rfl)
      exact ⟨g, cap, cur, e1, e2, (hC'.block g this.2.2.2 this.1 this.2.1 this.2.2.1).trans e3, e4⟩
    obtain ⟨v', w', hr, h2, h3, h4, -⟩ := run_pushes (P := P) (w := w) B B' t o.type e z size bytes ht hinfo hzs hsz v y m m' xs ys hC'.own hyw h1 hlen hbytes (Nat.le_trans hB hC'.sz)
    have hvB : ∀ g, v.ownBlock = some g → B ≤ g := fun g e => (hC'.own.lt g e).1
    unfold stepTo execOp
    simp only [ho, resolve, invoke, builtin, Sem.run_bind, Sem.run_pure, Result.andThen_ok, List.map_toArray, List.map_cons, List.map_nil, hsv, hyv, hr]
    obtain ⟨cx, hx1, hx2⟩ := hC'.bx
    obtain ⟨cy, hy1, hy2⟩ := hC'.byy
    refine ⟨In.mk ⟨h4.os.trans hC'.os, h4.tape.trans hC'.tape, h4.output.trans hC'.output, Nat.le_trans hC'.sz h4.size, fun i hi i1 i2 i3 => (h4.block i (Nat.lt_of_lt_of_le hi hC'.sz) i3).trans (hC'.block i hi i1 i2 i3), ⟨cx, hx1, (h4.block X (blkLt hx2) fun e => by have := hvB X e.symm; omega).trans hx2⟩, ⟨cy, hy1, (h4.block Y (blkLt hy2) fun e => by have := hvB Y e.symm; omega).trans hy2⟩, h3⟩, ?_, h2, fun e => by cases e⟩
    unfold R2; rw [if_pos hk]; exact h4
theorem rg_storeX (hk : k = kx) (hka : kx ≠ ka) (hXY : X ≠ Y) (hxB : X < B) (cells : Array Value) (ty : TypeId) (x y : Operand) (ho : o.op = .store ty x y) (hx : a.eval x = .pointer (some ⟨X, 0, none⟩)) (hy : a.eval y = .agg cells) (hi : (P.info? ty).map (·.size) = some cells.size) (h1 : cells.all (·.oneCell') = true) (hnx : cells.size = nx)
    (hs : sp k = some (fun _ _ u => u.heap[X]? = some (.cells cells TX (0, 0)))) (hw : Region.wanted o (yielded ops a.tmps) = true) (hdst : o.dst = none)
    (h : rLexL P md ops ⟨In (T2 w0 X Y nx ny TX TY v B e size m xs), R2 v X Y ka kx ky, sp, fun _ => false, N⟩ Q n l (k + 1) (a.put o.dst undef) (upd f k fun u => u.heap[X]? = some (.cells cells TX (0, 0)))) :
    rLexL P md ops ⟨In (T2 w0 X Y nx ny TX TY v B e size m xs), R2 v X Y ka kx ky, sp, fun _ => false, N⟩ Q (n + 1) (o :: l) k a f := by
  refine rLexL_spec (fun _ _ u => u.heap[X]? = some (.cells cells TX (0, 0))) hs hw ?_ (fun w hC hd => ?_) ?_
  · intro v' j w w' hj hCw _ hR hh
    have hvB : ∀ g, v.ownBlock = some g → B ≤ g := fun g e => (hCw.out.own.lt g e).1
    unfold R2 at hR
    split at hR
    · exact (hR.block X (blkLt hh) fun e => by have := hvB X e.symm; omega).trans hh
    · rw [if_neg (by omega)] at hR
      split at hR
      · exact (hR.block X (blkLt hh) (by simpa using hXY)).trans hh
      · exact (hR.block X (blkLt hh) (by simp)).trans hh
  · have hC' := hC.out
    obtain ⟨cx, hx1, hx2⟩ := hC'.bx
    obtain ⟨cy, hy1, hy2⟩ := hC'.byy
    unfold stepTo execOp
    simp only [ho, hx, hy, Instr.storeAt, Instr.sureAddr, Sem.run_bind, Sem.run_pure, Result.andThen_ok, run_storeVar_row (P := P) w X TX ty cx cells hx2 hi (by rw [hx1, hnx]) h1]
    have hg2 : w.grownBy (w.setRow X cells) (some X) := ⟨rfl, rfl, rfl, by simp [World.setRow], fun i hi hr => setRow_other w X i cells (fun e => hr (by rw [e]))⟩
    refine ⟨In.mk ⟨hC'.os, hC'.tape, hC'.output, Nat.le_trans hC'.sz hg2.size, fun i hi i1 i2 i3 => (setRow_other w X i cells i1).trans (hC'.block i hi i1 i2 i3), ⟨cells, hnx, setRow_heap w X cx cells TX _ hx2⟩, ⟨cy, hy1, (setRow_other w X Y cells (Ne.symm hXY)).trans hy2⟩, owns_keepp hC'.own hg2 hxB⟩, ?_, setRow_heap w X cx cells TX _ hx2, fun e => by cases e⟩
    unfold R2; rw [if_neg (by omega), if_pos hk]; exact hg2
  · intro v' w hC _
    rw [hdst] at h ⊢
    exact h
theorem rg_storeY (hk : k = ky) (hka : ky ≠ ka) (hkx : ky ≠ kx) (hXY : X ≠ Y) (hyB : Y < B) (cells : Array Value) (ty : TypeId) (x y : Operand) (ho : o.op = .store ty x y) (hx : a.eval x = .pointer (some ⟨Y, 0, none⟩)) (hy : a.eval y = .agg cells) (hi : (P.info? ty).map (·.size) = some cells.size) (h1 : cells.all (·.oneCell') = true) (hny : cells.size = ny)
    (hs : sp k = some (fun _ _ u => u.heap[Y]? = some (.cells cells TY (0, 0)))) (hw : Region.wanted o (yielded ops a.tmps) = true) (hdst : o.dst = none)
    (h : rLexL P md ops ⟨In (T2 w0 X Y nx ny TX TY v B e size m xs), R2 v X Y ka kx ky, sp, fun _ => false, N⟩ Q n l (k + 1) (a.put o.dst undef) (upd f k fun u => u.heap[Y]? = some (.cells cells TY (0, 0)))) :
    rLexL P md ops ⟨In (T2 w0 X Y nx ny TX TY v B e size m xs), R2 v X Y ka kx ky, sp, fun _ => false, N⟩ Q (n + 1) (o :: l) k a f := by
  refine rLexL_spec (fun _ _ u => u.heap[Y]? = some (.cells cells TY (0, 0))) hs hw ?_ (fun w hC hd => ?_) ?_
  · intro v' j w w' hj hCw _ hR hh
    have hvB : ∀ g, v.ownBlock = some g → B ≤ g := fun g e => (hCw.out.own.lt g e).1
    unfold R2 at hR
    split at hR
    · exact (hR.block Y (blkLt hh) fun e => by have := hvB Y e.symm; omega).trans hh
    · split at hR
      · exact (hR.block Y (blkLt hh) (by simpa using Ne.symm hXY)).trans hh
      · rw [if_neg (by omega)] at hR
        exact (hR.block Y (blkLt hh) (by simp)).trans hh
  · have hC' := hC.out
    obtain ⟨cx, hx1, hx2⟩ := hC'.bx
    obtain ⟨cy, hy1, hy2⟩ := hC'.byy
    unfold stepTo execOp
    simp only [ho, hx, hy, Instr.storeAt, Instr.sureAddr, Sem.run_bind, Sem.run_pure, Result.andThen_ok, run_storeVar_row (P := P) w Y TY ty cy cells hy2 hi (by rw [hy1, hny]) h1]
    have hg2 : w.grownBy (w.setRow Y cells) (some Y) := ⟨rfl, rfl, rfl, by simp [World.setRow], fun i hi hr => setRow_other w Y i cells (fun e => hr (by rw [e]))⟩
    refine ⟨In.mk ⟨hC'.os, hC'.tape, hC'.output, Nat.le_trans hC'.sz hg2.size, fun i hi i1 i2 i3 => (setRow_other w Y i cells i2).trans (hC'.block i hi i1 i2 i3), ⟨cx, hx1, (setRow_other w Y X cells hXY).trans hx2⟩, ⟨cells, hny, setRow_heap w Y cy cells TY _ hy2⟩, owns_keepp hC'.own hg2 hyB⟩, ?_, setRow_heap w Y cy cells TY _ hy2, fun e => by cases e⟩
    unfold R2; rw [if_neg (by omega), if_neg (by omega), if_pos hk]; exact hg2
  · intro v' w hC _
    rw [hdst] at h ⊢
    exact h
end
theorem Slb.keepH {B : Nat} {w w' : World} {v : Value} {xs : List Int} (h : Slb B w v xs) (hs : w.heap.size ≤ w'.heap.size) (hk : ∀ b off n c, v = .slice (some ⟨b, off, Option.none⟩) n c → 0 < n → w'.heap[b]? = w.heap[b]?) : Slb B w' v xs := by
  refine ⟨?_, h.nn, h.low, h.ty' hk⟩
  rcases h.sl with h1 | ⟨b, off, c, e, hb, h1, h2, hc⟩
  · exact .inl h1
  · refine .inr ⟨b, off, c, e, by omega, h1, h2, fun i hi => ?_⟩
    rw [← hc i hi]
    unfold World.cell?
    rw [hk b off xs.length c e (by omega)]
theorem Slb.cut {B b n cap : Nat} {w : World} {xs : List Int} (h : Slb B w (.slice (some ⟨b, 0, Option.none⟩) n cap) xs) {m k : Nat} (hm : m ≤ k) (hk : k ≤ n) : Slb B w (.slice (some ⟨b, m, Option.none⟩) (k - m) (cap - m)) ((xs.take k).drop m) := by
  obtain ⟨hs, -, hl, ht⟩ := h
  refine ⟨?_, fun k c e => by simp at e, fun b' off k c e h0 => by simp at e; exact hl b 0 n cap rfl (by omega) |> fun h => by omega, fun b' off k c e h0 => by
    simp at e
    obtain ⟨⟨rfl, -⟩, e2, -⟩ := e
    exact ht b 0 n cap rfl (by omega)⟩
  rcases hs with ⟨rfl, a, c, e⟩ | ⟨b', off', cap', e, hb, h1, h2, h3⟩
  · simp at e; obtain ⟨-, rfl, -⟩ := e
    obtain rfl : k = 0 := by omega
    obtain rfl : m = 0 := by omega
    exact .inl ⟨rfl, _, _, rfl⟩
  · simp at e; obtain ⟨⟨rfl, rfl⟩, rfl, rfl⟩ := e
    have hl : ((xs.take k).drop m).length = k - m := by simp; omega
    refine .inr ⟨_, _, _, by rw [hl], hb, by omega, by omega, fun j hj => ?_⟩
    rw [hl] at hj
    have := h3 (m + j) (by omega)
    rw [Nat.zero_add] at this
    rw [this, List.getElem?_drop, List.getElem?_take, if_pos (by omega)]
theorem Dc.keepH {B p : Nat} {w w' : World} (h : Dc B w p) (hs : w.heap.size ≤ w'.heap.size) (hk : ∀ b, b ≤ p → b < w.heap.size → w'.heap[b]? = w.heap[b]?) : Dc B w' p := by
  obtain ⟨v, xs, k, h0, h1, h2, h3, h4, h5⟩ := h
  refine ⟨v, xs, k, h0, (hk p (Nat.le_refl _) (blkLt h1)).trans h1, ?_, h3, h4, h5⟩
  rcases h2 with h2 | ⟨b, off, c, e, hb, c1, c2, hc⟩
  · exact .inl h2
  · by_cases hx : 0 < xs.length
    · refine .inr ⟨b, off, c, e, by omega, c1, c2, fun i hi => ?_⟩
      have hbB := h3 b off _ c e hx
      rw [← hc i hi]
      unfold World.cell?
      rw [hk b (by omega) hb]
    · refine .inl ⟨List.eq_nil_of_length_eq_zero (by omega), some ⟨b, off, none⟩, c, ?_⟩
      rw [e, show xs.length = 0 by omega]
theorem flatT_append (a b : List Tg) : flatT (a ++ b) = flatT a ++ flatT b := by simp [flatT]
theorem flatT_one (l : List Tg) : ∀ u ∈ flatT l, u.oneCell' = true := by
  intro u hu
  simp only [flatT, List.mem_flatMap] at hu
  obtain ⟨t, -, h⟩ := hu
  simp only [Tg.cells, List.mem_cons, List.not_mem_nil, or_false] at h
  rcases h with rfl | rfl | rfl <;> rfl
end Go.Proofs.YtlddgafbgaaiiaaGreatDoor
