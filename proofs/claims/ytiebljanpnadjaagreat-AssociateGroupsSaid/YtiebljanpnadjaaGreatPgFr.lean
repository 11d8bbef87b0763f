import Derived.Deep.MidRow
import Derived.Maps.AppendAt
import Derived.Test.YtiebljanpnadjaaGreatPgRes
namespace Go.Proofs.YtiebljanpnadjaaGreat
set_option linter.all false
open Go.RowKit Rg
def setL (cs : Array Value) (o : Nat) : List Value → Array Value
 | [] => cs
 | v :: vs => setL (cs.set! o v) (o + 1) vs
theorem setCells_block {T : TypeId} {fr : Nat × Nat} {b : Nat} : ∀ (vs : List Value) (w : World) (cs : Array Value) (o : Nat), w.heap[b]? = some (.cells cs T fr) → (w.setCells b o vs).heap[b]? = some (.cells (setL cs o vs) T fr)
 | [], w, cs, o, h => h
 | v :: vs, w, cs, o, h => setCells_block vs (w.setCell ⟨b, o, none⟩ v) (cs.set! o v) (o + 1) (set_block h o v)
theorem setCells_grown {w0 : World} {row : Option Nat} {b : Nat} : ∀ (vs : List Value) (w : World) (o : Nat), w0.grownBy w row → (w0.heap.size ≤ b ∨ row = some b) → w0.grownBy (w.setCells b o vs) row
 | [], w, o, h, _ => h
 | v :: vs, w, o, h, hb => setCells_grown vs (w.setCell ⟨b, o, none⟩ v) (o + 1) (gb_setCell h hb v) hb
theorem setCells_far {b b' : Nat} (hne : b' ≠ b) : ∀ (vs : List Value) (w : World) (o : Nat), (w.setCells b o vs).heap[b']? = w.heap[b']?
 | [], w, o => rfl
 | v :: vs, w, o => (setCells_far hne vs (w.setCell ⟨b, o, none⟩ v) (o + 1)).trans (setCell_far (a := ⟨b, o, none⟩) hne)
theorem there_of {w : World} {b : Nat} {cs : Array Value} {T : TypeId} (h : w.heap[b]? = some (.cells cs T (0, 0))) {o n : Nat} (hn : o + n ≤ cs.size) : w.there b o n := fun j hj => by
 constructor
 ·have : o + j < cs.size := by omega
  simp [World.cell?, h, this]
 ·simp [World.frozen?, h]
theorem wpList_part {P : Program} {ops : Array Oper} {rest : List Oper} {op : Oper} {a : Act} {w : World} {Q : Exit → Act → World → Prop} (hgd : op.guard = none) (ty : TypeId) (x y : Operand) (ho : op.op = .store ty x y)
  (b o : Nat) (cells : Array Value) (hx : a.eval x = .pointer (some ⟨b, o, none⟩)) (hy : a.eval y = .agg cells) {cs : Array Value} {T : TypeId} (hb : w.heap[b]? = some (.cells cs T (0, 0))) (cs' : Array Value) (hn : decide (o + cells.size ≤ cs.size) = true) (hcs : setL cs o cells.toList = cs')
  (hi : (P.info? ty).map (·.size) = some cells.size) (h1 : cells.all (·.oneCell') = true)
  (h : ∀ w', w'.heap[b]? = some (.cells cs' T (0, 0)) → (∀ b', b' ≠ b → w'.heap[b']? = w.heap[b']?) → w.grownBy w' (some b) → wpList P ops Q rest (a.put op.dst undef) w') : wpList P ops Q (op :: rest) a w :=
 wpList_store_mid hgd ty x y ho b o cells hx hy (there_of hb (of_decide_eq_true hn)) hi h1 (h _ (hcs ▸ setCells_block _ _ _ _ hb) (fun _ hne => setCells_far hne _ _ _) (setCells_grown _ _ _ (gb_refl _ _) (.inr rfl)))
theorem gb_new' {a b c : World} {row : Option Nat} {q : Nat} (h : a.grownBy b row) (k : b.grownBy c (some q)) (hq : a.heap.size ≤ q) : a.grownBy c row :=
 ⟨k.os.trans h.os, k.tape.trans h.tape, k.output.trans h.output, Nat.le_trans h.size k.size,
  fun i hi hr => (k.block i (Nat.lt_of_lt_of_le hi h.size) (fun e => by simp at e; omega)).trans (h.block i hi hr)⟩
def setLL (xs : List Value) (o : Nat) : List Value → List Value
 | [] => xs
 | v :: vs => setLL (xs.set o v) (o + 1) vs
theorem owns_setCells {base size g n cap : Nat} {e : TypeId} : ∀ (vs : List Value) (w : World) (o : Nat) (xs : List Value), w.ownsRow base e size (.slice (some ⟨g, 0, none⟩) n cap) n xs → (w.setCells g o vs).ownsRow base e size (.slice (some ⟨g, 0, none⟩) n cap) n (setLL xs o vs)
 | [], _, _, _, h => h
 | v :: vs, w, o, xs, h => owns_setCells vs (w.setCell ⟨g, o, none⟩ v) (o + 1) (xs.set o v) (h.stored o v).1
theorem setLL_cons (y : Value) : ∀ (vs r : List Value) (o : Nat), setLL (y :: r) (o + 1) vs = y :: setLL r o vs
 | [], _, _ => rfl
 | v :: vs, r, o => setLL_cons y vs (r.set o v) (o + 1)
theorem setLL_append (vs : List Value) : ∀ (p r : List Value) (o : Nat), setLL (p ++ r) (p.length + o) vs = p ++ setLL r o vs
 | [], r, o => by simp
 | y :: p, r, o => by
  rw [List.cons_append, show (y :: p).length + o = (p.length + o) + 1 by simp; omega, setLL_cons, setLL_append vs p r o]; rfl
theorem SlC.apart_lt {k n : Nat} {u : World} {v : Value} {ys : List Value} {p : Nat} (h : SlC k u v n ys) (hp : u.heap.size ≤ p) : Apart p v := by
 rcases h.2 with ⟨rfl, a, c, rfl⟩ | ⟨b, off, cap, rfl, hb, -⟩
 ·intro b' off' len cap' e hl
  simp at e; omega
 ·intro b' off' len cap' e hl
  simp at e; omega
def zsOf (E : Int) (zs : List Zn) : List Zn := if E = 0 then zs else []
def ZnA (E : Int) (zs : List Zn) (w : World) (e : Ending) (w' : World) : Prop := ∃ v, e = .returned (.tuple #[v, E]) ∧ SlC 2 w' v zs.length (flatZ zs) ∧ w.grownBy w' none
theorem Zoned.any {w : World} {E : Int} {zs : List Zn} {e : Ending} {w' : World} (h : Zoned w E zs e w') : ZnA E (zsOf E zs) w e w' := by
 rcases h with ⟨rfl, v, rfl, h1, -, h2⟩ | ⟨h0, rfl, h2⟩
 ·exact ⟨v, rfl, by simpa [zsOf] using h1, h2⟩
 ·refine ⟨_, rfl, ?_, h2⟩
  rw [show zsOf E zs = [] by simp [zsOf, h0]]
  exact ⟨rfl, .inl ⟨rfl, none, 0, rfl⟩⟩
def resE (E t : Int) : Int := if E ≠ 0 then E else if t < -18014398509481984 ∨ 18014398509481984 < t then 2 else 0
def resX (E t : Int) (zs : List Zn) : List Int := if resE E t = 0 then resL zs t else []
def RsA (E : Int) (xs : List Int) (w : World) (e : Ending) (w' : World) : Prop := ∃ v, e = .returned (.tuple #[v, E]) ∧ Sl w' v xs ∧ w.grownBy w' none
theorem Residd.any {w : World} {E t : Int} {zs : List Zn} {e : Ending} {w' : World} (h : Residd w E zs t e w') : RsA (resE E t) (resX E t zs) w e w' := by
 obtain ⟨hg, ⟨h0, rfl⟩ | ⟨rfl, h1, rfl⟩ | ⟨rfl, h1, v, rfl, h2⟩⟩ := h
 ·have e : resE E t = E := by simp [resE, h0]
  refine ⟨_, by rw [e], ?_, hg⟩
  rw [show resX E t zs = [] by simp [resX, e, h0]]
  exact .inl ⟨rfl, _, _, rfl⟩
 ·have e : resE 0 t = 2 := by simp [resE, h1]
  refine ⟨_, by rw [e], ?_, hg⟩
  rw [show resX 0 t zs = [] by simp [resX, e]]
  exact .inl ⟨rfl, _, _, rfl⟩
 ·have e : resE 0 t = 0 := by
   unfold resE; simp; omega
  refine ⟨v, by rw [e], ?_, hg⟩
  rw [show resX 0 t zs = resL zs t by simp [resX, e]]
  exact h2
theorem cells11 {w : World} {b : Nat} {v0 v1 v2 v3 v4 v5 v6 v7 v8 v9 v10 : Value} {t : TypeId} {fr : Nat × Nat} (h : w.heap[b]? = some (.cells #[v0, v1, v2, v3, v4, v5, v6, v7, v8, v9, v10] t fr)) :
  w.cell? ⟨b, 0, none⟩ = some v0 ∧ w.cell? ⟨b, 1, none⟩ = some v1 ∧ w.cell? ⟨b, 2, none⟩ = some v2 ∧ w.cell? ⟨b, 3, none⟩ = some v3 ∧ w.cell? ⟨b, 4, none⟩ = some v4 ∧ w.cell? ⟨b, 5, none⟩ = some v5 ∧ w.cell? ⟨b, 6, none⟩ = some v6 ∧ w.cell? ⟨b, 7, none⟩ = some v7 ∧ w.cell? ⟨b, 8, none⟩ = some v8 ∧ w.cell? ⟨b, 9, none⟩ = some v9 ∧ w.cell? ⟨b, 10, none⟩ = some v10 := by simp [World.cell?, h]
section
end
structure Loc where
 px : Int
 py : Int
 pz : Int
 t : Int
 m : Int
 l : Int
 a0 : Int
 a1 : Int
 a2 : Int
 a3 : Int
 a4 : Int
 a5 : Int
def Loc.val (x : Loc) : Array Value := #[.int .i64 x.px, .int .i64 x.py, .int .i64 x.pz, .int .i64 x.t, .int .i64 x.m, .int .i64 x.l, .int .i64 x.a0, .int .i64 x.a1, .int .i64 x.a2, .int .i64 x.a3, .int .i64 x.a4, .int .i64 x.a5]
theorem cells12 {w : World} {b : Nat} {v0 v1 v2 v3 v4 v5 v6 v7 v8 v9 v10 v11 : Value} {t : TypeId} {fr : Nat × Nat} (h : w.heap[b]? = some (.cells #[v0, v1, v2, v3, v4, v5, v6, v7, v8, v9, v10, v11] t fr)) :
  w.cell? ⟨b, 0, none⟩ = some v0 ∧ w.cell? ⟨b, 1, none⟩ = some v1 ∧ w.cell? ⟨b, 2, none⟩ = some v2 ∧ w.cell? ⟨b, 3, none⟩ = some v3 ∧ w.cell? ⟨b, 4, none⟩ = some v4 ∧ w.cell? ⟨b, 5, none⟩ = some v5 ∧ w.cell? ⟨b, 6, none⟩ = some v6 ∧ w.cell? ⟨b, 7, none⟩ = some v7 ∧ w.cell? ⟨b, 8, none⟩ = some v8 ∧ w.cell? ⟨b, 9, none⟩ = some v9 ∧ w.cell? ⟨b, 10, none⟩ = some v10 ∧ w.cell? ⟨b, 11, none⟩ = some v11 := by simp [World.cell?, h]
def bdE (P : Prob) (b0 b1 b2 b3 b4 b5 : Int) : Int := zonesE P b0 b1 b2 b3 b4 b5
def bdC (P : Prob) (b0 b1 b2 b3 b4 b5 : Int) : Int := if zonesE P b0 b1 b2 b3 b4 b5 = 0 then (best P.cap P.phs (zonesL P b0 b1 b2 b3 b4 b5)).2 else 0
theorem bdV_eq (P : Prob) (b0 b1 b2 b3 b4 b5 : Int) : bdV P b0 b1 b2 b3 b4 b5 = .tuple #[.int .i64 (bdC P b0 b1 b2 b3 b4 b5), .int .i64 (bdE P b0 b1 b2 b3 b4 b5)] := by
 unfold bdV bdC bdE; split
 ·rename_i h; rw [h]
 ·rfl
def atT (P : Prob) (x y z : Int) : Int := if zonesE P x y z x y z = 0 then (best P.cap P.phs (zonesL P x y z x y z)).1 else 0
theorem atV_eq (P : Prob) (x y z : Int) : atV P x y z = .tuple #[.int .i64 (atT P x y z), .int .i64 (bdC P x y z x y z), .int .i64 (bdE P x y z x y z)] := by
 unfold atV atT bdC bdE; split
 ·rename_i h; rw [h]
 ·rfl
theorem wpList_pushAt {P : Program} {w : World} {ops : Array Oper} {rest : List Oper} {o : Oper} {a : Act} {Q : Exit → Act → World → Prop} (hgd : o.guard = none) (s x : Operand) (t : TypeId)
  (ho : o.op = .call { callee := .builtin .append, args := #[s, x], argTypes := #[t, t] })
  (base : Nat) (e : TypeId) (z : Value) (size bytes : Nat) (ht : P.underlying t = some (.slice e)) (hinfo : (P.info? e).map (fun i => (i.zero, i.size, i.bytes)) = some (some z, size, bytes)) (hzs : z.cells.size = size) (hsz : 0 < size) (hby : 0 < bytes)
  (v : Value) (n : Nat) (xs : List Value) (hs : a.eval s = v) (hown : w.ownsRow base e size v n xs)
  (b c : Nat) (news : List Value) (e' : TypeId) (hx : a.eval x = .slice (some ⟨b, 0, none⟩) 1 c) (hblk : w.heap[b]? = some (.cells news.toArray e' (0, 0))) (hl : news.length = size) (h1 : ∀ u ∈ news, u.oneCell' = true)
  (hbytes : (n + 1) * bytes ≤ 140737488355328) (hbase : base ≤ w.heap.size)
  (h : ∀ v' w', w'.ownsRow base e size v' (n + 1) (xs ++ news) → w.grownBy w' v.ownBlock → (v'.ownBlock = v.ownBlock ∨ v'.ownBlock = some w.heap.size) → wpList P ops Q rest (a.put o.dst v') w') : wpList P ops Q (o :: rest) a w := by
 obtain ⟨i0, hi, hz0, hz1, hz2⟩ := info_parts hinfo
 refine wpList_append_own_at w hgd s x t ho base e i0 z size bytes ht hi hz0 hz1 hz2 hzs hsz v n xs hs hown ⟨b, 0, none⟩ 1 c news hx (by omega) ?_ h1 ?_ hbytes hbase (fun v' w' h2 h3 _ h4 => h v' w' h2 h3 h4)
 ·intro j u hj
  have hadd : (⟨b, 0, none⟩ : Addr).add j = ⟨b, j, none⟩ := by unfold Addr.add; split <;> simp_all
  rw [hadd]
  simp [World.cell?, hblk]
  exact hj
 ·have := Nat.le_mul_of_pos_right (n + 1) hby
  simp only [maxLen]; omega
theorem wpList_pushesAt {P : Program} {w : World} {ops : Array Oper} {rest : List Oper} {o : Oper} {a : Act} {Q : Exit → Act → World → Prop} (hgd : o.guard = none) (s x : Operand) (t : TypeId)
  (ho : o.op = .call { callee := .builtin .append, args := #[s, x], argTypes := #[t, t] })
  (base : Nat) (e : TypeId) (z : Value) (size bytes : Nat) (ht : P.underlying t = some (.slice e)) (hinfo : (P.info? e).map (fun i => (i.zero, i.size, i.bytes)) = some (some z, size, bytes)) (hzs : z.cells.size = size) (hsz : 0 < size) (hby : 0 < bytes)
  (v : Value) (n : Nat) (xs : List Value) (hs : a.eval s = v) (hown : w.ownsRow base e size v n xs)
  (b m c : Nat) (news : List Value) (e' : TypeId) (hx : a.eval x = .slice (some ⟨b, 0, none⟩) m c) (hblk : w.heap[b]? = some (.cells news.toArray e' (0, 0))) (hl : news.length = m * size) (h1 : ∀ u ∈ news, u.oneCell' = true)
  (hbytes : (n + m) * bytes ≤ 140737488355328) (hbase : base ≤ w.heap.size)
  (h : ∀ v' w', w'.ownsRow base e size v' (n + m) (xs ++ news) → w.grownBy w' v.ownBlock → (v'.ownBlock = v.ownBlock ∨ v'.ownBlock = some w.heap.size) → wpList P ops Q rest (a.put o.dst v') w') : wpList P ops Q (o :: rest) a w := by
 obtain ⟨i0, hi, hz0, hz1, hz2⟩ := info_parts hinfo
 refine wpList_append_own_at w hgd s x t ho base e i0 z size bytes ht hi hz0 hz1 hz2 hzs hsz v n xs hs hown ⟨b, 0, none⟩ m c news hx hl ?_ h1 ?_ hbytes hbase (fun v' w' h2 h3 _ h4 => h v' w' h2 h3 h4)
 ·intro j u hj
  have hadd : (⟨b, 0, none⟩ : Addr).add j = ⟨b, j, none⟩ := by unfold Addr.add; split <;> simp_all
  rw [hadd]
  simp [World.cell?, hblk]
  exact hj
 ·have := Nat.le_mul_of_pos_right (n + m) hby
  simp only [maxLen]; omega
structure Fr (O : Nat) (v v' : Value) (u u' : World) : Prop where
 os : u'.os = u.os
 tape : u'.tape = u.tape
 output : u'.output = u.output
 size : u.heap.size ≤ u'.heap.size
 block : ∀ k, k < u.heap.size → k ≠ O → some k ≠ v.ownBlock → u'.heap[k]? = u.heap[k]?
 own : ∀ k, v'.ownBlock = some k → v.ownBlock = some k ∨ u.heap.size ≤ k
theorem Fr.gb {O : Nat} {v : Value} {u u' : World} (h : u.grownBy u' none) : Fr O v v u u' := ⟨h.os, h.tape, h.output, h.size, fun k hk _ _ => h.block k hk (by simp), fun _ e => .inl e⟩
theorem Fr.trans {O : Nat} {v v' v'' : Value} {u u' u'' : World} (h : Fr O v v' u u') (k : Fr O v' v'' u' u'') : Fr O v v'' u u'' := by
 refine ⟨k.os.trans h.os, k.tape.trans h.tape, k.output.trans h.output, Nat.le_trans h.size k.size, fun b hb hO ho => ?_, fun b e => ?_⟩
 ·rw [k.block b (Nat.lt_of_lt_of_le hb h.size) hO (fun e => ?_), h.block b hb hO ho]
  rcases h.own b e.symm with h1 | h1
  ·exact ho h1.symm
  ·omega
 ·have hs := h.size
  rcases k.own b e with h1 | h1
  ·exact h.own b h1
  ·exact .inr (by omega)
structure OutAt (O B : Nat) (u : World) (v : Value) (l : List Int) : Prop where
 o : u.heap[O]? = some (.cells #[v] 26 (0, 0))
 own : u.ownsRow B 3 1 v l.length (l.map (Value.int .i64))
 lt : O < B
 le : B ≤ u.heap.size
theorem OutAt.keep {O B : Nat} {u u' : World} {v : Value} {l : List Int} (h : OutAt O B u v l) (hg : u.grownBy u' none) : OutAt O B u' v l := ⟨block_kept hg h.o rfl, owns_keep h.own hg, h.lt, Nat.le_trans h.le hg.size⟩
theorem OutAt.ne {O B : Nat} {u : World} {v : Value} {l : List Int} (h : OutAt O B u v l) {k : Nat} (hk : k < B) : some k ≠ v.ownBlock := fun e => by have := (h.own.lt k e.symm).1; omega
theorem Fr.all {O B : Nat} {v v' : Value} {u u' w0 : World} {l : List Int} (h : Fr O v v' u u') (ho : OutAt O B u v l) (hg : w0.grownBy u none) (hO : w0.heap.size ≤ O) : w0.grownBy u' none :=
 ⟨h.os.trans hg.os, h.tape.trans hg.tape, h.output.trans hg.output, Nat.le_trans hg.size h.size, fun k hk _ => by
  have := ho.lt
  have hs := hg.size
  rw [h.block k (by omega) (by omega) (ho.ne (by omega)), hg.block k hk (by simp)]⟩
theorem Fr.kept {O B : Nat} {v v' : Value} {u u' : World} {l : List Int} (h : Fr O v v' u u') (ho : OutAt O B u v l) {b : Nat} {x : Obj} (hb : u.heap[b]? = some x) (hO : b ≠ O) (hB : b < B) : u'.heap[b]? = some x :=
 (h.block b (block_lt' hb) hO (ho.ne hB)).trans hb
end Go.Proofs.YtiebljanpnadjaaGreat
