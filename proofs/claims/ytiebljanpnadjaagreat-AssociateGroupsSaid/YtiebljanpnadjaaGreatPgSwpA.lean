import Derived.Deep.Upon
import Derived.Test.YtiebljanpnadjaaGreatPgAsY
import Derived.Test.YtiebljanpnadjaaGreatPgAsH
import Derived.Test.YtiebljanpnadjaaGreatPgSrP
namespace Go.Proofs.YtiebljanpnadjaaGreat
set_option linter.all false
open Go.RowKit Rg
theorem memOf_sub {A : Asc} {P : List Ph} {W : List Nat} {X : Loc} : (memOf A P W X).Sublist W := List.filter_sublist
theorem oA_lt {P : List Ph} {i : Nat} (h : i < P.length) : oA P i < P.length := by
 have hi : i < (ordA P).length := by rw [ordA_length]; exact h
 have e : oA P i = (ordA P)[i] := by unfold oA; rw [List.getElem?_eq_getElem hi]; rfl
 rw [e]; exact ordA_lt (List.getElem_mem hi)
theorem oA_inj {P : List Ph} {i k : Nat} (h : i < P.length) (h2 : k < P.length) (e : oA P i = oA P k) : i = k := by
 have hi : i < (ordA P).length := by rw [ordA_length]; exact h
 have hk : k < (ordA P).length := by rw [ordA_length]; exact h2
 have e1 : oA P i = (ordA P)[i] := by unfold oA; rw [List.getElem?_eq_getElem hi]; rfl
 have e2 : oA P k = (ordA P)[k] := by unfold oA; rw [List.getElem?_eq_getElem hk]; rfl
 have hn : (ordA P).Nodup := (ordA_perm P).nodup_iff.2 List.nodup_range
 rw [e1, e2] at e
 exact (List.getElem_inj hn).1 e
theorem takeWhile_congr {α : Type} {p q : α → Bool} {l : List α} (h : ∀ x ∈ l, p x = q x) : l.takeWhile p = l.takeWhile q := by
 induction l with
 | nil => rfl
 | cons a l ih => rw [List.takeWhile_cons, List.takeWhile_cons, h a (List.mem_cons_self ..), ih (fun x hx => h x (List.mem_cons_of_mem _ hx))]
section
variable {A : Asc} {P R : List Ph} {d : Nat} {T : List Nat}
theorem elA_phO (P : List Ph) (i : Nat) : elA P i = (phO P i).e := rfl
end
theorem Good.time {P : Prob} (h : Good P) {x y z : Int} (hw : wiP x y z x y z P.x0 P.y0 P.z0 P.x1 P.y1 P.z1 = true) : -4000000000000 ≤ tt P x y z ∧ tt P x y z ≤ 4000000000000 := by
 obtain ⟨-, hm, -⟩ := best_spec (cap := P.cap) (phs := P.phs) (zs := zonesL P x y z x y z) (by rw [zonesL_length]; exact h.sound.some.1)
 obtain ⟨q, hq, e⟩ := mem_timesOf.1 hm
 unfold zonesL at hq
 obtain ⟨a, ha, rfl⟩ := List.mem_map.1 hq
 have hN := ((h.near a ha).within hw).1
 obtain ⟨-, e1, e2⟩ := hN.zE (h.ph a ha).ok
 obtain ⟨n0, n1, n2⟩ := far_small hN.vb hN.vp
 have tb := time_bounds hN.ok n0 (by omega) (Int.le_trans (ceilI_mono n0 n1) hN.reach)
 have tb2 := time_bounds hN.ok (by omega : 0 ≤ farD x y z x y z a.x a.y a.z) (by omega) hN.reach
 have hg := h.ph a ha
 have hg1 := hg.2.1; have hg2 := hg.2.2.1; have hg3 := hg.2.2.2.1
 unfold tt
 rcases e with e | e
 ·rw [e]; show _ ≤ znF _ _ _ _ _ _ _ _ _ _ _ _ _ _ _ ∧ znF _ _ _ _ _ _ _ _ _ _ _ _ _ _ _ ≤ _; rw [e1]; omega
 ·rw [e]; show _ ≤ znT _ _ _ _ _ _ _ _ _ _ _ _ _ _ _ ∧ znT _ _ _ _ _ _ _ _ _ _ _ _ _ _ _ ≤ _; rw [e2]; omega
theorem phO_mem {P : List Ph} {i : Nat} (h : i < P.length) : phO P i ∈ P := by
 have h2 := oA_lt h
 have e : phO P i = P[oA P i] := by show phA P (oA P i) = _; unfold phA; rw [List.getElem?_eq_getElem h2]; rfl
 rw [e]; exact List.getElem_mem h2
theorem AscGood.good {side : Int} {A : Asc} {P : List Ph} (h : AscGood side A) (hs : side ≤ 40) (hp : ∀ a ∈ P, goodPh a) {W : List Nat} (h0 : 0 < W.length) (h1 : W.length ≤ 16) (hW : ∀ i ∈ W, i < P.length) : Good (A.prob (W.map (phO P))) := by
 refine good_mk (P := A.prob (W.map (phO P))) h.box hs h.tab (reach_small h.tab.1 h.st h.rea h.len).1 ?_ ?_ ?_ ?_
 ·show A.cap ∈ _
  rcases h.cap with e | e | e <;> rw [e] <;> simp
 ·show 0 < (W.map (phO P)).length
  simpa using h0
 ·show ((W.map (phO P)).length : Int) ≤ 30
  rw [List.length_map]; omega
 ·intro a ha
  obtain ⟨i, hi, rfl⟩ := List.mem_map.1 ha
  exact hp _ (phO_mem (hW i hi))
theorem AscGood.tolb {side : Int} {A : Asc} (h : AscGood side A) : 0 ≤ A.tol ∧ A.tol ≤ 1000000 := by
 rcases h.tol with e | e | e | e <;> omega
theorem AscGood.avE {side : Int} {A : Asc} {P : List Ph} (h : AscGood side A) (hs : side ≤ 8) (hp : ∀ a ∈ P, goodPh a) (hl : P.length ≤ 30) : avE A P = 0 := by
 have hb := boxIn_ok h.box (by omega) (by omega)
 have hok : A.ok = true := by
  unfold Asc.ok
  have t := h.tolb; have l := h.least
  have e1 : inI A.cap 1 1099511627776 = true := inI_iff.2 (by have := h.cap; omega)
  have e2 : inI A.tol 0 1099511627776 = true := inI_iff.2 (by omega)
  have e3 : inI A.lim 0 1099511627776 = true := inI_iff.2 (by have := h.lim; omega)
  have e4 : inI A.span 0 1099511627776 = true := inI_iff.2 (by have := h.span; omega)
  have e5 : inI A.least 2 16 = true := inI_iff.2 (by omega)
  have e6 : tE A.st A.ls A.hs = 0 := by unfold tE; simp [h.tab]
  rw [hb, e1, e2, e3, e4, e5, e6]; rfl
 unfold Go.Proofs.YtiebljanpnadjaaGreat.avE
 rw [if_neg (by rw [hok]; decide), if_neg (by omega)]
 refine errOf_zero.2 fun a ha => ?_
 exact ((near_mk h.tab (reach_small h.tab.1 h.st h.rea h.len).1 h.box (hp a ha).1 (by omega) (by omega) (by omega)).zE (hp a ha).ok).1
section
end
def Grp.add (d : Int) (g : Grp) : Grp := ⟨g.ms.map (· + d), g.x, g.y, g.z, g.t⟩
section
variable {b0 : Nat} {u u' : World} {L : List Grv} {gv lv : Value} {LF : List Int}
theorem GsOwn.gin (h : GsOwn b0 u L gv lv LF) : GrIn u gv L := ⟨SlC.of_owns h.gr, fun x hx => (h.ms x hx).1⟩
theorem GsOwn.push {x : Grv} {gv' : Value} (h : GsOwn b0 u L gv lv LF) (hown : u'.ownsRow b0 53 5 gv' (L.length + 1) (flatG L ++ x.cells)) (hg : u.grownBy u' gv.ownBlock) (hv : gv'.ownBlock = gv.ownBlock ∨ gv'.ownBlock = some u.heap.size)
  (hm : Sl u x.mv x.g.ms) (hmb : ∀ b off len cap, x.mv = .slice (some ⟨b, off, none⟩) len cap → b0 ≤ b ∧ b < u.heap.size ∧ gv.ownBlock ≠ some b ∧ lv.ownBlock ≠ some b) : GsOwn b0 u' (L ++ [x]) gv' lv LF := by
 have tap : ∀ y : Grv, (Sl u y.mv y.g.ms ∧ ∀ b off len cap, y.mv = .slice (some ⟨b, off, none⟩) len cap → b0 ≤ b ∧ b < u.heap.size ∧ gv.ownBlock ≠ some b ∧ lv.ownBlock ≠ some b) → (Sl u' y.mv y.g.ms ∧ ∀ b off len cap, y.mv = .slice (some ⟨b, off, none⟩) len cap → b0 ≤ b ∧ b < u'.heap.size ∧ gv'.ownBlock ≠ some b ∧ lv.ownBlock ≠ some b) := by
  rintro y ⟨t1, t2⟩
  refine ⟨t1.later hg (fun b off len cap e _ e2 => (t2 b off len cap e).2.2.1 e2.symm), fun b off len cap e => ?_⟩
  obtain ⟨a1, a2, a3, a4⟩ := t2 b off len cap e
  refine ⟨a1, Nat.lt_of_lt_of_le a2 hg.size, fun e2 => ?_, a4⟩
  rcases hv with hv | hv
  ·exact a3 (hv ▸ e2)
  ·rw [hv] at e2; simp at e2; omega
 refine ⟨by rw [flatG_snoc, List.length_append, List.length_singleton]; exact hown, ?_, fun y hy => ?_, fun g e e2 => ?_⟩
 ·refine h.lr.kept hg ?_
  cases hb : lv.ownBlock with
  | none => exact .inl rfl
  | some g => exact .inr (fun e => h.ap g e.symm hb)
 ·rcases List.mem_append.1 hy with hy | hy
  ·exact tap y (h.ms y hy)
  ·simp only [List.mem_singleton] at hy; subst hy; exact tap y ⟨hm, hmb⟩
 ·rcases hv with hv | hv
  ·exact h.ap g (hv ▸ e) e2
  ·rw [hv] at e; simp at e; have := (h.lr.lt g e2).2; omega
theorem GsOwn.left {x : Int} {lv' : Value} (h : GsOwn b0 u L gv lv LF) (hown : u'.ownsRow b0 3 1 lv' (LF.length + 1) (LF.map (Value.int .i64) ++ [.int .i64 x])) (hg : u.grownBy u' lv.ownBlock) (hv : lv'.ownBlock = lv.ownBlock ∨ lv'.ownBlock = some u.heap.size) : GsOwn b0 u' L gv lv' (LF ++ [x]) := by
 refine ⟨?_, by rw [List.length_append, List.length_singleton, List.map_append]; exact hown, fun y hy => ?_, fun g e e2 => ?_⟩
 ·refine h.gr.kept hg ?_
  cases hb : gv.ownBlock with
  | none => exact .inl rfl
  | some g => exact .inr (fun e => h.ap g hb e.symm)
 ·obtain ⟨t1, t2⟩ := h.ms y hy
  refine ⟨t1.later hg (fun b off len cap e _ e2 => (t2 b off len cap e).2.2.2 e2.symm), fun b off len cap e => ?_⟩
  obtain ⟨a1, a2, a3, a4⟩ := t2 b off len cap e
  refine ⟨a1, Nat.lt_of_lt_of_le a2 hg.size, a3, fun e2 => ?_⟩
  rcases hv with hv | hv
  ·exact a4 (hv ▸ e2)
  ·rw [hv] at e2; simp at e2; omega
 ·rcases hv with hv | hv
  ·exact h.ap g e (hv ▸ e2)
  ·rw [hv] at e2; simp at e2; have := (h.gr.lt g e).2; omega
theorem GsOwn.far {row : Option Nat} (h : GsOwn b0 u L gv lv LF) (hg : u.grownBy u' row) (hr : ∀ q, row = some q → q < b0) : GsOwn b0 u' L gv lv LF := by
 have ne : ∀ v : Value, (∀ b, v.ownBlock = some b → b0 ≤ b) → v.ownBlock = none ∨ v.ownBlock ≠ row := fun v hv => by
  cases e : v.ownBlock with
  | none => exact .inl rfl
  | some b => exact .inr (fun e2 => by have := hv b e; have := hr b e2.symm; omega)
 refine ⟨h.gr.kept hg (ne gv fun b e => (h.gr.lt b e).1), h.lr.kept hg (ne lv fun b e => (h.lr.lt b e).1), fun x hx => ?_, h.ap⟩
 obtain ⟨t1, t2⟩ := h.ms x hx
 refine ⟨t1.later hg (fun b off len cap e _ e2 => by have := (t2 b off len cap e).1; have := hr b e2.symm; omega), fun b off len cap e => ?_⟩
 obtain ⟨a1, a2, a3, a4⟩ := t2 b off len cap e
 exact ⟨a1, Nat.lt_of_lt_of_le a2 hg.size, a3, a4⟩
end
theorem GsOwn.mono {b0 b1 : Nat} {u : World} {L : List Grv} {gv lv : Value} {LF : List Int} (h : GsOwn b0 u L gv lv LF) (hb : b1 ≤ b0) : GsOwn b1 u L gv lv LF :=
 ⟨owns_mono h.gr hb, owns_mono h.lr hb, fun x hx => ⟨(h.ms x hx).1, fun b off len cap e => by obtain ⟨a1, a2⟩ := (h.ms x hx).2 b off len cap e; exact ⟨by omega, a2⟩⟩, h.ap⟩
section
variable {ops : Array Oper} {md : Region.Mode} {w0 : World} {B p : Nat} {sp : Nat → Option (List Value → Value → World → Prop)} {al : Nat → Bool} {N : Nat} {Q : List Oper → Act → Facts → Prop} {n k : Nat} {o : Oper} {l : List Oper} {a : Act} {f : Facts}
theorem rg_load14P (x : Operand) (b : Nat) (cs : Array Value) (T : TypeId) (hb : w0.heap[b]? = some (.cells cs T (0, 0))) (hbp : b ≠ p) (hsz : cs.size = 14) (hs : sp k = some (isV (.agg cs))) (hw : Region.wanted o (yielded ops a.tmps) = true) (hal : al k = false) (ho : o.op = .load 30 x) (hx : a.eval x = .pointer (some ⟨b, 0, none⟩))
  (h : rLexL Tryz.prog md ops ⟨In (Pulled w0 B p), Pull p, sp, al, N⟩ Q n l (k + 1) (a.put o.dst (.agg cs)) (upd f k fun _ => Value.agg cs = Value.agg cs)) : rLexL Tryz.prog md ops ⟨In (Pulled w0 B p), Pull p, sp, al, N⟩ Q (n + 1) (o :: l) k a f := by
 obtain ⟨d, h1, h2⟩ := asDesc
 have hrun : ∀ w, Pulled w0 B p w → (execOp a.eval o).run Tryz.prog w = .ok (.value (.agg cs)) w := fun w hw' => by
  unfold execOp
  simp only [ho, hx, Instr.loadAt, Instr.sureAddr, Sem.run_bind, Sem.run_pure, Result.andThen_ok, run_loadVar_mid w b 0 30 cs.toList d (range14 (block_keptp hw'.1 hb hbp)) h1 h2 (by rw [asInfo, Array.length_toList, hsz]), Array.toArray_toList]
 refine rLexL_spec (isV (.agg cs)) hs hw (fun v j w w' _ _ _ _ h => h) (fun w hC hd => stepTo_run (hrun w hC.out) ?_) ?_
 ·exact ⟨hC, gb_refl _ _, rfl, fun e => by rw [hal] at e; cases e⟩
 ·rintro v w hC rfl
  exact h
end
section
end
section LMisM
section LMisM
open Go.RowKit Rg
def Prob.more (P : Prob) (a : Ph) : Prob := { P with phs := P.phs ++ [a] }
theorem Good.more {P : Prob} (h : Good P) {a : Ph} (ha : goodPh a) (hn : Near P.step P.ls P.hs P.x0 P.y0 P.z0 P.x1 P.y1 P.z1 a.x a.y a.z) (hl : P.phs.length ≤ 30) : Good (P.more a) := by
 have hmem : ∀ b ∈ (P.more a).phs, b ∈ P.phs ∨ b = a := fun b hb => by simpa [Prob.more] using hb
 refine ⟨⟨h.sound.vb, h.sound.ok, by simp [Prob.more]; omega, h.sound.cap, fun b hb => ?_⟩, fun b hb => ?_, fun b hb => ?_⟩
 ·rcases hmem b hb with hb | rfl
  ·exact h.sound.ph b hb
  ·exact (hn.zE ha.ok).1
 ·rcases hmem b hb with hb | rfl
  ·exact h.near b hb
  ·exact hn
 ·rcases hmem b hb with hb | rfl
  ·exact h.ph b hb
  ·exact ha
end LMisM
end LMisM
section LMisS
section LMisS
open Go.RowKit Rg
end LMisS
end LMisS
section LReP
open Go.RowKit Rg
structure PrRe (w : World) (Q : Nat) (x0 y0 z0 x1 y1 z1 step : Int) (vl vh : Value) (cap : Int) (l : List Ph) (vq : Value) (u : World) : Prop where
 prob : u.heap[Q]? = some (.cells #[x0, y0, z0, x1, y1, z1, step, vl, vh, vq, cap] 83 (0, 0))
 own : u.ownsRow (Q + 1) 51 6 vq l.length (flatP l)
 gr : w.grownBy u none
 new : w.heap.size ≤ Q
section
variable {w : World} {Q : Nat} {x0 y0 z0 x1 y1 z1 step : Int} {vl vh : Value} {cap : Int} {l : List Ph} {vq : Value} {u u' : World}
theorem PrRe.lt (h : PrRe w Q x0 y0 z0 x1 y1 z1 step vl vh cap l vq u) : Q < u.heap.size := block_lt' h.prob
theorem PrRe.later (h : PrRe w Q x0 y0 z0 x1 y1 z1 step vl vh cap l vq u) (hg : u.grownBy u' none) : PrRe w Q x0 y0 z0 x1 y1 z1 step vl vh cap l vq u' :=
 ⟨block_kept hg h.prob rfl, owns_keep h.own hg, gb_trans h.gr hg, h.new⟩
theorem PrRe.draw {p : Nat} (h : PrRe w Q x0 y0 z0 x1 y1 z1 step vl vh cap l vq u) (hg : u.grownBy u' (some p)) (hp : p < Q) (hw : w.heap.size ≤ p) : PrRe w Q x0 y0 z0 x1 y1 z1 step vl vh cap l vq u' :=
 ⟨block_keptp hg h.prob (by omega), owns_keepp h.own hg (by omega), gb_new h.gr hg (by simpa using hw), h.new⟩
theorem PrRe.other {a : Nat} (h : PrRe w Q x0 y0 z0 x1 y1 z1 step vl vh cap l vq u) (hg : u.grownBy u' (some a)) (ha : Q < a) (hv : vq.ownBlock ≠ some a) : PrRe w Q x0 y0 z0 x1 y1 z1 step vl vh cap l vq u' :=
 ⟨block_keptp hg h.prob (by omega), h.own.kept hg (.inr hv), gb_new h.gr hg (by have := h.new; simp; omega), h.new⟩
theorem PrRe.prob9 (h : PrRe w Q x0 y0 z0 x1 y1 z1 step vl vh cap l vq u) (hg : u.grownBy u' vq.ownBlock) :
  u'.heap[Q]? = some (.cells #[x0, y0, z0, x1, y1, z1, step, vl, vh, vq, cap] 83 (0, 0)) := by
 rw [hg.block Q (Array.getElem?_eq_some_iff.1 h.prob).1 (fun e => by have := (h.own.lt Q e.symm).1; omega)]; exact h.prob
theorem PrRe.push {a : Ph} {vq' : Value} (h : PrRe w Q x0 y0 z0 x1 y1 z1 step vl vh cap l vq u) (hg : u.grownBy u' vq.ownBlock) (ho : u'.ownsRow (Q + 1) 51 6 vq' (l.length + 1) (flatP l ++ a.cells)) :
  PrRe w Q x0 y0 z0 x1 y1 z1 step vl vh cap (l ++ [a]) vq' (u'.setCell ⟨Q, 9, none⟩ vq') := by
 have hn := h.new
 have hne : ∀ b, vq.ownBlock = some b → Q + 1 ≤ b := fun b hb => (h.own.lt b hb).1
 have hQ := h.prob9 hg
 have sgr : u'.grownBy (u'.setCell ⟨Q, 9, none⟩ vq') (some Q) := gb_setCell (gb_refl _ _) (.inr rfl) _
 refine ⟨set_block hQ 9 vq', ?_, gb_setCell (gb_new h.gr hg (fun q hq => by have := hne q hq; omega)) (.inl h.new) _, h.new⟩
 rw [List.length_append, show flatP (l ++ [a]) = flatP l ++ a.cells by simp [flatP]]
 exact ho.kept sgr (.inr (fun e => by have := (ho.lt Q e).1; omega))
theorem PrRe.fro {o : Nat} (h : PrRe w Q x0 y0 z0 x1 y1 z1 step vl vh cap l vq u) (hg : u.grownBy u' vq.ownBlock) : u'.frozen? ⟨Q, o, none⟩ = false := by simp [World.frozen?, h.prob9 hg]
theorem PrRe.nine (h : PrRe w Q x0 y0 z0 x1 y1 z1 step vl vh cap l vq u) (hg : u.grownBy u' vq.ownBlock) : u'.cell? ⟨Q, 9, none⟩ = some vq := by simp [World.cell?, h.prob9 hg]
end
end LReP
section LSwp
open Go.RowKit
def phAt (l : List Ph) (i : Nat) : Ph := l[i]?.getD default
theorem phAt_eq {l : List Ph} {i : Nat} (h : i < l.length) : phAt l i = l[i] := by simp [phAt, h]
def swapPh (l : List Ph) (i k : Nat) : List Ph := (l.set i (phAt l k)).set k (phAt l i)
theorem flatP_cons (a : Ph) (l : List Ph) : flatP (a :: l) = a.cells ++ flatP l := by simp [flatP]
theorem Ph.cells_length (a : Ph) : a.cells.length = 6 := rfl
theorem flatP_setLL : ∀ (l : List Ph) (i : Nat) (x : Ph), i < l.length → flatP (l.set i x) = setLL (flatP l) (i * 6) x.cells
 | a :: l, 0, x, _ => by
  rw [List.set_cons_zero, flatP_cons, flatP_cons]
  simp [Ph.cells, setLL]
 | a :: l, i + 1, x, h => by
  rw [List.set_cons_succ, flatP_cons, flatP_cons, flatP_setLL l i x (by simpa using h), show (i + 1) * 6 = a.cells.length + i * 6 by rw [Ph.cells_length]; omega, setLL_append]
theorem owns_swap {B : Nat} {l : List Ph} {u : World} {q cp : Nat} (h : u.ownsRow B 51 6 (.slice (some ⟨q, 0, none⟩) l.length cp) l.length (flatP l)) (i k : Nat) (hi : i < l.length) (hk : k < l.length) :
  ((u.setCells q (i * 6) (phAt l k).cells).setCells q (k * 6) (phAt l i).cells).ownsRow B 51 6 (.slice (some ⟨q, 0, none⟩) l.length cp) (swapPh l i k).length (flatP (swapPh l i k)) ∧ u.grownBy ((u.setCells q (i * 6) (phAt l k).cells).setCells q (k * 6) (phAt l i).cells) (some q) := by
 refine ⟨?_, setCells_grown _ _ _ (setCells_grown _ _ _ (gb_refl _ _) (.inr rfl)) (.inr rfl)⟩
 unfold swapPh
 rw [List.length_set, List.length_set, flatP_setLL _ _ _ (by simpa using hk), flatP_setLL _ _ _ hi]
 exact owns_setCells _ _ _ _ (owns_setCells _ _ _ _ h)
theorem PrRe.swap {w : World} {Q : Nat} {x0 y0 z0 x1 y1 z1 step : Int} {vl vh : Value} {cap : Int} {l : List Ph} {q cp n : Nat} {u : World} (h : PrRe w Q x0 y0 z0 x1 y1 z1 step vl vh cap l (.slice (some ⟨q, 0, none⟩) n cp) u) (hn : l.length = n) (i k : Nat) (hi : i < n) (hk : k < n) :
  PrRe w Q x0 y0 z0 x1 y1 z1 step vl vh cap (swapPh l i k) (.slice (some ⟨q, 0, none⟩) n cp) ((u.setCells q (i * 6) (phAt l k).cells).setCells q (k * 6) (phAt l i).cells) := by
 subst hn
 obtain ⟨h1, hg⟩ := owns_swap h.own i k hi hk
 have hq := (h.own.lt q rfl).1
 exact ⟨block_keptp hg h.prob (by omega), h1, gb_new h.gr hg (fun k hk => by have := h.new; simp at hk; omega), h.new⟩
theorem PrRe.it {w : World} {Q : Nat} {x0 y0 z0 x1 y1 z1 step : Int} {vl vh : Value} {cap : Int} {l : List Ph} {q cp n : Nat} {u : World} (h : PrRe w Q x0 y0 z0 x1 y1 z1 step vl vh cap l (.slice (some ⟨q, 0, none⟩) n cp) u) (i : Nat) (hi : i < l.length) :
  u.cell? ⟨q, i * 6, none⟩ = some (.int .i64 (phAt l i).x) ∧ u.cell? ⟨q, i * 6 + 1, none⟩ = some (.int .i64 (phAt l i).y) ∧ u.cell? ⟨q, i * 6 + 2, none⟩ = some (.int .i64 (phAt l i).z) ∧ u.cell? ⟨q, i * 6 + 3, none⟩ = some (.int .i64 (phAt l i).e) ∧ u.cell? ⟨q, i * 6 + 4, none⟩ = some (.int .i64 (phAt l i).l) ∧ u.cell? ⟨q, i * 6 + 5, none⟩ = some (.int .i64 (phAt l i).n) := by
 have hc : ∀ j x, (flatP l)[j]? = some x → u.cell? ⟨q, j, none⟩ = some x := fun j x hj => by
  have := World.ownsRow.cells (g := q) h.own rfl j x hj
  have hadd : (⟨q, 0, none⟩ : Addr).add j = ⟨q, j, none⟩ := by unfold Addr.add; split <;> simp_all
  rw [hadd] at this; exact this
 rw [phAt_eq hi]
 exact ⟨hc _ _ (flatP_at l i hi 0 (by omega)), hc _ _ (flatP_at l i hi 1 (by omega)), hc _ _ (flatP_at l i hi 2 (by omega)), hc _ _ (flatP_at l i hi 3 (by omega)), hc _ _ (flatP_at l i hi 4 (by omega)), hc _ _ (flatP_at l i hi 5 (by omega))⟩
theorem PrRe.base {w w0 : World} {Q : Nat} {x0 y0 z0 x1 y1 z1 step : Int} {vl vh : Value} {cap : Int} {l : List Ph} {vq : Value} {u : World} (h : PrRe w Q x0 y0 z0 x1 y1 z1 step vl vh cap l vq u) (hg : w0.grownBy w none) : PrRe w0 Q x0 y0 z0 x1 y1 z1 step vl vh cap l vq u :=
 ⟨h.prob, h.own, gb_trans hg h.gr, Nat.le_trans hg.size h.new⟩
end LSwp
theorem phA_eq {P : List Ph} {i : Nat} (h : i < P.length) : phA P i = P[i] := by unfold phA; rw [List.getElem?_eq_getElem h]; rfl
def Ph.wt (a : Ph) (n : Int) : Ph := ⟨a.x, a.y, a.z, a.e, a.l, n⟩
end Go.Proofs.YtiebljanpnadjaaGreat
