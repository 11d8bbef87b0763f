import Derived.Test.YtiebljanpnadjaaGreatPgAsW
import Derived.Test.YtiebljanpnadjaaGreatPgLoc
import Derived.Test.YtiebljanpnadjaaGreatPgCpy
namespace Go.Proofs.YtiebljanpnadjaaGreat
set_option linter.all false
open Go.RowKit Rg
def Asc.prob (A : Asc) (l : List Ph) : Prob := ⟨A.x0, A.y0, A.z0, A.x1, A.y1, A.z1, A.st, A.ls, A.hs, l, A.cap⟩
structure Grp where
 ms : List Int
 x : Int
 y : Int
 z : Int
 t : Int
noncomputable def phO (P : List Ph) (i : Nat) : Ph := phA P ((ordA P)[i]?.getD 0)
noncomputable def oA (P : List Ph) (i : Nat) : Nat := (ordA P)[i]?.getD 0
def resEr (Q : Prob) (x : Loc) : Int := if zonesE Q x.px x.py x.pz x.px x.py x.pz ≠ 0 then zonesE Q x.px x.py x.pz x.px x.py x.pz else if x.t < -18014398509481984 ∨ 18014398509481984 < x.t then 2 else 0
def resOf (A : Asc) (x : Loc) (a : Ph) : Int := resid (zoneOf A.st A.ls A.hs x.px x.py x.pz x.px x.py x.pz a) x.t
noncomputable def memOf (A : Asc) (P : List Ph) (W : List Nat) (x : Loc) : List Nat := W.filter (fun i => decide (resOf A x (phO P i) ≤ A.lim))
noncomputable def locA (A : Asc) (P : List Ph) (W : List Nat) : Loc × Int := locP (A.prob (W.map (phO P))) A.tol
noncomputable def grpOf (P : List Ph) (M : List Nat) (x : Loc) : Grp := ⟨srt (M.map (fun i => (oA P i : Int))), x.px, x.py, x.pz, x.t⟩
noncomputable def rnd (A : Asc) (P : List Ph) : Nat → List Nat → List Grp → List Nat → Int × List Grp × List Nat
 | 0, _, gs, lf => (0, gs, lf)
 | _ + 1, [], gs, lf => (0, gs, lf)
 | f + 1, r :: rs, gs, lf =>
  if ((winOf A.span P (r :: rs)).length : Int) < A.least then rnd A P f rs gs (lf ++ [oA P r])
  else if (locA A P (winOf A.span P (r :: rs))).2 ≠ 0 then ((locA A P (winOf A.span P (r :: rs))).2, [], [])
  else if resEr (A.prob ((winOf A.span P (r :: rs)).map (phO P))) (locA A P (winOf A.span P (r :: rs))).1 ≠ 0 then (resEr (A.prob ((winOf A.span P (r :: rs)).map (phO P))) (locA A P (winOf A.span P (r :: rs))).1, [], [])
  else if ((memOf A P (winOf A.span P (r :: rs)) (locA A P (winOf A.span P (r :: rs))).1).length : Int) < A.least then rnd A P f rs gs (lf ++ [oA P r])
  else rnd A P f ((r :: rs).filter (fun i => decide (i ∉ memOf A P (winOf A.span P (r :: rs)) (locA A P (winOf A.span P (r :: rs))).1))) (gs ++ [grpOf P (memOf A P (winOf A.span P (r :: rs)) (locA A P (winOf A.span P (r :: rs))).1) (locA A P (winOf A.span P (r :: rs))).1]) lf
noncomputable def assocR (A : Asc) (P : List Ph) : Int × List Grp × List Int :=
 if avE A P ≠ 0 then (avE A P, [], []) else
 ((rnd A P (P.length + 1) (List.range P.length) [] []).1, (rnd A P (P.length + 1) (List.range P.length) [] []).2.1, srt ((rnd A P (P.length + 1) (List.range P.length) [] []).2.2.map (fun (i : Nat) => (i : Int))))
structure Grv where
 g : Grp
 mv : Value
def Grv.cells (x : Grv) : List Value := [x.mv, .int .i64 x.g.x, .int .i64 x.g.y, .int .i64 x.g.z, .int .i64 x.g.t]
def flatG (L : List Grv) : List Value := L.flatMap Grv.cells
theorem flatG_length (l : List Grv) : (flatG l).length = l.length * 5 := by
 induction l with
 | nil => rfl
 | cons a l ih => simp only [flatG, List.flatMap_cons, List.length_append] at *; rw [ih]; simp [Grv.cells]; omega
theorem flatG_snoc (L : List Grv) (x : Grv) : flatG (L ++ [x]) = flatG L ++ x.cells := by simp [flatG]
def GrIn (w : World) (v : Value) (L : List Grv) : Prop := SlC 5 w v L.length (flatG L) ∧ ∀ x ∈ L, Sl w x.mv x.g.ms
theorem GrIn.after {w w' : World} {v : Value} {L : List Grv} (h : GrIn w v L) (hg : w.grownBy w' none) : GrIn w' v L := ⟨h.1.after hg, fun x hx => (h.2 x hx).after hg⟩
structure AsAt (wo : World) (B gn gb n cb : Nat) (rest : List Nat) (gs : List Grv) (lf : List Nat) (gv lv : Value) (u : World) : Prop where
 gw : wo.grownBy u none
 ch : ChAt gn gb n rest u
 cv : u.heap[cb]? = some (.cells #[.slice (some ⟨gn, 0, none⟩) (n + 1) (n + 1), .slice (some ⟨gb, 0, none⟩) (n + 1) (n + 1)] 74 (0, 0))
 gr : u.ownsRow B 53 5 gv gs.length (flatG gs)
 lr : u.ownsRow B 3 1 lv lf.length (vi lf)
 ms : ∀ x ∈ gs, Sl u x.mv x.g.ms ∧ ∀ b off len cap, x.mv = .slice (some ⟨b, off, none⟩) len cap → B ≤ b ∧ b < u.heap.size ∧ gv.ownBlock ≠ some b ∧ lv.ownBlock ≠ some b
 ap : ∀ g, gv.ownBlock = some g → lv.ownBlock ≠ some g
 lt : gn < B ∧ gb < B ∧ cb < B ∧ cb ≠ gn ∧ cb ≠ gb ∧ wo.heap.size ≤ gn ∧ wo.heap.size ≤ gb ∧ wo.heap.size ≤ cb ∧ wo.heap.size ≤ B
 sz : B ≤ u.heap.size
structure AsFree (gn gb cb : Nat) (gs : List Grv) (gv lv : Value) (q : Nat) : Prop where
 a : q ≠ gn ∧ q ≠ gb ∧ q ≠ cb
 g : gv.ownBlock ≠ some q
 l : lv.ownBlock ≠ some q
 m : ∀ x ∈ gs, ∀ b off len cap, x.mv = .slice (some ⟨b, off, none⟩) len cap → b ≠ q
section
variable {wo : World} {B gn gb n cb : Nat} {rest : List Nat} {gs : List Grv} {lf : List Nat} {gv lv : Value} {u u' : World}
theorem AsAt.far {q : Nat} (h : AsAt wo B gn gb n cb rest gs lf gv lv u) (hg : u.grownBy u' (some q)) (hf : AsFree gn gb cb gs gv lv q) (hq : wo.heap.size ≤ q) : AsAt wo B gn gb n cb rest gs lf gv lv u' := by
 refine ⟨gb_new h.gw hg (fun p hp => by simp at hp; omega), h.ch.later hg (by simpa using hf.a.1) (by simpa using hf.a.2.1), block_keptp hg h.cv (Ne.symm hf.a.2.2), h.gr.kept hg (.inr hf.g), h.lr.kept hg (.inr hf.l), fun x hx => ?_, h.ap, h.lt, Nat.le_trans h.sz hg.size⟩
 obtain ⟨t1, t2⟩ := h.ms x hx
 refine ⟨t1.later hg (fun b off len cap e _ => by have := hf.m x hx b off len cap e; simpa using Ne.symm (Ne.symm this)), fun b off len cap e => ?_⟩
 obtain ⟨a1, a2, a3, a4⟩ := t2 b off len cap e
 exact ⟨a1, Nat.lt_of_lt_of_le a2 hg.size, a3, a4⟩
theorem AsAt.later (h : AsAt wo B gn gb n cb rest gs lf gv lv u) (hg : u.grownBy u' none) : AsAt wo B gn gb n cb rest gs lf gv lv u' := by
 refine ⟨gb_trans h.gw hg, h.ch.later hg (by simp) (by simp), block_kept hg h.cv rfl, owns_keep h.gr hg, owns_keep h.lr hg, fun x hx => ?_, h.ap, h.lt, Nat.le_trans h.sz hg.size⟩
 obtain ⟨t1, t2⟩ := h.ms x hx
 refine ⟨t1.after hg, fun b off len cap e => ?_⟩
 obtain ⟨a1, a2, a3, a4⟩ := t2 b off len cap e
 exact ⟨a1, Nat.lt_of_lt_of_le a2 hg.size, a3, a4⟩
theorem AsAt.free (h : AsAt wo B gn gb n cb rest gs lf gv lv u) {q : Nat} (hq : u.heap.size ≤ q) : AsFree gn gb cb gs gv lv q := by
 have h1 := h.lt
 have hc := block_lt' h.cv
 obtain ⟨-, X, Y, hx, hy, -⟩ := h.ch
 have h2 := block_lt' hx; have h3 := block_lt' hy
 refine ⟨⟨by omega, by omega, by omega⟩, fun e => ?_, fun e => ?_, fun x hx b off len cap e => ?_⟩
 ·have := (h.gr.lt q e).2; omega
 ·have := (h.lr.lt q e).2; omega
 ·have := ((h.ms x hx).2 b off len cap e).2.1; omega
theorem AsAt.chain {rest' : List Nat} {wm : World} (h : AsAt wo B gn gb n cb rest gs lf gv lv u) (h1 : u.grownBy wm (some gn)) (h2 : wm.grownBy u' (some gb)) (hc : ChAt gn gb n rest' u') : AsAt wo B gn gb n cb rest' gs lf gv lv u' := by
 have hl := h.lt
 have gl : ∀ g, gv.ownBlock = some g → B ≤ g := fun g e => (h.gr.lt g e).1
 have ll : ∀ g, lv.ownBlock = some g → B ≤ g := fun g e => (h.lr.lt g e).1
 have f1 : ∀ q, q < B → gv.ownBlock ≠ some q := fun q hq e => by have := gl q e; omega
 have f2 : ∀ q, q < B → lv.ownBlock ≠ some q := fun q hq e => by have := ll q e; omega
 refine ⟨gb_new (gb_new h.gw h1 (fun p hp => by simp at hp; omega)) h2 (fun p hp => by simp at hp; omega), hc, block_keptp h2 (block_keptp h1 h.cv hl.2.2.2.1) hl.2.2.2.2.1, (h.gr.kept h1 (.inr (f1 gn hl.1))).kept h2 (.inr (f1 gb hl.2.1)), (h.lr.kept h1 (.inr (f2 gn hl.1))).kept h2 (.inr (f2 gb hl.2.1)), fun x hx => ?_, h.ap, h.lt, Nat.le_trans h.sz (Nat.le_trans h1.size h2.size)⟩
 obtain ⟨t1, t2⟩ := h.ms x hx
 refine ⟨(t1.later h1 (fun b off len cap e _ => by have := (t2 b off len cap e).1; simp; omega)).later h2 (fun b off len cap e _ => by have := (t2 b off len cap e).1; simp; omega), fun b off len cap e => ?_⟩
 obtain ⟨a1, a2, a3, a4⟩ := t2 b off len cap e
 exact ⟨a1, Nat.lt_of_lt_of_le (Nat.lt_of_lt_of_le a2 h1.size) h2.size, a3, a4⟩
theorem AsAt.left {i : Nat} {lv' : Value} (h : AsAt wo B gn gb n cb rest gs lf gv lv u) (hown : u'.ownsRow B 3 1 lv' (lf.length + 1) (vi lf ++ [.int .i64 (i : Int)])) (hg : u.grownBy u' lv.ownBlock) (hv : lv'.ownBlock = lv.ownBlock ∨ lv'.ownBlock = some u.heap.size) :
  AsAt wo B gn gb n cb rest gs (lf ++ [i]) gv lv' u' := by
 have hl := h.lt
 have ll : ∀ g, lv.ownBlock = some g → B ≤ g := fun g e => (h.lr.lt g e).1
 have ne : ∀ q, q < B → lv.ownBlock ≠ some q := fun q hq e => by have := ll q e; omega
 obtain ⟨-, X, Y, hx, hy, -⟩ := h.ch
 have ap' : ∀ g, gv.ownBlock = some g → lv'.ownBlock ≠ some g := fun g e e2 => by
  rcases hv with hv | hv
  ·exact h.ap g e (hv ▸ e2)
  ·rw [hv] at e2; simp at e2; have := (h.gr.lt g e).2; omega
 refine ⟨gb_new h.gw hg (fun p hp => by have := ll p hp; omega), h.ch.later hg (ne gn hl.1) (ne gb hl.2.1), (hg.block cb (Array.getElem?_eq_some_iff.1 h.cv).1 (fun e => ne cb hl.2.2.1 e.symm)).trans h.cv, ?_, ?_, fun x hx => ?_, ap', h.lt, Nat.le_trans h.sz hg.size⟩
 ·refine h.gr.kept hg ?_
  cases hb : gv.ownBlock with
  | none => exact .inl rfl
  | some g => exact .inr (fun e => h.ap g hb e.symm)
 ·have e : vi (lf ++ [i]) = vi lf ++ [.int .i64 (i : Int)] := by simp [vi]
  rw [List.length_append, List.length_singleton, e]; exact hown
 ·obtain ⟨t1, t2⟩ := h.ms x hx
  refine ⟨t1.later hg (fun b off len cap e _ e2 => (t2 b off len cap e).2.2.2 e2.symm), fun b off len cap e => ?_⟩
  obtain ⟨a1, a2, a3, a4⟩ := t2 b off len cap e
  refine ⟨a1, Nat.lt_of_lt_of_le a2 hg.size, a3, fun e2 => ?_⟩
  rcases hv with hv | hv
  ·exact a4 (hv ▸ e2)
  ·rw [hv] at e2; simp at e2; omega
theorem AsAt.group {x : Grv} {gv' : Value} (h : AsAt wo B gn gb n cb rest gs lf gv lv u) (hown : u'.ownsRow B 53 5 gv' (gs.length + 1) (flatG gs ++ x.cells)) (hg : u.grownBy u' gv.ownBlock) (hv : gv'.ownBlock = gv.ownBlock ∨ gv'.ownBlock = some u.heap.size)
  (hm : Sl u x.mv x.g.ms) (hmb : ∀ b off len cap, x.mv = .slice (some ⟨b, off, none⟩) len cap → B ≤ b ∧ b < u.heap.size ∧ gv.ownBlock ≠ some b ∧ lv.ownBlock ≠ some b) :
  AsAt wo B gn gb n cb rest (gs ++ [x]) lf gv' lv u' := by
 have hl := h.lt
 have ll : ∀ g, gv.ownBlock = some g → B ≤ g := fun g e => (h.gr.lt g e).1
 have ne : ∀ q, q < B → gv.ownBlock ≠ some q := fun q hq e => by have := ll q e; omega
 have ap' : ∀ g, gv'.ownBlock = some g → lv.ownBlock ≠ some g := fun g e e2 => by
  rcases hv with hv | hv
  ·exact h.ap g (hv ▸ e) e2
  ·rw [hv] at e; simp at e; have := (h.lr.lt g e2).2; omega
 have tap : ∀ y : Grv, (Sl u y.mv y.g.ms ∧ ∀ b off len cap, y.mv = .slice (some ⟨b, off, none⟩) len cap → B ≤ b ∧ b < u.heap.size ∧ gv.ownBlock ≠ some b ∧ lv.ownBlock ≠ some b) → (Sl u' y.mv y.g.ms ∧ ∀ b off len cap, y.mv = .slice (some ⟨b, off, none⟩) len cap → B ≤ b ∧ b < u'.heap.size ∧ gv'.ownBlock ≠ some b ∧ lv.ownBlock ≠ some b) := by
  rintro y ⟨t1, t2⟩
  refine ⟨t1.later hg (fun b off len cap e _ e2 => (t2 b off len cap e).2.2.1 e2.symm), fun b off len cap e => ?_⟩
  obtain ⟨a1, a2, a3, a4⟩ := t2 b off len cap e
  refine ⟨a1, Nat.lt_of_lt_of_le a2 hg.size, fun e2 => ?_, a4⟩
  rcases hv with hv | hv
  ·exact a3 (hv ▸ e2)
  ·rw [hv] at e2; simp at e2; omega
 refine ⟨gb_new h.gw hg (fun p hp => by have := ll p hp; omega), h.ch.later hg (ne gn hl.1) (ne gb hl.2.1), (hg.block cb (Array.getElem?_eq_some_iff.1 h.cv).1 (fun e => ne cb hl.2.2.1 e.symm)).trans h.cv, ?_, ?_, fun y hy => ?_, ap', h.lt, Nat.le_trans h.sz hg.size⟩
 ·rw [flatG_snoc, List.length_append, List.length_singleton]; exact hown
 ·refine h.lr.kept hg ?_
  cases hb : lv.ownBlock with
  | none => exact .inl rfl
  | some g => exact .inr (fun e => h.ap g e.symm hb)
 ·rcases List.mem_append.1 hy with hy | hy
  ·exact tap y (h.ms y hy)
  ·simp only [List.mem_singleton] at hy; subst hy; exact tap y ⟨hm, hmb⟩
end
theorem filt_nil (L : List Nat) : L.filter (fun i => decide (i ∉ ([] : List Nat))) = L := by simp
theorem filt_step {L T : List Nat} {x : Nat} (hnd : L.Nodup) (hx : x ∈ L) (hT : x ∉ T) : ∃ r1 r2, L.filter (fun i => decide (i ∉ T)) = r1 ++ x :: r2 ∧ L.filter (fun i => decide (i ∉ T ++ [x])) = r1 ++ r2 := by
 have hm : x ∈ L.filter (fun i => decide (i ∉ T)) := List.mem_filter.2 ⟨hx, by simpa using hT⟩
 obtain ⟨r1, r2, e⟩ := List.append_of_mem hm
 refine ⟨r1, r2, e, ?_⟩
 have hn : (L.filter (fun i => decide (i ∉ T))).Nodup := hnd.filter _
 have e2 : L.filter (fun i => decide (i ∉ T ++ [x])) = (L.filter (fun i => decide (i ∉ T))).filter (fun i => decide (i ≠ x)) := by
  rw [List.filter_filter]
  refine List.filter_congr fun i _ => ?_
  simp [and_comm]
 rw [e2, e, List.filter_append, List.filter_cons]
 rw [e] at hn
 have h1 : ∀ i ∈ r1, i ≠ x := fun i hi h => by
  subst h
  exact (List.nodup_append.1 hn).2.2 i hi i (by simp) rfl
 have h2 : ∀ i ∈ r2, i ≠ x := fun i hi h => by
  subst h
  exact (List.nodup_cons.1 (List.nodup_append.1 hn).2.1).1 hi
 rw [List.filter_eq_self.2 (fun i hi => by simpa using h1 i hi), List.filter_eq_self.2 (fun i hi => by simpa using h2 i hi)]
 simp
structure GrAt (wo : World) (B gn gb n cb : Nat) (rest : List Nat) (gs : List Grv) (lf : List Nat) (gv lv : Value) (X E : Nat) (mv : Value) (ms : List Nat) (px py pz pt : Int) (mw : Value) (M : List Nat) (u : World) : Prop where
 aa : AsAt wo B gn gb n cb rest gs lf gv lv u
 xb : u.heap[X]? = some (.cells #[mv, px, py, pz, pt] 53 (0, 0))
 ow : u.ownsRow E 3 1 mv ms.length (vi ms)
 lt : B ≤ X ∧ X < E ∧ E ≤ u.heap.size
 fr : AsFree gn gb cb gs gv lv X
 fo : ∀ q, E ≤ q → AsFree gn gb cb gs gv lv q
 mm : Sl u mw (M.map (fun (i : Nat) => (i : Int)))
 mb : ∀ b off len cap, mw = .slice (some ⟨b, off, none⟩) len cap → B ≤ b ∧ b < X
section
variable {wo : World} {B gn gb n cb : Nat} {rest : List Nat} {gs : List Grv} {lf : List Nat} {gv lv : Value} {X E : Nat} {mv : Value} {ms : List Nat} {px py pz pt : Int} {mw : Value} {M : List Nat} {u u' : World}
theorem GrAt.later (h : GrAt wo B gn gb n cb rest gs lf gv lv X E mv ms px py pz pt mw M u) (hg : u.grownBy u' none) : GrAt wo B gn gb n cb rest gs lf gv lv X E mv ms px py pz pt mw M u' :=
 ⟨h.aa.later hg, block_kept hg h.xb rfl, owns_keep h.ow hg, ⟨h.lt.1, h.lt.2.1, Nat.le_trans h.lt.2.2 hg.size⟩, h.fr, h.fo, h.mm.after hg, h.mb⟩
theorem GrAt.start (h : AsAt wo B gn gb n cb rest gs lf gv lv u) {X : Nat} (hX : B ≤ X) (hg : u.grownBy u' none) (hs : u.heap.size = X) (hs2 : u'.heap.size = X + 1)
  (hx : u'.heap[X]? = some (.cells #[.slice none 0 0, px, py, pz, pt] 53 (0, 0))) (hm : Sl u mw (M.map (fun (i : Nat) => (i : Int)))) (hb : ∀ b off len cap, mw = .slice (some ⟨b, off, none⟩) len cap → B ≤ b ∧ b < X) :
  GrAt wo B gn gb n cb rest gs lf gv lv X (X + 1) (.slice none 0 0) [] px py pz pt mw M u' :=
 ⟨h.later hg, hx, World.ownsRow_nil _ _ _ _, ⟨hX, by omega, by omega⟩, h.free (by omega), fun q hq => h.free (by omega), hm.after hg, hb⟩
theorem GrAt.chain {rest' : List Nat} {wm : World} (h : GrAt wo B gn gb n cb rest gs lf gv lv X E mv ms px py pz pt mw M u) (h1 : u.grownBy wm (some gn)) (h2 : wm.grownBy u' (some gb)) (hc : ChAt gn gb n rest' u') : GrAt wo B gn gb n cb rest' gs lf gv lv X E mv ms px py pz pt mw M u' := by
 have hl := h.lt; have hf := h.fr.a
 have hl2 := h.aa.lt
 refine ⟨h.aa.chain h1 h2 hc, block_keptp h2 (block_keptp h1 h.xb hf.1) hf.2.1, owns_keepp (owns_keepp h.ow h1 (by omega)) h2 (by omega), ⟨hl.1, hl.2.1, Nat.le_trans hl.2.2 (Nat.le_trans h1.size h2.size)⟩, h.fr, h.fo, ?_, h.mb⟩
 refine (h.mm.later h1 fun b off len cap e _ => ?_).later h2 fun b off len cap e _ => ?_
 ·have := h.mb b off len cap e; simp; omega
 ·have := h.mb b off len cap e; simp; omega
theorem GrAt.push {j : Nat} {mv' : Value} {w1 : World} (h : GrAt wo B gn gb n cb rest gs lf gv lv X E mv ms px py pz pt mw M u) (hown : w1.ownsRow E 3 1 mv' (ms.length + 1) (vi ms ++ [.int .i64 (j : Int)])) (hg : u.grownBy w1 mv.ownBlock) :
  w1.heap[X]? = some (.cells #[mv, px, py, pz, pt] 53 (0, 0)) ∧ GrAt wo B gn gb n cb rest gs lf gv lv X E mv' (ms ++ [j]) px py pz pt mw M (w1.setCell ⟨X, 0, none⟩ mv') := by
 have hl := h.lt; have hl2 := h.aa.lt
 have own : ∀ g, mv.ownBlock = some g → E ≤ g := fun g e => (h.ow.lt g e).1
 have hXne : mv.ownBlock ≠ some X := fun e => by have := own X e; omega
 have hx1 : w1.heap[X]? = some (.cells #[mv, px, py, pz, pt] 53 (0, 0)) := (hg.block X (Array.getElem?_eq_some_iff.1 h.xb).1 (fun e => hXne e.symm)).trans h.xb
 have hset : w1.grownBy (w1.setCell ⟨X, 0, none⟩ mv') (some X) := gb_setCell (gb_refl _ _) (.inr rfl) _
 have ha1 : AsAt wo B gn gb n cb rest gs lf gv lv w1 := by
  cases hb : mv.ownBlock with
  | none => rw [hb] at hg; exact h.aa.later hg
  | some q => rw [hb] at hg; have := own q hb; exact h.aa.far hg (h.fo q this) (by omega)
 have hm1 : Sl w1 mw (M.map (fun (i : Nat) => (i : Int))) := h.mm.later hg fun b off len cap e _ e2 => by have := own b e2.symm; have := h.mb b off len cap e; omega
 have e : vi (ms ++ [j]) = vi ms ++ [.int .i64 (j : Int)] := by simp [vi]
 refine ⟨hx1, ha1.far hset h.fr (by omega), set_block hx1 0 mv', ?_, ⟨hl.1, hl.2.1, Nat.le_trans hl.2.2 (Nat.le_trans hg.size hset.size)⟩, h.fr, h.fo, hm1.later hset fun b off len cap e _ => (by have := h.mb b off len cap e; simp; omega), h.mb⟩
 rw [List.length_append, List.length_singleton, e]
 exact owns_keepp hown hset hl.2.1
theorem GrAt.sorted (h : GrAt wo B gn gb n cb rest gs lf gv lv X E mv ms px py pz pt mw M u) (hg : u.grownBy u' mv.ownBlock) : AsAt wo B gn gb n cb rest gs lf gv lv u' ∧ u'.heap[X]? = some (.cells #[mv, px, py, pz, pt] 53 (0, 0)) ∧
  ∀ b off len cap, mv = .slice (some ⟨b, off, none⟩) len cap → B ≤ b ∧ b < u'.heap.size ∧ gv.ownBlock ≠ some b ∧ lv.ownBlock ≠ some b := by
 have hl := h.lt; have hl2 := h.aa.lt
 have own : ∀ g, mv.ownBlock = some g → E ≤ g := fun g e => (h.ow.lt g e).1
 have hXne : mv.ownBlock ≠ some X := fun e => by have := own X e; omega
 refine ⟨?_, (hg.block X (Array.getElem?_eq_some_iff.1 h.xb).1 (fun e => hXne e.symm)).trans h.xb, fun b off len cap e => ?_⟩
 ·cases hb : mv.ownBlock with
  | none => rw [hb] at hg; exact h.aa.later hg
  | some q => rw [hb] at hg; have := own q hb; exact h.aa.far hg (h.fo q this) (by omega)
 ·have eb : mv.ownBlock = some b := by rw [e]; rfl
  have hf := h.fo b (own b eb)
  exact ⟨by have := own b eb; omega, Nat.lt_of_lt_of_le (h.ow.lt b eb).2 hg.size, hf.g, hf.l⟩
end
def smp30 : Asc := ⟨0, 0, 0, 0, 0, 0, 10, [0, 5], [0, 7], 9, 0, 60, 1, 2⟩
def pA30 : Ph := ⟨0, 0, 0, 100, 100, 1⟩
def pB30 : Ph := ⟨0, 0, 0, 3700, 3700, 1⟩
theorem ord_ab : ordA [pA30, pB30] = [0, 1] := by
 refine (ordA_uniq (by decide) ?_).symm
 simp [List.pairwise_cons, lessA, phA, Ph.key, pA30, pB30]
 decide
theorem ord_aa : ordA [pA30, pA30] = [0, 1] := by
 refine (ordA_uniq (by decide) ?_).symm
 simp [List.pairwise_cons, lessA, phA, Ph.key, pA30]
theorem srt01 : srt [0, 1] = [0, 1] := srt_of (by simp) (List.Perm.refl _)
theorem avE_ab : avE smp30 [pA30, pB30] = 0 := by decide +kernel
theorem avE_aa : avE smp30 [pA30, pA30] = 0 := by decide +kernel
theorem loc_aa : locP (smp30.prob [pA30, pA30]) 0 = (⟨0, 0, 0, 100, 0, 0, 0, 0, 0, 0, 0, 0⟩, 0) := by kernel_rfl
theorem res_aa : resEr (smp30.prob [pA30, pA30]) ⟨0, 0, 0, 100, 0, 0, 0, 0, 0, 0, 0, 0⟩ = 0 := by decide +kernel
theorem rsd_aa : resOf smp30 ⟨0, 0, 0, 100, 0, 0, 0, 0, 0, 0, 0, 0⟩ pA30 ≤ 1 := by decide +kernel
theorem win_ab0 : winOf 60 [pA30, pB30] [0, 1] = [0] := by
 show (([0, 1] : List Nat).takeWhile (winC 60 [pA30, pB30] 0)).take 16 = [0]
 rw [List.takeWhile_cons, if_pos (by simp [winC]), List.takeWhile_cons, if_neg (by simp only [winC, elA, ord_ab]; simp [phA, pA30, pB30])]
 rfl
theorem win_ab1 : winOf 60 [pA30, pB30] [1] = [1] := by
 simp [winOf, winC, elA, phA, ord_ab, pA30, pB30]
theorem win_aa : winOf 60 [pA30, pA30] [0, 1] = [0, 1] := by
 show (([0, 1] : List Nat).takeWhile (winC 60 [pA30, pA30] 0)).take 16 = [0, 1]
 rw [List.takeWhile_cons, if_pos (by simp [winC]), List.takeWhile_cons, if_pos (by simp only [winC, elA, ord_aa]; simp [phA, pA30])]
 rfl
theorem ass_ab : assocR smp30 [pA30, pB30] = (0, [], [0, 1]) := by
 have s : smp30.span = 60 := rfl
 have l : smp30.least = 2 := rfl
 have h : rnd smp30 [pA30, pB30] 3 [0, 1] [] [] = (0, [], [0, 1]) := by
  rw [rnd, s, l, win_ab0, if_pos (by decide), rnd, s, l, win_ab1, if_pos (by decide), rnd]
  simp [oA, ord_ab]
 unfold assocR
 rw [if_neg (by rw [avE_ab]; decide)]
 have e : List.range [pA30, pB30].length = [0, 1] := by decide
 have e2 : [pA30, pB30].length + 1 = 3 := rfl
 rw [e, e2, h]
 exact congrArg (fun z => ((0 : Int), ([] : List Grp), z)) srt01
theorem ass_aa : assocR smp30 [pA30, pA30] = (0, [⟨[0, 1], 0, 0, 0, 100⟩], []) := by
 have s : smp30.span = 60 := rfl
 have l : smp30.least = 2 := rfl
 have ph0 : phO [pA30, pA30] 0 = pA30 := by simp [phO, phA, ord_aa]
 have ph1 : phO [pA30, pA30] 1 = pA30 := by simp [phO, phA, ord_aa]
 have L : locA smp30 [pA30, pA30] [0, 1] = (⟨0, 0, 0, 100, 0, 0, 0, 0, 0, 0, 0, 0⟩, 0) := by
  unfold locA
  rw [show [0, 1].map (phO [pA30, pA30]) = [pA30, pA30] by simp [ph0, ph1]]
  exact loc_aa
 have M : memOf smp30 [pA30, pA30] [0, 1] ⟨0, 0, 0, 100, 0, 0, 0, 0, 0, 0, 0, 0⟩ = [0, 1] := by
  unfold memOf
  have t := rsd_aa
  have e : smp30.lim = 1 := rfl
  simp [ph0, ph1, e, t]
 have R : resEr (smp30.prob ([0, 1].map (phO [pA30, pA30]))) ⟨0, 0, 0, 100, 0, 0, 0, 0, 0, 0, 0, 0⟩ = 0 := by
  rw [show [0, 1].map (phO [pA30, pA30]) = [pA30, pA30] by simp [ph0, ph1]]
  exact res_aa
 have h : rnd smp30 [pA30, pA30] 3 [0, 1] [] [] = (0, [⟨[0, 1], 0, 0, 0, 100⟩], []) := by
  rw [rnd, s, l, win_aa, if_neg (by decide), L, if_neg (by simp), R, if_neg (by simp), M, if_neg (by decide)]
  have g : grpOf [pA30, pA30] [0, 1] ⟨0, 0, 0, 100, 0, 0, 0, 0, 0, 0, 0, 0⟩ = ⟨[0, 1], 0, 0, 0, 100⟩ := by
   unfold grpOf
   have e : [0, 1].map (fun i => (oA [pA30, pA30] i : Int)) = [0, 1] := by simp [oA, ord_aa]
   rw [e, srt01]
  rw [g]
  simp [rnd]
 unfold assocR
 rw [if_neg (by rw [avE_aa]; decide)]
 have e : List.range [pA30, pA30].length = [0, 1] := by decide
 have e2 : [pA30, pA30].length + 1 = 3 := rfl
 rw [e, e2, h]
 have e3 : srt [] = [] := List.length_eq_zero_iff.1 (srt_len [])
 simp [e3]
end Go.Proofs.YtiebljanpnadjaaGreat
