import Derived.Test.YtiebljanpnadjaaGreatPgRefC
import Derived.Test.YtiebljanpnadjaaGreatPgSr
import Derived.Test.YtiebljanpnadjaaGreatPgRSplit
namespace Go.Proofs.YtiebljanpnadjaaGreat
set_option linter.all false
open Go.RowKit Rg
structure SrAt (P : Prob) (vl vh vp : Value) (w : World) (X B : Nat) (s : Sr) (v : Value) (u : World) : Prop where
 p : u.heap[w.heap.size]? = some (.cells (P.val vl vh vp) 83 (0, 0))
 r : u.heap[w.heap.size + 1]? = some (.cells #[(0:Int), (0:Int), (0:Int), (0:Int), (0:Int), (0:Int), (0:Int), (0:Int), (0:Int), (0:Int), (0:Int), (0:Int)] 79 (0, 0))
 x : u.heap[X]? = some (.cells s.x.val 79 (0, 0))
 own : u.ownsRow B 180 8 v s.l.length (flatI s.l)
 ne : some X ≠ v.ownBlock
 lt : w.heap.size + 1 < B ∧ w.heap.size + 1 < X ∧ B ≤ u.heap.size
 g : w.grownBy u none
theorem SrAt.keep {P : Prob} {vl vh vp : Value} {w : World} {X B : Nat} {s : Sr} {v : Value} {u u' : World} (h : SrAt P vl vh vp w X B s v u) (hg : u.grownBy u' none) : SrAt P vl vh vp w X B s v u' :=
 ⟨block_kept hg h.p rfl, block_kept hg h.r rfl, block_kept hg h.x rfl, owns_keep h.own hg, h.ne, ⟨h.lt.1, h.lt.2.1, Nat.le_trans h.lt.2.2 hg.size⟩, gb_trans h.g hg⟩
theorem SrAt.at {P : Prob} {vl vh vp : Value} {w : World} {X B : Nat} {s : Sr} {v : Value} {u : World} (h : SrAt P vl vh vp w X B s v u) (h0 : 0 < s.l.length) :
  ∃ q cp, v = .slice (some ⟨q, 0, none⟩) s.l.length cp ∧ q < u.heap.size ∧ B ≤ q ∧ q ≠ X ∧ s.l.length ≤ cp ∧ cp ≤ 9223372036854775807 ∧ (∀ j x, (flatI s.l)[j]? = some x → u.cell? ⟨q, 0 + j, none⟩ = some x) ∧ (∀ j, u.frozen? ⟨q, j, none⟩ = false) := by
 obtain ⟨h1, ⟨-, h2⟩ | ⟨q, cp, cur, rfl, hb, hg, hle, hcap, hcs, ht⟩⟩ := h.own
 ·omega
 ·refine ⟨q, cp, rfl, block_lt' hg, hb, fun e => h.ne (by simp [Value.ownBlock, e]), hle, hcap, fun j x hj => ?_, fun j => frozen3 hg j⟩
  have := h.own.cells (g := q) rfl j x hj
  have hadd : (⟨q, 0, none⟩ : Addr).add j = ⟨q, 0 + j, none⟩ := by unfold Addr.add; split <;> simp_all
  rw [hadd] at this; exact this
theorem SrAt.slc {P : Prob} {vl vh vp : Value} {w : World} {X B : Nat} {s : Sr} {v : Value} {u : World} (h : SrAt P vl vh vp w X B s v u) (h0 : 0 < s.l.length) : SlC 8 u v s.l.length (flatI s.l) := by
 obtain ⟨q, cp, e, hq, -, -, hle, hcap, hc, -⟩ := h.at h0
 exact ⟨flatI_length _, .inr ⟨q, 0, cp, e, hq, hle, hcap, hc⟩⟩
theorem SrAt.it {P : Prob} {vl vh vp : Value} {w : World} {X B : Nat} {s : Sr} {u : World} {q n cp : Nat} (h : SrAt P vl vh vp w X B s (.slice (some ⟨q, 0, none⟩) n cp) u) (k : Nat) (hk : k < s.l.length) :
  u.cell? ⟨q, k * 8, none⟩ = some (.int .i64 (itAt s.l k).b.a) ∧ u.cell? ⟨q, k * 8 + 1, none⟩ = some (.int .i64 (itAt s.l k).b.b) ∧ u.cell? ⟨q, k * 8 + 2, none⟩ = some (.int .i64 (itAt s.l k).b.c) ∧ u.cell? ⟨q, k * 8 + 3, none⟩ = some (.int .i64 (itAt s.l k).b.d) ∧ u.cell? ⟨q, k * 8 + 4, none⟩ = some (.int .i64 (itAt s.l k).b.e) ∧ u.cell? ⟨q, k * 8 + 5, none⟩ = some (.int .i64 (itAt s.l k).b.f) ∧ u.cell? ⟨q, k * 8 + 6, none⟩ = some (.int .i64 (itAt s.l k).c) ∧ u.cell? ⟨q, k * 8 + 7, none⟩ = some (.bool (itAt s.l k).done) := by
 have := SlC.it (w := u) (b := q) (off := 0) (l := s.l) (fun j x hj => by
  have := h.own.cells (g := q) rfl j x hj
  have hadd : (⟨q, 0, none⟩ : Addr).add j = ⟨q, 0 + j, none⟩ := by unfold Addr.add; split <;> simp_all
  rw [hadd] at this; exact this) k hk
 simpa only [Nat.zero_add] using this
theorem SrAt.fz {P : Prob} {vl vh vp : Value} {w : World} {X B : Nat} {s : Sr} {u : World} {q cp : Nat} (h : SrAt P vl vh vp w X B s (.slice (some ⟨q, 0, none⟩) s.l.length cp) u) (j : Nat) : u.frozen? ⟨q, j, none⟩ = false := by
 exact h.own.frozenAt j
theorem SrAt.it' {P : Prob} {vl vh vp : Value} {w : World} {X B : Nat} {s : Sr} {u : World} {q n cp : Nat} {b : Bx} {c : Int} {d : Bool} (h : SrAt P vl vh vp w X B s (.slice (some ⟨q, 0, none⟩) n cp) u) (k : Nat) (hk : k < s.l.length) (e : itAt s.l k = ⟨b, c, d⟩) :
  u.cell? ⟨q, k * 8, none⟩ = some (.int .i64 b.a) ∧ u.cell? ⟨q, k * 8 + 1, none⟩ = some (.int .i64 b.b) ∧ u.cell? ⟨q, k * 8 + 2, none⟩ = some (.int .i64 b.c) ∧ u.cell? ⟨q, k * 8 + 3, none⟩ = some (.int .i64 b.d) ∧ u.cell? ⟨q, k * 8 + 4, none⟩ = some (.int .i64 b.e) ∧ u.cell? ⟨q, k * 8 + 5, none⟩ = some (.int .i64 b.f) ∧ u.cell? ⟨q, k * 8 + 6, none⟩ = some (.int .i64 c) ∧ u.cell? ⟨q, k * 8 + 7, none⟩ = some (.bool d) := by
 have := h.it k hk
 rw [e] at this; exact this
theorem SrAt.num {P : Prob} {vl vh vp : Value} {w : World} {X B : Nat} {l : List It} {x : Loc} {n m : Nat} {v : Value} {u : World} (h : SrAt P vl vh vp w X B ⟨l, x, n⟩ v u) : SrAt P vl vh vp w X B ⟨l, x, m⟩ v u := ⟨h.p, h.r, h.x, h.own, h.ne, h.lt, h.g⟩
theorem SrAt.px {P : Prob} {vl vh vp : Value} {w : World} {X B : Nat} {l : List It} {x x' : Loc} {n : Nat} {v : Value} {u u' : World} (h : SrAt P vl vh vp w X B ⟨l, x, n⟩ v u) (hx : u'.heap[X]? = some (.cells x'.val 79 (0, 0))) (hg : u.grownBy u' (some X)) : SrAt P vl vh vp w X B ⟨l, x', n⟩ v u' := by
 have hl := h.lt
 exact ⟨block_keptp hg h.p (by omega), block_keptp hg h.r (by omega), hx, h.own.kept hg (.inr (fun e => h.ne e.symm)), h.ne, ⟨hl.1, hl.2.1, Nat.le_trans hl.2.2 hg.size⟩, gb_new h.g hg (fun q hq => by simp at hq; omega)⟩
theorem SrAt.push {P : Prob} {vl vh vp : Value} {w : World} {X B : Nat} {l news : List It} {x : Loc} {n : Nat} {v v' : Value} {u u' : World} {o : Obj} (h : SrAt P vl vh vp w X B ⟨l, x, n⟩ v u) (ho : u'.ownsRow B 180 8 v' (l.length + news.length) (flatI l ++ flatI news)) (hg : (u.alloc o).grownBy u' v.ownBlock) (hb : v'.ownBlock = v.ownBlock ∨ v'.ownBlock = some (u.alloc o).heap.size) :
  SrAt P vl vh vp w X B ⟨l ++ news, x, n⟩ v' u' := by
 have hl := h.lt
 have hX := block_lt' h.x
 have hsz := hg.size
 have hsa : (u.alloc o).heap.size = u.heap.size + 1 := by simp
 have ne : ∀ k, k < B → some k ≠ v.ownBlock := fun k hk e => by have := (h.own.lt k e.symm).1; omega
 have kp : ∀ {b : Nat} {y : Obj}, u.heap[b]? = some y → some b ≠ v.ownBlock → u'.heap[b]? = some y := fun {b y} hb hn => by
  have := block_lt' hb
  rw [hg.block b (by omega) hn, heap_alloc_old _ _ this]; exact hb
 refine ⟨kp h.p (ne _ (by omega)), kp h.r (ne _ (by omega)), kp h.x h.ne, ?_, ?_, ⟨hl.1, hl.2.1, by omega⟩, gb_new (gb_alloc h.g o) hg (fun q hq => by have := (h.own.lt q hq).1; omega)⟩
 ·show World.ownsRow _ B 180 8 _ (l ++ news).length (flatI (l ++ news))
  rw [List.length_append, show flatI (l ++ news) = flatI l ++ flatI news by simp [flatI]]; exact ho
 ·intro e
  rcases hb with hb | hb
  ·exact h.ne (e.trans hb)
  ·rw [hb] at e; simp at e; omega
theorem Loc.set5 (x : Loc) (a b c d e : Int) : ((((x.val.set! 0 (.int .i64 a)).set! 1 (.int .i64 b)).set! 2 (.int .i64 c)).set! 3 (.int .i64 d)).set! 4 (.int .i64 e) = Loc.val ⟨a, b, c, d, e, x.l, x.a0, x.a1, x.a2, x.a3, x.a4, x.a5⟩ := by kernel_rfl
theorem Loc.set7 (x : Loc) (a b c d e f h : Int) : ((((((x.val.set! 5 (.int .i64 a)).set! 6 (.int .i64 b)).set! 7 (.int .i64 c)).set! 8 (.int .i64 d)).set! 9 (.int .i64 e)).set! 10 (.int .i64 f)).set! 11 (.int .i64 h) = Loc.val ⟨x.px, x.py, x.pz, x.t, x.m, a, b, c, d, e, f, h⟩ := by kernel_rfl
theorem SrAt.five {P : Prob} {vl vh vp : Value} {w : World} {X B : Nat} {l : List It} {x : Loc} {n : Nat} {v : Value} {u : World} (h : SrAt P vl vh vp w X B ⟨l, x, n⟩ v u) (a b c d e : Int) : SrAt P vl vh vp w X B ⟨l, ⟨a, b, c, d, e, x.l, x.a0, x.a1, x.a2, x.a3, x.a4, x.a5⟩, n⟩ v (((((u.setCell ⟨X, 0, none⟩ (.int .i64 a)).setCell ⟨X, 1, none⟩ (.int .i64 b)).setCell ⟨X, 2, none⟩ (.int .i64 c)).setCell ⟨X, 3, none⟩ (.int .i64 d)).setCell ⟨X, 4, none⟩ (.int .i64 e)) := by
 refine h.px ?_ (by repeat (first | refine gb_setCell ?_ (.inr rfl) _ | exact gb_refl _ _))
 have hx : u.heap[X]? = some (.cells x.val 79 (0, 0)) := h.x
 have hb := set_block (set_block (set_block (set_block (set_block hx 0 (.int .i64 a)) 1 (.int .i64 b)) 2 (.int .i64 c)) 3 (.int .i64 d)) 4 (.int .i64 e)
 rw [Loc.set5] at hb
 exact hb
theorem SrAt.seven {P : Prob} {vl vh vp : Value} {w : World} {X B : Nat} {l : List It} {x : Loc} {n : Nat} {v : Value} {u : World} (h : SrAt P vl vh vp w X B ⟨l, x, n⟩ v u) (a b c d e f j : Int) : SrAt P vl vh vp w X B ⟨l, ⟨x.px, x.py, x.pz, x.t, x.m, a, b, c, d, e, f, j⟩, n⟩ v (((((((u.setCell ⟨X, 5, none⟩ (.int .i64 a)).setCell ⟨X, 6, none⟩ (.int .i64 b)).setCell ⟨X, 7, none⟩ (.int .i64 c)).setCell ⟨X, 8, none⟩ (.int .i64 d)).setCell ⟨X, 9, none⟩ (.int .i64 e)).setCell ⟨X, 10, none⟩ (.int .i64 f)).setCell ⟨X, 11, none⟩ (.int .i64 j)) := by
 refine h.px ?_ (by repeat (first | refine gb_setCell ?_ (.inr rfl) _ | exact gb_refl _ _))
 have hx : u.heap[X]? = some (.cells x.val 79 (0, 0)) := h.x
 have hb := set_block (set_block (set_block (set_block (set_block (set_block (set_block hx 5 (.int .i64 a)) 6 (.int .i64 b)) 7 (.int .i64 c)) 8 (.int .i64 d)) 9 (.int .i64 e)) 10 (.int .i64 f)) 11 (.int .i64 j)
 rw [Loc.set7] at hb
 exact hb
theorem Loc.set1 (x : Loc) (a : Int) : x.val.set! 5 (.int .i64 a) = Loc.val ⟨x.px, x.py, x.pz, x.t, x.m, a, x.a0, x.a1, x.a2, x.a3, x.a4, x.a5⟩ := by kernel_rfl
theorem Loc.set6 (x : Loc) (b c d e f h : Int) : (((((x.val.set! 6 (.int .i64 b)).set! 7 (.int .i64 c)).set! 8 (.int .i64 d)).set! 9 (.int .i64 e)).set! 10 (.int .i64 f)).set! 11 (.int .i64 h) = Loc.val ⟨x.px, x.py, x.pz, x.t, x.m, x.l, b, c, d, e, f, h⟩ := by kernel_rfl
theorem SrAt.one {P : Prob} {vl vh vp : Value} {w : World} {X B : Nat} {l : List It} {x : Loc} {n : Nat} {v : Value} {u : World} (h : SrAt P vl vh vp w X B ⟨l, x, n⟩ v u) (a : Int) : SrAt P vl vh vp w X B ⟨l, ⟨x.px, x.py, x.pz, x.t, x.m, a, x.a0, x.a1, x.a2, x.a3, x.a4, x.a5⟩, n⟩ v (u.setCell ⟨X, 5, none⟩ (.int .i64 a)) := by
 refine h.px ?_ (gb_setCell (gb_refl _ _) (.inr rfl) _)
 have hx : u.heap[X]? = some (.cells x.val 79 (0, 0)) := h.x
 have hb := set_block hx 5 (.int .i64 a)
 rw [Loc.set1] at hb
 exact hb
theorem SrAt.six {P : Prob} {vl vh vp : Value} {w : World} {X B : Nat} {l : List It} {x : Loc} {n : Nat} {v : Value} {u : World} (h : SrAt P vl vh vp w X B ⟨l, x, n⟩ v u) (b c d e f j : Int) : SrAt P vl vh vp w X B ⟨l, ⟨x.px, x.py, x.pz, x.t, x.m, x.l, b, c, d, e, f, j⟩, n⟩ v ((((((u.setCell ⟨X, 6, none⟩ (.int .i64 b)).setCell ⟨X, 7, none⟩ (.int .i64 c)).setCell ⟨X, 8, none⟩ (.int .i64 d)).setCell ⟨X, 9, none⟩ (.int .i64 e)).setCell ⟨X, 10, none⟩ (.int .i64 f)).setCell ⟨X, 11, none⟩ (.int .i64 j)) := by
 refine h.px ?_ (by repeat (first | refine gb_setCell ?_ (.inr rfl) _ | exact gb_refl _ _))
 have hx : u.heap[X]? = some (.cells x.val 79 (0, 0)) := h.x
 have hb := set_block (set_block (set_block (set_block (set_block (set_block hx 6 (.int .i64 b)) 7 (.int .i64 c)) 8 (.int .i64 d)) 9 (.int .i64 e)) 10 (.int .i64 f)) 11 (.int .i64 j)
 rw [Loc.set6] at hb
 exact hb
theorem Tryz.infoOpenT : (Tryz.prog.info? 180).map (fun i => (i.zero, i.size, i.bytes)) = some (some (.agg #[(0:Int), (0:Int), (0:Int), (0:Int), (0:Int), (0:Int), (0:Int), .bool false]), 8, 64) := by kernel_rfl
theorem itAt_done {l : List It} {j : Nat} (h : j < l.length) (x : It) : itAt (l.set j x) j = x := by simp [itAt, h]
theorem SrAt.done {P : Prob} {vl vh vp : Value} {w : World} {X B : Nat} {s : Sr} {u : World} {q cp : Nat} (h : SrAt P vl vh vp w X B s (.slice (some ⟨q, 0, none⟩) s.l.length cp) u) (hqB : B ≤ q) (hqX : q ≠ X) (j : Nat) (hj : j < s.l.length) :
  SrAt P vl vh vp w X B ⟨s.l.set j { itAt s.l j with done := true }, s.x, s.n⟩ (.slice (some ⟨q, 0, none⟩) s.l.length cp) (u.setCell ⟨q, j * 8 + 7, none⟩ (.bool true)) := by
 have hst := h.own.stored (j * 8 + 7) (.bool true)
 have hl := h.lt
 have hsz := hst.2.size
 refine ⟨block_keptp hst.2 h.p (by omega), block_keptp hst.2 h.r (by omega), block_keptp hst.2 h.x (fun e => hqX e.symm), ?_, h.ne, ⟨hl.1, hl.2.1, by omega⟩, gb_setCell h.g (.inl (by simp; omega)) _⟩
 show World.ownsRow _ B 180 8 _ (s.l.set j _).length (flatI (s.l.set j _))
 rw [flatI_done _ _ hj, List.length_set]
 exact hst.1
def ClsMin (w : World) (r : Nat) (y : Loc) (c M : Int) (u : World) : Prop := w.grownBy u (some r) ∧ ∃ a : Int, min a c = M ∧ u.heap[r]? = some (.cells (Loc.val ⟨y.px, y.py, y.pz, y.t, y.m, a, y.a0, y.a1, y.a2, y.a3, y.a4, y.a5⟩) 79 (0, 0))
theorem ClsMin.grown {w : World} {r : Nat} {y : Loc} {c M : Int} (u u' : World) (h : ClsMin w r y c M u) (hg : u.grownBy u' none) : ClsMin w r y c M u' := by
 obtain ⟨h1, a, h2, h3⟩ := h
 exact ⟨gb_trans h1 (gb_none hg), a, h2, block_kept hg h3 rfl⟩
theorem ClsMin.cells {w : World} {r b : Nat} {y : Loc} {c M : Int} (hb : b < w.heap.size) (hr : b ≠ r) (u : Cls (ClsMin w r y c M)) (o : Nat) : (evr u).cell? ⟨b, o, none⟩ = w.cell? ⟨b, o, none⟩ := gb_cell (evr_h u).1 hb (by simpa using hr)
theorem ClsMin.area {w : World} {r : Nat} {y : Loc} {c M : Int} (u : Cls (ClsMin w r y c M)) : (evr u).cell? ⟨r, 6, none⟩ = some (.int .i64 y.a0) ∧ (evr u).cell? ⟨r, 7, none⟩ = some (.int .i64 y.a1) ∧ (evr u).cell? ⟨r, 8, none⟩ = some (.int .i64 y.a2) ∧ (evr u).cell? ⟨r, 9, none⟩ = some (.int .i64 y.a3) ∧ (evr u).cell? ⟨r, 10, none⟩ = some (.int .i64 y.a4) ∧ (evr u).cell? ⟨r, 11, none⟩ = some (.int .i64 y.a5) := by
 obtain ⟨-, a, -, h⟩ := evr_h u
 obtain ⟨-, -, -, -, -, -, h6, h7, h8, h9, h10, h11⟩ := cells12 h
 exact ⟨h6, h7, h8, h9, h10, h11⟩
abbrev isLow (r : Nat) (y : Loc) (M : Int) : List Value → Value → World → Prop := fun _ _ u => u.heap[r]? = some (.cells (Loc.val ⟨y.px, y.py, y.pz, y.t, y.m, M, y.a0, y.a1, y.a2, y.a3, y.a4, y.a5⟩) 79 (0, 0))
section
variable {P : Program} {ops : Array Oper} {md : Region.Mode} {w0 : World} {sp : Nat → Option (List Value → Value → World → Prop)} {al : Nat → Bool} {N : Nat} {Q : List Oper → Act → Facts → Prop} {n k : Nat} {o : Oper} {l : List Oper} {a : Act} {f : Facts}
theorem rg_loadMin (r : Nat) (y : Loc) (c M : Int) {k0 : Nat} (hk : k ≠ k0) (hs : sp k = some (isInt fun x => min x c = M)) (hw : Region.wanted o (yielded ops a.tmps) = true) (hal : al k = false)
  (hrun : ∀ w x, w.cell? ⟨r, 5, none⟩ = some (.int .i64 x) → (execOp a.eval o).run P w = .ok (.value (.int .i64 x)) w)
  (h : ∀ x, min x c = M → rLexL P md ops ⟨In (ClsMin w0 r y c M), MakesB k0 r, sp, al, N⟩ Q n l (k + 1) (a.put o.dst (.int .i64 x)) (upd f k fun _ => ∃ z, Value.int .i64 x = .int .i64 z ∧ min z c = M)) :
  rLexL P md ops ⟨In (ClsMin w0 r y c M), MakesB k0 r, sp, al, N⟩ Q (n + 1) (o :: l) k a f := by
 refine rLexL_spec (isInt fun x => min x c = M) hs hw (fun v j w w' _ _ _ _ h => h) (fun w hC hd => ?_) ?_
 ·obtain ⟨-, x, hx, hh⟩ := hC.out
  exact stepTo_run (hrun w x (cells12 hh).2.2.2.2.2.1) ⟨hC, MakesB.none hk _ _ (gb_refl _ _), ⟨x, rfl, hx⟩, fun e => by rw [hal] at e; cases e⟩
 ·rintro v w hC ⟨x, rfl, hx⟩
  exact h x hx
theorem rg_storeMin (r : Nat) (y : Loc) (c M : Int) (hM : min M c = M) (hr : w0.heap.size > r) (hs : sp k = some (isLow r y M)) (hw : Region.wanted o (yielded ops a.tmps) = true) (hal : al k = false) (hdst : o.dst = none)
  (hrun : ∀ w Φ x, w.cell? ⟨r, 5, none⟩ = some x → w.frozen? ⟨r, 5, none⟩ = false → Φ undef (w.setCell ⟨r, 5, none⟩ (.int .i64 M)) → stepTo P o a w Φ)
  (h : rLexL P md ops ⟨In (ClsMin w0 r y c M), MakesB k r, sp, al, N⟩ Q n l (k + 1) (a.put o.dst undef) (upd f k fun u => isLow r y M [] undef u)) :
  rLexL P md ops ⟨In (ClsMin w0 r y c M), MakesB k r, sp, al, N⟩ Q (n + 1) (o :: l) k a f := by
 refine rLexL_spec (isLow r y M) hs hw ?_ (fun w hC hd => ?_) ?_
 ·intro v j w w' hj _ _ hR hh
  unfold MakesB at hR; rw [if_neg hj] at hR
  exact block_kept hR hh rfl
 ·obtain ⟨hg, x, hx, hh⟩ := hC.out
  have hb := set_block hh 5 (.int .i64 M)
  rw [Loc.set1] at hb
  have hgs : w.grownBy (w.setCell ⟨r, 5, none⟩ (.int .i64 M)) (some r) := gb_setCell (gb_refl _ _) (.inr rfl) _
  exact hrun w _ _ (cells12 hh).2.2.2.2.2.1 (frozen3 hh 5) ⟨In.mk ⟨gb_trans hg hgs, M, hM, hb⟩, by unfold MakesB; rw [if_pos rfl]; exact hgs, hb, fun e => by rw [hal] at e; cases e⟩
 ·intro v w hC _
  rw [hdst] at h ⊢
  exact h
end
set_option maxRecDepth 100000 in
set_option maxHeartbeats 20000000 in
theorem rsearch_any (P : Prob) (vl vh vp : Value) (tol : Int) (w : World) (hi : ProbIn P vl vh vp w) (hbig : P.phs.length ≤ 1000000000) :
  Calls Tryz.prog 115 #[.agg (P.val vl vh vp), tol] w fun e w' => e = .returned (.tuple #[.agg (srch P tol).1.val, .int .i64 (srch P tol).2.1, .int .i64 (srch P tol).2.2]) ∧ w.grownBy w' none := by
 have VA := zH (fun (u : World) (h : w.grownBy u none) => rmvalidate_any P vl vh vp u (hi.after h) hbig)
 have BD := zH (fun (b : Bx) (u : World) (h : w.grownBy u none) => rbound_any P vl vh vp b.a b.b b.c b.d b.e b.f u (hi.after h) hbig)
 have AT := zH (fun (x y z : Int) (u : World) (h : w.grownBy u none) => rat_any P vl vh vp x y z u (hi.after h) hbig)
 simp only [bdV_eq] at BD
 simp only [atV_eq] at AT
 obtain ⟨pa, pc, rfl⟩ := hi.p.slice
 obtain ⟨la, ln, lc, rfl⟩ := sl_slice hi.l
 obtain ⟨ha, hn, hc, rfl⟩ := sl_slice hi.h
 generalize hpr : srch P tol = pr
 have HP := zH hpr.symm
 clear hpr
 unfold srch at HP
 generalize valE P = E at *
 clear hi hbig
 have hBE := zH (rfl : bdC P P.x0 P.y0 P.z0 P.x1 P.y1 P.z1 = bdC P P.x0 P.y0 P.z0 P.x1 P.y1 P.z1)
 clear hBE
 obtain ⟨x0, y0, z0, x1, y1, z1, step, ls, hs, phs, cap⟩ := P
 generalize hpn : phs.length = pn at *
 have hPV : Prob.val ⟨x0, y0, z0, x1, y1, z1, step, ls, hs, phs, cap⟩ (.slice la ln lc) (.slice ha hn hc) (.slice pa pn pc) = #[.int .i64 x0, .int .i64 y0, .int .i64 z0, .int .i64 x1, .int .i64 y1, .int .i64 z1, .int .i64 step, .slice la ln lc, .slice ha hn hc, .slice pa pn pc, .int .i64 cap] := rfl
 rw [hPV] at VA BD AT ⊢
 have hg0 := gb_alloc (gb_alloc (gb_refl w none) (.cells #[x0, y0, z0, x1, y1, z1, step, .slice la ln lc, .slice ha hn hc, .slice pa pn pc, cap] 83)) (.cells #[(0:Int), (0:Int), (0:Int), (0:Int), (0:Int), (0:Int), (0:Int), (0:Int), (0:Int), (0:Int), (0:Int), (0:Int)] 79)
 have K0 : Hid (((w.alloc (.cells #[x0, y0, z0, x1, y1, z1, step, .slice la ln lc, .slice ha hn hc, .slice pa pn pc, cap] 83)).alloc (.cells #[(0:Int), (0:Int), (0:Int), (0:Int), (0:Int), (0:Int), (0:Int), (0:Int), (0:Int), (0:Int), (0:Int), (0:Int)] 79)).heap[w.heap.size]? = some (.cells #[x0, y0, z0, x1, y1, z1, step, .slice la ln lc, .slice ha hn hc, .slice pa pn pc, cap] 83 (0, 0))) := zH (by rw [heap_alloc_old _ _ (by simp), heap_alloc_new])
 have K1 : Hid (((w.alloc (.cells #[x0, y0, z0, x1, y1, z1, step, .slice la ln lc, .slice ha hn hc, .slice pa pn pc, cap] 83)).alloc (.cells #[(0:Int), (0:Int), (0:Int), (0:Int), (0:Int), (0:Int), (0:Int), (0:Int), (0:Int), (0:Int), (0:Int), (0:Int)] 79)).heap[w.heap.size + 1]? = some (.cells #[(0:Int), (0:Int), (0:Int), (0:Int), (0:Int), (0:Int), (0:Int), (0:Int), (0:Int), (0:Int), (0:Int), (0:Int)] 79 (0, 0))) := zH (by simpa using heap_alloc_new (w.alloc _) (.cells #[(0:Int), (0:Int), (0:Int), (0:Int), (0:Int), (0:Int), (0:Int), (0:Int), (0:Int), (0:Int), (0:Int), (0:Int)] 79))
 have G0 := zH hg0
 clear hg0
 obtain ⟨e0_, e1_, e2_, e3_, e4_, e5_, e6_, e7_, e8_, e9_, e10_⟩ := cells11 K0.out
 go_enter Tryz.func115, Tryz.ntmps115
 go_wp2_with fail
 generalize (w.alloc (.cells #[x0, y0, z0, x1, y1, z1, step, .slice la ln lc, .slice ha hn hc, .slice pa pn pc, cap] 83)).alloc (.cells #[(0:Int), (0:Int), (0:Int), (0:Int), (0:Int), (0:Int), (0:Int), (0:Int), (0:Int), (0:Int), (0:Int), (0:Int)] 79) = w1 at *
 (with_reducible refine (VA.out w1 G0.out).mono ?_)
 rintro r w2 ⟨rfl, hg⟩
 clear e0_ e1_ e2_ e3_ e4_ e5_ e6_ e7_ e8_ e9_ e10_
 have K2 := zH (block_kept hg K0.out rfl); have R2 := zH (block_kept hg K1.out rfl); have G2 := zH (gb_trans G0.out hg)
 have hsz2 := block_lt' R2.out
 clear hg K0 K1 G0 VA
 by_cases hE : E = 0
 rotate_left
 ·have hE' : (E == 0) = false := by simpa using hE
  have HR := zH (show pr = (loc0, 0, E) by rw [HP.out, if_pos hE])
  have HN := zH (setRow_at (cs := #[(0:Int), (0:Int), (0:Int), (0:Int), (0:Int), (0:Int), (0:Int), (0:Int), (0:Int), (0:Int), (0:Int), (0:Int)]) R2.out)
  have HGE := zH (gb_setRow (cs := #[(0:Int), (0:Int), (0:Int), (0:Int), (0:Int), (0:Int), (0:Int), (0:Int), (0:Int), (0:Int), (0:Int), (0:Int)]) G2.out (g := w.heap.size + 1) (.inl (by omega)))
  clear hE
  go_wp2_with (with_reducible refine wpList_store_row rfl _ _ _ rfl (w.heap.size + 1) #[(0:Int), (0:Int), (0:Int), (0:Int), (0:Int), (0:Int), (0:Int), (0:Int), (0:Int), (0:Int), (0:Int), (0:Int)] rfl rfl _ _ R2.out (by kernel_rfl) rfl (by simp [Value.oneCell']) ?_)
  obtain ⟨d0_, d1_, d2_, d3_, d4_, d5_, d6_, d7_, d8_, d9_, d10_, d11_⟩ := cells12 HN.out
  exact bodyPost_ret (v := .tuple #[.agg #[(0:Int), (0:Int), (0:Int), (0:Int), (0:Int), (0:Int), (0:Int), (0:Int), (0:Int), (0:Int), (0:Int), (0:Int)], (0:Int), E]) (by simp [results, Tryz.results115, go_sem, d0_, d1_, d2_, d3_, d4_, d5_, d6_, d7_, d8_, d9_, d10_, d11_]) rfl ⟨by rw [HR.out]; rfl, HGE.out⟩
 subst hE
 by_cases ht : tol < 0
 ·have ht' : decide (tol < 0) = true := decide_eq_true ht
  have HR := zH (show pr = (loc0, 0, 2) by rw [HP.out, if_neg (by simp), if_pos ht])
  have HN := zH (setRow_at (cs := #[(0:Int), (0:Int), (0:Int), (0:Int), (0:Int), (0:Int), (0:Int), (0:Int), (0:Int), (0:Int), (0:Int), (0:Int)]) R2.out)
  have HGE := zH (gb_setRow (cs := #[(0:Int), (0:Int), (0:Int), (0:Int), (0:Int), (0:Int), (0:Int), (0:Int), (0:Int), (0:Int), (0:Int), (0:Int)]) G2.out (g := w.heap.size + 1) (.inl (by omega)))
  clear ht
  go_wp2_with (with_reducible refine wpList_store_row rfl _ _ _ rfl (w.heap.size + 1) #[(0:Int), (0:Int), (0:Int), (0:Int), (0:Int), (0:Int), (0:Int), (0:Int), (0:Int), (0:Int), (0:Int), (0:Int)] rfl rfl _ _ R2.out (by kernel_rfl) rfl (by simp [Value.oneCell']) ?_)
  obtain ⟨d0_, d1_, d2_, d3_, d4_, d5_, d6_, d7_, d8_, d9_, d10_, d11_⟩ := cells12 HN.out
  exact bodyPost_ret (v := .tuple #[.agg #[(0:Int), (0:Int), (0:Int), (0:Int), (0:Int), (0:Int), (0:Int), (0:Int), (0:Int), (0:Int), (0:Int), (0:Int)], (0:Int), (2:Int)]) (by simp [results, Tryz.results115, go_sem, d0_, d1_, d2_, d3_, d4_, d5_, d6_, d7_, d8_, d9_, d10_, d11_]) rfl ⟨by rw [HR.out]; rfl, HGE.out⟩
 have ht' : decide (tol < 0) = false := decide_eq_false ht
 have HPP := zH (show pr = _ by rw [HP.out, if_neg (by simp), if_neg ht])
 clear HP
 obtain ⟨e0_, e1_, e2_, e3_, e4_, e5_, e6_, e7_, e8_, e9_, e10_⟩ := cells11 K2.out
 go_wp2_with fail
 (with_reducible refine (BD.out ⟨x0, y0, z0, x1, y1, z1⟩ w2 G2.out).mono ?_)
 rintro r w3 ⟨rfl, hg⟩
 clear e0_ e1_ e2_ e3_ e4_ e5_ e6_ e7_ e8_ e9_ e10_
 have K3 := zH (block_kept hg K2.out rfl); have R3 := zH (block_kept hg R2.out rfl); have G3 := zH (gb_trans G2.out hg)
 have hsz3 := block_lt' R3.out
 clear hg K2 R2 G2
 generalize hbc : bdC ⟨x0, y0, z0, x1, y1, z1, step, ls, hs, phs, cap⟩ x0 y0 z0 x1 y1 z1 = bc at *
 generalize hbe : bdE ⟨x0, y0, z0, x1, y1, z1, step, ls, hs, phs, cap⟩ x0 y0 z0 x1 y1 z1 = be at *
 obtain ⟨e0_, e1_, e2_, e3_, e4_, e5_, e6_, e7_, e8_, e9_, e10_⟩ := cells11 K3.out
 have hg5 : w3.grownBy ((w3.alloc (.cells #[x0, y0, z0, x1, y1, z1, bc, .bool false] 180)).alloc (.cells #[(0:Int), (0:Int), (0:Int), (0:Int), (0:Int), (0:Int), (0:Int), (0:Int), (0:Int), (0:Int), (0:Int), (0:Int)] 79)) none := gb_alloc (gb_alloc (gb_refl _ _) _) _
 have K5 : Hid (((w3.alloc (.cells #[x0, y0, z0, x1, y1, z1, bc, .bool false] 180)).alloc (.cells #[(0:Int), (0:Int), (0:Int), (0:Int), (0:Int), (0:Int), (0:Int), (0:Int), (0:Int), (0:Int), (0:Int), (0:Int)] 79)).heap[w.heap.size]? = some (.cells #[x0, y0, z0, x1, y1, z1, step, .slice la ln lc, .slice ha hn hc, .slice pa pn pc, cap] 83 (0, 0))) := zH (block_kept hg5 K3.out rfl)
 have R5 : Hid (((w3.alloc (.cells #[x0, y0, z0, x1, y1, z1, bc, .bool false] 180)).alloc (.cells #[(0:Int), (0:Int), (0:Int), (0:Int), (0:Int), (0:Int), (0:Int), (0:Int), (0:Int), (0:Int), (0:Int), (0:Int)] 79)).heap[w.heap.size + 1]? = some (.cells #[(0:Int), (0:Int), (0:Int), (0:Int), (0:Int), (0:Int), (0:Int), (0:Int), (0:Int), (0:Int), (0:Int), (0:Int)] 79 (0, 0))) := zH (block_kept hg5 R3.out rfl)
 have X5 : Hid (((w3.alloc (.cells #[x0, y0, z0, x1, y1, z1, bc, .bool false] 180)).alloc (.cells #[(0:Int), (0:Int), (0:Int), (0:Int), (0:Int), (0:Int), (0:Int), (0:Int), (0:Int), (0:Int), (0:Int), (0:Int)] 79)).heap[w3.heap.size + 1]? = some (.cells #[(0:Int), (0:Int), (0:Int), (0:Int), (0:Int), (0:Int), (0:Int), (0:Int), (0:Int), (0:Int), (0:Int), (0:Int)] 79 (0, 0))) := zH (by simpa using heap_alloc_new (w3.alloc _) (.cells #[(0:Int), (0:Int), (0:Int), (0:Int), (0:Int), (0:Int), (0:Int), (0:Int), (0:Int), (0:Int), (0:Int), (0:Int)] 79))
 have O5 : Hid (((w3.alloc (.cells #[x0, y0, z0, x1, y1, z1, bc, .bool false] 180)).alloc (.cells #[(0:Int), (0:Int), (0:Int), (0:Int), (0:Int), (0:Int), (0:Int), (0:Int), (0:Int), (0:Int), (0:Int), (0:Int)] 79)).ownsRow w3.heap.size 180 8 (.slice (some ⟨w3.heap.size, 0, none⟩) 1 1) 1 (flatI [⟨⟨x0, y0, z0, x1, y1, z1⟩, bc, false⟩])) := zH (World.ownsRow.alloc (World.ownsRow_lit w3 #[x0, y0, z0, x1, y1, z1, bc, .bool false] 1 (Nat.le_refl _) (by decide) rfl) _)
 have G5 := zH (gb_trans G3.out hg5)
 have S5 : Hid (SrAt ⟨x0, y0, z0, x1, y1, z1, step, ls, hs, phs, cap⟩ (.slice la ln lc) (.slice ha hn hc) (.slice pa pn pc) w (w3.heap.size + 1) w3.heap.size ⟨[⟨⟨x0, y0, z0, x1, y1, z1⟩, bc, false⟩], loc0, 0⟩ (.slice (some ⟨w3.heap.size, 0, none⟩) 1 1) ((w3.alloc (.cells #[x0, y0, z0, x1, y1, z1, bc, .bool false] 180)).alloc (.cells #[(0:Int), (0:Int), (0:Int), (0:Int), (0:Int), (0:Int), (0:Int), (0:Int), (0:Int), (0:Int), (0:Int), (0:Int)] 79))) := zH ⟨K5.out, R5.out, X5.out, O5.out, by simp [Value.ownBlock], ⟨by omega, by omega, by simp; omega⟩, G5.out⟩
 have ST : Hid (Sr.start ⟨x0, y0, z0, x1, y1, z1, step, ls, hs, phs, cap⟩ = ⟨[⟨⟨x0, y0, z0, x1, y1, z1⟩, bc, false⟩], loc0, 0⟩) := zH (by rw [← hbc]; rfl)
 clear hg5 K5 R5 X5 O5 K3 R3 hbc
 go_upto_block 0 with fail
 clear e0_ e1_ e2_ e3_ e4_ e5_ e6_ e7_ e8_ e9_ e10_
 generalize hw5 : ((w3.alloc (.cells #[x0, y0, z0, x1, y1, z1, bc, .bool false] 180)).alloc (.cells #[(0:Int), (0:Int), (0:Int), (0:Int), (0:Int), (0:Int), (0:Int), (0:Int), (0:Int), (0:Int), (0:Int), (0:Int)] 79)) = w5 at *
 clear hw5
 generalize w3.heap.size + 1 = X at *
 generalize w3.heap.size = B at *
 go_cut [10, 12] from 13 (fun v n wc => ∃ s : Sr, n = .int .i64 (s.n : Nat) ∧ pr = (s.fin s.l.length, (s.n : Int), 0) ∧ SrAt ⟨x0, y0, z0, x1, y1, z1, step, ls, hs, phs, cap⟩ (.slice la ln lc) (.slice ha hn hc) (.slice pa pn pc) w X B s v wc ∧ 0 < s.l.length ∧ s.l.length ≤ 6001)
 case first =>
  go_wp2_with fail
  go_loopg [10, 12] 3000 (fun gk v n wr => ∃ s : Sr, n = .int .i64 (s.n : Nat) ∧ s.n + gk = 3000 ∧ Sr.run ⟨x0, y0, z0, x1, y1, z1, step, ls, hs, phs, cap⟩ tol 3000 (Sr.start ⟨x0, y0, z0, x1, y1, z1, step, ls, hs, phs, cap⟩) = Sr.run ⟨x0, y0, z0, x1, y1, z1, step, ls, hs, phs, cap⟩ tol gk s ∧ SrAt ⟨x0, y0, z0, x1, y1, z1, step, ls, hs, phs, cap⟩ (.slice la ln lc) (.slice ha hn hc) (.slice pa pn pc) w X B s v wr ∧ 0 < s.l.length ∧ s.l.length ≤ 1 + 2 * s.n)
  case atStart => exact ⟨_, rfl, rfl, by rw [ST.out], S5.out, by simp, by simp⟩
  case round =>
   clear S5 ST
   obtain ⟨s, rfl, hf, hrun, hs, hl0, hlb⟩ := hrel
   have HRUN := zH hrun; have S := zH hs
   clear hrun hs
   obtain ⟨q, cp, rfl, hq, hqB, hqX, hcp, hcp2, hcell, hfz⟩ := S.out.at hl0
   have NX := zH (rnext_any s.l _ _ (S.out.slc hl0) hl0)
   clear hcell hfz
   go_wp2_with fail
   (with_reducible refine NX.out.mono ?_)
   rintro r w6 ⟨rfl, hg⟩
   have S6 := zH (S.out.keep hg)
   clear hg S NX hq
   have hsn := nx_in s.l s.l.length
   have hln : (s.l.length : Int) ≤ 9223372036854775807 := by omega
   have KD : Hid (s.k = nx s.l s.l.length) := zH rfl
   by_cases hk : nx s.l s.l.length < 0
   ·have hk' : decide (nx s.l s.l.length < 0) = true := decide_eq_true hk
    have HEND : Hid (s.ended tol = true) := zH (by unfold Sr.ended; rw [KD.out, hk']; rfl)
    have HR : Hid (pr = (s.fin s.l.length, (s.n : Int), 0)) := zH (by rw [HPP.out, HRUN.out, Sr.run_ended HEND.out])
    clear hk
    go_wp2
    go_quiet (fail)
    go_wp2
    go_meet
    case rel => exact ⟨s, rfl, HR.out, S6.out.keep (gb_drewN (gb_refl _ _) _), hl0, by omega⟩
   obtain ⟨j, hj⟩ : ∃ j : Nat, nx s.l s.l.length = j := ⟨(nx s.l s.l.length).toNat, by omega⟩
   have hjl : j < s.l.length := by omega
   have hjn : decide ((j : Int) < 0) = false := decide_eq_false (by omega)
   rw [hj] at KD ⊢
   have hjt : ((j : Int)).toNat = j := by omega
   clear hk hsn hj
   go_upto_region 11 with fail
   go_cut [66] from 47 to 147 (fun b wc => b = .bool (s.ended tol) ∧ w6.grownBy wc none)
   case first =>
    obtain ⟨c0_, c1_, c2_, c3_, c4_, c5_, c6_, c7_⟩ := S6.out.it j hjl
    obtain ⟨m0_, m1_, m2_, m3_, m4_, m5_, m6_, m7_, m8_, m9_, m10_, m11_⟩ := cells12 (show w6.heap[X]? = some (.cells #[.int .i64 s.x.px, .int .i64 s.x.py, .int .i64 s.x.pz, .int .i64 s.x.t, .int .i64 s.x.m, .int .i64 s.x.l, .int .i64 s.x.a0, .int .i64 s.x.a1, .int .i64 s.x.a2, .int .i64 s.x.a3, .int .i64 s.x.a4, .int .i64 s.x.a5] 79 (0, 0)) from S6.out.x)
    by_cases hn0 : s.n = 0
    ·have hn' : decide ((s.n : Int) > 0) = false := decide_eq_false (by omega)
     have HEND : Hid (s.ended tol = false) := zH (by unfold Sr.ended; rw [KD.out, hjn, hn0]; rfl)
     go_quiet (fail)
     go_wp2
     go_meet
     case rel => exact ⟨by rw [HEND.out], gb_drewN (gb_refl _ _) _⟩
    have hn' : decide ((s.n : Int) > 0) = true := decide_eq_true (by omega)
    have hn2 : decide (0 < s.n) = true := decide_eq_true (by omega)
    have hnp : 0 < s.n := by omega
    generalize hwr : IntKind.i64.wrap (s.x.m - (itAt s.l j).c) = wr_ at *
    have HEND : Hid (s.ended tol = decide (wr_ ≤ tol)) := zH (by unfold Sr.ended; rw [KD.out, hjn, hjt, hwr, show decide (0 < s.n) = true from decide_eq_true (by omega)]; simp)
    clear hjt
    by_cases htl : wr_ ≤ tol
    ·have htl' : decide (wr_ ≤ tol) = true := decide_eq_true htl
     clear htl
     go_quiet (fail)
     go_wp2
     go_meet
     case rel => exact ⟨by rw [HEND.out, htl'], gb_drewN (gb_refl _ _) _⟩
    ·have htl' : decide (wr_ ≤ tol) = false := decide_eq_false htl
     clear htl
     go_quiet (fail)
     go_wp2
     go_meet
     case rel => exact ⟨by rw [HEND.out, htl'], gb_drewN (gb_refl _ _) _⟩
   case rest =>
   obtain ⟨rfl, hg⟩ := hcut
   generalize wc = w7 at *
   have S7 := zH (S6.out.keep hg)
   clear hg S6
   obtain ⟨b_, hb_⟩ : ∃ b_, b_ = s.ended tol := ⟨_, rfl⟩
   rw [← hb_]
   cases b_
   rotate_left
   ·have HR : Hid (pr = (s.fin s.l.length, (s.n : Int), 0)) := zH (by rw [HPP.out, HRUN.out, Sr.run_ended hb_.symm])
    clear hb_
    go_wp2_with fail
    go_meet
    case rel => exact ⟨s, rfl, HR.out, S7.out, hl0, by omega⟩
   have HEND := zH hb_.symm
   clear hb_
   by_cases h3 : s.n = 3000
   ·have h3' : ((s.n : Int) == 3000) = true := by simp; omega
    have HR : Hid (pr = (loc0, 0, 25)) := zH (by
     obtain rfl : gk = 0 := by omega
     rw [HPP.out, HRUN.out, Sr.run_out HEND.out])
    clear h3
    have HN := zH (setRow_at (cs := #[(0:Int), (0:Int), (0:Int), (0:Int), (0:Int), (0:Int), (0:Int), (0:Int), (0:Int), (0:Int), (0:Int), (0:Int)]) S7.out.r)
    have HGE := zH (gb_setRow (cs := #[(0:Int), (0:Int), (0:Int), (0:Int), (0:Int), (0:Int), (0:Int), (0:Int), (0:Int), (0:Int), (0:Int), (0:Int)]) S7.out.g (g := w.heap.size + 1) (.inl (by omega)))
    have RR := zH S7.out.r
    go_wp2_with (with_reducible refine wpList_store_row rfl _ _ _ rfl (w.heap.size + 1) #[(0:Int), (0:Int), (0:Int), (0:Int), (0:Int), (0:Int), (0:Int), (0:Int), (0:Int), (0:Int), (0:Int), (0:Int)] rfl rfl _ _ RR.out (by kernel_rfl) rfl (by simp [Value.oneCell']) ?_)
    obtain ⟨d0_, d1_, d2_, d3_, d4_, d5_, d6_, d7_, d8_, d9_, d10_, d11_⟩ := cells12 HN.out
    exact bodyPost_ret (v := .tuple #[.agg #[(0:Int), (0:Int), (0:Int), (0:Int), (0:Int), (0:Int), (0:Int), (0:Int), (0:Int), (0:Int), (0:Int), (0:Int)], (0:Int), (25:Int)]) (by simp [results, Tryz.results115, go_sem, d0_, d1_, d2_, d3_, d4_, d5_, d6_, d7_, d8_, d9_, d10_, d11_]) rfl ⟨by rw [HR.out]; rfl, HGE.out⟩
   have h3' : ((s.n : Int) == 3000) = false := by simp; omega
   have hgk : gk - 1 < gk ∧ s.n + 1 + (gk - 1) = 3000 := by omega
   have hn3 : s.n + 1 ≤ 3000 := by omega
   have HRN : Hid (Sr.run ⟨x0, y0, z0, x1, y1, z1, step, ls, hs, phs, cap⟩ tol 3000 (Sr.start ⟨x0, y0, z0, x1, y1, z1, step, ls, hs, phs, cap⟩) = Sr.run ⟨x0, y0, z0, x1, y1, z1, step, ls, hs, phs, cap⟩ tol (gk - 1) (s.step ⟨x0, y0, z0, x1, y1, z1, step, ls, hs, phs, cap⟩ j)) := zH (by
    rw [HRUN.out]
    obtain ⟨g, rfl⟩ : ∃ g, gk = g + 1 := ⟨gk - 1, by omega⟩
    rw [Sr.run_next HEND.out, KD.out, hjt]; rfl)
   clear HRUN HEND hf KD h3 hjt
   obtain ⟨c0_, c1_, c2_, c3_, c4_, c5_, c6_, c7_⟩ := S7.out.it j hjl
   have z_ := S7.out.fz (j * 8 + 7)
   have S8 := zH (S7.out.done hqB hqX j hjl)
   have HSTEP : Hid (s.step ⟨x0, y0, z0, x1, y1, z1, step, ls, hs, phs, cap⟩ j = ⟨s.l.set j { itAt s.l j with done := true } ++ halves1 ⟨x0, y0, z0, x1, y1, z1, step, ls, hs, phs, cap⟩ (itAt s.l j).b, looks ⟨x0, y0, z0, x1, y1, z1, step, ls, hs, phs, cap⟩ (decide (s.n = 0)) s.x (itAt s.l j).b, s.n + 1⟩) := zH rfl
   have HI1 : Hid (itAt (s.l.set j { itAt s.l j with done := true }) j = { itAt s.l j with done := true } ∧ (s.l.set j { itAt s.l j with done := true }).length = s.l.length) := zH ⟨itAt_done hjl _, by simp⟩
   generalize s.l.set j { itAt s.l j with done := true } = l1 at *
   generalize itAt s.l j = it_ at *
   obtain ⟨bx, ic, idn⟩ := it_
   simp only [] at c0_ c1_ c2_ c3_ c4_ c5_ c6_ c7_ S8 HSTEP HI1
   have hl1 := HI1.out.2
   have C8 := zH (S8.out.it' j (by show j < l1.length; omega) HI1.out.1)
   obtain ⟨b0_, b1_, b2_, b3_, b4_, b5_, -, -⟩ := C8.out
   have CE := zH (fun u => rcenter_any bx.a bx.b bx.c bx.d bx.e bx.f u)
   have SPL := zH (fun u => rsplit_any bx.a bx.b bx.c bx.d bx.e bx.f u)
   have hcen : cen (bP bx.a bx.b bx.c bx.d bx.e bx.f) bx.a bx.d = bx.c0 ∧ cen (bP bx.a bx.b bx.c bx.d bx.e bx.f) bx.b bx.e = bx.c1 ∧ cen (bP bx.a bx.b bx.c bx.d bx.e bx.f) bx.c bx.f = bx.c2 := ⟨rfl, rfl, rfl⟩
   rw [hcen.1, hcen.2.1, hcen.2.2] at CE
   clear hcen
   go_wp2_with fail
   clear b0_ b1_ b2_ b3_ b4_ b5_ c0_ c1_ c2_ c3_ c4_ c5_ c6_ c7_ z_
   generalize hw8 : w7.setCell ⟨q, j * 8 + 7, none⟩ (.bool true) = w8 at *
   clear hw8 S7
   (with_reducible refine (CE.out w8).mono ?_)
   rintro r w9 ⟨rfl, hg⟩
   have S9 := zH (S8.out.keep hg)
   clear hg S8 C8 CE
   have LC : Hid (lookC ⟨x0, y0, z0, x1, y1, z1, step, ls, hs, phs, cap⟩ (decide (s.n = 0)) s.x bx = (decide (s.n = 0) || decide (bdC ⟨x0, y0, z0, x1, y1, z1, step, ls, hs, phs, cap⟩ bx.c0 bx.c1 bx.c2 bx.c0 bx.c1 bx.c2 < s.x.m) || (decide (bdC ⟨x0, y0, z0, x1, y1, z1, step, ls, hs, phs, cap⟩ bx.c0 bx.c1 bx.c2 bx.c0 bx.c1 bx.c2 = s.x.m) && decide (cmpP bx.c0 bx.c1 bx.c2 s.x.px s.x.py s.x.pz < 0)))) := zH rfl
   have LK : Hid (looks ⟨x0, y0, z0, x1, y1, z1, step, ls, hs, phs, cap⟩ (decide (s.n = 0)) s.x bx = if lookC ⟨x0, y0, z0, x1, y1, z1, step, ls, hs, phs, cap⟩ (decide (s.n = 0)) s.x bx then ⟨bx.c0, bx.c1, bx.c2, atT ⟨x0, y0, z0, x1, y1, z1, step, ls, hs, phs, cap⟩ bx.c0 bx.c1 bx.c2, bdC ⟨x0, y0, z0, x1, y1, z1, step, ls, hs, phs, cap⟩ bx.c0 bx.c1 bx.c2 bx.c0 bx.c1 bx.c2, s.x.l, s.x.a0, s.x.a1, s.x.a2, s.x.a3, s.x.a4, s.x.a5⟩ else s.x) := zH rfl
   have AT' := zH (AT.out bx.c0 bx.c1 bx.c2)
   generalize lookC ⟨x0, y0, z0, x1, y1, z1, step, ls, hs, phs, cap⟩ (decide (s.n = 0)) s.x bx = lc_ at *
   generalize looks ⟨x0, y0, z0, x1, y1, z1, step, ls, hs, phs, cap⟩ (decide (s.n = 0)) s.x bx = x' at *
   generalize atT ⟨x0, y0, z0, x1, y1, z1, step, ls, hs, phs, cap⟩ bx.c0 bx.c1 bx.c2 = T_ at *
   generalize bdC ⟨x0, y0, z0, x1, y1, z1, step, ls, hs, phs, cap⟩ bx.c0 bx.c1 bx.c2 bx.c0 bx.c1 bx.c2 = M_ at *
   generalize bdE ⟨x0, y0, z0, x1, y1, z1, step, ls, hs, phs, cap⟩ bx.c0 bx.c1 bx.c2 bx.c0 bx.c1 bx.c2 = E_ at *
   generalize bx.c0 = cx at *
   generalize bx.c1 = cy at *
   generalize bx.c2 = cz at *
   have hg10 : w9.grownBy (w9.alloc (.cells #[cx, cy, cz] 23)) none := gb_alloc (gb_refl _ _) _
   have S10 := zH (S9.out.keep hg10)
   have N10 := zH (heap_alloc_new w9 (.cells #[cx, cy, cz] 23))
   clear hg10 S9
   have P10 := zH S10.out.p
   rw [hPV] at P10
   obtain ⟨e0_, e1_, e2_, e3_, e4_, e5_, e6_, e7_, e8_, e9_, e10_⟩ := cells11 P10.out
   clear P10
   obtain ⟨n0_, n1_, n2_⟩ := cells3 N10.out
   go_wp2_with fail
   generalize w9.alloc (.cells #[cx, cy, cz] 23) = w10 at *
   (with_reducible refine (AT'.out w10 S10.out.g).mono ?_)
   rintro r w11 ⟨rfl, hg⟩
   clear e0_ e1_ e2_ e3_ e4_ e5_ e6_ e7_ e8_ e9_ e10_
   clear n0_ n1_ n2_ AT'
   have S11 := zH (S10.out.keep hg); have N11 := zH (block_kept hg N10.out rfl)
   clear hg S10 N10
   generalize w9.heap.size = C at *
   go_upto_region 17 with fail
   go_cut [107] from 47 to 147 (fun b wc => b = .bool lc_ ∧ w11.grownBy wc none)
   case first =>
    obtain ⟨n0_, n1_, n2_⟩ := cells3 N11.out
    obtain ⟨m0_, m1_, m2_, m3_, m4_, m5_, m6_, m7_, m8_, m9_, m10_, m11_⟩ := cells12 (show w11.heap[X]? = some (.cells #[.int .i64 s.x.px, .int .i64 s.x.py, .int .i64 s.x.pz, .int .i64 s.x.t, .int .i64 s.x.m, .int .i64 s.x.l, .int .i64 s.x.a0, .int .i64 s.x.a1, .int .i64 s.x.a2, .int .i64 s.x.a3, .int .i64 s.x.a4, .int .i64 s.x.a5] 79 (0, 0)) from S11.out.x)
    clear m5_ m6_ m7_ m8_ m9_ m10_ m11_
    by_cases h0 : s.n = 0
    ·have t0_ : ((s.n : Int) == 0) = true := by simp; omega
     have HC : Hid (lc_ = true) := zH (by rw [LC.out, h0]; rfl)
     clear h0
     go_wp2_with fail
     go_meet
     case rel => exact ⟨by rw [HC.out], gb_refl _ _⟩
    have t0_ : ((s.n : Int) == 0) = false := by simp; omega
    have hd0 : decide (s.n = 0) = false := decide_eq_false h0
    by_cases h1 : M_ < s.x.m
    ·have t1_ : decide (M_ < s.x.m) = true := decide_eq_true h1
     have HC : Hid (lc_ = true) := zH (by rw [LC.out, t1_]; simp)
     clear h0 h1
     go_wp2_with fail
     go_meet
     case rel => exact ⟨by rw [HC.out], gb_refl _ _⟩
    have t1_ : decide (M_ < s.x.m) = false := decide_eq_false h1
    by_cases h2 : M_ = s.x.m
    ·have t2_ : (M_ == s.x.m) = true := by simpa using h2
     have HC : Hid (lc_ = decide (cmpP cx cy cz s.x.px s.x.py s.x.pz < 0)) := zH (by rw [LC.out, t1_, hd0, decide_eq_true h2]; simp)
     have CM := zH (fun u => rcompare_any cx cy cz s.x.px s.x.py s.x.pz u)
     clear h0 h1 h2
     generalize cmpP cx cy cz s.x.px s.x.py s.x.pz = cm_ at *
     go_wp2_with fail
     (with_reducible refine (CM.out w11).mono ?_)
     rintro r w12 ⟨rfl, hg⟩
     go_wp2_with fail
     go_meet
     case rel => exact ⟨by rw [HC.out], hg⟩
    ·have t2_ : (M_ == s.x.m) = false := by simpa using h2
     have HC : Hid (lc_ = false) := zH (by rw [LC.out, t1_, hd0, decide_eq_false h2]; rfl)
     clear h0 h1 h2
     go_wp2_with fail
     go_meet
     case rel => exact ⟨by rw [HC.out], gb_refl _ _⟩
   case rest =>
   obtain ⟨rfl, hg⟩ := hcut
   generalize wc = w12 at *
   have S12 := zH (S11.out.keep hg); have N12 := zH (block_kept hg N11.out rfl)
   clear hg S11 N11 LC
   go_upto_if 107 with fail
   go_cut [] from 47 to 147 (fun wc => SrAt ⟨x0, y0, z0, x1, y1, z1, step, ls, hs, phs, cap⟩ (.slice la ln lc) (.slice ha hn hc) (.slice pa pn pc) w X B ⟨l1, x', s.n⟩ (.slice (some ⟨q, 0, none⟩) s.l.length cp) wc)
   case first =>
    cases lc_
    ·have HX : Hid (x' = s.x) := zH (by rw [LK.out]; rfl)
     go_wp2_with fail
     go_meet
     case rel => rw [HX.out]; exact S12.out
    ·have HX : Hid (x' = ⟨cx, cy, cz, T_, M_, s.x.l, s.x.a0, s.x.a1, s.x.a2, s.x.a3, s.x.a4, s.x.a5⟩) := zH (by rw [LK.out]; rfl)
     obtain ⟨n0_, n1_, n2_⟩ := cells3 N12.out
     obtain ⟨m0_, m1_, m2_, m3_, m4_, m5_, m6_, m7_, m8_, m9_, m10_, m11_⟩ := cells12 (show w12.heap[X]? = some (.cells #[.int .i64 s.x.px, .int .i64 s.x.py, .int .i64 s.x.pz, .int .i64 s.x.t, .int .i64 s.x.m, .int .i64 s.x.l, .int .i64 s.x.a0, .int .i64 s.x.a1, .int .i64 s.x.a2, .int .i64 s.x.a3, .int .i64 s.x.a4, .int .i64 s.x.a5] 79 (0, 0)) from S12.out.x)
     clear m5_ m6_ m7_ m8_ m9_ m10_ m11_
     have f0_ := frozen3 S12.out.x 0; have f1_ := frozen3 S12.out.x 1; have f2_ := frozen3 S12.out.x 2; have f3_ := frozen3 S12.out.x 3; have f4_ := frozen3 S12.out.x 4
     go_wp2_with fail
     go_meet
     case rel => rw [HX.out]; exact S12.out.five _ _ _ _ _
   case rest =>
   generalize wc = w13 at *
   have S13 := zH hcut
   clear hcut S12 N12 LK
   have HH : Hid (halves1 ⟨x0, y0, z0, x1, y1, z1, step, ls, hs, phs, cap⟩ bx = if bx.ok then [⟨bx.fst, bxC ⟨x0, y0, z0, x1, y1, z1, step, ls, hs, phs, cap⟩ bx.fst, false⟩, ⟨bx.snd, bxC ⟨x0, y0, z0, x1, y1, z1, step, ls, hs, phs, cap⟩ bx.snd, false⟩] else []) := zH rfl
   have SPB : Hid (∀ u, Calls Tryz.prog 147 #[.agg #[.int .i64 bx.a, .int .i64 bx.b, .int .i64 bx.c, .int .i64 bx.d, .int .i64 bx.e, .int .i64 bx.f]] u fun e w' => e = .returned (.tuple #[.agg #[.int .i64 bx.fst.a, .int .i64 bx.fst.b, .int .i64 bx.fst.c, .int .i64 bx.fst.d, .int .i64 bx.fst.e, .int .i64 bx.fst.f], .agg #[.int .i64 bx.snd.a, .int .i64 bx.snd.b, .int .i64 bx.snd.c, .int .i64 bx.snd.d, .int .i64 bx.snd.e, .int .i64 bx.snd.f], .bool bx.ok]) ∧ u.grownBy w' none) := zH (fun u => SPL.out u)
   clear SPL
   generalize bx.fst = fb at *
   generalize bx.snd = sb at *
   generalize bx.ok = ok_ at *
   obtain ⟨b0_, b1_, b2_, b3_, b4_, b5_, -, -⟩ := S13.out.it' j (by show j < l1.length; omega) HI1.out.1
   go_wp2_with fail
   (with_reducible refine (SPB.out w13).mono ?_)
   rintro r w14 ⟨rfl, hg⟩
   have S14 := zH (S13.out.keep hg)
   clear hg S13 b0_ b1_ b2_ b3_ b4_ b5_ SPB
   go_upto_region 21 with fail
   have hg16 : w14.grownBy ((w14.alloc (.cells #[.int .i64 fb.a, .int .i64 fb.b, .int .i64 fb.c, .int .i64 fb.d, .int .i64 fb.e, .int .i64 fb.f] 25)).alloc (.cells #[.int .i64 sb.a, .int .i64 sb.b, .int .i64 sb.c, .int .i64 sb.d, .int .i64 sb.e, .int .i64 sb.f] 25)) none := gb_alloc (gb_alloc (gb_refl _ _) _) _
   have F16 : Hid (((w14.alloc (.cells #[.int .i64 fb.a, .int .i64 fb.b, .int .i64 fb.c, .int .i64 fb.d, .int .i64 fb.e, .int .i64 fb.f] 25)).alloc (.cells #[.int .i64 sb.a, .int .i64 sb.b, .int .i64 sb.c, .int .i64 sb.d, .int .i64 sb.e, .int .i64 sb.f] 25)).heap[w14.heap.size]? = some (.cells #[.int .i64 fb.a, .int .i64 fb.b, .int .i64 fb.c, .int .i64 fb.d, .int .i64 fb.e, .int .i64 fb.f] 25 (0, 0))) := zH (by rw [heap_alloc_old _ _ (by simp), heap_alloc_new])
   have H16 : Hid (((w14.alloc (.cells #[.int .i64 fb.a, .int .i64 fb.b, .int .i64 fb.c, .int .i64 fb.d, .int .i64 fb.e, .int .i64 fb.f] 25)).alloc (.cells #[.int .i64 sb.a, .int .i64 sb.b, .int .i64 sb.c, .int .i64 sb.d, .int .i64 sb.e, .int .i64 sb.f] 25)).heap[w14.heap.size + 1]? = some (.cells #[.int .i64 sb.a, .int .i64 sb.b, .int .i64 sb.c, .int .i64 sb.d, .int .i64 sb.e, .int .i64 sb.f] 25 (0, 0))) := zH (by simpa using heap_alloc_new (w14.alloc _) (.cells #[.int .i64 sb.a, .int .i64 sb.b, .int .i64 sb.c, .int .i64 sb.d, .int .i64 sb.e, .int .i64 sb.f] 25))
   have S16 := zH (S14.out.keep hg16)
   clear hg16 S14
   generalize ((w14.alloc (.cells #[.int .i64 fb.a, .int .i64 fb.b, .int .i64 fb.c, .int .i64 fb.d, .int .i64 fb.e, .int .i64 fb.f] 25)).alloc (.cells #[.int .i64 sb.a, .int .i64 sb.b, .int .i64 sb.c, .int .i64 sb.d, .int .i64 sb.e, .int .i64 sb.f] 25)) = w16 at *
   generalize w14.heap.size = D at *
   cases ok_
   ·have HS : Hid (s.step ⟨x0, y0, z0, x1, y1, z1, step, ls, hs, phs, cap⟩ j = ⟨l1, x', s.n + 1⟩) := zH (by rw [HSTEP.out, HH.out]; simp)
    rw [HS.out] at HRN
    go_wp2_with fail
    go_roundg (gk - 1)
    case measure => exact hgk.1
    case rel => exact ⟨_, rfl, hgk.2, HRN.out, S16.out.num, by show 0 < l1.length; omega, by show l1.length ≤ 1 + 2 * (s.n + 1); omega⟩
   have P16 := S16.out.p
   rw [hPV] at P16
   obtain ⟨e0_, e1_, e2_, e3_, e4_, e5_, e6_, e7_, e8_, e9_, e10_⟩ := cells11 P16
   obtain ⟨f0_, f1_, f2_, f3_, f4_, f5_⟩ := six F16.out
   clear P16
   go_wp2_with fail
   (with_reducible refine (BD.out fb w16 S16.out.g).mono ?_)
   rintro r w17 ⟨rfl, hg⟩
   clear e0_ e1_ e2_ e3_ e4_ e5_ e6_ e7_ e8_ e9_ e10_
   clear f0_ f1_ f2_ f3_ f4_ f5_
   have S17 := zH (S16.out.keep hg); have F17 := zH (block_kept hg F16.out rfl); have H17 := zH (block_kept hg H16.out rfl)
   clear hg S16 F16 H16
   have P17 := S17.out.p
   rw [hPV] at P17
   obtain ⟨e0_, e1_, e2_, e3_, e4_, e5_, e6_, e7_, e8_, e9_, e10_⟩ := cells11 P17
   obtain ⟨k0_, k1_, k2_, k3_, k4_, k5_⟩ := six H17.out
   clear P17
   go_wp2_with fail
   (with_reducible refine (BD.out sb w17 S17.out.g).mono ?_)
   rintro r w18 ⟨rfl, hg⟩
   clear e0_ e1_ e2_ e3_ e4_ e5_ e6_ e7_ e8_ e9_ e10_
   clear k0_ k1_ k2_ k3_ k4_ k5_
   have S18 := zH (S17.out.keep hg); have F18 := zH (block_kept hg F17.out rfl); have H18 := zH (block_kept hg H17.out rfl)
   clear hg S17 F17 H17
   have HS : Hid (s.step ⟨x0, y0, z0, x1, y1, z1, step, ls, hs, phs, cap⟩ j = ⟨l1 ++ [⟨fb, bdC ⟨x0, y0, z0, x1, y1, z1, step, ls, hs, phs, cap⟩ fb.a fb.b fb.c fb.d fb.e fb.f, false⟩, ⟨sb, bdC ⟨x0, y0, z0, x1, y1, z1, step, ls, hs, phs, cap⟩ sb.a sb.b sb.c sb.d sb.e sb.f, false⟩], x', s.n + 1⟩) := zH (by rw [HSTEP.out, HH.out, if_pos trivial]; rfl)
   clear HSTEP HH
   generalize bdC ⟨x0, y0, z0, x1, y1, z1, step, ls, hs, phs, cap⟩ fb.a fb.b fb.c fb.d fb.e fb.f = cf at *
   generalize bdE ⟨x0, y0, z0, x1, y1, z1, step, ls, hs, phs, cap⟩ fb.a fb.b fb.c fb.d fb.e fb.f = ef at *
   generalize bdC ⟨x0, y0, z0, x1, y1, z1, step, ls, hs, phs, cap⟩ sb.a sb.b sb.c sb.d sb.e sb.f = cs at *
   generalize bdE ⟨x0, y0, z0, x1, y1, z1, step, ls, hs, phs, cap⟩ sb.a sb.b sb.c sb.d sb.e sb.f = es at *
   rw [HS.out] at HRN
   obtain ⟨f0_, f1_, f2_, f3_, f4_, f5_⟩ := six F18.out
   obtain ⟨k0_, k1_, k2_, k3_, k4_, k5_⟩ := six H18.out
   have hbase := S18.out.lt.2.2
   go_wp2_with (at_builtin; refine wpList_pushesAt rfl _ _ 181 rfl B 180 (.agg #[(0:Int), (0:Int), (0:Int), (0:Int), (0:Int), (0:Int), (0:Int), .bool false]) 8 64 Tryz.underlying181 Tryz.infoOpenT rfl (by decide) (by decide) _ l1.length _ rfl (S18.out.own.alloc _) w18.heap.size 2 2 [.int .i64 fb.a, .int .i64 fb.b, .int .i64 fb.c, .int .i64 fb.d, .int .i64 fb.e, .int .i64 fb.f, .int .i64 cf, .bool false, .int .i64 sb.a, .int .i64 sb.b, .int .i64 sb.c, .int .i64 sb.d, .int .i64 sb.e, .int .i64 sb.f, .int .i64 cs, .bool false] 180 rfl (heap_alloc_new w18 _) rfl (by simp [Value.oneCell']) (by omega) (by simp; omega) ?_; refine Hid.out ?_)
   refine zH ?_
   intro v' w19 h1 h2 h3
   rw [← hl1] at h1
   have S19 := zH (S18.out.push (news := [⟨fb, cf, false⟩, ⟨sb, cs, false⟩]) h1 h2 (by simpa using h3))
   obtain ⟨oa, oc, rfl⟩ := owns_slice h1
   clear h1 h2 h3 S18 F18 H18 f0_ f1_ f2_ f3_ f4_ f5_ k0_ k1_ k2_ k3_ k4_ k5_
   go_wp2_with fail
   go_roundg (gk - 1)
   case measure => exact hgk.1
   case rel => exact ⟨_, rfl, hgk.2, HRN.out, S19.out.num, by simp, by simp; omega⟩
 case rest =>
  obtain ⟨s, rfl, hpr, hS, hl0, hlb⟩ := hcut
  generalize wc = w20 at *
  have HPR := zH hpr; have S20 := zH hS
  clear hpr hS S5 ST HPP BD AT
  obtain ⟨q, cp, rfl, -, hqB, hqX, hcp, hcp2, -, -⟩ := S20.out.at hl0
  obtain ⟨m0_, m1_, m2_, m3_, m4_, m5_, m6_, m7_, m8_, m9_, m10_, m11_⟩ := cells12 (show w20.heap[X]? = some (.cells #[.int .i64 s.x.px, .int .i64 s.x.py, .int .i64 s.x.pz, .int .i64 s.x.t, .int .i64 s.x.m, .int .i64 s.x.l, .int .i64 s.x.a0, .int .i64 s.x.a1, .int .i64 s.x.a2, .int .i64 s.x.a3, .int .i64 s.x.a4, .int .i64 s.x.a5] 79 (0, 0)) from S20.out.x)
  have f5_ := frozen3 S20.out.x 5; have f6_ := frozen3 S20.out.x 6; have f7_ := frozen3 S20.out.x 7; have f8_ := frozen3 S20.out.x 8; have f9_ := frozen3 S20.out.x 9; have f10_ := frozen3 S20.out.x 10; have f11_ := frozen3 S20.out.x 11
  go_upto_block 2 with fail
  have S21 : Hid (SrAt ⟨x0, y0, z0, x1, y1, z1, step, ls, hs, phs, cap⟩ (.slice la ln lc) (.slice ha hn hc) (.slice pa pn pc) w X B ⟨s.l, s.fin 0, s.n⟩ (.slice (some ⟨q, 0, none⟩) s.l.length cp) (((((((w20.setCell ⟨X, 5, none⟩ (.int .i64 s.x.m)).setCell ⟨X, 6, none⟩ (.int .i64 s.x.px)).setCell ⟨X, 7, none⟩ (.int .i64 s.x.py)).setCell ⟨X, 8, none⟩ (.int .i64 s.x.pz)).setCell ⟨X, 9, none⟩ (.int .i64 s.x.px)).setCell ⟨X, 10, none⟩ (.int .i64 s.x.py)).setCell ⟨X, 11, none⟩ (.int .i64 s.x.pz))) := zH (S20.out.seven s.x.m s.x.px s.x.py s.x.pz s.x.px s.x.py s.x.pz)
  clear m0_ m1_ m2_ m3_ m4_ m5_ m6_ m7_ m8_ m9_ m10_ m11_ f5_ f6_ f7_ f8_ f9_ f10_ f11_ S20
  generalize (((((((w20.setCell ⟨X, 5, none⟩ (.int .i64 s.x.m)).setCell ⟨X, 6, none⟩ (.int .i64 s.x.px)).setCell ⟨X, 7, none⟩ (.int .i64 s.x.py)).setCell ⟨X, 8, none⟩ (.int .i64 s.x.pz)).setCell ⟨X, 9, none⟩ (.int .i64 s.x.px)).setCell ⟨X, 10, none⟩ (.int .i64 s.x.py)).setCell ⟨X, 11, none⟩ (.int .i64 s.x.pz)) = w21 at *
  go_wp2_with fail
  go_loopg [25] s.l.length (fun gk i wr => ∃ k : Nat, k + gk = s.l.length ∧ i = .int .i64 k ∧ SrAt ⟨x0, y0, z0, x1, y1, z1, step, ls, hs, phs, cap⟩ (.slice la ln lc) (.slice ha hn hc) (.slice pa pn pc) w X B ⟨s.l, s.fin k, s.n⟩ (.slice (some ⟨q, 0, none⟩) s.l.length cp) wr)
  case atStart => exact ⟨0, by omega, rfl, S21.out⟩
  case round =>
   obtain ⟨k, hk, rfl, hS⟩ := hrel
   have SK := zH hS
   clear hS S21
   by_cases hlt : k < s.l.length
   rotate_left
   ·obtain rfl : k = s.l.length := by omega
    have RR := zH SK.out.r
    obtain ⟨fx, hfx⟩ : ∃ y, y = s.fin s.l.length := ⟨_, rfl⟩
    rw [← hfx] at SK HPR
    clear hfx
    obtain ⟨m0_, m1_, m2_, m3_, m4_, m5_, m6_, m7_, m8_, m9_, m10_, m11_⟩ := cells12 (show wr.heap[X]? = some (.cells #[.int .i64 fx.px, .int .i64 fx.py, .int .i64 fx.pz, .int .i64 fx.t, .int .i64 fx.m, .int .i64 fx.l, .int .i64 fx.a0, .int .i64 fx.a1, .int .i64 fx.a2, .int .i64 fx.a3, .int .i64 fx.a4, .int .i64 fx.a5] 79 (0, 0)) from SK.out.x)
    have HN := zH (setRow_at (cs := #[.int .i64 fx.px, .int .i64 fx.py, .int .i64 fx.pz, .int .i64 fx.t, .int .i64 fx.m, .int .i64 fx.l, .int .i64 fx.a0, .int .i64 fx.a1, .int .i64 fx.a2, .int .i64 fx.a3, .int .i64 fx.a4, .int .i64 fx.a5]) SK.out.r)
    have HGE := zH (gb_setRow (cs := #[.int .i64 fx.px, .int .i64 fx.py, .int .i64 fx.pz, .int .i64 fx.t, .int .i64 fx.m, .int .i64 fx.l, .int .i64 fx.a0, .int .i64 fx.a1, .int .i64 fx.a2, .int .i64 fx.a3, .int .i64 fx.a4, .int .i64 fx.a5]) SK.out.g (g := w.heap.size + 1) (.inl (by omega)))
    go_wp2_with (with_reducible refine wpList_store_row rfl _ _ _ rfl (w.heap.size + 1) #[.int .i64 fx.px, .int .i64 fx.py, .int .i64 fx.pz, .int .i64 fx.t, .int .i64 fx.m, .int .i64 fx.l, .int .i64 fx.a0, .int .i64 fx.a1, .int .i64 fx.a2, .int .i64 fx.a3, .int .i64 fx.a4, .int .i64 fx.a5] rfl rfl _ _ RR.out (by kernel_rfl) rfl (by simp [Value.oneCell']) ?_)
    obtain ⟨d0_, d1_, d2_, d3_, d4_, d5_, d6_, d7_, d8_, d9_, d10_, d11_⟩ := cells12 HN.out
    exact bodyPost_ret (v := .tuple #[.agg #[.int .i64 fx.px, .int .i64 fx.py, .int .i64 fx.pz, .int .i64 fx.t, .int .i64 fx.m, .int .i64 fx.l, .int .i64 fx.a0, .int .i64 fx.a1, .int .i64 fx.a2, .int .i64 fx.a3, .int .i64 fx.a4, .int .i64 fx.a5], .int .i64 s.n, (0:Int)]) (by simp [results, Tryz.results115, go_sem, d0_, d1_, d2_, d3_, d4_, d5_, d6_, d7_, d8_, d9_, d10_, d11_]) rfl ⟨by rw [HPR.out]; rfl, HGE.out⟩
   have hlt' : decide ((k : Int) < (s.l.length : Int)) = true := decide_eq_true (by omega)
   have hln : (s.l.length : Int) ≤ 9223372036854775807 := by omega
   have hgk : gk - 1 < gk ∧ k + 1 + (gk - 1) = s.l.length := by omega
   have FS := zH (s.fin_succ k)
   have FC : Hid (s.finC k = (!(itAt s.l k).done && decide ((itAt s.l k).c < s.x.m))) := zH rfl
   have FM := (s.fin_x k).2.2.2.2
   have IT := zH (fun (u : World) (x : Loc) (h : SrAt ⟨x0, y0, z0, x1, y1, z1, step, ls, hs, phs, cap⟩ (.slice la ln lc) (.slice ha hn hc) (.slice pa pn pc) w X B ⟨s.l, x, s.n⟩ (.slice (some ⟨q, 0, none⟩) s.l.length cp) u) => h.it k hlt)
   dsimp only at IT
   generalize s.fin k = y at *
   generalize s.finC k = fc_ at *
   generalize itAt s.l k = it_ at *
   obtain ⟨bx, ic, dn⟩ := it_
   dsimp only at IT FS FC
   go_upto_region 29 with fail
   go_cut [178] from 157 to 196 (fun b wc => b = .bool fc_ ∧ wr.grownBy wc none)
   case first =>
    obtain ⟨c0_, c1_, c2_, c3_, c4_, c5_, c6_, c7_⟩ := IT.out _ _ SK.out
    obtain ⟨m0_, m1_, m2_, m3_, m4_, m5_, m6_, m7_, m8_, m9_, m10_, m11_⟩ := cells12 (show wr.heap[X]? = some (.cells #[.int .i64 y.px, .int .i64 y.py, .int .i64 y.pz, .int .i64 y.t, .int .i64 y.m, .int .i64 y.l, .int .i64 y.a0, .int .i64 y.a1, .int .i64 y.a2, .int .i64 y.a3, .int .i64 y.a4, .int .i64 y.a5] 79 (0, 0)) from SK.out.x)
    rw [FM] at m4_
    cases dn
    ·by_cases hc : ic < s.x.m
     ·have hc' : decide (ic < s.x.m) = true := decide_eq_true hc
      have HB : Hid (fc_ = true) := zH (by rw [FC.out, hc']; rfl)
      clear hc
      go_quiet (fail)
      go_wp2
      go_meet
      case rel => exact ⟨by rw [HB.out], gb_drewN (gb_refl _ _) _⟩
     ·have hc' : decide (ic < s.x.m) = false := decide_eq_false hc
      have HB : Hid (fc_ = false) := zH (by rw [FC.out, hc']; rfl)
      clear hc
      go_quiet (fail)
      go_wp2
      go_meet
      case rel => exact ⟨by rw [HB.out], gb_drewN (gb_refl _ _) _⟩
    ·have HB : Hid (fc_ = false) := zH (by rw [FC.out]; rfl)
     go_quiet (fail)
     go_wp2
     go_meet
     case rel => exact ⟨by rw [HB.out], gb_drewN (gb_refl _ _) _⟩
   case rest =>
   obtain ⟨rfl, hg⟩ := hcut
   generalize wc = w22 at *
   have S22 := zH (SK.out.keep hg)
   clear hg SK FC
   cases fc_
   ·have HY : Hid (s.fin (k + 1) = y) := zH (by rw [FS.out]; rfl)
    go_wp2_with fail
    go_roundg (gk - 1)
    case measure => exact hgk.1
    case rel => exact ⟨k + 1, hgk.2, by go_num, by rw [HY.out]; exact S22.out⟩
   have HY : Hid (s.fin (k + 1) = y.more bx ic) := zH (by rw [FS.out]; rfl)
   have HU0 := zH (fun u => rhull_any y.a0 y.a1 y.a2 y.a3 y.a4 y.a5 bx.a bx.b bx.c bx.d bx.e bx.f u)
   have HY : Hid (s.fin (k + 1) = ⟨y.px, y.py, y.pz, y.t, y.m, min y.l ic, huL (bP y.a0 y.a1 y.a2 y.a3 y.a4 y.a5 && bP bx.a bx.b bx.c bx.d bx.e bx.f) y.a0 bx.a, huL (bP y.a0 y.a1 y.a2 y.a3 y.a4 y.a5 && bP bx.a bx.b bx.c bx.d bx.e bx.f) y.a1 bx.b, huL (bP y.a0 y.a1 y.a2 y.a3 y.a4 y.a5 && bP bx.a bx.b bx.c bx.d bx.e bx.f) y.a2 bx.c, huH (bP y.a0 y.a1 y.a2 y.a3 y.a4 y.a5 && bP bx.a bx.b bx.c bx.d bx.e bx.f) y.a3 bx.d, huH (bP y.a0 y.a1 y.a2 y.a3 y.a4 y.a5 && bP bx.a bx.b bx.c bx.d bx.e bx.f) y.a4 bx.e, huH (bP y.a0 y.a1 y.a2 y.a3 y.a4 y.a5 && bP bx.a bx.b bx.c bx.d bx.e bx.f) y.a5 bx.f⟩) := zH HY.out
   generalize huL (bP y.a0 y.a1 y.a2 y.a3 y.a4 y.a5 && bP bx.a bx.b bx.c bx.d bx.e bx.f) y.a0 bx.a = h0_ at *
   generalize huL (bP y.a0 y.a1 y.a2 y.a3 y.a4 y.a5 && bP bx.a bx.b bx.c bx.d bx.e bx.f) y.a1 bx.b = h1_ at *
   generalize huL (bP y.a0 y.a1 y.a2 y.a3 y.a4 y.a5 && bP bx.a bx.b bx.c bx.d bx.e bx.f) y.a2 bx.c = h2_ at *
   generalize huH (bP y.a0 y.a1 y.a2 y.a3 y.a4 y.a5 && bP bx.a bx.b bx.c bx.d bx.e bx.f) y.a3 bx.d = h3_ at *
   generalize huH (bP y.a0 y.a1 y.a2 y.a3 y.a4 y.a5 && bP bx.a bx.b bx.c bx.d bx.e bx.f) y.a4 bx.e = h4_ at *
   generalize huH (bP y.a0 y.a1 y.a2 y.a3 y.a4 y.a5 && bP bx.a bx.b bx.c bx.d bx.e bx.f) y.a5 bx.f = h5_ at *
   have HU := HU0
   obtain ⟨c0_, c1_, c2_, c3_, c4_, c5_, c6_, c7_⟩ := IT.out _ _ S22.out
   obtain ⟨m0_, m1_, m2_, m3_, m4_, m5_, m6_, m7_, m8_, m9_, m10_, m11_⟩ := cells12 (show w22.heap[X]? = some (.cells #[.int .i64 y.px, .int .i64 y.py, .int .i64 y.pz, .int .i64 y.t, .int .i64 y.m, .int .i64 y.l, .int .i64 y.a0, .int .i64 y.a1, .int .i64 y.a2, .int .i64 y.a3, .int .i64 y.a4, .int .i64 y.a5] 79 (0, 0)) from S22.out.x)
   have f5_ := frozen3 S22.out.x 5; have f6_ := frozen3 S22.out.x 6; have f7_ := frozen3 S22.out.x 7; have f8_ := frozen3 S22.out.x 8; have f9_ := frozen3 S22.out.x 9; have f10_ := frozen3 S22.out.x 10; have f11_ := frozen3 S22.out.x 11
   have hXl := block_lt' S22.out.x
   have hql := World.block_lt_of_cell? w22 _ c6_
   clear f5_ m0_ m1_ m2_ m3_ m4_ m5_ m6_ m7_ m8_ m9_ m10_ m11_ f6_ f7_ f8_ f9_ f10_ f11_
   have hM0 : min (min y.l ic) ic = min y.l ic := by omega
   have hMO : Hid (s.fin (k + 1) = ⟨y.px, y.py, y.pz, y.t, y.m, min y.l ic, h0_, h1_, h2_, h3_, h4_, h5_⟩) := zH HY.out
   generalize hMM : min y.l ic = M_ at *
   clear HY FS
   go_wp2_with fail
   refine Rg.rR (ClsMin w22 X y ic M_) (MakesB 17 X) (fun k => if k = 1 then some (isInt fun x => min x ic = M_) else if k = 15 then some (isV (.agg #[h0_, h1_, h2_, h3_, h4_, h5_])) else if k = 17 then some (isLow X y M_) else none) (fun _ => false) 0 18 (MakesB.size 17 _) ⟨gb_drew (gb_refl _ _), y.l, hMM, S22.out.x⟩ (fun hne => ?_)
   have lcl := ClsMin.cells (r := X) (y := y) (c := ic) (M := M_) hql hqX
   have la_ := ClsMin.area (w := w22) (r := X) (y := y) (c := ic) (M := M_)
   clear hMM
   (repeat (refine rQ ?_; go_big_quiet_step (fail); refine wpQuiet_nil ?_))
   refine rg_loadMin X y ic M_ (by decide) rfl rfl rfl (fun w x hx => by go_simp) (fun xl hxl => ?_)
   simp only [zA, zB, zC, zD, zX]
   (repeat (refine rQ ?_; go_big_quiet_step (fail); refine wpQuiet_nil ?_))
   refine rLexL_val (.int .i64 M_) (by rfl) (by rfl) (by rfl) (by rfl) (fun _ => by go_simp) ?_
   simp only [zA, zB, zC, zD, zX]
   (repeat (refine rQ ?_; go_big_quiet_step (fail); refine wpQuiet_nil ?_))
   refine rg_fixG ClsMin.grown (MakesB.none (by decide)) (.agg #[h0_, h1_, h2_, h3_, h4_, h5_]) 148 #[.agg #[.int .i64 y.a0, .int .i64 y.a1, .int .i64 y.a2, .int .i64 y.a3, .int .i64 y.a4, .int .i64 y.a5], .agg #[.int .i64 bx.a, .int .i64 bx.b, .int .i64 bx.c, .int .i64 bx.d, .int .i64 bx.e, .int .i64 bx.f]] rfl rfl rfl (fun _ => by go_simp) (fun u _ => HU.out u) ?_
   simp only [zA, zB, zC, zD, zX]
   (repeat (refine rQ ?_; go_big_quiet_step (fail); refine wpQuiet_nil ?_))
   refine rg_storeMin X y ic M_ hM0 hXl rfl rfl rfl rfl (fun w_ Φ x_ h1 h2 h3 => by go_simp; exact h3) ?_
   simp only [zA, zB, zC, zD, zX]
   (repeat (refine rQ ?_; go_big_quiet_step (fail); refine wpQuiet_nil ?_))
   rintro wq hGq hf -
   have hb := hf 17
   have SQ := zH (S22.out.px (x' := ⟨y.px, y.py, y.pz, y.t, y.m, M_, y.a0, y.a1, y.a2, y.a3, y.a4, y.a5⟩) hb hGq.1)
   clear hb hf hGq hne lcl la_ hxl
   obtain ⟨m0_, m1_, m2_, m3_, m4_, m5_, m6_, m7_, m8_, m9_, m10_, m11_⟩ := cells12 (show wq.heap[X]? = some (.cells #[.int .i64 y.px, .int .i64 y.py, .int .i64 y.pz, .int .i64 y.t, .int .i64 y.m, M_, .int .i64 y.a0, .int .i64 y.a1, .int .i64 y.a2, .int .i64 y.a3, .int .i64 y.a4, .int .i64 y.a5] 79 (0, 0)) from SQ.out.x)
   have f6_ := frozen3 SQ.out.x 6; have f7_ := frozen3 SQ.out.x 7; have f8_ := frozen3 SQ.out.x 8; have f9_ := frozen3 SQ.out.x 9; have f10_ := frozen3 SQ.out.x 10; have f11_ := frozen3 SQ.out.x 11
   clear m0_ m1_ m2_ m3_ m4_ m5_
   go_wp2_with fail
   go_roundg (gk - 1)
   case measure => exact hgk.1
   case rel => exact ⟨k + 1, hgk.2, by go_num, by rw [hMO.out]; exact SQ.out.six _ _ _ _ _ _⟩
end Go.Proofs.YtiebljanpnadjaaGreat
