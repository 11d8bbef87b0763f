import Derived.Test.YtiebljanpnadjaaGreatPgAsV
namespace Go.Proofs.YtiebljanpnadjaaGreat
set_option linter.all false
open Go.ChangeShapes Go.WideShapes Go.ChangeAt Go.RowKit
def flatB (P : Program) : Nat → TypeId → Bool
 | 0, _ => false
 | k + 1, t =>
  match P.underlying t with
  | some (.int .i64) => P.cellsOf t == 1
  | some (.struct fs) => (List.range (P.cellsOf t)).all fun j => fs.toList.any fun f => flatB P k f.type && decide (f.offset ≤ j) && decide (j < f.offset + P.cellsOf f.type)
  | _ => false
def I64 (n : Int) : Prop := -9223372036854775808 ≤ n ∧ n ≤ 9223372036854775807
section
variable {H : Type} {enc : TypeId × Value → H} {P : Program} {w : World} {base : Nat} {sp : Nat → Bool} {held : Bool}
theorem flat_cells : ∀ (k : Nat) (t : TypeId) (fuel : Nat) (cs : List Value) (x : DataW H × List MemPlace), flatB P k t = true → DataW.trod enc P w base sp held fuel t cs = some x →
  cs.length = P.cellsOf t ∧ ∀ (j : Nat) (c : Value), cs[j]? = some c → ∃ n, c = .int .i64 n ∧ I64 n := by
 intro k
 induction k with
 | zero => intro t fuel cs x h; simp [flatB] at h
 | succ k ih =>
  intro t fuel cs x h hd
  unfold flatB at h
  cases hu : P.underlying t with
  | none => simp [hu] at h
  | some d =>
   rw [hu] at h
   cases d with
   | int kd =>
    cases kd <;> simp at h
    obtain ⟨n, rfl, _, hw⟩ := DataW.trod_int hu hd
    refine ⟨by simpa using h.symm, fun j c hj => ?_⟩
    cases j with
    | zero => simp at hj; subst hj; exact ⟨n, rfl, bounds_i64 hw⟩
    | succ j => simp at hj
   | struct fs =>
    simp only [List.all_eq_true, List.mem_range, List.any_eq_true, Bool.and_eq_true, decide_eq_true_eq] at h
    obtain ⟨xs, m, _, _, hl, hlen, hf⟩ := DataW.trod_struct hu hd
    refine ⟨hl, fun j c hj => ?_⟩
    have hjl : j < cs.length := (List.getElem?_eq_some_iff.1 hj).1
    obtain ⟨f, hmem, ⟨⟨hfl, h1⟩, h2⟩⟩ := h j (by omega)
    obtain ⟨i, hi, hfi⟩ := List.getElem_of_mem hmem
    have hfi' : fs[i]? = some f := by
     have e : fs.toList[i]? = some f := by rw [List.getElem?_eq_getElem hi, hfi]
     simpa using e
    have hd' := hf i f hfi'
    have hxi : i < xs.length := by rw [hlen]; simpa using hi
    rw [List.getElem?_eq_getElem hxi] at hd'
    obtain ⟨_, hc⟩ := ih f.type m _ _ hfl hd'
    refine hc (j - f.offset) c ?_
    rw [List.getElem?_take_of_lt (by omega), List.getElem?_drop, show f.offset + (j - f.offset) = j by omega]
    exact hj
   | _ => simp at h
theorem ints_of : ∀ (cs : List Value), (∀ (j : Nat) (c : Value), cs[j]? = some c → ∃ n, c = .int .i64 n ∧ I64 n) → ∃ ns : List Int, cs = ns.map (.int .i64) ∧ ∀ n ∈ ns, I64 n
 | [], _ => ⟨[], rfl, by simp⟩
 | c :: cs, h => by
  obtain ⟨n, rfl, hn⟩ := h 0 c rfl
  obtain ⟨ns, rfl, hns⟩ := ints_of cs fun j c hj => h (j + 1) c (by simpa using hj)
  exact ⟨n :: ns, rfl, by simpa using ⟨hn, hns⟩⟩
theorem okWide_struct {r : Reach} {b0 : Nat} {t : TypeId} {fs : Array Field} {v : Value} (ht : P.underlying t = some (.struct fs)) (h : Value.okWide P w r b0 t v) : ∃ cs, v = .agg cs := by
 simp only [Value.okWide, ht] at h
 obtain ⟨cs, h1, _⟩ := h
 exact ⟨cs, h1⟩
theorem sl_of_trod {fuel : Nat} {t e : TypeId} {c : Value} {x : DataW H × List MemPlace} (ht : P.underlying t = some (.slice e)) (he : P.underlying e = some (.int .i64)) (hc : P.cellsOf e = 1)
  (hf : DataW.trod enc P w base (fun _ => true) held fuel t [c] = some x) : ∃ xs, Sl w c xs ∧ (∀ x ∈ xs, -9223372036854775808 ≤ x ∧ x ≤ 9223372036854775807) := by
 rcases open_ints ht he hc hf with ⟨hcs, _⟩ | ⟨a, len, cap, zs, hcs, _, hl, hm, hz, _, hcell, hw⟩
 ·simp at hcs
  subst hcs
  exact ⟨[], .inl ⟨rfl, none, 0, rfl⟩, by simp⟩
 ·simp at hcs
  subst hcs
  simp only [if_true] at hz
  refine ⟨zs.take len, ?_, fun x hx => bounds_i64 (hw x (List.mem_of_mem_take hx))⟩
  by_cases h0 : 0 < len
  ·obtain ⟨b, off, rfl, hcc⟩ := ints_at hcell (by omega)
   have hlen : (zs.take len).length = len := by simp; omega
   refine .inr ⟨b, off, cap, by rw [hlen], World.block_lt_of_cell? w _ (hcc 0 (by omega)), by omega, by unfold maxLen at hm; omega, fun k hk => ?_⟩
   rw [hlen] at hk
   rw [hcc k (by omega), List.getElem?_take_of_lt hk]; rfl
  ·obtain rfl : len = 0 := by omega
   exact .inl ⟨by simp, _, _, rfl⟩
end
open Go.ChangeShapes Go.WideShapes Go.ChangeAt Go.RowKit Go.Deep
section
variable {H : Type} {enc : TypeId × Value → H} {P : Program} {w : World} {base : Nat} {held : Bool}
theorem slp_of_trod {fuel : Nat} {t e : TypeId} {c : Value} {x : DataW H × List MemPlace} (k : Nat) (ht : P.underlying t = some (.slice e)) (hk : flatB P k e = true) (hc : P.cellsOf e = 6)
  (hf : DataW.trod enc P w base (fun _ => true) held fuel t [c] = some x) : ∃ l : List Ph, SlC 6 w c l.length (flatP l) ∧ ∀ a ∈ l, I64 a.x ∧ I64 a.y ∧ I64 a.z ∧ I64 a.e ∧ I64 a.l ∧ I64 a.n := by
 rcases open_slice ht hf with ⟨h0, -⟩ | ⟨a, len, cap, m, n, D, Pl, h0, hb, hl, hm, hmm, -, hx⟩
 ·simp at h0; subst h0
  exact ⟨[], ⟨rfl, .inl ⟨rfl, none, 0, rfl⟩⟩, by simp⟩
 ·simp at h0; subst h0
  simp only [if_true] at hmm
  rw [hc] at hx
  obtain ⟨V, hV⟩ := choose_lt (α := Ph) (p := fun i q => (∀ j, j < 6 → w.cell? ((a.add (i * 6)).add j) = q.cells[j]?) ∧ I64 q.x ∧ I64 q.y ∧ I64 q.z ∧ I64 q.e ∧ I64 q.l ∧ I64 q.n) (n := m) (fun i hi => by
   obtain ⟨cs', h1, h2⟩ := hx i hi
   obtain ⟨_, hlen, hcell⟩ := World.cells?_some h1
   obtain ⟨-, hcs⟩ := flat_cells k e n _ _ hk h2
   obtain ⟨ns, rfl, hns⟩ := ints_of _ hcs
   match ns, (by simpa using hlen : ns.length = 6), hns, hcell with
   | [x, y, z, e, l, n], _, hns, hcell =>
    refine ⟨⟨x, y, z, e, l, n⟩, fun j hj => ?_, by simpa using hns⟩
    have := hcell j hj
    simpa [Ph.cells] using this)
  refine ⟨(List.range len).map V, ⟨by rw [flatP_length], ?_⟩, fun q hq => ?_⟩
  ·simp only [List.length_map, List.length_range]
   by_cases h0 : 0 < len
   ·right
    obtain ⟨b, off, spot⟩ := a
    have h00 := (hV 0 (by omega)).1 0 (by omega)
    have hspot : spot = none := by
     have e0 : ((⟨b, off, spot⟩ : Addr).add (0 * 6)).add 0 = ⟨b, off, spot⟩ := by simp [Addr.add]
     rw [e0] at h00
     exact by simpa [Addr.add] using World.cell?_spot h00
    subst hspot
    have hcell : ∀ i, i < len → ∀ j, j < 6 → w.cell? ⟨b, off + (i * 6 + j), none⟩ = (V i).cells[j]? := fun i hi j hj => by
     have := (hV i (by omega)).1 j hj
     rwa [add_add, Go.WideShapes.add_plain] at this
    refine ⟨b, off, cap, rfl, ?_, hl, by unfold maxLen at hm; omega, fun j u hj => ?_⟩
    ·have := hcell 0 h0 0 (by omega)
     exact World.block_lt_of_cell? w _ (this.trans rfl)
    ·have hjl : j < len * 6 := by
      have := (List.getElem?_eq_some_iff.1 hj).1
      rw [flatP_length] at this; simpa using this
     have hq : j = (j / 6) * 6 + j % 6 := by omega
     have e := flatP_at ((List.range len).map V) (j / 6) (by simp; omega) (j % 6) (by omega)
     rw [← hq, hj] at e
     have := hcell (j / 6) (by omega) (j % 6) (by omega)
     rw [← hq] at this
     rw [this, e]; simp
   ·exact .inl ⟨by omega, _, _, by rw [show len = 0 by omega]⟩
  ·obtain ⟨i, hi, rfl⟩ := List.mem_map.1 hq
   exact (hV i (by have := List.mem_range.1 hi; omega)).2
end
section
variable {H : Type} {enc : TypeId × Value → H} {P : Program} {w : World} {base : Nat} {held : Bool}
theorem open_phs {r : Reach} {b0 : Nat} {sp ep : TypeId} {v : Value} {d : DataW H} {ps : List MemPlace} (kp : Nat) (hsp : P.underlying sp = some (.slice ep)) (hep : flatB P kp ep = true) (hcp : P.cellsOf ep = 6)
  (hval : Value.okWide P w r b0 sp v) (hd : DataW.Trod enc P w base (fun _ => true) held sp v d ps) : ∃ l : List Ph, SlC 6 w v l.length (flatP l) := by
 obtain ⟨a0, len, cap, rfl⟩ := okWide_slice hsp hval
 obtain ⟨fuel, hf⟩ := hd
 obtain ⟨l, h, -⟩ := slp_of_trod kp hsp hep hcp hf
 exact ⟨l, h⟩
theorem int_of_trod' {fuel : Nat} {e : TypeId} {c : Value} {x : DataW H × List MemPlace} (he : P.underlying e = some (.int .i64)) (h : DataW.trod enc P w base (fun _ => true) held fuel e [c] = some x) : ∃ n, c = .int .i64 n := by
 obtain ⟨n, hn, -⟩ := DataW.trod_int he h
 simp at hn
 exact ⟨n, hn⟩
theorem open_asc {r : Reach} {b0 : Nat} {t tb tt si e : TypeId} {v : Value} {d : DataW H} {ps : List MemPlace} {fs fst : Array Field} (ht : P.underlying t = some (.struct fs)) (hfs : (fs.toList.map fun f => (f.type, f.offset)) = [(tb, 0), (tt, 6), (e, 9), (e, 10), (e, 11), (e, 12), (e, 13)])
  (kb : Nat) (htb : flatB P kb tb = true) (hcb : P.cellsOf tb = 6)
  (htt : P.underlying tt = some (.struct fst)) (hft : (fst.toList.map fun f => (f.type, f.offset)) = [(e, 0), (si, 1), (si, 2)]) (hs : P.underlying si = some (.slice e)) (he : P.underlying e = some (.int .i64)) (hc : P.cellsOf e = 1) (hcs : P.cellsOf si = 1) (hctt : P.cellsOf tt = 3) (hct : P.cellsOf t = 14)
  (hval : Value.okWide P w r b0 t v) (hd : DataW.Trod enc P w base (fun _ => true) held t v d ps) :
  ∃ (A : Asc) (vl vh : Value), v = .agg (A.val vl vh) ∧ AscIn A vl vh w := by
 obtain ⟨cs, rfl⟩ := okWide_struct ht hval
 obtain ⟨fuel, hf⟩ := hd
 obtain ⟨xs, m, _, _, hl, hlen, hfi⟩ := DataW.trod_struct ht hf
 obtain ⟨f0, f1, f2, f3, f4, f5, f6, hfef⟩ : ∃ f0 f1 f2 f3 f4 f5 f6, fs.toList = [f0, f1, f2, f3, f4, f5, f6] := by
  have := congrArg List.length hfs
  simp at this
  match h : fs.toList, (by simpa using this : fs.toList.length = 7) with
  | [a, b, c, d, e, f, g], _ => exact ⟨a, b, c, d, e, f, g, rfl⟩
 rw [hfef] at hfs
 simp at hfs
 obtain ⟨⟨t0, o0⟩, ⟨t1, o1⟩, ⟨t2, o2⟩, ⟨t3, o3⟩, ⟨t4, o4⟩, ⟨t5, o5⟩, t6, o6⟩ := hfs
 have hsz : fs.size = 7 := by rw [← Array.length_toList, hfef]; rfl
 have g0 : fs[0]? = some f0 := by rw [← Array.getElem?_toList, hfef]; rfl
 have g1 : fs[1]? = some f1 := by rw [← Array.getElem?_toList, hfef]; rfl
 have g2 : fs[2]? = some f2 := by rw [← Array.getElem?_toList, hfef]; rfl
 have g3 : fs[3]? = some f3 := by rw [← Array.getElem?_toList, hfef]; rfl
 have g4 : fs[4]? = some f4 := by rw [← Array.getElem?_toList, hfef]; rfl
 have g5 : fs[5]? = some f5 := by rw [← Array.getElem?_toList, hfef]; rfl
 have g6 : fs[6]? = some f6 := by rw [← Array.getElem?_toList, hfef]; rfl
 have hx : xs.length = 7 := by rw [hlen, hsz]
 have hcl : cs.toList.length = 14 := by rw [← hct]; simpa [Value.cells] using hl
 obtain ⟨c0, c1, c2, c3, c4, c5, c6, c7, c8, c9, c10, c11, c12, c13, hce⟩ : ∃ c0 c1 c2 c3 c4 c5 c6 c7 c8 c9 c10 c11 c12 c13, cs.toList = [c0, c1, c2, c3, c4, c5, c6, c7, c8, c9, c10, c11, c12, c13] := by
  match h : cs.toList, hcl with
  | [a, b, c, d, e, f, g, y, i, j, k, l, m, n], _ => exact ⟨a, b, c, d, e, f, g, y, i, j, k, l, m, n, rfl⟩
 have hca : cs = #[c0, c1, c2, c3, c4, c5, c6, c7, c8, c9, c10, c11, c12, c13] := by rw [← Array.toArray_toList (xs := cs), hce]
 have h0 := hfi 0 f0 g0; have h1 := hfi 1 f1 g1; have h2 := hfi 2 f2 g2; have h3 := hfi 3 f3 g3; have h4 := hfi 4 f4 g4; have h5 := hfi 5 f5 g5; have h6 := hfi 6 f6 g6
 rw [t0, o0] at h0; rw [t1, o1] at h1; rw [t2, o2] at h2; rw [t3, o3] at h3; rw [t4, o4] at h4; rw [t5, o5] at h5; rw [t6, o6] at h6
 rw [hcb] at h0; rw [hctt] at h1; rw [hc] at h2 h3 h4 h5 h6
 simp only [Value.cells, hce, List.drop_zero, List.take_succ_cons, List.take_zero, List.drop_succ_cons] at h0 h1 h2 h3 h4 h5 h6
 rw [List.getElem?_eq_getElem (by omega)] at h0 h1 h2 h3 h4 h5 h6
 obtain ⟨-, hb6⟩ := flat_cells kb tb m _ _ htb h0
 obtain ⟨n0, rfl, -⟩ := hb6 0 c0 rfl; obtain ⟨n1, rfl, -⟩ := hb6 1 c1 rfl; obtain ⟨n2, rfl, -⟩ := hb6 2 c2 rfl; obtain ⟨n3, rfl, -⟩ := hb6 3 c3 rfl; obtain ⟨n4, rfl, -⟩ := hb6 4 c4 rfl; obtain ⟨n5, rfl, -⟩ := hb6 5 c5 rfl
 obtain ⟨n9, rfl⟩ := int_of_trod' he h2; obtain ⟨n10, rfl⟩ := int_of_trod' he h3; obtain ⟨n11, rfl⟩ := int_of_trod' he h4; obtain ⟨n12, rfl⟩ := int_of_trod' he h5; obtain ⟨n13, rfl⟩ := int_of_trod' he h6
 -- the table
 obtain ⟨ys, m', _, _, hl', hlen', hfi'⟩ := DataW.trod_struct htt h1
 obtain ⟨e0, e1, e2, hfee⟩ : ∃ e0 e1 e2, fst.toList = [e0, e1, e2] := by
  have := congrArg List.length hft
  simp at this
  match h : fst.toList, (by simpa using this : fst.toList.length = 3) with
  | [a, b, c], _ => exact ⟨a, b, c, rfl⟩
 rw [hfee] at hft
 simp at hft
 obtain ⟨⟨u0, p0⟩, ⟨u1, p1⟩, u2, p2⟩ := hft
 have hsz' : fst.size = 3 := by rw [← Array.length_toList, hfee]; rfl
 have k0 : fst[0]? = some e0 := by rw [← Array.getElem?_toList, hfee]; rfl
 have k1 : fst[1]? = some e1 := by rw [← Array.getElem?_toList, hfee]; rfl
 have k2 : fst[2]? = some e2 := by rw [← Array.getElem?_toList, hfee]; rfl
 have hx' : ys.length = 3 := by rw [hlen', hsz']
 have j0 := hfi' 0 e0 k0; have j1 := hfi' 1 e1 k1; have j2 := hfi' 2 e2 k2
 rw [u0, p0] at j0; rw [u1, p1] at j1; rw [u2, p2] at j2
 rw [hc] at j0; rw [hcs] at j1 j2
 simp only [List.drop_zero, List.take_succ_cons, List.take_zero, List.drop_succ_cons] at j0 j1 j2
 rw [List.getElem?_eq_getElem (by omega)] at j0 j1 j2
 obtain ⟨n6, rfl⟩ := int_of_trod' he j0
 obtain ⟨ls, s1, -⟩ := sl_of_trod hs he hc j1
 obtain ⟨hs', s2, -⟩ := sl_of_trod hs he hc j2
 exact ⟨⟨n0, n1, n2, n3, n4, n5, n6, ls, hs', n9, n10, n11, n12, n13⟩, c7, c8, by rw [hca]; rfl, ⟨s1, s2⟩⟩
end
end Go.Proofs.YtiebljanpnadjaaGreat
