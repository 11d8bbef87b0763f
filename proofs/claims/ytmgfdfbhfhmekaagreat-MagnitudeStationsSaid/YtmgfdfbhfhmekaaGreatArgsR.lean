/- Arguments that are scales or responses, opened. -/
import Derived.Test.YtmgfdfbhfhmekaaGreatArgs
import Derived.Test.YtmgfdfbhfhmekaaGreatRsp
namespace Go.Proofs.YtmgfdfbhfhmekaaGreat
set_option linter.all false
open Go.ChangeShapes Go.WideShapes Go.ChangeAt Go.RowKit Go.Deep

section
variable {H : Type} {enc : TypeId × Value → H} {P : Program} {w : World} {base : Nat} {held : Bool}

theorem int_of_trod {fuel : Nat} {e : TypeId} {c : Value} {x : DataW H × List MemPlace} (he : P.underlying e = some (.int .i64)) (h : DataW.trod enc P w base (fun _ => true) held fuel e [c] = some x) : ∃ n, c = .int .i64 n := by
  obtain ⟨n, hn, -⟩ := DataW.trod_int he h
  simp at hn
  exact ⟨n, hn⟩
theorem ints3_of_trod {fuel : Nat} {t e : TypeId} {a b c : Value} {x : DataW H × List MemPlace} (ht : P.underlying t = some (.array 3 e)) (he : P.underlying e = some (.int .i64)) (hc : P.cellsOf e = 1)
    (h : DataW.trod enc P w base (fun _ => true) held fuel t [a, b, c] = some x) : ∃ l m n, a = .int .i64 l ∧ b = .int .i64 m ∧ c = .int .i64 n := by
  obtain ⟨xs, m, -, -, -, hl, hx⟩ := DataW.trod_array ht h
  have h0 := hx 0 (by omega); have h1 := hx 1 (by omega); have h2 := hx 2 (by omega)
  rw [hc, List.getElem?_eq_getElem (by omega)] at h0 h1 h2
  simp only [Nat.zero_mul, Nat.one_mul, Nat.mul_one, List.drop_zero, List.drop_succ_cons, List.take_succ_cons, List.take_zero] at h0 h1 h2
  obtain ⟨l, rfl⟩ := int_of_trod he h0
  obtain ⟨m, rfl⟩ := int_of_trod he h1
  obtain ⟨n, rfl⟩ := int_of_trod he h2
  exact ⟨l, m, n, rfl, rfl, rfl⟩
/-- One stage, as ten cells that are read. -/
theorem stage_of_trod {fuel : Nat} {e ta si ti : TypeId} {fs : Array Field} {cs : List Value} {x : DataW H × List MemPlace} (he : P.underlying e = some (.struct fs)) (hfs : (fs.toList.map fun f => (f.type, f.offset)) = [(ti, 0), (ta, 1), (ta, 4), (si, 7), (ti, 8), (ti, 9)])
    (hti : P.underlying ti = some (.int .i64)) (hta : P.underlying ta = some (.array 3 ti)) (hsi : P.underlying si = some (.slice ti)) (hci : P.cellsOf ti = 1) (hca : P.cellsOf ta = 3) (hcs : P.cellsOf si = 1) (hl10 : cs.length = 10)
    (hd : DataW.trod enc P w base (fun _ => true) held fuel e cs = some x) : ∃ s : Stv, cs = s.cells ∧ Sl w s.tv s.s.taps := by
  obtain ⟨xs, m, _, _, hl, hlen, hfi⟩ := DataW.trod_struct he hd
  obtain ⟨f0, f1, f2, f3, f4, f5, hfe⟩ : ∃ f0 f1 f2 f3 f4 f5, fs.toList = [f0, f1, f2, f3, f4, f5] := by
    have := congrArg List.length hfs
    match h : fs.toList, (by simpa using this : fs.toList.length = 6) with
    | [a, b, c, d, e, f], _ => exact ⟨a, b, c, d, e, f, rfl⟩
  rw [hfe] at hfs
  simp at hfs
  obtain ⟨⟨t0, o0⟩, ⟨t1, o1⟩, ⟨t2, o2⟩, ⟨t3, o3⟩, ⟨t4, o4⟩, t5, o5⟩ := hfs
  have hsz : fs.size = 6 := by rw [← Array.length_toList, hfe]; rfl
  have g0 : fs[0]? = some f0 := by rw [← Array.getElem?_toList, hfe]; rfl
  have g1 : fs[1]? = some f1 := by rw [← Array.getElem?_toList, hfe]; rfl
  have g2 : fs[2]? = some f2 := by rw [← Array.getElem?_toList, hfe]; rfl
  have g3 : fs[3]? = some f3 := by rw [← Array.getElem?_toList, hfe]; rfl
  have g4 : fs[4]? = some f4 := by rw [← Array.getElem?_toList, hfe]; rfl
  have g5 : fs[5]? = some f5 := by rw [← Array.getElem?_toList, hfe]; rfl
  obtain ⟨c0, c1, c2, c3, c4, c5, c6, c7, c8, c9, rfl⟩ : ∃ c0 c1 c2 c3 c4 c5 c6 c7 c8 c9, cs = [c0, c1, c2, c3, c4, c5, c6, c7, c8, c9] := by
    match cs, hl10 with
    | [a, b, c, d, e, f, g, y, i, j], _ => exact ⟨a, b, c, d, e, f, g, y, i, j, rfl⟩
  have h0 := hfi 0 f0 g0; have h1 := hfi 1 f1 g1; have h2 := hfi 2 f2 g2; have h3 := hfi 3 f3 g3; have h4 := hfi 4 f4 g4; have h5 := hfi 5 f5 g5
  rw [t0, o0] at h0; rw [t1, o1] at h1; rw [t2, o2] at h2; rw [t3, o3] at h3; rw [t4, o4] at h4; rw [t5, o5] at h5
  rw [hci] at h0 h4 h5; rw [hca] at h1 h2; rw [hcs] at h3
  simp only [List.drop_zero, List.take_succ_cons, List.take_zero, List.drop_succ_cons] at h0 h1 h2 h3 h4 h5
  have hx : xs.length = 6 := by rw [hlen, hsz]
  rw [List.getElem?_eq_getElem (by omega)] at h0 h1 h2 h3 h4 h5
  obtain ⟨k, rfl⟩ := int_of_trod hti h0
  obtain ⟨n0, n1, n2, rfl, rfl, rfl⟩ := ints3_of_trod hta hti hci h1
  obtain ⟨d0, d1, d2, rfl, rfl, rfl⟩ := ints3_of_trod hta hti hci h2
  obtain ⟨ls, s1, -⟩ := sl_of_trod hsi hti hci h3
  obtain ⟨fa, rfl⟩ := int_of_trod hti h4
  obtain ⟨sh, rfl⟩ := int_of_trod hti h5
  exact ⟨⟨⟨k, n0, n1, n2, d0, d1, d2, ls, fa, sh⟩, c7⟩, rfl, s1⟩
instance : Inhabited Stv := ⟨⟨⟨0, 0, 0, 0, 0, 0, 0, [], 0, 0⟩, .slice none 0 0⟩⟩
/-- A slice of stages, as one cell that is read. -/
theorem sls_of_trod {fuel : Nat} {t e ta si ti : TypeId} {fs : Array Field} {c : Value} {x : DataW H × List MemPlace} (ht : P.underlying t = some (.slice e)) (he : P.underlying e = some (.struct fs)) (hfs : (fs.toList.map fun f => (f.type, f.offset)) = [(ti, 0), (ta, 1), (ta, 4), (si, 7), (ti, 8), (ti, 9)])
    (hti : P.underlying ti = some (.int .i64)) (hta : P.underlying ta = some (.array 3 ti)) (hsi : P.underlying si = some (.slice ti)) (hci : P.cellsOf ti = 1) (hca : P.cellsOf ta = 3) (hcs : P.cellsOf si = 1) (hc : P.cellsOf e = 10)
    (hf : DataW.trod enc P w base (fun _ => true) held fuel t [c] = some x) : ∃ L : List Stv, StIn w c L := by
  rcases open_slice ht hf with ⟨h0, -⟩ | ⟨a, len, cap, m, n, D, Pl, h0, hb, hl, hm, hmm, -, hx⟩
  · simp at h0; subst h0
    exact ⟨[], ⟨rfl, .inl ⟨rfl, none, 0, rfl⟩⟩, by simp⟩
  · simp at h0; subst h0
    simp only [if_true] at hmm
    rw [hc] at hx
    obtain ⟨V, hV⟩ := choose_lt (α := Stv) (p := fun i q => (∀ j, j < 10 → w.cell? ((a.add (i * 10)).add j) = q.cells[j]?) ∧ Sl w q.tv q.s.taps) (n := m) (fun i hi => by
      obtain ⟨cs', h1, h2⟩ := hx i hi
      obtain ⟨_, hlen, hcell⟩ := World.cells?_some h1
      obtain ⟨s, rfl, hs⟩ := stage_of_trod he hfs hti hta hsi hci hca hcs hlen h2
      exact ⟨s, fun j hj => hcell j hj, hs⟩)
    refine ⟨(List.range len).map V, ⟨by rw [flatS_length], ?_⟩, fun q hq => ?_⟩
    · simp only [List.length_map, List.length_range]
      by_cases h0 : 0 < len
      · right
        obtain ⟨b, off, spot⟩ := a
        have h00 := (hV 0 (by omega)).1 0 (by omega)
        have hspot : spot = none := by
          have e0 : ((⟨b, off, spot⟩ : Addr).add (0 * 10)).add 0 = ⟨b, off, spot⟩ := by simp [Addr.add]
          rw [e0] at h00
          exact by simpa [Addr.add] using World.cell?_spot h00
        subst hspot
        have hcell : ∀ i, i < len → ∀ j, j < 10 → w.cell? ⟨b, off + (i * 10 + j), none⟩ = (V i).cells[j]? := fun i hi j hj => by
          have := (hV i (by omega)).1 j hj
          rwa [add_add, Go.WideShapes.add_plain] at this
        refine ⟨b, off, cap, rfl, ?_, hl, by unfold maxLen at hm; omega, fun j u hj => ?_⟩
        · have := hcell 0 h0 0 (by omega)
          exact World.block_lt_of_cell? w _ (this.trans rfl)
        · have hjl : j < len * 10 := by
            have := (List.getElem?_eq_some_iff.1 hj).1
            rw [flatS_length] at this; simpa using this
          have hq : j = (j / 10) * 10 + j % 10 := by omega
          have e := flatS_at ((List.range len).map V) (j / 10) (by simp; omega) (j % 10) (by omega)
          rw [← hq, hj] at e
          have := hcell (j / 10) (by omega) (j % 10) (by omega)
          rw [← hq] at this
          rw [this, e]; simp
      · exact .inl ⟨by omega, _, _, by rw [show len = 0 by omega]⟩
    · obtain ⟨i, hi, rfl⟩ := List.mem_map.1 hq
      exact (hV i (by have := List.mem_range.1 hi; omega)).2
/-- An argument that is a response. -/
theorem open_response {r : Reach} {b0 : Nat} {tr t e ta si ti : TypeId} {v : Value} {d : DataW H} {ps : List MemPlace} {fr fs : Array Field} (htr : P.underlying tr = some (.struct fr)) (hfr : (fr.toList.map fun f => (f.type, f.offset)) = [(t, 0)]) (hctr : P.cellsOf tr = 1) (hct : P.cellsOf t = 1)
    (ht : P.underlying t = some (.slice e)) (he : P.underlying e = some (.struct fs)) (hfs : (fs.toList.map fun f => (f.type, f.offset)) = [(ti, 0), (ta, 1), (ta, 4), (si, 7), (ti, 8), (ti, 9)])
    (hti : P.underlying ti = some (.int .i64)) (hta : P.underlying ta = some (.array 3 ti)) (hsi : P.underlying si = some (.slice ti)) (hci : P.cellsOf ti = 1) (hca : P.cellsOf ta = 3) (hcs : P.cellsOf si = 1) (hc : P.cellsOf e = 10)
    (hval : Value.okWide P w r b0 tr v) (hd : DataW.Trod enc P w base (fun _ => true) held tr v d ps) :
    ∃ (vs : Value) (L : List Stv), v = .agg #[vs] ∧ StIn w vs L := by
  obtain ⟨cs, rfl⟩ := okWide_struct htr hval
  obtain ⟨fuel, hf⟩ := hd
  obtain ⟨xs, m, _, _, hl, hlen, hfi⟩ := DataW.trod_struct htr hf
  obtain ⟨f0, hfe⟩ : ∃ f0, fr.toList = [f0] := by
    have := congrArg List.length hfr
    match h : fr.toList, (by simpa using this : fr.toList.length = 1) with
    | [a], _ => exact ⟨a, rfl⟩
  rw [hfe] at hfr
  simp at hfr
  obtain ⟨t0, o0⟩ := hfr
  have hsz : fr.size = 1 := by rw [← Array.length_toList, hfe]; rfl
  have g0 : fr[0]? = some f0 := by rw [← Array.getElem?_toList, hfe]; rfl
  have hcl : cs.toList.length = 1 := by rw [← hctr]; simpa [Value.cells] using hl
  obtain ⟨c0, hce⟩ : ∃ c0, cs.toList = [c0] := by
    match h : cs.toList, hcl with
    | [a], _ => exact ⟨a, rfl⟩
  have hca' : cs = #[c0] := by rw [← Array.toArray_toList (xs := cs), hce]
  have h0 := hfi 0 f0 g0
  rw [t0, o0, hct] at h0
  simp only [Value.cells, hce, List.drop_zero, List.take_succ_cons, List.take_zero] at h0
  have hx : xs.length = 1 := by rw [hlen, hsz]
  rw [List.getElem?_eq_getElem (by omega)] at h0
  obtain ⟨L, hL⟩ := sls_of_trod ht he hfs hti hta hsi hci hca hcs hc h0
  exact ⟨c0, L, by rw [hca'], hL⟩
/-- An argument that is a scale. -/
theorem open_scale {r : Reach} {b0 : Nat} {t tt si e : TypeId} {v : Value} {d : DataW H} {ps : List MemPlace} {fs fst : Array Field} (ht : P.underlying t = some (.struct fs)) (hfs : (fs.toList.map fun f => (f.type, f.offset)) = [(tt, 0), (e, 3), (e, 4)])
    (htt : P.underlying tt = some (.struct fst)) (hft : (fst.toList.map fun f => (f.type, f.offset)) = [(e, 0), (si, 1), (si, 2)]) (hs : P.underlying si = some (.slice e)) (he : P.underlying e = some (.int .i64)) (hc : P.cellsOf e = 1) (hcs : P.cellsOf si = 1) (hctt : P.cellsOf tt = 3) (hct : P.cellsOf t = 5)
    (hval : Value.okWide P w r b0 t v) (hd : DataW.Trod enc P w base (fun _ => true) held t v d ps) :
    ∃ (st num den : Int) (vl vh : Value) (ls hs : List Int), v = .agg #[.int .i64 st, vl, vh, .int .i64 num, .int .i64 den] ∧ Sl w vl ls ∧ Sl w vh hs := by
  obtain ⟨cs, rfl⟩ := okWide_struct ht hval
  obtain ⟨fuel, hf⟩ := hd
  obtain ⟨xs, m, _, _, hl, hlen, hfi⟩ := DataW.trod_struct ht hf
  obtain ⟨f0, f1, f2, hfe⟩ : ∃ f0 f1 f2, fs.toList = [f0, f1, f2] := by
    have := congrArg List.length hfs
    match h : fs.toList, (by simpa using this : fs.toList.length = 3) with
    | [a, b, c], _ => exact ⟨a, b, c, rfl⟩
  rw [hfe] at hfs
  simp at hfs
  obtain ⟨⟨t0, o0⟩, ⟨t1, o1⟩, t2, o2⟩ := hfs
  have hsz : fs.size = 3 := by rw [← Array.length_toList, hfe]; rfl
  have g0 : fs[0]? = some f0 := by rw [← Array.getElem?_toList, hfe]; rfl
  have g1 : fs[1]? = some f1 := by rw [← Array.getElem?_toList, hfe]; rfl
  have g2 : fs[2]? = some f2 := by rw [← Array.getElem?_toList, hfe]; rfl
  have hcl : cs.toList.length = 5 := by rw [← hct]; simpa [Value.cells] using hl
  obtain ⟨c0, c1, c2, c3, c4, hce⟩ : ∃ c0 c1 c2 c3 c4, cs.toList = [c0, c1, c2, c3, c4] := by
    match h : cs.toList, hcl with
    | [a, b, c, d, e], _ => exact ⟨a, b, c, d, e, rfl⟩
  have hca : cs = #[c0, c1, c2, c3, c4] := by rw [← Array.toArray_toList (xs := cs), hce]
  have h0 := hfi 0 f0 g0; have h1 := hfi 1 f1 g1; have h2 := hfi 2 f2 g2
  rw [t0, o0] at h0; rw [t1, o1] at h1; rw [t2, o2] at h2
  rw [hctt] at h0; rw [hc] at h1 h2
  simp only [Value.cells, hce, List.drop_zero, List.take_succ_cons, List.take_zero, List.drop_succ_cons] at h0 h1 h2
  have hx : xs.length = 3 := by rw [hlen, hsz]
  rw [List.getElem?_eq_getElem (by omega)] at h0 h1 h2
  obtain ⟨num, rfl⟩ := int_of_trod he h1
  obtain ⟨den, rfl⟩ := int_of_trod he h2
  obtain ⟨ys, m', _, _, hl', hlen', hfi'⟩ := DataW.trod_struct htt h0
  obtain ⟨e0, e1, e2, hfe'⟩ : ∃ f0 f1 f2, fst.toList = [f0, f1, f2] := by
    have := congrArg List.length hft
    match h : fst.toList, (by simpa using this : fst.toList.length = 3) with
    | [a, b, c], _ => exact ⟨a, b, c, rfl⟩
  rw [hfe'] at hft
  simp at hft
  obtain ⟨⟨t0', o0'⟩, ⟨t1', o1'⟩, t2', o2'⟩ := hft
  have hsz' : fst.size = 3 := by rw [← Array.length_toList, hfe']; rfl
  have k0 : fst[0]? = some e0 := by rw [← Array.getElem?_toList, hfe']; rfl
  have k1 : fst[1]? = some e1 := by rw [← Array.getElem?_toList, hfe']; rfl
  have k2 : fst[2]? = some e2 := by rw [← Array.getElem?_toList, hfe']; rfl
  have j0 := hfi' 0 e0 k0; have j1 := hfi' 1 e1 k1; have j2 := hfi' 2 e2 k2
  rw [t0', o0'] at j0; rw [t1', o1'] at j1; rw [t2', o2'] at j2
  rw [hc] at j0; rw [hcs] at j1 j2
  simp only [List.drop_zero, List.take_succ_cons, List.take_zero, List.drop_succ_cons] at j0 j1 j2
  have hx' : ys.length = 3 := by rw [hlen', hsz']
  rw [List.getElem?_eq_getElem (by omega)] at j0 j1 j2
  obtain ⟨st, rfl⟩ := int_of_trod he j0
  obtain ⟨ls, s1, -⟩ := sl_of_trod hs he hc j1
  obtain ⟨hs', s2, -⟩ := sl_of_trod hs he hc j2
  exact ⟨st, num, den, c1, c2, ls, hs', by rw [hca], s1, s2⟩
end
end Go.Proofs.YtmgfdfbhfhmekaaGreat
