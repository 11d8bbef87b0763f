/- Arguments that are problems, or slices of phases, opened. -/
import Derived.Test.YtcealhikmbchoaaGreatArgs
import Derived.Test.YtcealhikmbchoaaGreatMis
namespace Go.Proofs.YtcealhikmbchoaaGreat
set_option linter.all false
open Go.ChangeShapes Go.WideShapes Go.ChangeAt Go.RowKit Go.Deep

section
variable {H : Type} {enc : TypeId × Value → H} {P : Program} {w : World} {base : Nat} {held : Bool}

/-- A slice of phases, as one cell that is read. -/
theorem slp_of_trod {fuel : Nat} {t e : TypeId} {c : Value} {x : DataW H × List MemPlace} (k : Nat) (ht : P.underlying t = some (.slice e)) (hk : flatB P k e = true) (hc : P.cellsOf e = 6)
    (hf : DataW.trod enc P w base (fun _ => true) held fuel t [c] = some x) : ∃ l : List Ph, SlC 6 w c l.length (flatP l) ∧ ∀ a ∈ l, I64 a.x ∧ I64 a.y ∧ I64 a.z ∧ I64 a.e ∧ I64 a.l ∧ I64 a.n := by
  rcases open_slice ht hf with ⟨h0, -⟩ | ⟨a, len, cap, m, n, D, Pl, h0, hb, hl, hm, hmm, -, hx⟩
  · simp at h0; subst h0
    exact ⟨[], ⟨rfl, .inl ⟨rfl, none, 0, rfl⟩⟩, by simp⟩
  · simp at h0; subst h0
    simp only [if_true] at hmm
    rw [hc] at hx
    obtain ⟨V, hV⟩ := choose_lt (α := Ph) (p := fun i q => (∀ j, j < 6 → w.cell? ((a.add (i * 6)).add j) = q.cells[j]?) ∧ I64 q.x ∧ I64 q.y ∧ I64 q.z ∧ I64 q.e ∧ I64 q.l ∧ I64 q.n) (n := m) (fun i hi => by
      obtain ⟨cs', h1, h2⟩ := hx i hi
      obtain ⟨_, hlen, hcell⟩ := World.cells?_some h1
      obtain ⟨-, hcs⟩ := flat_cells k e n _ _ hk h2
      obtain ⟨ns, rfl, hns⟩ := ints_of _ hcs
      match ns, (by simpa using hlen : ns.length = 6), hns, hcell with
      | [x, y, z, e, l, n], _, hns, hcell =>
        refine ⟨⟨x, y, z, e, l, n⟩, fun j hj => ?_, by simpa using hns⟩
        have := hcell j hj
        simpa [Ph.cells] using this)
    refine ⟨(List.range len).map V, ⟨by rw [flatP_length], ?_⟩, fun q hq => ?_⟩
    · simp only [List.length_map, List.length_range]
      by_cases h0 : 0 < len
      · right
        obtain ⟨b, off, spot⟩ := a
        have h00 := (hV 0 (by omega)).1 0 (by omega)
        have hspot : spot = none := by
          have e0 : ((⟨b, off, spot⟩ : Addr).add (0 * 6)).add 0 = ⟨b, off, spot⟩ := by simp [Addr.add]
          rw [e0] at h00
          exact by simpa [Addr.add] using World.cell?_spot h00
        subst hspot
        have hcell : ∀ i, i < len → ∀ j, j < 6 → w.cell? ⟨b, off + (i * 6 + j), none⟩ = (V i).cells[j]? := fun i hi j hj => by
          have := (hV i (by omega)).1 j hj
          rwa [add_add, Go.WideShapes.add_plain] at this
        refine ⟨b, off, cap, rfl, ?_, hl, by unfold maxLen at hm; omega, fun j u hj => ?_⟩
        · have := hcell 0 h0 0 (by omega)
          exact World.block_lt_of_cell? w _ (this.trans rfl)
        · have hjl : j < len * 6 := by
            have := (List.getElem?_eq_some_iff.1 hj).1
            rw [flatP_length] at this; simpa using this
          have hq : j = (j / 6) * 6 + j % 6 := by omega
          have e := flatP_at ((List.range len).map V) (j / 6) (by simp; omega) (j % 6) (by omega)
          rw [← hq, hj] at e
          have := hcell (j / 6) (by omega) (j % 6) (by omega)
          rw [← hq] at this
          rw [this, e]; simp
      · exact .inl ⟨by omega, _, _, by rw [show len = 0 by omega]⟩
    · obtain ⟨i, hi, rfl⟩ := List.mem_map.1 hq
      exact (hV i (by have := List.mem_range.1 hi; omega)).2

/-- An argument that is a problem. -/
theorem open_problem {r : Reach} {b0 : Nat} {t tb tt si e sp ep : TypeId} {v : Value} {d : DataW H} {ps : List MemPlace} {fs fst : Array Field} (ht : P.underlying t = some (.struct fs)) (hfs : (fs.toList.map fun f => (f.type, f.offset)) = [(tb, 0), (tt, 6), (sp, 9), (e, 10)])
    (kb : Nat) (htb : flatB P kb tb = true) (hcb : P.cellsOf tb = 6)
    (htt : P.underlying tt = some (.struct fst)) (hft : (fst.toList.map fun f => (f.type, f.offset)) = [(e, 0), (si, 1), (si, 2)]) (hs : P.underlying si = some (.slice e)) (he : P.underlying e = some (.int .i64)) (hc : P.cellsOf e = 1) (hcs : P.cellsOf si = 1) (hctt : P.cellsOf tt = 3)
    (kp : Nat) (hsp : P.underlying sp = some (.slice ep)) (hep : flatB P kp ep = true) (hcp : P.cellsOf ep = 6) (hcsp : P.cellsOf sp = 1) (hct : P.cellsOf t = 11)
    (hval : Value.okWide P w r b0 t v) (hd : DataW.Trod enc P w base (fun _ => true) held t v d ps) :
    ∃ (Q : Prob) (vl vh vp : Value), v = .agg (Q.val vl vh vp) ∧ ProbIn Q vl vh vp w ∧ I64 Q.cap ∧ I64 Q.step := by
  obtain ⟨cs, rfl⟩ := okWide_struct ht hval
  obtain ⟨fuel, hf⟩ := hd
  obtain ⟨xs, m, _, _, hl, hlen, hfi⟩ := DataW.trod_struct ht hf
  obtain ⟨f0, f1, f2, f3, hfe⟩ : ∃ f0 f1 f2 f3, fs.toList = [f0, f1, f2, f3] := by
    have := congrArg List.length hfs
    simp at this
    match h : fs.toList, (by simpa using this : fs.toList.length = 4) with
    | [a, b, c, d], _ => exact ⟨a, b, c, d, rfl⟩
  rw [hfe] at hfs
  simp at hfs
  obtain ⟨⟨t0, o0⟩, ⟨t1, o1⟩, ⟨t2, o2⟩, t3, o3⟩ := hfs
  have hsz : fs.size = 4 := by rw [← Array.length_toList, hfe]; rfl
  have g0 : fs[0]? = some f0 := by rw [← Array.getElem?_toList, hfe]; rfl
  have g1 : fs[1]? = some f1 := by rw [← Array.getElem?_toList, hfe]; rfl
  have g2 : fs[2]? = some f2 := by rw [← Array.getElem?_toList, hfe]; rfl
  have g3 : fs[3]? = some f3 := by rw [← Array.getElem?_toList, hfe]; rfl
  have hcl : cs.toList.length = 11 := by rw [← hct]; simpa [Value.cells] using hl
  obtain ⟨c0, c1, c2, c3, c4, c5, c6, c7, c8, c9, c10, hce⟩ : ∃ c0 c1 c2 c3 c4 c5 c6 c7 c8 c9 c10, cs.toList = [c0, c1, c2, c3, c4, c5, c6, c7, c8, c9, c10] := by
    match h : cs.toList, hcl with
    | [a, b, c, d, e, f, g, y, i, j, k], _ => exact ⟨a, b, c, d, e, f, g, y, i, j, k, rfl⟩
  have hca : cs = #[c0, c1, c2, c3, c4, c5, c6, c7, c8, c9, c10] := by rw [← Array.toArray_toList (xs := cs), hce]
  have h0 := hfi 0 f0 g0; have h1 := hfi 1 f1 g1; have h2 := hfi 2 f2 g2; have h3 := hfi 3 f3 g3
  rw [t0, o0] at h0; rw [t1, o1] at h1; rw [t2, o2] at h2; rw [t3, o3] at h3
  rw [hcb] at h0; rw [hctt] at h1; rw [hcsp] at h2; rw [hc] at h3
  simp only [Value.cells, hce, List.drop_zero, List.take_succ_cons, List.take_zero, List.drop_succ_cons] at h0 h1 h2 h3
  have hx : xs.length = 4 := by rw [hlen, hsz]
  rw [List.getElem?_eq_getElem (by omega)] at h0 h1 h2 h3
  obtain ⟨-, hb6⟩ := flat_cells kb tb m _ _ htb h0
  obtain ⟨n0, rfl, i0⟩ := hb6 0 c0 rfl; obtain ⟨n1, rfl, i1⟩ := hb6 1 c1 rfl; obtain ⟨n2, rfl, i2⟩ := hb6 2 c2 rfl; obtain ⟨n3, rfl, i3⟩ := hb6 3 c3 rfl; obtain ⟨n4, rfl, i4⟩ := hb6 4 c4 rfl; obtain ⟨n5, rfl, i5⟩ := hb6 5 c5 rfl
  obtain ⟨l, sp', -⟩ := slp_of_trod kp hsp hep hcp h2
  obtain ⟨n10, hn10, _, hw10⟩ := DataW.trod_int he h3
  simp at hn10; subst hn10
  -- the table
  obtain ⟨ys, m', _, _, hl', hlen', hfi'⟩ := DataW.trod_struct htt h1
  obtain ⟨e0, e1, e2, hfe'⟩ : ∃ f0 f1 f2, fst.toList = [f0, f1, f2] := by
    have := congrArg List.length hft
    simp at this
    match h : fst.toList, (by simpa using this : fst.toList.length = 3) with
    | [a, b, c], _ => exact ⟨a, b, c, rfl⟩
  rw [hfe'] at hft
  simp at hft
  obtain ⟨⟨t0', o0'⟩, ⟨t1', o1'⟩, t2', o2'⟩ := hft
  have hsz' : fst.size = 3 := by rw [← Array.length_toList, hfe']; rfl
  have k0 : fst[0]? = some e0 := by rw [← Array.getElem?_toList, hfe']; rfl
  have k1 : fst[1]? = some e1 := by rw [← Array.getElem?_toList, hfe']; rfl
  have k2 : fst[2]? = some e2 := by rw [← Array.getElem?_toList, hfe']; rfl
  have j0 := hfi' 0 e0 k0; have j1 := hfi' 1 e1 k1; have j2 := hfi' 2 e2 k2
  rw [t0', o0'] at j0; rw [t1', o1'] at j1; rw [t2', o2'] at j2
  rw [hc] at j0; rw [hcs] at j1 j2
  simp only [List.drop_zero, List.take_succ_cons, List.take_zero, List.drop_succ_cons] at j0 j1 j2
  have hx' : ys.length = 3 := by rw [hlen', hsz']
  rw [List.getElem?_eq_getElem (by omega)] at j0 j1 j2
  obtain ⟨n6, hn6, _, hw6⟩ := DataW.trod_int he j0
  simp at hn6; subst hn6
  obtain ⟨ls, s1, -⟩ := sl_of_trod hs he hc j1
  obtain ⟨hs', s2, -⟩ := sl_of_trod hs he hc j2
  exact ⟨⟨n0, n1, n2, n3, n4, n5, n6, ls, hs', l, n10⟩, c7, c8, c9, by rw [hca]; rfl, ⟨s1, s2, sp'⟩, bounds_i64 hw10, bounds_i64 hw6⟩
end
end Go.Proofs.YtcealhikmbchoaaGreat
