/- Arguments that are structs of ints, slices of such structs, and structs that hold them, opened. Of no program. -/
import Derived.Test.YtmgfdfbhfhmekaaGreatBase
import Derived.ProofKit
import Derived.OpenShut
import Derived.Deep.Slices
namespace Go.Proofs.YtmgfdfbhfhmekaaGreat
set_option linter.all false
open Go.ChangeShapes Go.WideShapes Go.ChangeAt Go.RowKit

/-- Every cell of type t is an int. -/
def flatB (P : Program) : Nat → TypeId → Bool
  | 0, _ => false
  | k + 1, t =>
    match P.underlying t with
    | some (.int .i64) => P.cellsOf t == 1
    | some (.struct fs) => (List.range (P.cellsOf t)).all fun j => fs.toList.any fun f => flatB P k f.type && decide (f.offset ≤ j) && decide (j < f.offset + P.cellsOf f.type)
    | _ => false

/-- Ints in their range, as cells. -/
def I64 (n : Int) : Prop := -9223372036854775808 ≤ n ∧ n ≤ 9223372036854775807

section
variable {H : Type} {enc : TypeId × Value → H} {P : Program} {w : World} {base : Nat} {sp : Nat → Bool} {held : Bool}

theorem flat_cells : ∀ (k : Nat) (t : TypeId) (fuel : Nat) (cs : List Value) (x : DataW H × List MemPlace), flatB P k t = true → DataW.trod enc P w base sp held fuel t cs = some x →
    cs.length = P.cellsOf t ∧ ∀ (j : Nat) (c : Value), cs[j]? = some c → ∃ n, c = .int .i64 n ∧ I64 n := by
  intro k
  induction k with
  | zero => intro t fuel cs x h; simp [flatB] at h
  | succ k ih =>
    intro t fuel cs x h hd
    unfold flatB at h
    cases hu : P.underlying t with
    | none => simp [hu] at h
    | some d =>
      rw [hu] at h
      cases d with
      | int kd =>
        cases kd <;> simp at h
        obtain ⟨n, rfl, _, hw⟩ := DataW.trod_int hu hd
        refine ⟨by simpa using h.symm, fun j c hj => ?_⟩
        cases j with
        | zero => simp at hj; subst hj; exact ⟨n, rfl, bounds_i64 hw⟩
        | succ j => simp at hj
      | struct fs =>
        simp only [List.all_eq_true, List.mem_range, List.any_eq_true, Bool.and_eq_true, decide_eq_true_eq] at h
        obtain ⟨xs, m, _, _, hl, hlen, hf⟩ := DataW.trod_struct hu hd
        refine ⟨hl, fun j c hj => ?_⟩
        have hjl : j < cs.length := (List.getElem?_eq_some_iff.1 hj).1
        obtain ⟨f, hmem, ⟨⟨hfl, h1⟩, h2⟩⟩ := h j (by omega)
        obtain ⟨i, hi, hfi⟩ := List.getElem_of_mem hmem
        have hfi' : fs[i]? = some f := by
          have e : fs.toList[i]? = some f := by rw [List.getElem?_eq_getElem hi, hfi]
          simpa using e
        have hd' := hf i f hfi'
        have hxi : i < xs.length := by rw [hlen]; simpa using hi
        rw [List.getElem?_eq_getElem hxi] at hd'
        obtain ⟨_, hc⟩ := ih f.type m _ _ hfl hd'
        refine hc (j - f.offset) c ?_
        rw [List.getElem?_take_of_lt (by omega), List.getElem?_drop, show f.offset + (j - f.offset) = j by omega]
        exact hj
      | _ => simp at h

theorem ints_of : ∀ (cs : List Value), (∀ (j : Nat) (c : Value), cs[j]? = some c → ∃ n, c = .int .i64 n ∧ I64 n) → ∃ ns : List Int, cs = ns.map (.int .i64) ∧ ∀ n ∈ ns, I64 n
  | [], _ => ⟨[], rfl, by simp⟩
  | c :: cs, h => by
    obtain ⟨n, rfl, hn⟩ := h 0 c rfl
    obtain ⟨ns, rfl, hns⟩ := ints_of cs fun j c hj => h (j + 1) c (by simpa using hj)
    exact ⟨n :: ns, rfl, by simpa using ⟨hn, hns⟩⟩

/-- An argument that is a struct: its cells. -/
theorem okWide_struct {r : Reach} {b0 : Nat} {t : TypeId} {fs : Array Field} {v : Value} (ht : P.underlying t = some (.struct fs)) (h : Value.okWide P w r b0 t v) : ∃ cs, v = .agg cs := by
  simp only [Value.okWide, ht] at h
  obtain ⟨cs, h1, _⟩ := h
  exact ⟨cs, h1⟩

/-- An argument that is a struct of ints. -/
theorem open_flat {r : Reach} {b0 : Nat} {t : TypeId} {fs : Array Field} {v : Value} {d : DataW H} {ps : List MemPlace} (n k : Nat) (ht : P.underlying t = some (.struct fs)) (hk : flatB P k t = true) (hc : P.cellsOf t = n)
    (hval : Value.okWide P w r b0 t v) (hd : DataW.Trod enc P w base sp held t v d ps) : ∃ ns : List Int, v = .agg (ns.map (Value.int .i64)).toArray ∧ ns.length = n ∧ ∀ n ∈ ns, I64 n := by
  obtain ⟨cs, rfl⟩ := okWide_struct ht hval
  obtain ⟨fuel, hf⟩ := hd
  obtain ⟨hl, hcs⟩ := flat_cells k t fuel _ _ hk hf
  obtain ⟨ns, hns, hb⟩ := ints_of _ hcs
  have e : cs = (ns.map (Value.int .i64)).toArray := by
    rw [← hns]; simp [Value.cells]
  refine ⟨ns, by rw [e], ?_, hb⟩
  have : (Value.agg cs).cells.toList.length = ns.length := by rw [hns]; simp
  omega

/-- A slice of ints, as one cell that is read. -/
theorem sl_of_trod {fuel : Nat} {t e : TypeId} {c : Value} {x : DataW H × List MemPlace} (ht : P.underlying t = some (.slice e)) (he : P.underlying e = some (.int .i64)) (hc : P.cellsOf e = 1)
    (hf : DataW.trod enc P w base (fun _ => true) held fuel t [c] = some x) : ∃ xs, Sl w c xs ∧ (∀ x ∈ xs, -9223372036854775808 ≤ x ∧ x ≤ 9223372036854775807) := by
  rcases open_ints ht he hc hf with ⟨hcs, _⟩ | ⟨a, len, cap, zs, hcs, _, hl, hm, hz, _, hcell, hw⟩
  · simp at hcs
    subst hcs
    exact ⟨[], .inl ⟨rfl, none, 0, rfl⟩, by simp⟩
  · simp at hcs
    subst hcs
    simp only [if_true] at hz
    refine ⟨zs.take len, ?_, fun x hx => bounds_i64 (hw x (List.mem_of_mem_take hx))⟩
    by_cases h0 : 0 < len
    · obtain ⟨b, off, rfl, hcc⟩ := ints_at hcell (by omega)
      have hlen : (zs.take len).length = len := by simp; omega
      refine .inr ⟨b, off, cap, by rw [hlen], World.block_lt_of_cell? w _ (hcc 0 (by omega)), by omega, by unfold maxLen at hm; omega, fun k hk => ?_⟩
      rw [hlen] at hk
      rw [hcc k (by omega), List.getElem?_take_of_lt hk]; rfl
    · obtain rfl : len = 0 := by omega
      exact .inl ⟨by simp, _, _, rfl⟩
/-- An argument that is a table. -/
theorem open_table {r : Reach} {b0 : Nat} {t si e : TypeId} {v : Value} {d : DataW H} {ps : List MemPlace} {fs : Array Field} (ht : P.underlying t = some (.struct fs)) (hfs : (fs.toList.map fun f => (f.type, f.offset)) = [(e, 0), (si, 1), (si, 2)]) (hs : P.underlying si = some (.slice e)) (he : P.underlying e = some (.int .i64)) (hc : P.cellsOf e = 1) (hcs : P.cellsOf si = 1) (hct : P.cellsOf t = 3)
    (hval : Value.okWide P w r b0 t v) (hd : DataW.Trod enc P w base (fun _ => true) held t v d ps) :
    ∃ (st : Int) (vl vh : Value) (ls hs : List Int), v = .agg #[.int .i64 st, vl, vh] ∧ Sl w vl ls ∧ Sl w vh hs ∧ I64 st := by
  obtain ⟨cs, rfl⟩ := okWide_struct ht hval
  obtain ⟨fuel, hf⟩ := hd
  obtain ⟨xs, m, _, _, hl, hlen, hfi⟩ := DataW.trod_struct ht hf
  obtain ⟨f0, f1, f2, hfe⟩ : ∃ f0 f1 f2, fs.toList = [f0, f1, f2] := by
    have := congrArg List.length hfs
    simp at this
    match h : fs.toList, (by simpa using this : fs.toList.length = 3) with
    | [a, b, c], _ => exact ⟨a, b, c, rfl⟩
  rw [hfe] at hfs
  simp at hfs
  obtain ⟨⟨t0, o0⟩, ⟨t1, o1⟩, t2, o2⟩ := hfs
  have hsz : fs.size = 3 := by rw [← Array.length_toList, hfe]; rfl
  have g0 : fs[0]? = some f0 := by rw [← Array.getElem?_toList, hfe]; rfl
  have g1 : fs[1]? = some f1 := by rw [← Array.getElem?_toList, hfe]; rfl
  have g2 : fs[2]? = some f2 := by rw [← Array.getElem?_toList, hfe]; rfl
  have hcl : cs.toList.length = 3 := by rw [← hct]; simpa [Value.cells] using hl
  obtain ⟨c0, c1, c2, hce⟩ : ∃ c0 c1 c2, cs.toList = [c0, c1, c2] := by
    match h : cs.toList, hcl with
    | [a, b, c], _ => exact ⟨a, b, c, rfl⟩
  have hca : cs = #[c0, c1, c2] := by rw [← Array.toArray_toList (xs := cs), hce]
  have h0 := hfi 0 f0 g0; have h1 := hfi 1 f1 g1; have h2 := hfi 2 f2 g2
  rw [t0, o0] at h0; rw [t1, o1] at h1; rw [t2, o2] at h2
  rw [hc] at h0; rw [hcs] at h1 h2
  simp only [Value.cells, hce, List.drop_zero, List.take_succ_cons, List.take_zero, List.drop_succ_cons] at h0 h1 h2
  have hx : xs.length = 3 := by rw [hlen, hsz]
  rw [List.getElem?_eq_getElem (by omega)] at h0 h1 h2
  obtain ⟨n, hn, _, hw⟩ := DataW.trod_int he h0
  obtain ⟨ls, s1, -⟩ := sl_of_trod hs he hc h1
  obtain ⟨hs', s2, -⟩ := sl_of_trod hs he hc h2
  simp at hn
  subst hn
  exact ⟨n, c1, c2, ls, hs', by rw [hca], s1, s2, bounds_i64 hw⟩

theorem len1 {l : List Int} (h : l.length = 1) : ∃ a, l = [a] := by
  match l, h with
  | [a], _ => exact ⟨a, rfl⟩
theorem len2 {l : List Int} (h : l.length = 2) : ∃ a b, l = [a, b] := by
  match l, h with
  | [a, b], _ => exact ⟨a, b, rfl⟩
theorem len3 {l : List Int} (h : l.length = 3) : ∃ a b c, l = [a, b, c] := by
  match l, h with
  | [a, b, c], _ => exact ⟨a, b, c, rfl⟩
theorem len12 {l : List Int} (h : l.length = 12) : ∃ a b c d e f a' b' c' d' e' f', l = [a, b, c, d, e, f, a', b', c', d', e', f'] := by
  match l, h with
  | [a, b, c, d, e, f, a', b', c', d', e', f'], _ => exact ⟨a, b, c, d, e, f, a', b', c', d', e', f', rfl⟩
theorem len6 {l : List Int} (h : l.length = 6) : ∃ a b c d e f, l = [a, b, c, d, e, f] := by
  match l, h with
  | [a, b, c, d, e, f], _ => exact ⟨a, b, c, d, e, f, rfl⟩
end
end Go.Proofs.YtmgfdfbhfhmekaaGreat
