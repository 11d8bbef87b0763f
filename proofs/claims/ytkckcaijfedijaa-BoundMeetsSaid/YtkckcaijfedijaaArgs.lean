/- Arguments that are structs of ints, slices of such structs, and structs that hold them, opened. Of no program. -/
import Derived.Test.YtkckcaijfedijaaGen
import Derived.Test.YtkckcaijfedijaaSl
import Derived.ProofKit
import Derived.OpenShut
import Derived.Deep.Slices
namespace Go.Proofs.Ytkckcaijfedijaa
set_option linter.all false
open Go.ChangeShapes Go.WideShapes Go.ChangeAt Go.RowKit

/-- Every cell of type t is an int. -/
def flatB (P : Program) : Nat → TypeId → Bool
  | 0, _ => false
  | k + 1, t =>
    match P.underlying t with
    | some (.int .i64) => P.cellsOf t == 1
    | some (.struct fs) => (List.range (P.cellsOf t)).all fun j => fs.toList.any fun f => flatB P k f.type && decide (f.offset ≤ j) && decide (j < f.offset + P.cellsOf f.type)
    | _ => false

/-- Ints in their range, as cells. -/
def I64 (n : Int) : Prop := -9223372036854775808 ≤ n ∧ n ≤ 9223372036854775807

section
variable {H : Type} {enc : TypeId × Value → H} {P : Program} {w : World} {base : Nat} {sp : Nat → Bool} {held : Bool}

theorem flat_cells : ∀ (k : Nat) (t : TypeId) (fuel : Nat) (cs : List Value) (x : DataW H × List MemPlace), flatB P k t = true → DataW.trod enc P w base sp held fuel t cs = some x →
    cs.length = P.cellsOf t ∧ ∀ (j : Nat) (c : Value), cs[j]? = some c → ∃ n, c = .int .i64 n ∧ I64 n := by
  intro k
  induction k with
  | zero => intro t fuel cs x h; simp [flatB] at h
  | succ k ih =>
    intro t fuel cs x h hd
    unfold flatB at h
    cases hu : P.underlying t with
    | none => simp [hu] at h
    | some d =>
      rw [hu] at h
      cases d with
      | int kd =>
        cases kd <;> simp at h
        obtain ⟨n, rfl, _, hw⟩ := DataW.trod_int hu hd
        refine ⟨by simpa using h.symm, fun j c hj => ?_⟩
        cases j with
        | zero => simp at hj; subst hj; exact ⟨n, rfl, bounds_i64 hw⟩
        | succ j => simp at hj
      | struct fs =>
        simp only [List.all_eq_true, List.mem_range, List.any_eq_true, Bool.and_eq_true, decide_eq_true_eq] at h
        obtain ⟨xs, m, _, _, hl, hlen, hf⟩ := DataW.trod_struct hu hd
        refine ⟨hl, fun j c hj => ?_⟩
        have hjl : j < cs.length := (List.getElem?_eq_some_iff.1 hj).1
        obtain ⟨f, hmem, ⟨⟨hfl, h1⟩, h2⟩⟩ := h j (by omega)
        obtain ⟨i, hi, hfi⟩ := List.getElem_of_mem hmem
        have hfi' : fs[i]? = some f := by
          have e : fs.toList[i]? = some f := by rw [List.getElem?_eq_getElem hi, hfi]
          simpa using e
        have hd' := hf i f hfi'
        have hxi : i < xs.length := by rw [hlen]; simpa using hi
        rw [List.getElem?_eq_getElem hxi] at hd'
        obtain ⟨_, hc⟩ := ih f.type m _ _ hfl hd'
        refine hc (j - f.offset) c ?_
        rw [List.getElem?_take_of_lt (by omega), List.getElem?_drop, show f.offset + (j - f.offset) = j by omega]
        exact hj
      | _ => simp at h

theorem ints_of : ∀ (cs : List Value), (∀ (j : Nat) (c : Value), cs[j]? = some c → ∃ n, c = .int .i64 n ∧ I64 n) → ∃ ns : List Int, cs = ns.map (.int .i64) ∧ ∀ n ∈ ns, I64 n
  | [], _ => ⟨[], rfl, by simp⟩
  | c :: cs, h => by
    obtain ⟨n, rfl, hn⟩ := h 0 c rfl
    obtain ⟨ns, rfl, hns⟩ := ints_of cs fun j c hj => h (j + 1) c (by simpa using hj)
    exact ⟨n :: ns, rfl, by simpa using ⟨hn, hns⟩⟩

/-- An argument that is a struct: its cells. -/
theorem okWide_struct {r : Reach} {b0 : Nat} {t : TypeId} {fs : Array Field} {v : Value} (ht : P.underlying t = some (.struct fs)) (h : Value.okWide P w r b0 t v) : ∃ cs, v = .agg cs := by
  simp only [Value.okWide, ht] at h
  obtain ⟨cs, h1, _⟩ := h
  exact ⟨cs, h1⟩

/-- An argument that is a struct of ints. -/
theorem open_flat {r : Reach} {b0 : Nat} {t : TypeId} {fs : Array Field} {v : Value} {d : DataW H} {ps : List MemPlace} (n k : Nat) (ht : P.underlying t = some (.struct fs)) (hk : flatB P k t = true) (hc : P.cellsOf t = n)
    (hval : Value.okWide P w r b0 t v) (hd : DataW.Trod enc P w base sp held t v d ps) : ∃ ns : List Int, v = .agg (ns.map (Value.int .i64)).toArray ∧ ns.length = n ∧ ∀ n ∈ ns, I64 n := by
  obtain ⟨cs, rfl⟩ := okWide_struct ht hval
  obtain ⟨fuel, hf⟩ := hd
  obtain ⟨hl, hcs⟩ := flat_cells k t fuel _ _ hk hf
  obtain ⟨ns, hns, hb⟩ := ints_of _ hcs
  have e : cs = (ns.map (Value.int .i64)).toArray := by
    rw [← hns]; simp [Value.cells]
  refine ⟨ns, by rw [e], ?_, hb⟩
  have : (Value.agg cs).cells.toList.length = ns.length := by rw [hns]; simp
  omega

theorem len1 {l : List Int} (h : l.length = 1) : ∃ a, l = [a] := by
  match l, h with
  | [a], _ => exact ⟨a, rfl⟩
theorem len2 {l : List Int} (h : l.length = 2) : ∃ a b, l = [a, b] := by
  match l, h with
  | [a, b], _ => exact ⟨a, b, rfl⟩
theorem len3 {l : List Int} (h : l.length = 3) : ∃ a b c, l = [a, b, c] := by
  match l, h with
  | [a, b, c], _ => exact ⟨a, b, c, rfl⟩
theorem len6 {l : List Int} (h : l.length = 6) : ∃ a b c d e f, l = [a, b, c, d, e, f] := by
  match l, h with
  | [a, b, c, d, e, f], _ => exact ⟨a, b, c, d, e, f, rfl⟩
end
end Go.Proofs.Ytkckcaijfedijaa
