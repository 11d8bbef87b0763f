/- A slice of ints as a list. Of no program. -/
import Derived.Test.YtkckcaijfedijaaGen
namespace Go.Proofs.Ytkckcaijfedijaa
set_option linter.all false
open Go.RowKit

/-- The slice value v reads as the list xs of ints in the world w. -/
def Sl (w : World) (v : Value) (xs : List Int) : Prop :=
  (xs = [] ∧ ∃ a cap, v = .slice a 0 cap) ∨
  ∃ b off cap, v = .slice (some ⟨b, off, none⟩) xs.length cap ∧ b < w.heap.size ∧ xs.length ≤ cap ∧ cap ≤ 9223372036854775807 ∧ ∀ k, k < xs.length → w.cell? ⟨b, off + k, none⟩ = some (.int .i64 (xs[k]?.getD 0))

theorem Sl.later {w w' : World} {row : Option Nat} {v : Value} {xs : List Int} (h : Sl w v xs) (hg : w.grownBy w' row) (hr : ∀ b off len cap, v = .slice (some ⟨b, off, none⟩) len cap → 0 < len → some b ≠ row) : Sl w' v xs := by
  rcases h with h | ⟨b, off, cap, rfl, hb, h1, h2, h3⟩
  · exact .inl h
  · by_cases h0 : 0 < xs.length
    · exact .inr ⟨b, off, cap, rfl, Nat.lt_of_lt_of_le hb hg.size, h1, h2, fun k hk => (gb_cell hg hb (hr _ _ _ _ rfl h0)).trans (h3 k hk)⟩
    · obtain rfl : xs = [] := List.length_eq_zero_iff.1 (by omega)
      exact .inl ⟨rfl, _, _, rfl⟩

/-- An own row of ints reads as a list. -/
theorem Sl_of_owns {w : World} {base : Nat} {E : TypeId} {v : Value} {n : Nat} {xs : List Int} (h : w.ownsRow base E 1 v n (xs.map (Value.int .i64))) (hn : n = xs.length) : Sl w v xs := by
  subst hn
  rcases h.2 with ⟨rfl, h0⟩ | ⟨g, cap, cur, rfl, hb, hg, hle, hcap, hsz, htk⟩
  · exact .inl ⟨List.length_eq_zero_iff.1 h0, none, 0, by simp⟩
  · refine .inr ⟨g, 0, cap, rfl, (Array.getElem?_eq_some_iff.1 hg).1, hle, by unfold maxLen at hcap; exact hcap, fun k hk => ?_⟩
    have := h.cells (g := g) rfl k (.int .i64 (xs[k]?.getD 0)) (by simp [List.getElem?_map, List.getElem?_eq_getElem hk])
    rw [← this]
    congr 1
    unfold Addr.add; split <;> simp_all


/-- The first m numbers: 's[:m]'. -/
theorem Sl.take {w : World} {b off n cap : Nat} {xs : List Int} (h : Sl w (.slice (some ⟨b, off, none⟩) n cap) xs) {m : Nat} (hm : m ≤ n) : Sl w (.slice (some ⟨b, off, none⟩) m cap) (xs.take m) := by
  rcases h with ⟨rfl, a, c, e⟩ | ⟨b', off', cap', e, hb, h1, h2, h3⟩
  · simp at e; obtain ⟨rfl, rfl, rfl⟩ := e
    obtain rfl : m = 0 := by omega
    exact .inl ⟨rfl, _, _, rfl⟩
  · simp at e; obtain ⟨⟨rfl, rfl⟩, rfl, rfl⟩ := e
    have hl : (xs.take m).length = m := by simp; omega
    refine .inr ⟨_, _, _, by rw [hl], hb, by omega, h2, fun k hk => ?_⟩
    rw [hl] at hk
    rw [h3 k (by omega), List.getElem?_take_of_lt hk]

/-- One number in a block of its own. -/
theorem Sl.one (w : World) (x : Int) (e : TypeId) : Sl (w.alloc (.cells #[.int .i64 x] e)) (.slice (some ⟨w.heap.size, 0, none⟩) 1 1) [x] := by
  refine .inr ⟨w.heap.size, 0, 1, rfl, by simp, by simp, by omega, fun k hk => ?_⟩
  rw [cell_new]
  match k, hk with
  | 0, _ => rfl
end Go.Proofs.Ytkckcaijfedijaa
