/- Layer 26's awake: the examples of the chapter; a phase that is drawn. -/
import Derived.Test.YtcealhikmbchoaaGreatBnd
import Derived.Test.YtcealhikmbchoaaGreatRgPos
namespace Go.Proofs.YtcealhikmbchoaaGreat
set_option linter.all false
open Go.RowKit Rg

theorem Sl.of_cells {w : World} {b n cap : Nat} {xs : List Int} (hb : b < w.heap.size) (hn : xs.length = n) (hc : n ≤ cap) (hc2 : cap ≤ 9223372036854775807) (h : ∀ k, k < n → w.cell? ⟨b, k, none⟩ = some (.int .i64 (xs[k]?.getD 0))) : Sl w (.slice (some ⟨b, 0, none⟩) n cap) xs := by
  subst hn
  exact .inr ⟨b, 0, cap, rfl, hb, hc, hc2, fun k hk => by rw [Nat.zero_add]; exact h k hk⟩
theorem Sl.of_block {w : World} {b n : Nat} {xs : List Int} {T : TypeId} {fr : Nat × Nat} (h : w.heap[b]? = some (.cells (xs.map (Value.int .i64)).toArray T fr)) (hn : xs.length = n) (hc2 : n ≤ 9223372036854775807) : Sl w (.slice (some ⟨b, 0, none⟩) n n) xs :=
  Sl.of_cells (block_lt' h) hn (Nat.le_refl _) hc2 fun k hk => row1 h k (by omega)

theorem bnd_26 : bndV 1000 [0, 150, 320] [0, 200, 400] 0 0 0 1000 0 0 0 0 0 = .tuple #[.int .i64 0, .int .i64 200, .int .i64 0] := by
  have t : tOk 1000 [0, 150, 320] [0, 200, 400] := by decide +kernel
  have b : (bP 0 0 0 1000 0 0 && vP 0 0 0) = true := by decide +kernel
  have n : nearP 0 0 0 1000 0 0 0 0 0 = 0 := by decide +kernel
  have f : farP 0 0 0 1000 0 0 0 0 0 = 1000000 := by decide +kernel
  have f0 : floorI 0 = 0 := by decide +kernel
  have c1 : ceilI 1000000 = 1000 := by
    have := floorI_unique (n := 1000000) (r := 1000) (by decide) (by decide) (by decide)
    unfold ceilI; rw [← this]; rfl
  have e : bndE 1000 [0, 150, 320] [0, 200, 400] 0 0 0 1000 0 0 0 0 0 = 0 := by
    unfold bndE; rw [if_pos t, if_pos b, n, f]; unfold btwE; rw [if_neg (by simpa using t), c1]; decide
  unfold bndV bndA bndB; rw [e, if_pos rfl, if_pos rfl, n, f, f0, c1]; rfl
theorem zn_26 : znV 1000 [0, 150, 320] [0, 200, 400] 0 0 0 1000 0 0 0 0 0 1000 1010 1 = .tuple #[.agg #[.int .i64 800, .int .i64 1010], .int .i64 0] := by
  have t : tOk 1000 [0, 150, 320] [0, 200, 400] := by decide +kernel
  have h := bnd_26
  unfold bndV at h
  have hl := congrArg (fun v => match v with | Value.tuple cs => cs.toList | _ => []) h
  simp only [List.cons.injEq, Value.int.injEq, true_and, and_true] at hl
  obtain ⟨ha, hb, he⟩ := hl
  have e : znE 1000 [0, 150, 320] [0, 200, 400] 0 0 0 1000 0 0 0 0 0 1000 1010 1 = 0 := by
    unfold znE; rw [if_pos t, if_pos (by decide +kernel), if_pos (by decide +kernel)]; exact he
  rw [← zn_ok e, ha, hb]; rfl

/-- Two zones are equal. -/
def same2 (a b c d : Int) : Bool := a == c && b == d
theorem run_eql2 (a b c d : Int) (w : World) :
    (binOp .eql 126 (.agg #[.int .i64 a, .int .i64 b]) (.agg #[.int .i64 c, .int .i64 d])).run Tryz.prog w = .ok (.bool (same2 a b c d)) w := by
  unfold same2
  by_cases h0 : a = c <;> by_cases h1 : b = d <;> simp [go_sem, h0, h1]
theorem run_neq2 (a b c d : Int) (w : World) :
    (binOp .neq 126 (.agg #[.int .i64 a, .int .i64 b]) (.agg #[.int .i64 c, .int .i64 d])).run Tryz.prog w = .ok (.bool (!same2 a b c d)) w := by
  unfold same2
  by_cases h0 : a = c <;> by_cases h1 : b = d <;> simp [go_sem, h0, h1]
attribute [go_sem high] run_eql2 run_neq2

end Go.Proofs.YtcealhikmbchoaaGreat
