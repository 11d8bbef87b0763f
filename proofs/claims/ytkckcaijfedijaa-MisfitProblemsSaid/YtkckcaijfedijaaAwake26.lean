/- Layer 26's awake: the examples of the chapter; a phase that is drawn. -/
import Derived.Test.YtkckcaijfedijaaBnd
import Derived.Test.YtkckcaijfedijaaRgPos
namespace Go.Proofs.Ytkckcaijfedijaa
set_option linter.all false
open Go.RowKit Rg

theorem Sl.of_cells {w : World} {b n cap : Nat} {xs : List Int} (hb : b < w.heap.size) (hn : xs.length = n) (hc : n ≤ cap) (hc2 : cap ≤ 9223372036854775807) (h : ∀ k, k < n → w.cell? ⟨b, k, none⟩ = some (.int .i64 (xs[k]?.getD 0))) : Sl w (.slice (some ⟨b, 0, none⟩) n cap) xs := by
  subst hn
  exact .inr ⟨b, 0, cap, rfl, hb, hc, hc2, fun k hk => by rw [Nat.zero_add]; exact h k hk⟩
theorem Sl.of_block {w : World} {b n : Nat} {xs : List Int} {T : TypeId} {fr : Nat × Nat} (h : w.heap[b]? = some (.cells (xs.map (Value.int .i64)).toArray T fr)) (hn : xs.length = n) (hc2 : n ≤ 9223372036854775807) : Sl w (.slice (some ⟨b, 0, none⟩) n n) xs :=
  Sl.of_cells (block_lt' h) hn (Nat.le_refl _) hc2 fun k hk => row1 h k (by omega)

theorem bnd_26 : bndV 1000 [0, 150, 320] [0, 200, 400] 0 0 0 1000 0 0 0 0 0 = .tuple #[.int .i64 0, .int .i64 200, .int .i64 0] := by
  have t : tOk 1000 [0, 150, 320] [0, 200, 400] := by decide +kernel
  have b : (bP 0 0 0 1000 0 0 && vP 0 0 0) = true := by decide +kernel
  have n : nearP 0 0 0 1000 0 0 0 0 0 = 0 := by decide +kernel
  have f : farP 0 0 0 1000 0 0 0 0 0 = 1000000 := by decide +kernel
  have f0 : floorI 0 = 0 := by decide +kernel
  have c1 : ceilI 1000000 = 1000 := by
    have := floorI_unique (n := 1000000) (r := 1000) (by decide) (by decide) (by decide)
    unfold ceilI; rw [← this]; rfl
  have e : bndE 1000 [0, 150, 320] [0, 200, 400] 0 0 0 1000 0 0 0 0 0 = 0 := by
    unfold bndE; rw [if_pos t, if_pos b, n, f]; unfold btwE; rw [if_neg (by simpa using t), c1]; decide
  unfold bndV bndA bndB; rw [e, if_pos rfl, if_pos rfl, n, f, f0, c1]; rfl
theorem zn_26 : znV 1000 [0, 150, 320] [0, 200, 400] 0 0 0 1000 0 0 0 0 0 1000 1010 1 = .tuple #[.agg #[.int .i64 800, .int .i64 1010], .int .i64 0] := by
  have t : tOk 1000 [0, 150, 320] [0, 200, 400] := by decide +kernel
  have h := bnd_26
  unfold bndV at h
  have hl := congrArg (fun v => match v with | Value.tuple cs => cs.toList | _ => []) h
  simp only [List.cons.injEq, Value.int.injEq, true_and, and_true] at hl
  obtain ⟨ha, hb, he⟩ := hl
  have e : znE 1000 [0, 150, 320] [0, 200, 400] 0 0 0 1000 0 0 0 0 0 1000 1010 1 = 0 := by
    unfold znE; rw [if_pos t, if_pos (by decide +kernel), if_pos (by decide +kernel)]; exact he
  rw [← zn_ok e, ha, hb]; rfl

/-- Two zones are equal. -/
def same2 (a b c d : Int) : Bool := a == c && b == d
theorem run_eql2 (a b c d : Int) (w : World) :
    (binOp .eql 32 (.agg #[.int .i64 a, .int .i64 b]) (.agg #[.int .i64 c, .int .i64 d])).run Try.prog w = .ok (.bool (same2 a b c d)) w := by
  unfold same2
  by_cases h0 : a = c <;> by_cases h1 : b = d <;> simp [go_sem, h0, h1]
theorem run_neq2 (a b c d : Int) (w : World) :
    (binOp .neq 32 (.agg #[.int .i64 a, .int .i64 b]) (.agg #[.int .i64 c, .int .i64 d])).run Try.prog w = .ok (.bool (!same2 a b c d)) w := by
  unfold same2
  by_cases h0 : a = c <;> by_cases h1 : b = d <;> simp [go_sem, h0, h1]
attribute [go_sem high] run_eql2 run_neq2

set_option maxRecDepth 100000 in
set_option maxHeartbeats 1000000 in
theorem awake26_any (w : World) : Calls Try.prog 15 #[] w fun e w' => e = .returned (.bool true) ∧ w.grownBy w' none := by
  go_enter Try.func15, Try.ntmps15
  go_wp2_with fail
  refine calls_name (fun w1 hw1 => ?_)
  have hg : w.grownBy w1 none := by rw [hw1]; exact gb_alloc (gb_alloc (gb_alloc (gb_alloc (gb_refl _ _) _) _) _) _
  have hl : w1.heap[w.heap.size]? = some (.cells (([0, 150, 320] : List Int).map (Value.int .i64)).toArray 3 (0, 0)) := by
    rw [hw1, heap_alloc_old _ _ (by simp <;> omega), heap_alloc_old _ _ (by simp <;> omega), heap_alloc_old _ _ (by simp), heap_alloc_new]; rfl
  have hh : w1.heap[w.heap.size + 1]? = some (.cells (([0, 200, 400] : List Int).map (Value.int .i64)).toArray 3 (0, 0)) := by
    rw [hw1, heap_alloc_old _ _ (by simp <;> omega), heap_alloc_old _ _ (by simp)]; simpa using heap_alloc_new (w.alloc _) _
  have ht : w1.heap[w.heap.size + 1 + 1]? = some (.cells #[.int .i64 1000, .slice (some ⟨w.heap.size, 0, none⟩) 3 3, .slice (some ⟨w.heap.size + 1, 0, none⟩) 3 3] 24 (0, 0)) := by
    rw [hw1, heap_alloc_old _ _ (by simp)]; simpa using heap_alloc_new ((w.alloc _).alloc _) _
  have hb : w1.heap[w.heap.size + 1 + 1 + 1]? = some (.cells #[.int .i64 0, .int .i64 0, .int .i64 0, .int .i64 1000, .int .i64 0, .int .i64 0] 28 (0, 0)) := by
    rw [hw1]; simpa using heap_alloc_new (((w.alloc _).alloc _).alloc _) _
  clear hw1
  have SL := Lib.hid (Sl.of_block (n := 3) hl rfl (by omega)); have SH := Lib.hid (Sl.of_block (n := 3) hh rfl (by omega))
  have HT := Lib.hid ht; have HB := Lib.hid hb; have HG := Lib.hid hg
  clear hl hh ht hb hg
  (with_reducible refine (binterval_any _ _ _ [0, 150, 320] [0, 200, 400] _ _ _ _ _ _ _ _ _ _ SL.out SH.out).mono ?_)
  rintro e w2 ⟨rfl, hg2⟩
  rw [bnd_26]
  have HG2 := Lib.hid (gb_trans HG.out hg2); have HT2 := Lib.hid (block_kept hg2 HT.out rfl); have HB2 := Lib.hid (block_kept hg2 HB.out rfl)
  have SL2 := Lib.hid (SL.out.after hg2); have SH2 := Lib.hid (SH.out.after hg2)
  clear hg2 HG HT HB SL SH
  obtain ⟨t0, t1, t2⟩ := cells3 HT2.out
  obtain ⟨b0, b1, b2, b3, b4, b5⟩ := six HB2.out
  go_wp2_with fail
  (with_reducible refine (zone_any _ _ _ [0, 150, 320] [0, 200, 400] _ _ _ _ _ _ _ _ _ _ _ _ _ SL2.out SH2.out).mono ?_)
  rintro e w3 ⟨rfl, hg3⟩
  rw [zn_26]
  have HG3 := Lib.hid (gb_trans HG2.out hg3)
  clear hg3
  go_wp2_with fail
  go_ret
  exact ⟨rfl, gb_alloc HG3.out _⟩
end Go.Proofs.Ytkckcaijfedijaa
