/- The walk of BoundMeets. -/
import Derived.Test.YtkckcaijfedijaaAwake26
namespace Go.Proofs.Ytkckcaijfedijaa
set_option linter.all false
open Go.RowKit Rg

def inZ (n a b : Int) : Bool := decide (a ≤ n) && decide (n ≤ b)
/-- Behind the choice of the zones. -/
structure Meet1 (w : World) (a b c d : Int) (wr : World) : Prop where
  z0 : wr.heap[w.heap.size]? = some (.cells #[.int .i64 a, .int .i64 b] 32 (0, 0))
  z1 : wr.heap[w.heap.size + 1]? = some (.cells #[.int .i64 c, .int .i64 d] 32 (0, 0))
  gr : w.grownBy wr none

set_option maxRecDepth 100000 in
set_option maxHeartbeats 2000000 in
theorem boundMeets_walk (w : World) (a b c d : Int) (n : Int) (_h : -9223372036854775808 ≤ n) (_h' : n ≤ 9223372036854775807) (v : Value) (xs : List Int) (hs : Sl w v xs) (_hx : ∀ x ∈ xs, -9223372036854775808 ≤ x ∧ x ≤ 9223372036854775807) :
    Calls Try.prog 4 #[.agg #[.int .i64 a, .int .i64 b], .agg #[.int .i64 c, .int .i64 d], .int .i64 n, v] w fun e w' => e = .returned (.bool true) ∧ Below w.heap.size w w' := by
  go_enter Try.func4, Try.ntmps4
  go_wp2_with fail
  refine calls_name (fun w1 hw1 => ?_)
  have hM : Meet1 w a b c d w1 := by
    refine ⟨?_, ?_, ?_⟩
    · rw [hw1, heap_alloc_old _ _ (by simp), heap_alloc_new]
    · rw [hw1]; simpa using heap_alloc_new (w.alloc _) _
    · rw [hw1]; exact gb_alloc (gb_alloc (gb_refl _ _) _) _
  have hsz : w1.heap.size = w.heap.size + 2 := by rw [hw1]; simp
  clear hw1
  (with_reducible refine (new_any w1 v xs (hs.later hM.gr (by simp))).mono ?_)
  rintro e w2 ⟨rfl, hS, hg2⟩
  rw [hsz] at hS
  have HS := Lib.hid hS
  have HM := Lib.hid (show Meet1 w a b c d w2 from ⟨block_kept hg2 hM.z0 rfl, block_kept hg2 hM.z1 rfl, gb_trans hM.gr hg2⟩)
  clear hS hg2 hM hs
  go_wp2_with fail
  (with_reducible refine (n_any (w.heap.size + 2) w2 (w.heap.size + 2) 2 HS.out (by omega) (by omega)).mono ?_)
  rintro e w3 ⟨k, rfl, hk, hS, hg3⟩
  have hM := HM.out
  have HS3 := Lib.hid hS
  have HM3 := Lib.hid (show Meet1 w a b c d w3 from ⟨block_keptp hg3 hM.z0 (by omega), block_keptp hg3 hM.z1 (by omega), gb_new hM.gr hg3 (by simp)⟩)
  clear hS hg3 hM HM HS
  by_cases hk0 : k = 0
  · go_wp2_with fail
    (with_reducible refine (n_any (w.heap.size + 2) w3 (w.heap.size + 2) 20 HS3.out (by omega) (by omega)).mono ?_)
    rintro e v0 ⟨k0, rfl, hk0, hS, hg⟩
    have HSv0 := Lib.hid hS
    have HMv0 := Lib.hid (show Meet1 w a b c d v0 from ⟨block_keptp hg HM3.out.z0 (by omega), block_keptp hg HM3.out.z1 (by omega), gb_new HM3.out.gr hg (by simp)⟩)
    clear hS hg HM3 HS3
    go_wp2_with fail
    (with_reducible refine (n_any (w.heap.size + 2) v0 (w.heap.size + 2) 20 HSv0.out (by omega) (by omega)).mono ?_)
    rintro e v1 ⟨k1, rfl, hk1, hS, hg⟩
    have HSv1 := Lib.hid hS
    have HMv1 := Lib.hid (show Meet1 w a b c d v1 from ⟨block_keptp hg HMv0.out.z0 (by omega), block_keptp hg HMv0.out.z1 (by omega), gb_new HMv0.out.gr hg (by simp)⟩)
    clear hS hg HMv0 HSv0
    go_wp2_with fail
    (with_reducible refine (n_any (w.heap.size + 2) v1 (w.heap.size + 2) 20 HSv1.out (by omega) (by omega)).mono ?_)
    rintro e v2 ⟨k2, rfl, hk2, hS, hg⟩
    have HSv2 := Lib.hid hS
    have HMv2 := Lib.hid (show Meet1 w a b c d v2 from ⟨block_keptp hg HMv1.out.z0 (by omega), block_keptp hg HMv1.out.z1 (by omega), gb_new HMv1.out.gr hg (by simp)⟩)
    clear hS hg HMv1 HSv1
    go_wp2_with fail
    (with_reducible refine (n_any (w.heap.size + 2) v2 (w.heap.size + 2) 20 HSv2.out (by omega) (by omega)).mono ?_)
    rintro e v3 ⟨k3, rfl, hk3, hS, hg⟩
    have HSv3 := Lib.hid hS
    have HMv3 := Lib.hid (show Meet1 w a b c d v3 from ⟨block_keptp hg HMv2.out.z0 (by omega), block_keptp hg HMv2.out.z1 (by omega), gb_new HMv2.out.gr hg (by simp)⟩)
    clear hS hg HMv2 HSv2
    go_wp2_with fail
    (with_reducible refine (n_any (w.heap.size + 2) v3 (w.heap.size + 2) 20 HSv3.out (by omega) (by omega)).mono ?_)
    rintro e v4 ⟨k4, rfl, hk4, hS, hg⟩
    have HSv4 := Lib.hid hS
    have HMv4 := Lib.hid (show Meet1 w a b c d v4 from ⟨block_keptp hg HMv3.out.z0 (by omega), block_keptp hg HMv3.out.z1 (by omega), gb_new HMv3.out.gr hg (by simp)⟩)
    clear hS hg HMv3 HSv3
    have hR0 := HMv4.out.z0
    have hR1 : (v4.setRow w.heap.size #[.int .i64 k0, .int .i64 k1]).heap[w.heap.size + 1]? = some (.cells #[.int .i64 c, .int .i64 d] 32 (0, 0)) := (setRow_far (by omega)).trans HMv4.out.z1
    have HN := Lib.hid (show Meet1 w k0 k1 k2 k3 ((v4.setRow w.heap.size #[.int .i64 k0, .int .i64 k1]).setRow (w.heap.size + 1) #[.int .i64 k2, .int .i64 k3]) from ⟨(setRow_far (by omega)).trans (setRow_at hR0), setRow_at hR1, gb_setRow (gb_setRow HMv4.out.gr (.inl (by omega))) (.inl (by omega))⟩)
    have HR0 := Lib.hid hR0; have HR1 := Lib.hid hR1; clear hR0 hR1 HMv4 HSv4
    obtain ⟨y0, y1⟩ := cells2 HN.out.z0
    obtain ⟨y2, y3⟩ := cells2 HN.out.z1
    go_wp2_with (first
      | (with_reducible refine wpList_store_row rfl _ _ _ rfl w.heap.size #[.int .i64 k0, .int .i64 k1] rfl rfl _ _ HR0.out (by kernel_rfl) rfl (by simp [Value.oneCell']) ?_)
      | (with_reducible refine wpList_store_row rfl _ _ _ rfl (w.heap.size + 1) #[.int .i64 k2, .int .i64 k3] rfl rfl _ _ HR1.out (by kernel_rfl) rfl (by simp [Value.oneCell']) ?_)
      | fail_if_success skip)
    generalize (v4.setRow w.heap.size #[.int .i64 k0, .int .i64 k1]).setRow (w.heap.size + 1) #[.int .i64 k2, .int .i64 k3] = v5 at *
    clear HR1
    have hM := HN.out
    (with_reducible refine (meets_any k0 k1 k2 k3 v5).mono ?_)
    rintro e w9 ⟨rfl, hg9⟩
    have HK0 := Lib.hid (block_kept hg9 hM.z0 rfl); have HK1 := Lib.hid (block_kept hg9 hM.z1 rfl); have HG9 := Lib.hid (gb_trans hM.gr hg9)
    clear hg9 y0 y1 y2 y3 hM HN
    have L0 := Lib.hid (block_lt' HK0.out); have L1 := Lib.hid (block_lt' HK1.out)
    by_cases hm : min k1 k3 < max k0 k2
    · have HV := Lib.hid (show meV k0 k1 k2 k3 = .tuple #[.agg #[.int .i64 0, .int .i64 0], .bool false] from if_pos hm)
      rw [HV.out]
      rcases three k4 k0 k1 with h1 | ⟨h1, h2⟩ | ⟨h1, h2⟩ <;> rcases three k4 k2 k3 with h3 | ⟨h3, h4⟩ | ⟨h3, h4⟩
      all_goals
        first
          | (exfalso; omega)
          | (have HA0 := Lib.hid ((heap_alloc_old w9 (.cells #[.int .i64 0, .int .i64 0] 32) L0.out).trans HK0.out)
             have HA1 := Lib.hid ((heap_alloc_old w9 (.cells #[.int .i64 0, .int .i64 0] 32) L1.out).trans HK1.out)
             have HG10 := Lib.hid (gb_alloc HG9.out (.cells #[.int .i64 0, .int .i64 0] 32))
             obtain ⟨y0, y1⟩ := cells2 HA0.out
             obtain ⟨y2, y3⟩ := cells2 HA1.out
             go_wp2_with fail
             (with_reducible refine (awake26_any _).mono ?_)
             rintro e w10 ⟨rfl, hg10⟩
             have HG11 := Lib.hid (gb_trans HG10.out hg10)
             go_wp2_with fail
             go_ret
             first | exact ⟨rfl, gb_end HG11.out⟩ | exact ⟨ret_bool (by simp; omega), gb_end HG11.out⟩)
    · obtain ⟨f, hf⟩ : ∃ f, f = max k0 k2 := ⟨_, rfl⟩
      obtain ⟨t, ht⟩ : ∃ t, t = min k1 k3 := ⟨_, rfl⟩
      have HV := Lib.hid (show meV k0 k1 k2 k3 = .tuple #[.agg #[.int .i64 f, .int .i64 t], .bool true] from by rw [hf, ht]; exact if_neg hm)
      rw [HV.out]
      have f1 : k0 ≤ f ∧ k2 ≤ f ∧ (f = k0 ∨ f = k2) := by omega
      have t1 : t ≤ k1 ∧ t ≤ k3 ∧ (t = k1 ∨ t = k3) := by omega
      have HA0 := Lib.hid ((heap_alloc_old w9 (.cells #[.int .i64 f, .int .i64 t] 32) L0.out).trans HK0.out)
      have HA1 := Lib.hid ((heap_alloc_old w9 (.cells #[.int .i64 f, .int .i64 t] 32) L1.out).trans HK1.out)
      have HG10 := Lib.hid (gb_alloc HG9.out (.cells #[.int .i64 f, .int .i64 t] 32))
      clear hf ht hm HV HK0 HK1 L0 L1 HG9
      rcases three k4 k0 k1 with h1 | ⟨h1, h2⟩ | ⟨h1, h2⟩ <;> rcases three k4 k2 k3 with h3 | ⟨h3, h4⟩ | ⟨h3, h4⟩ <;> rcases three k4 f t with h5 | ⟨h5, h6⟩ | ⟨h5, h6⟩
      all_goals
        first
          | (exfalso; omega)
          | (obtain ⟨f2, f3, -⟩ := f1
             obtain ⟨t2, t3, -⟩ := t1
             obtain ⟨y0, y1⟩ := cells2 HA0.out
             obtain ⟨y2, y3⟩ := cells2 HA1.out
             go_wp2_with fail
             (with_reducible refine (awake26_any _).mono ?_)
             rintro e w10 ⟨rfl, hg10⟩
             have HG11 := Lib.hid (gb_trans HG10.out hg10)
             go_wp2_with fail
             go_ret
             first | exact ⟨rfl, gb_end HG11.out⟩ | exact ⟨ret_bool (by simp; omega), gb_end HG11.out⟩)
  · skip
    have hM := HM3.out
    obtain ⟨y0, y1⟩ := cells2 hM.z0
    obtain ⟨y2, y3⟩ := cells2 hM.z1
    go_wp2_with fail
    (with_reducible refine (meets_any a b c d w3).mono ?_)
    rintro e w9 ⟨rfl, hg9⟩
    have HK0 := Lib.hid (block_kept hg9 hM.z0 rfl); have HK1 := Lib.hid (block_kept hg9 hM.z1 rfl); have HG9 := Lib.hid (gb_trans hM.gr hg9)
    clear hg9 y0 y1 y2 y3 hM HM3
    have L0 := Lib.hid (block_lt' HK0.out); have L1 := Lib.hid (block_lt' HK1.out)
    by_cases hm : min b d < max a c
    · have HV := Lib.hid (show meV a b c d = .tuple #[.agg #[.int .i64 0, .int .i64 0], .bool false] from if_pos hm)
      rw [HV.out]
      rcases three n a b with h1 | ⟨h1, h2⟩ | ⟨h1, h2⟩ <;> rcases three n c d with h3 | ⟨h3, h4⟩ | ⟨h3, h4⟩
      all_goals
        first
          | (exfalso; omega)
          | (have HA0 := Lib.hid ((heap_alloc_old w9 (.cells #[.int .i64 0, .int .i64 0] 32) L0.out).trans HK0.out)
             have HA1 := Lib.hid ((heap_alloc_old w9 (.cells #[.int .i64 0, .int .i64 0] 32) L1.out).trans HK1.out)
             have HG10 := Lib.hid (gb_alloc HG9.out (.cells #[.int .i64 0, .int .i64 0] 32))
             obtain ⟨y0, y1⟩ := cells2 HA0.out
             obtain ⟨y2, y3⟩ := cells2 HA1.out
             go_wp2_with fail
             (with_reducible refine (awake26_any _).mono ?_)
             rintro e w10 ⟨rfl, hg10⟩
             have HG11 := Lib.hid (gb_trans HG10.out hg10)
             go_wp2_with fail
             go_ret
             first | exact ⟨rfl, gb_end HG11.out⟩ | exact ⟨ret_bool (by simp; omega), gb_end HG11.out⟩)
    · obtain ⟨f, hf⟩ : ∃ f, f = max a c := ⟨_, rfl⟩
      obtain ⟨t, ht⟩ : ∃ t, t = min b d := ⟨_, rfl⟩
      have HV := Lib.hid (show meV a b c d = .tuple #[.agg #[.int .i64 f, .int .i64 t], .bool true] from by rw [hf, ht]; exact if_neg hm)
      rw [HV.out]
      have f1 : a ≤ f ∧ c ≤ f ∧ (f = a ∨ f = c) := by omega
      have t1 : t ≤ b ∧ t ≤ d ∧ (t = b ∨ t = d) := by omega
      have HA0 := Lib.hid ((heap_alloc_old w9 (.cells #[.int .i64 f, .int .i64 t] 32) L0.out).trans HK0.out)
      have HA1 := Lib.hid ((heap_alloc_old w9 (.cells #[.int .i64 f, .int .i64 t] 32) L1.out).trans HK1.out)
      have HG10 := Lib.hid (gb_alloc HG9.out (.cells #[.int .i64 f, .int .i64 t] 32))
      clear hf ht hm HV HK0 HK1 L0 L1 HG9
      rcases three n a b with h1 | ⟨h1, h2⟩ | ⟨h1, h2⟩ <;> rcases three n c d with h3 | ⟨h3, h4⟩ | ⟨h3, h4⟩ <;> rcases three n f t with h5 | ⟨h5, h6⟩ | ⟨h5, h6⟩
      all_goals
        first
          | (exfalso; omega)
          | (obtain ⟨f2, f3, -⟩ := f1
             obtain ⟨t2, t3, -⟩ := t1
             obtain ⟨y0, y1⟩ := cells2 HA0.out
             obtain ⟨y2, y3⟩ := cells2 HA1.out
             go_wp2_with fail
             (with_reducible refine (awake26_any _).mono ?_)
             rintro e w10 ⟨rfl, hg10⟩
             have HG11 := Lib.hid (gb_trans HG10.out hg10)
             go_wp2_with fail
             go_ret
             first | exact ⟨rfl, gb_end HG11.out⟩ | exact ⟨ret_bool (by simp; omega), gb_end HG11.out⟩)
end Go.Proofs.Ytkckcaijfedijaa
