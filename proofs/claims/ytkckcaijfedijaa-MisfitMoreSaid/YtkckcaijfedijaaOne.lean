/- Reference 26's One. -/
import Derived.Test.YtkckcaijfedijaaMem
namespace Go.Proofs.Ytkckcaijfedijaa
set_option linter.all false
open Go.RowKit Rg

set_option maxRecDepth 100000 in
theorem one_any (q r s : Int) (w : World) :
    Calls Try.prog 35 #[.agg #[.int .i64 q, .int .i64 r, .int .i64 s]] w fun e w' => e = .returned (.agg #[.int .i64 q, .int .i64 r, .int .i64 s, .int .i64 q, .int .i64 r, .int .i64 s]) ∧ w.grownBy w' none := by
  go_enter Try.func35, Try.ntmps35
  have HR : Hid (((w.alloc (.cells #[.int .i64 q, .int .i64 r, .int .i64 s] 26)).alloc (.cells #[.int .i64 0, .int .i64 0, .int .i64 0, .int .i64 0, .int .i64 0, .int .i64 0] 28)).heap[w.heap.size + 1]? = some (.cells #[.int .i64 0, .int .i64 0, .int .i64 0, .int .i64 0, .int .i64 0, .int .i64 0] 28 (0, 0))) := Lib.hid (by simpa using heap_alloc_new (w.alloc _) _)
  have HN := Lib.hid (setRow_at (cs := #[.int .i64 q, .int .i64 r, .int .i64 s, .int .i64 q, .int .i64 r, .int .i64 s]) HR.out)
  have HG := Lib.hid (gb_setRow (g := w.heap.size + 1) (cs := #[.int .i64 q, .int .i64 r, .int .i64 s, .int .i64 q, .int .i64 r, .int .i64 s]) (gb_alloc (gb_alloc (gb_refl w none) (.cells #[.int .i64 q, .int .i64 r, .int .i64 s] 26)) (.cells #[.int .i64 0, .int .i64 0, .int .i64 0, .int .i64 0, .int .i64 0, .int .i64 0] 28)) (.inl (by omega)))
  go_wp2_with (with_reducible refine wpList_store_row rfl _ _ _ rfl (w.heap.size + 1) #[.int .i64 q, .int .i64 r, .int .i64 s, .int .i64 q, .int .i64 r, .int .i64 s] rfl rfl _ _ HR.out (by kernel_rfl) rfl (by simp [Value.oneCell']) ?_)
  obtain ⟨e0, e1, e2, e3, e4, e5⟩ := six HN.out
  exact bodyPost_ret (v := .agg #[.int .i64 q, .int .i64 r, .int .i64 s, .int .i64 q, .int .i64 r, .int .i64 s]) (by simp [results, Try.results35, go_sem, e0, e1, e2, e3, e4, e5]) rfl ⟨rfl, HG.out⟩
end Go.Proofs.Ytkckcaijfedijaa
