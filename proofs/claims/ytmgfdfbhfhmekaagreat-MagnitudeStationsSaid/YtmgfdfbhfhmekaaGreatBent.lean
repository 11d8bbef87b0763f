/- keep.Src: Bent, BentPhase, SmallTable. Written by gen_bent.py. -/
import Derived.Test.YtmgfdfbhfhmekaaGreatMem
namespace Go.Proofs.YtmgfdfbhfhmekaaGreat
set_option linter.all false
open Go.RowKit Rg

/-- One of the numbers of a literal that lies in a block of its own. -/
theorem pickL_any (B : Nat) (w : World) (p : Nat) (xs : List Int) (n : Nat) (hn : xs.length = n) (cs : Array Value) (hcs : (xs.map (Value.int .i64)).toArray = cs) (e : TypeId) (h : Src B w p) (g : Nat) (hz : w.heap.size = g) (h0 : 0 < xs.length) (hl : xs.length ≤ 1000) :
    Calls Tryz.prog 12 #[.pointer (some ⟨p, 0, none⟩), .slice (some ⟨g, 0, none⟩) n n] (w.alloc (.cells cs e)) (fun r w' => ∃ x : Int, r = .returned (.int .i64 x) ∧ x ∈ xs ∧ Src B w' p ∧ w.grownBy w' (some p)) := by
  subst hz; subst hn; subst hcs
  have hp := h.lt.2
  have hs : Sl (w.alloc (.cells (xs.map (Value.int .i64)).toArray e)) (.slice (some ⟨w.heap.size, 0, none⟩) xs.length xs.length) xs :=
    .inr ⟨w.heap.size, 0, xs.length, rfl, by simp, Nat.le_refl _, by omega, fun k hk => by rw [cell_new]; simp [hk]⟩
  refine (pick_any B _ p _ xs (h.later (gb_alloc (gb_refl w none) _) (by simp)) hs h0 hl (fun b off len cap he => by simp at he; omega)).mono ?_
  rintro r w' ⟨x, rfl, hx, hS, hg⟩
  exact ⟨x, rfl, hx, hS, gb_trans (gb_none (gb_alloc (gb_refl w none) _)) hg⟩

theorem smallTable_any (step : Int) (vl vh : Value) (ls hs : List Int) (w : World) (h1 : Sl w vl ls) (h2 : Sl w vh hs) :
    Calls Tryz.prog 4 #[.agg #[.int .i64 step, vl, vh]] w fun e w' => e = .returned (.bool (decide (ls.length ≤ 300) && decide (hs.length ≤ 300))) ∧ w.grownBy w' none := by
  obtain ⟨a, c, rfl⟩ := h1.shape; obtain ⟨a', c', rfl⟩ := h2.shape
  have HG := Lib.hid (gb_alloc (gb_refl w none) (.cells #[.int .i64 step, .slice a ls.length c, .slice a' hs.length c'] 24))
  go_enter Tryz.func4, Tryz.ntmps4
  by_cases c1 : ls.length ≤ 300
  · by_cases c2 : hs.length ≤ 300
    · go_wp2
      go_ret
      exact ⟨ret_bool (by simp [c1, c2] <;> omega), HG.out⟩
    · go_wp2
      go_ret
      exact ⟨ret_bool (by simp [c1, c2] <;> omega), HG.out⟩
  · go_wp2
    go_ret
    exact ⟨ret_bool (by simp [c1]), HG.out⟩

end Go.Proofs.YtmgfdfbhfhmekaaGreat
