/- keep.Src: a reader of numbers. What a draw is worth: some number in the range; the reader's own block alone is written. -/
import Derived.Test.YtkckcaijfedijaaInts
import Derived.Test.YtkckcaijfedijaaSl
namespace Go.Proofs.Ytkckcaijfedijaa
set_option linter.all false
open Go.RowKit

/-- Block p is a reader over an argument's memory (blocks below B): it holds a slice that reads as a list of ints, and a position in it. -/
def Src (B : Nat) (w : World) (p : Nat) : Prop :=
  ∃ (v : Value) (xs : List Int) (k : Nat), B ≤ p ∧ w.heap[p]? = some (.cells #[v, .int .i64 k] 91 (0, 0)) ∧ Sl w v xs ∧ (∀ b off len cap, v = .slice (some ⟨b, off, none⟩) len cap → 0 < len → b < B) ∧ k ≤ xs.length ∧ xs.length ≤ 2000

theorem Src.later {B : Nat} {w w' : World} {p : Nat} {row : Option Nat} (h : Src B w p) (hg : w.grownBy w' row) (hr : ∀ q, row = some q → B ≤ q ∧ q ≠ p) : Src B w' p := by
  obtain ⟨v, xs, k, h0, h1, h2, h3, h4, h5⟩ := h
  refine ⟨v, xs, k, h0, ?_, h2.later hg ?_, h3, h4, h5⟩
  · rw [hg.block p (Array.getElem?_eq_some_iff.1 h1).1 (fun e => (hr p e.symm).2 rfl)]; exact h1
  · rintro b off len cap hv hl e
    have := h3 b off len cap hv hl
    have := hr b e.symm
    omega
theorem Src.lt {B : Nat} {w : World} {p : Nat} (h : Src B w p) : B ≤ p ∧ p < w.heap.size := by
  obtain ⟨v, xs, k, h0, h1, _⟩ := h
  exact ⟨h0, (Array.getElem?_eq_some_iff.1 h1).1⟩

/-- Some number n with P n is returned; the reader goes on. -/
def Drawn (B p : Nat) (P : Int → Prop) (w : World) (e : Ending) (w' : World) : Prop :=
  ∃ n : Int, e = .returned (.int .i64 n) ∧ P n ∧ Src B w' p ∧ w.grownBy w' (some p)

set_option maxHeartbeats 400000 in
theorem raw_any (B : Nat) (w : World) (p : Nat) (h : Src B w p) :
    Calls Try.prog 74 #[.pointer (some ⟨p, 0, none⟩)] w (Drawn B p (fun _ => True) w) := by
  have hS := Lib.hid h
  obtain ⟨v, xs, k, hBp, h1, h2, h3, h4, h5⟩ := h
  have hfin : k < xs.length → Src B (w.setCell ⟨p, 1, none⟩ (.int .i64 ((k : Int) + 1))) p := by
    intro hk
    refine ⟨v, xs, k + 1, hBp, ?_, h2.later (row := some p) (gb_setCell (gb_refl w _) (.inr rfl) _) ?_, h3, by omega, h5⟩
    · simp only [World.setCell, Array.getElem?_modify, if_true, h1]; rfl
    · rintro b off len cap hv hl e
      have := h3 b off len cap hv hl
      simp at e; omega
  have HF := Lib.hid hfin; clear hfin
  have hc1 : w.cell? ⟨p, 1, none⟩ = some (.int .i64 k) := by simp [World.cell?, h1]
  have hf1 : w.frozen? ⟨p, 1, none⟩ = false := by simp [World.frozen?, h1]
  rcases h2 with ⟨rfl, a, cap, rfl⟩ | ⟨b, off, cap, rfl, hb, hcap, hcap2, hc⟩
  · have hc0 : w.cell? ⟨p, 0, none⟩ = some (.slice a 0 cap) := by simp [World.cell?, h1]
    clear h1 h3
    go_enter Try.func74, Try.ntmps74
    go_wp2
    go_quiet (fail)
    go_wp2
    go_ret
    exact ⟨0, rfl, trivial, hS.out.later (gb_drewN (gb_refl w none) _) (by simp), gb_drewN (gb_refl _ _) _⟩
  · have HC := Lib.hid hc; clear hc
    have hc0 : w.cell? ⟨p, 0, none⟩ = some (.slice (some ⟨b, off, none⟩) xs.length cap) := by simp [World.cell?, h1]
    have H1 := Lib.hid h1; clear h1
    by_cases hlt : k < xs.length
    · have hbp : ¬ b = p := by have := h3 _ _ _ _ rfl (by omega); omega
      clear h3
      have hcell := HC.out k hlt
      go_enter Try.func74, Try.ntmps74
      go_wp2
      go_quiet (fail)
      go_wp2
      go_quiet (fail)
      go_wp2
      go_ret
      refine ⟨_, rfl, trivial, (HF.out hlt).later (row := none) ?_ (by simp), ?_⟩
      · exact gb_drewN (gb_drewN (gb_refl (w.setCell _ _) none) _) _
      · repeat (first | exact gb_refl _ _ | refine gb_drewN ?_ _ | refine gb_setCell ?_ (.inr rfl) _)
    · clear h3
      go_enter Try.func74, Try.ntmps74
      go_wp2
      go_quiet (fail)
      go_wp2
      go_ret
      exact ⟨0, rfl, trivial, hS.out.later (gb_drewN (gb_refl w none) _) (by simp), gb_drewN (gb_refl _ _) _⟩

theorem n_any (B : Nat) (w : World) (p : Nat) (n : Int) (h : Src B w p) (hn : n ≤ 9223372036854775807) (h1 : 1 ≤ n) :
    Calls Try.prog 30 #[.pointer (some ⟨p, 0, none⟩), .int .i64 n] w (Drawn B p (fun x => 0 ≤ x ∧ x < n) w) := by
  have hS := Lib.hid h; clear h
  go_enter Try.func30, Try.ntmps30
  go_wp2_with fail
  refine (raw_any B w p hS.out).mono ?_
  rintro e w' ⟨x, rfl, _, hs, hg⟩
  have hS' := Lib.hid hs; clear hs
  have hG := Lib.hid hg; clear hg
  go_wp2_with fail
  refine (mod_any x n _ hn h1).mono ?_
  rintro e w' ⟨rfl, rfl⟩
  go_wp2
  go_ret
  exact ⟨_, rfl, ⟨Int.emod_nonneg x (by omega), Int.emod_lt_of_pos x (by omega)⟩, hS'.out, hG.out⟩

/-- The new reader. -/
def NewSrc (w : World) (e : Ending) (w' : World) : Prop :=
  e = .returned (.pointer (some ⟨w.heap.size, 0, none⟩)) ∧ Src w.heap.size w' w.heap.size ∧ w.grownBy w' none

set_option maxHeartbeats 400000 in
theorem new_any (w : World) (v : Value) (xs : List Int) (h : Sl w v xs) :
    Calls Try.prog 16 #[v] w (NewSrc w) := by
  have mk : ∀ (v : Value) (ys : List Int), Sl w v ys → ys.length ≤ 2000 → (∀ b off len cap, v = .slice (some ⟨b, off, none⟩) len cap → 0 < len → b < w.heap.size) → NewSrc w (.returned (.pointer (some ⟨w.heap.size, 0, none⟩))) (w.alloc (.cells #[v, .int .i64 0] 91)) := by
    intro v ys hv hl hb
    refine ⟨rfl, ⟨v, ys, 0, Nat.le_refl _, heap_alloc_new w _, hv.later (gb_alloc (gb_refl w none) _) (by simp), hb, Nat.zero_le _, hl⟩, gb_alloc (gb_refl _ _) _⟩
  have MK := Lib.hid mk; clear mk
  rcases h with ⟨rfl, a, cap, rfl⟩ | ⟨b, off, cap, rfl, hb, hcap, hcap2, hc⟩
  · go_enter Try.func16, Try.ntmps16
    go_wp2
    go_ret
    exact MK.out (.slice a 0 cap) [] (.inl ⟨rfl, a, cap, rfl⟩) (by simp) (by rintro b off len cap h hl; simp at h; omega)
  · have HC := Lib.hid hc; clear hc
    go_enter Try.func16, Try.ntmps16
    go_wp2
    · go_ret
      have h2 : 2000 < (xs.length : Int) := by assumption
      refine MK.out _ (xs.take 2000) (.inr ⟨b, off, cap, ?_, hb, ?_, hcap2, ?_⟩) ?_ ?_
      · simp; omega
      · simp; omega
      · intro k hk
        simp at hk
        rw [HC.out k (by omega), List.getElem?_take_of_lt (by omega)]
      · simp; omega
      · rintro b off len cap h hl; simp at h; omega
    · go_ret
      have h2 : (xs.length : Int) ≤ 2000 := by assumption
      refine MK.out _ xs (.inr ⟨b, off, cap, rfl, hb, hcap, hcap2, HC.out⟩) (by omega) ?_
      rintro b off len cap h hl; simp at h; omega
end Go.Proofs.Ytkckcaijfedijaa
