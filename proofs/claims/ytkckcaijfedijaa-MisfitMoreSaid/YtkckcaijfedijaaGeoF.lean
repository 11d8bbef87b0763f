/- Layer 24: middle, Center. Written by gen_geoF.py. -/
import Derived.Test.YtkckcaijfedijaaGeoE
namespace Go.Proofs.Ytkckcaijfedijaa
set_option linter.all false
open Go.RowKit Rg

def midI (a b : Int) : Int := a + (b - a) / 2
theorem midI_in {a b : Int} (h : a ≤ b) : a ≤ midI a b ∧ midI a b ≤ b ∧ (a < b → midI a b < b) := by unfold midI; omega
theorem middle_any (a b : Int) (w : World) (h1 : -2000000 ≤ a) (h2 : a ≤ b) (h3 : b ≤ 2000000) :
    Calls Try.prog 79 #[.int .i64 a, .int .i64 b] w fun e w' => e = .returned (.int .i64 (midI a b)) ∧ w = w' := by
  go_enter Try.func79, Try.ntmps79
  go_wp2
  go_ret
  exact ⟨ret_int (by unfold midI; omega), rfl⟩
theorem middle_made (a b : Int) (w0 : World) (h1 : -2000000 ≤ a) (h2 : a ≤ b) (h3 : b ≤ 2000000) (u : World) (_ : w0.grownBy u none) :
    Calls Try.prog 79 #[.int .i64 a, .int .i64 b] u fun e w' => e = .returned (.int .i64 (midI a b)) ∧ u.grownBy w' none :=
  (middle_any a b u h1 h2 h3).mono fun _ _ ⟨h, e⟩ => ⟨h, e ▸ gb_refl _ _⟩
theorem block_kept {w w' : World} (h : w.grownBy w' none) {b : Nat} {x : Option Obj} (hb : w.heap[b]? = x) (hx : x.isSome = true) : w'.heap[b]? = x := by
  have hlt : b < w.heap.size := by
    rcases Nat.lt_or_ge b w.heap.size with h | h
    · exact h
    · rw [Array.getElem?_eq_none h] at hb; subst hb; cases hx
  exact (h.block b hlt (by simp)).trans hb
theorem frozen3 {w : World} {b : Nat} {cs : Array Value} {t : TypeId} (h : w.heap[b]? = some (.cells cs t (0, 0))) (o : Nat) : w.frozen? ⟨b, o, none⟩ = false := by simp [World.frozen?, h]
theorem block_lt {w : World} {b : Nat} {x : Obj} (h : w.heap[b]? = some x) : b < w.heap.size := (Array.getElem?_eq_some_iff.1 h).1

def cen (v : Bool) (a b : Int) : Int := if v then midI a b else 0

end Go.Proofs.Ytkckcaijfedijaa
