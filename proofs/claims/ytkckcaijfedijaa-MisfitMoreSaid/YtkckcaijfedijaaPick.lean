/- keep.Src.Pick, Range. -/
import Derived.Test.YtkckcaijfedijaaSrc
namespace Go.Proofs.Ytkckcaijfedijaa
set_option linter.all false
open Go.RowKit

/-- One of the numbers of a list. -/
theorem pick_any (B : Nat) (w : World) (p : Nat) (v : Value) (xs : List Int) (h : Src B w p) (hs : Sl w v xs) (h0 : 0 < xs.length) (hl : xs.length ≤ 1000) (hb : ∀ b off len cap, v = .slice (some ⟨b, off, none⟩) len cap → b ≠ p) :
    Calls Try.prog 62 #[.pointer (some ⟨p, 0, none⟩), v] w (Drawn B p (fun x => x ∈ xs) w) := by
  rcases hs with ⟨rfl, _⟩ | ⟨b, off, cap, rfl, hbl, hcap, hcap2, hc⟩
  · simp at h0
  have hbp := hb _ _ _ _ rfl; clear hb
  have hS := Lib.hid h; clear h
  have HC := Lib.hid hc; clear hc
  go_enter Try.func62, Try.ntmps62
  go_wp2_with fail
  refine (n_any B w p xs.length hS.out (by omega) (by omega)).mono ?_
  rintro e w' ⟨x, rfl, ⟨hx0, hx1⟩, hs, hg⟩
  have hS' := Lib.hid hs; clear hs
  obtain ⟨k, rfl⟩ := Int.eq_ofNat_of_zero_le hx0
  have hcell := (gb_cell hg hbl (o := off + k) (by simpa using hbp)).trans (HC.out k (by omega))
  have hG := Lib.hid hg; clear hg
  go_wp2
  go_ret
  refine ⟨_, rfl, ?_, hS'.out, hG.out⟩
  rw [List.getElem?_eq_getElem (by omega)]
  exact List.getElem_mem (by omega)
end Go.Proofs.Ytkckcaijfedijaa
