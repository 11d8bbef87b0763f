/- nat: compare, Compare, multiply, Mul. -/
import Derived.Test.YtmgfdfbhfhmekaaGreatNatW
import Derived.Test.YtmgfdfbhfhmekaaGreatFrom
import Derived.Test.YtmgfdfbhfhmekaaGreatMis
namespace Go.Proofs.YtmgfdfbhfhmekaaGreat
set_option linter.all false
open Go.RowKit

theorem sgn_lt {a b : Int} (h : a < b) : sgn a b = -1 := by simp [sgn, h]
theorem sgn_gt {a b : Int} (h : b < a) : sgn a b = 1 := by unfold sgn; rw [if_neg (by omega), if_pos h]
theorem sgn_eq (a : Int) : sgn a a = 0 := by simp [sgn]
theorem cmp_at {xs ys : List Int} {m n : Int} (hm : IsNat xs m) (hn : IsNat ys n) (hl : xs.length = ys.length) {k : Nat} (hk : k < xs.length) (hd : xs.drop (k + 1) = ys.drop (k + 1)) (hne : xs[k]?.getD 0 ≠ ys[k]?.getD 0) : sgn (xs[k]?.getD 0) (ys[k]?.getD 0) = sgn m n := by
  rw [← hm.val, ← hn.val]
  by_cases h : xs[k]?.getD 0 < ys[k]?.getD 0
  · rw [sgn_lt h, sgn_lt (valL_cmp hm.dig hn.dig hl hk hd h)]
  · have h' : ys[k]?.getD 0 < xs[k]?.getD 0 := by omega
    rw [sgn_gt h', sgn_gt (valL_cmp (i := k) hn.dig hm.dig hl.symm (hl ▸ hk) hd.symm h')]
theorem drop_eq {xs ys : List Int} (hl : xs.length = ys.length) {k : Nat} (hk : k < xs.length) (hd : xs.drop (k + 1) = ys.drop (k + 1)) (he : xs[k]?.getD 0 = ys[k]?.getD 0) : xs.drop k = ys.drop k := by
  rw [List.drop_eq_getElem_cons hk, List.drop_eq_getElem_cons (show k < ys.length by omega), hd]
  rw [List.getElem?_eq_getElem hk, List.getElem?_eq_getElem (by omega)] at he
  simp at he; rw [he]

end Go.Proofs.YtmgfdfbhfhmekaaGreat
