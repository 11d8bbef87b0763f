/- Residuals, and the reference's. -/
import Derived.Test.YtdkckhihleffeaaGreatRefG
namespace Go.Proofs.YtdkckhihleffeaaGreat
set_option linter.all false
open Go.RowKit Rg

/-- What Residuals answers. -/
def Residd (w : World) (E : Int) (zs : List Zn) (t : Int) (e : Ending) (w' : World) : Prop :=
  w.grownBy w' none ∧ ((E ≠ 0 ∧ e = .returned (.tuple #[.slice none 0 0, .int .i64 E])) ∨ (E = 0 ∧ (t < -18014398509481984 ∨ 18014398509481984 < t) ∧ e = .returned (.tuple #[.slice none 0 0, .int .i64 2])) ∨
    (E = 0 ∧ (-18014398509481984 ≤ t ∧ t ≤ 18014398509481984) ∧ ∃ v, e = .returned (.tuple #[v, .int .i64 0]) ∧ Sl w' v (resL zs t)))

end Go.Proofs.YtdkckhihleffeaaGreat
