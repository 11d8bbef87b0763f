/- The reference of chapter 25: Lower, Upper, Between. -/
import Derived.Test.YtoconichgdlmcaaTrv
import Derived.Test.YtoconichgdlmcaaBnd
import Derived.Test.YtoconichgdlmcaaMem
import Derived.Test.YtoconichgdlmcaaGeoP
import Derived.Test.YtoconichgdlmcaaBase
import Derived.Test.YtoconichgdlmcaaRgMade
namespace Go.Proofs.Ytoconichgdlmcaa
set_option linter.all false
section LRefT
open Go.RowKit

end LRefT
section LRefA
open Go.RowKit

def sgn (a b : Int) : Int := if a < b then -1 else if b < a then 1 else 0
def cmpP (x0 y0 z0 x1 y1 z1 : Int) : Int := if sgn x0 x1 ≠ 0 then sgn x0 x1 else if sgn y0 y1 ≠ 0 then sgn y0 y1 else sgn z0 z1

end LRefA
section LRefB
open Go.RowKit Rg

end LRefB
section LRefD
open Go.RowKit Rg

end LRefD
end Go.Proofs.Ytoconichgdlmcaa
