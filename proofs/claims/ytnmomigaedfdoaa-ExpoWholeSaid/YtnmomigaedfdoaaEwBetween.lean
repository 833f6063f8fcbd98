/- The walk of ExpoBetween. -/
import Derived.Test.YtnmomigaedfdoaaEnA
import Derived.Test.YtnmomigaedfdoaaIvF
namespace Go.Proofs.Ytnmomigaedfdoaa
set_option maxRecDepth 100000
open Go.RowKit

theorem one_szb : Sz ((1 : Int) : Rat) 128 128 := one_sz.mono (by omega) (by omega)
end Go.Proofs.Ytnmomigaedfdoaa
