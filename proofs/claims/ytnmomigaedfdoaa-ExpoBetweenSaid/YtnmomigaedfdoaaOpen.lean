/- Arguments that came in, opened to what the walks ask. -/
import Derived.Test.YtnmomigaedfdoaaRows
import Derived.Test.YtnmomigaedfdoaaBase
import Derived.ProofKit
import Derived.OpenShut
import Derived.ShutString
import Derived.ChangeOld
import Derived.Below
namespace Go.Proofs.Ytnmomigaedfdoaa
set_option maxRecDepth 100000
open Go.ChangeShapes Go.WideShapes Go.ChangeAt Go.RowKit

theorem own_knob : ownKnob Try.prog.godebug = none := by kernel_rfl
end Go.Proofs.Ytnmomigaedfdoaa
