/- The walks of drydockref02: fits, Reduce, Opposite. The walks of drydockref02: Mul, Quo. The walk of drydockref02.Add. Printed by a program from XFrE. The walks of drydockref02: Opposite, Sub. -/
import Derived.Test.YtnmomigaedfdoaaRfA
import Derived.Deep.RegionHeld3
namespace Go.Proofs.Ytnmomigaedfdoaa
set_option maxRecDepth 100000
open Go.RowKit

def fitS (s : Bool × List Nat × List Nat) : Bool × List Nat × List Nat × Int := if 128 < s.2.1.length ∨ 128 < s.2.2.length then errF 2 else (s.1, s.2.1, s.2.2, 0)
end Go.Proofs.Ytnmomigaedfdoaa
namespace Go.Proofs.Ytnmomigaedfdoaa
set_option maxRecDepth 100000
open Go.RowKit

end Go.Proofs.Ytnmomigaedfdoaa
namespace Go.Proofs.Ytnmomigaedfdoaa
set_option maxRecDepth 100000
open Go.RowKit

end Go.Proofs.Ytnmomigaedfdoaa
namespace Go.Proofs.Ytnmomigaedfdoaa
set_option maxRecDepth 100000
open Go.RowKit

/-- the reference leaves a zero as it is -/
abbrev oppF (x : Fx) : Fx := { x with b := if nv x.xs = 0 then x.b else !x.b }
end Go.Proofs.Ytnmomigaedfdoaa
