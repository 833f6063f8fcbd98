/- The walks of package fraction: Mul, Quo. -/
import Derived.Test.YtnmomigaedfdoaaFrB
import Derived.Deep.RegionHeld3
namespace Go.Proofs.Ytnmomigaedfdoaa
set_option maxRecDepth 100000
open Go.RowKit

theorem cell_set3 {w : World} {G P k : Nat} {a b c v : Value} (h : w.cell? ⟨P, k, none⟩ = some v) (hne : G ≠ P) : (((w.setCell ⟨G, 0, none⟩ a).setCell ⟨G, 1, none⟩ b).setCell ⟨G, 2, none⟩ c).cell? ⟨P, k, none⟩ = some v := by
  rw [World.cell?_setCell_far _ _ _ _ hne, World.cell?_setCell_far _ _ _ _ hne, World.cell?_setCell_far _ _ _ _ hne]; exact h
def mulF (x y : Fx) : Bool × List Nat × List Nat × Int := if x.v ∧ y.v then frS (x.q * y.q) else errF 1
def quoF (x y : Fx) : Bool × List Nat × List Nat × Int := if x.v ∧ y.v then (if nv y.xs = 0 then errF 3 else frS (x.q / y.q)) else errF 1
end Go.Proofs.Ytnmomigaedfdoaa
