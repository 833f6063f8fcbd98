/-
  No cell of these rows narrows 'for every input' (looked for: loops, veiled, ifaces, maps, wideKeys, modest, calm, conditions, laid).
  DERIVED. THE GIVEN ROWS OF THIS SEAT. 11 by the template 'for every input the law returns true; each argument reads behind the call as it read before'; 0 by the template 'total and deterministic' (their statements: YthdfflbhogfejaaTotals.lean).
  GIVEN WITH THE SEED: the statements are not yours to turn. If you find one false, say at which input.
  Laid BY PROGRAM, IN A SANDBOX (cutbox-rows.mjs): the forced cells as the released guide's own fill.sh prints them over the translation d962e7e24550e0cb… (all of the seat's roots in one cut). By AI agents, Wed Nov 11 2026. No macro, syntax, notation, axiom, sorry.
-/
import Derived.Test.YthdfflbhogfejaaChecked
import GoSem.Claim
import GoSem.ClaimJoined
import GoSem.ClaimMapViews
import Derived.JoinedTies
import Derived.KernelRfl
namespace Go.Proofs.Ythdfflbhogfejaa
/- THE CELL 'sum', in the pinned program and in every row, IS THE sha256 OF THE DUMP (.gsa) THAT YthdfflbhogfejaaProg.lean LOADS. Nothing in Lean hashes anything: it is a label: what it is worth is what the hold of that sum in a sandbox is worth. -/
noncomputable def Try.pinned : Pinned := { name := "ythdfflbhogfejaa", sum := "d962e7e24550e0cbc32019283a3630b74c06904609f9ee0f30f05a5043780d49", checked := Try.checked }
namespace Rows
def none {H : Type} : Left H := { results := [], args := [] }

/-- 'drydocklaw31.FairshareValid': WHATEVER THE INPUT: true; the input reads as it did. -/
def fairshareValidSpec : ChangeSpec := { name := "fairshareValid", fn := fun _ => fun
  | [d1, d2] => { results := [.lit (.bool true)], args := [d1, d2] }
  | _ => none }
def fairshareValidRow : OpenClaim := { program := "ythdfflbhogfejaa", sum := "d962e7e24550e0cbc32019283a3630b74c06904609f9ee0f30f05a5043780d49", func := "drydock/drydocklaw31.FairshareValid", spec := "fairshareValid", apart := false }
def FairshareValidSaid : Prop := fairshareValidRow.holds Try.pinned (OpenSpec.ofChange fairshareValidSpec)

/-- ITS FALSE NEIGHBOUR: 'it returns false'. Refute it at one input. -/
def fairshareValidWrong : ChangeSpec := { name := "fairshareValid", fn := fun _ => fun
  | [d1, d2] => { results := [.lit (.bool false)], args := [d1, d2] }
  | _ => none }
def FairshareValidWrongFalsely : Prop := fairshareValidRow.holds Try.pinned (OpenSpec.ofChange fairshareValidWrong)

/-- 'drydocklaw31.FairshareUnits': WHATEVER THE INPUT: true; the input reads as it did. -/
def fairshareUnitsSpec : ChangeSpec := { name := "fairshareUnits", fn := fun _ => fun
  | [d1, d2] => { results := [.lit (.bool true)], args := [d1, d2] }
  | _ => none }
def fairshareUnitsRow : OpenClaim := { program := "ythdfflbhogfejaa", sum := "d962e7e24550e0cbc32019283a3630b74c06904609f9ee0f30f05a5043780d49", func := "drydock/drydocklaw31.FairshareUnits", spec := "fairshareUnits", apart := false }
def FairshareUnitsSaid : Prop := fairshareUnitsRow.holds Try.pinned (OpenSpec.ofChange fairshareUnitsSpec)

/-- ITS FALSE NEIGHBOUR: 'it returns false'. Refute it at one input. -/
def fairshareUnitsWrong : ChangeSpec := { name := "fairshareUnits", fn := fun _ => fun
  | [d1, d2] => { results := [.lit (.bool false)], args := [d1, d2] }
  | _ => none }
def FairshareUnitsWrongFalsely : Prop := fairshareUnitsRow.holds Try.pinned (OpenSpec.ofChange fairshareUnitsWrong)

/-- 'drydocklaw31.FairshareRates': WHATEVER THE INPUT: true; the input reads as it did. -/
def fairshareRatesSpec : ChangeSpec := { name := "fairshareRates", fn := fun _ => fun
  | [d1, d2] => { results := [.lit (.bool true)], args := [d1, d2] }
  | _ => none }
def fairshareRatesRow : OpenClaim := { program := "ythdfflbhogfejaa", sum := "d962e7e24550e0cbc32019283a3630b74c06904609f9ee0f30f05a5043780d49", func := "drydock/drydocklaw31.FairshareRates", spec := "fairshareRates", apart := false }
def FairshareRatesSaid : Prop := fairshareRatesRow.holds Try.pinned (OpenSpec.ofChange fairshareRatesSpec)

/-- ITS FALSE NEIGHBOUR: 'it returns false'. Refute it at one input. -/
def fairshareRatesWrong : ChangeSpec := { name := "fairshareRates", fn := fun _ => fun
  | [d1, d2] => { results := [.lit (.bool false)], args := [d1, d2] }
  | _ => none }
def FairshareRatesWrongFalsely : Prop := fairshareRatesRow.holds Try.pinned (OpenSpec.ofChange fairshareRatesWrong)

/-- 'drydocklaw31.FairshareBottlenecks': WHATEVER THE INPUT: true; the input reads as it did. -/
def fairshareBottlenecksSpec : ChangeSpec := { name := "fairshareBottlenecks", fn := fun _ => fun
  | [d1, d2] => { results := [.lit (.bool true)], args := [d1, d2] }
  | _ => none }
def fairshareBottlenecksRow : OpenClaim := { program := "ythdfflbhogfejaa", sum := "d962e7e24550e0cbc32019283a3630b74c06904609f9ee0f30f05a5043780d49", func := "drydock/drydocklaw31.FairshareBottlenecks", spec := "fairshareBottlenecks", apart := false }
def FairshareBottlenecksSaid : Prop := fairshareBottlenecksRow.holds Try.pinned (OpenSpec.ofChange fairshareBottlenecksSpec)

/-- ITS FALSE NEIGHBOUR: 'it returns false'. Refute it at one input. -/
def fairshareBottlenecksWrong : ChangeSpec := { name := "fairshareBottlenecks", fn := fun _ => fun
  | [d1, d2] => { results := [.lit (.bool false)], args := [d1, d2] }
  | _ => none }
def FairshareBottlenecksWrongFalsely : Prop := fairshareBottlenecksRow.holds Try.pinned (OpenSpec.ofChange fairshareBottlenecksWrong)

/-- 'drydocklaw31.FairshareChecks': WHATEVER THE INPUT: true; the input reads as it did. -/
def fairshareChecksSpec : ChangeSpec := { name := "fairshareChecks", fn := fun _ => fun
  | [d1, d2, d3, d4, d5, d6, d7, d8] => { results := [.lit (.bool true)], args := [d1, d2, d3, d4, d5, d6, d7, d8] }
  | _ => none }
def fairshareChecksRow : OpenClaim := { program := "ythdfflbhogfejaa", sum := "d962e7e24550e0cbc32019283a3630b74c06904609f9ee0f30f05a5043780d49", func := "drydock/drydocklaw31.FairshareChecks", spec := "fairshareChecks", apart := false }
def FairshareChecksSaid : Prop := fairshareChecksRow.holds Try.pinned (OpenSpec.ofChange fairshareChecksSpec)

/-- ITS FALSE NEIGHBOUR: 'it returns false'. Refute it at one input. -/
def fairshareChecksWrong : ChangeSpec := { name := "fairshareChecks", fn := fun _ => fun
  | [d1, d2, d3, d4, d5, d6, d7, d8] => { results := [.lit (.bool false)], args := [d1, d2, d3, d4, d5, d6, d7, d8] }
  | _ => none }
def FairshareChecksWrongFalsely : Prop := fairshareChecksRow.holds Try.pinned (OpenSpec.ofChange fairshareChecksWrong)

/-- 'drydocklaw31.FairshareProves': WHATEVER THE INPUT: true; the input reads as it did. -/
def fairshareProvesSpec : ChangeSpec := { name := "fairshareProves", fn := fun _ => fun
  | [d1, d2, d3, d4, d5] => { results := [.lit (.bool true)], args := [d1, d2, d3, d4, d5] }
  | _ => none }
def fairshareProvesRow : OpenClaim := { program := "ythdfflbhogfejaa", sum := "d962e7e24550e0cbc32019283a3630b74c06904609f9ee0f30f05a5043780d49", func := "drydock/drydocklaw31.FairshareProves", spec := "fairshareProves", apart := false }
def FairshareProvesSaid : Prop := fairshareProvesRow.holds Try.pinned (OpenSpec.ofChange fairshareProvesSpec)

/-- ITS FALSE NEIGHBOUR: 'it returns false'. Refute it at one input. -/
def fairshareProvesWrong : ChangeSpec := { name := "fairshareProves", fn := fun _ => fun
  | [d1, d2, d3, d4, d5] => { results := [.lit (.bool false)], args := [d1, d2, d3, d4, d5] }
  | _ => none }
def FairshareProvesWrongFalsely : Prop := fairshareProvesRow.holds Try.pinned (OpenSpec.ofChange fairshareProvesWrong)

/-- 'drydocklaw31.FairshareFull': WHATEVER THE INPUT: true; the input reads as it did. -/
def fairshareFullSpec : ChangeSpec := { name := "fairshareFull", fn := fun _ => fun
  | [d1, d2] => { results := [.lit (.bool true)], args := [d1, d2] }
  | _ => none }
def fairshareFullRow : OpenClaim := { program := "ythdfflbhogfejaa", sum := "d962e7e24550e0cbc32019283a3630b74c06904609f9ee0f30f05a5043780d49", func := "drydock/drydocklaw31.FairshareFull", spec := "fairshareFull", apart := false }
def FairshareFullSaid : Prop := fairshareFullRow.holds Try.pinned (OpenSpec.ofChange fairshareFullSpec)

/-- ITS FALSE NEIGHBOUR: 'it returns false'. Refute it at one input. -/
def fairshareFullWrong : ChangeSpec := { name := "fairshareFull", fn := fun _ => fun
  | [d1, d2] => { results := [.lit (.bool false)], args := [d1, d2] }
  | _ => none }
def FairshareFullWrongFalsely : Prop := fairshareFullRow.holds Try.pinned (OpenSpec.ofChange fairshareFullWrong)

/-- 'drydocklaw31.FairshareOneLink': WHATEVER THE INPUT: true; the input reads as it did. -/
def fairshareOneLinkSpec : ChangeSpec := { name := "fairshareOneLink", fn := fun _ => fun
  | [d1, d2] => { results := [.lit (.bool true)], args := [d1, d2] }
  | _ => none }
def fairshareOneLinkRow : OpenClaim := { program := "ythdfflbhogfejaa", sum := "d962e7e24550e0cbc32019283a3630b74c06904609f9ee0f30f05a5043780d49", func := "drydock/drydocklaw31.FairshareOneLink", spec := "fairshareOneLink", apart := false }
def FairshareOneLinkSaid : Prop := fairshareOneLinkRow.holds Try.pinned (OpenSpec.ofChange fairshareOneLinkSpec)

/-- ITS FALSE NEIGHBOUR: 'it returns false'. Refute it at one input. -/
def fairshareOneLinkWrong : ChangeSpec := { name := "fairshareOneLink", fn := fun _ => fun
  | [d1, d2] => { results := [.lit (.bool false)], args := [d1, d2] }
  | _ => none }
def FairshareOneLinkWrongFalsely : Prop := fairshareOneLinkRow.holds Try.pinned (OpenSpec.ofChange fairshareOneLinkWrong)

/-- 'drydocklaw31.FairshareScales': WHATEVER THE INPUT: true; the input reads as it did. -/
def fairshareScalesSpec : ChangeSpec := { name := "fairshareScales", fn := fun _ => fun
  | [d1, d2, d3] => { results := [.lit (.bool true)], args := [d1, d2, d3] }
  | _ => none }
def fairshareScalesRow : OpenClaim := { program := "ythdfflbhogfejaa", sum := "d962e7e24550e0cbc32019283a3630b74c06904609f9ee0f30f05a5043780d49", func := "drydock/drydocklaw31.FairshareScales", spec := "fairshareScales", apart := false }
def FairshareScalesSaid : Prop := fairshareScalesRow.holds Try.pinned (OpenSpec.ofChange fairshareScalesSpec)

/-- ITS FALSE NEIGHBOUR: 'it returns false'. Refute it at one input. -/
def fairshareScalesWrong : ChangeSpec := { name := "fairshareScales", fn := fun _ => fun
  | [d1, d2, d3] => { results := [.lit (.bool false)], args := [d1, d2, d3] }
  | _ => none }
def FairshareScalesWrongFalsely : Prop := fairshareScalesRow.holds Try.pinned (OpenSpec.ofChange fairshareScalesWrong)

/-- 'drydocklaw31.FairshareApart': WHATEVER THE INPUT: true; the input reads as it did. -/
def fairshareApartSpec : ChangeSpec := { name := "fairshareApart", fn := fun _ => fun
  | [d1, d2, d3, d4] => { results := [.lit (.bool true)], args := [d1, d2, d3, d4] }
  | _ => none }
def fairshareApartRow : OpenClaim := { program := "ythdfflbhogfejaa", sum := "d962e7e24550e0cbc32019283a3630b74c06904609f9ee0f30f05a5043780d49", func := "drydock/drydocklaw31.FairshareApart", spec := "fairshareApart", apart := false }
def FairshareApartSaid : Prop := fairshareApartRow.holds Try.pinned (OpenSpec.ofChange fairshareApartSpec)

/-- ITS FALSE NEIGHBOUR: 'it returns false'. Refute it at one input. -/
def fairshareApartWrong : ChangeSpec := { name := "fairshareApart", fn := fun _ => fun
  | [d1, d2, d3, d4] => { results := [.lit (.bool false)], args := [d1, d2, d3, d4] }
  | _ => none }
def FairshareApartWrongFalsely : Prop := fairshareApartRow.holds Try.pinned (OpenSpec.ofChange fairshareApartWrong)

/-- 'drydocklaw31.FairshareOrder': WHATEVER THE INPUT: true; the input reads as it did. -/
def fairshareOrderSpec : ChangeSpec := { name := "fairshareOrder", fn := fun _ => fun
  | [d1, d2, d3] => { results := [.lit (.bool true)], args := [d1, d2, d3] }
  | _ => none }
def fairshareOrderRow : OpenClaim := { program := "ythdfflbhogfejaa", sum := "d962e7e24550e0cbc32019283a3630b74c06904609f9ee0f30f05a5043780d49", func := "drydock/drydocklaw31.FairshareOrder", spec := "fairshareOrder", apart := false }
def FairshareOrderSaid : Prop := fairshareOrderRow.holds Try.pinned (OpenSpec.ofChange fairshareOrderSpec)

/-- ITS FALSE NEIGHBOUR: 'it returns false'. Refute it at one input. -/
def fairshareOrderWrong : ChangeSpec := { name := "fairshareOrder", fn := fun _ => fun
  | [d1, d2, d3] => { results := [.lit (.bool false)], args := [d1, d2, d3] }
  | _ => none }
def FairshareOrderWrongFalsely : Prop := fairshareOrderRow.holds Try.pinned (OpenSpec.ofChange fairshareOrderWrong)

/- THE SECOND FORM. 'bulk': how many values and letters a reading holds, each counted each time it is reached (what is shared counts as often as it is met; a slice's spare places count too). A statement '..UptoSaid' is the law's where the arguments, and the package variables that the reading takes, are together of bulk at most 1048576: NARROWER than '..Said'. Prove '..Said' where nothing that the law and all that it calls make is longer than what came in: it says more and counts as full. Else prove '..UptoSaid'. A law counts once. -/
mutual
def uptoBulk {H : Type} : DataW H → Nat
  | .lit (.string bytes) => bytes.length + 1
  | .lit _ => 1
  | .nil => 1
  | .ptr d => uptoBulk d + 1
  | .slice elems spare => uptoBulkAll elems + uptoBulkAll spare + 1
  | .agg parts => uptoBulkAll parts + 1
  | .iface _ d => uptoBulk d + 1
  | .map entries => uptoBulkEntries entries + 1
  | .held _ => 1
def uptoBulkAll {H : Type} : List (DataW H) → Nat
  | [] => 0
  | d :: r => uptoBulk d + uptoBulkAll r
def uptoBulkEntries {H : Type} : List (Lit × DataW H) → Nat
  | [] => 0
  | x :: r => uptoBulkEntry x + uptoBulkEntries r
def uptoBulkEntry {H : Type} : Lit × DataW H → Nat
  | (.string bytes, d) => bytes.length + uptoBulk d + 1
  | (_, d) => uptoBulk d + 1
 end
def uptoSmall : (H : Type) → List (DataW H) → Bool := fun _ ds => decide (uptoBulkAll ds ≤ 1048576)
def OpenSpec.upto (s : _root_.Go.ChangeSpec) : _root_.Go.OpenSpec := { _root_.Go.OpenSpec.ofChange s with cond := some uptoSmall }

/-- 'drydocklaw31.FairshareValid', WHERE WHAT IT READS IS OF BULK AT MOST 1048576: true; the input reads as it did. -/
def fairshareValidUptoRow : OpenClaim := { program := "ythdfflbhogfejaa", sum := "d962e7e24550e0cbc32019283a3630b74c06904609f9ee0f30f05a5043780d49", func := "drydock/drydocklaw31.FairshareValid", spec := "fairshareValid", apart := false, narrowed := true }
def FairshareValidUptoSaid : Prop := fairshareValidUptoRow.holds Try.pinned (OpenSpec.upto fairshareValidSpec)

/-- 'drydocklaw31.FairshareUnits', WHERE WHAT IT READS IS OF BULK AT MOST 1048576: true; the input reads as it did. -/
def fairshareUnitsUptoRow : OpenClaim := { program := "ythdfflbhogfejaa", sum := "d962e7e24550e0cbc32019283a3630b74c06904609f9ee0f30f05a5043780d49", func := "drydock/drydocklaw31.FairshareUnits", spec := "fairshareUnits", apart := false, narrowed := true }
def FairshareUnitsUptoSaid : Prop := fairshareUnitsUptoRow.holds Try.pinned (OpenSpec.upto fairshareUnitsSpec)

/-- 'drydocklaw31.FairshareRates', WHERE WHAT IT READS IS OF BULK AT MOST 1048576: true; the input reads as it did. -/
def fairshareRatesUptoRow : OpenClaim := { program := "ythdfflbhogfejaa", sum := "d962e7e24550e0cbc32019283a3630b74c06904609f9ee0f30f05a5043780d49", func := "drydock/drydocklaw31.FairshareRates", spec := "fairshareRates", apart := false, narrowed := true }
def FairshareRatesUptoSaid : Prop := fairshareRatesUptoRow.holds Try.pinned (OpenSpec.upto fairshareRatesSpec)

/-- 'drydocklaw31.FairshareBottlenecks', WHERE WHAT IT READS IS OF BULK AT MOST 1048576: true; the input reads as it did. -/
def fairshareBottlenecksUptoRow : OpenClaim := { program := "ythdfflbhogfejaa", sum := "d962e7e24550e0cbc32019283a3630b74c06904609f9ee0f30f05a5043780d49", func := "drydock/drydocklaw31.FairshareBottlenecks", spec := "fairshareBottlenecks", apart := false, narrowed := true }
def FairshareBottlenecksUptoSaid : Prop := fairshareBottlenecksUptoRow.holds Try.pinned (OpenSpec.upto fairshareBottlenecksSpec)

/-- 'drydocklaw31.FairshareChecks', WHERE WHAT IT READS IS OF BULK AT MOST 1048576: true; the input reads as it did. -/
def fairshareChecksUptoRow : OpenClaim := { program := "ythdfflbhogfejaa", sum := "d962e7e24550e0cbc32019283a3630b74c06904609f9ee0f30f05a5043780d49", func := "drydock/drydocklaw31.FairshareChecks", spec := "fairshareChecks", apart := false, narrowed := true }
def FairshareChecksUptoSaid : Prop := fairshareChecksUptoRow.holds Try.pinned (OpenSpec.upto fairshareChecksSpec)

/-- 'drydocklaw31.FairshareProves', WHERE WHAT IT READS IS OF BULK AT MOST 1048576: true; the input reads as it did. -/
def fairshareProvesUptoRow : OpenClaim := { program := "ythdfflbhogfejaa", sum := "d962e7e24550e0cbc32019283a3630b74c06904609f9ee0f30f05a5043780d49", func := "drydock/drydocklaw31.FairshareProves", spec := "fairshareProves", apart := false, narrowed := true }
def FairshareProvesUptoSaid : Prop := fairshareProvesUptoRow.holds Try.pinned (OpenSpec.upto fairshareProvesSpec)

/-- 'drydocklaw31.FairshareFull', WHERE WHAT IT READS IS OF BULK AT MOST 1048576: true; the input reads as it did. -/
def fairshareFullUptoRow : OpenClaim := { program := "ythdfflbhogfejaa", sum := "d962e7e24550e0cbc32019283a3630b74c06904609f9ee0f30f05a5043780d49", func := "drydock/drydocklaw31.FairshareFull", spec := "fairshareFull", apart := false, narrowed := true }
def FairshareFullUptoSaid : Prop := fairshareFullUptoRow.holds Try.pinned (OpenSpec.upto fairshareFullSpec)

/-- 'drydocklaw31.FairshareOneLink', WHERE WHAT IT READS IS OF BULK AT MOST 1048576: true; the input reads as it did. -/
def fairshareOneLinkUptoRow : OpenClaim := { program := "ythdfflbhogfejaa", sum := "d962e7e24550e0cbc32019283a3630b74c06904609f9ee0f30f05a5043780d49", func := "drydock/drydocklaw31.FairshareOneLink", spec := "fairshareOneLink", apart := false, narrowed := true }
def FairshareOneLinkUptoSaid : Prop := fairshareOneLinkUptoRow.holds Try.pinned (OpenSpec.upto fairshareOneLinkSpec)

/-- 'drydocklaw31.FairshareScales', WHERE WHAT IT READS IS OF BULK AT MOST 1048576: true; the input reads as it did. -/
def fairshareScalesUptoRow : OpenClaim := { program := "ythdfflbhogfejaa", sum := "d962e7e24550e0cbc32019283a3630b74c06904609f9ee0f30f05a5043780d49", func := "drydock/drydocklaw31.FairshareScales", spec := "fairshareScales", apart := false, narrowed := true }
def FairshareScalesUptoSaid : Prop := fairshareScalesUptoRow.holds Try.pinned (OpenSpec.upto fairshareScalesSpec)

/-- 'drydocklaw31.FairshareApart', WHERE WHAT IT READS IS OF BULK AT MOST 1048576: true; the input reads as it did. -/
def fairshareApartUptoRow : OpenClaim := { program := "ythdfflbhogfejaa", sum := "d962e7e24550e0cbc32019283a3630b74c06904609f9ee0f30f05a5043780d49", func := "drydock/drydocklaw31.FairshareApart", spec := "fairshareApart", apart := false, narrowed := true }
def FairshareApartUptoSaid : Prop := fairshareApartUptoRow.holds Try.pinned (OpenSpec.upto fairshareApartSpec)

/-- 'drydocklaw31.FairshareOrder', WHERE WHAT IT READS IS OF BULK AT MOST 1048576: true; the input reads as it did. -/
def fairshareOrderUptoRow : OpenClaim := { program := "ythdfflbhogfejaa", sum := "d962e7e24550e0cbc32019283a3630b74c06904609f9ee0f30f05a5043780d49", func := "drydock/drydocklaw31.FairshareOrder", spec := "fairshareOrder", apart := false, narrowed := true }
def FairshareOrderUptoSaid : Prop := fairshareOrderUptoRow.holds Try.pinned (OpenSpec.upto fairshareOrderSpec)

end Rows
end Go.Proofs.Ythdfflbhogfejaa
