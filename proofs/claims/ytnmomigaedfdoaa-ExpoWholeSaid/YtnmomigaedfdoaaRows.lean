/-
  No cell of these rows narrows 'for every input' (looked for: loops, veiled, ifaces, maps, wideKeys, modest, calm, conditions, laid).
  DERIVED. THE GIVEN ROWS OF THIS SEAT. 10 by the template 'for every input the law returns true; each argument reads behind the call as it read before'; 0 by the template 'total and deterministic' (their statements: YtnmomigaedfdoaaTotals.lean).
  GIVEN WITH THE SEED: the statements are not yours to turn. If you find one false, say at which input.
  Laid BY PROGRAM, IN A SANDBOX (cutbox-rows.mjs): the forced cells as the released guide's own fill.sh prints them over the translation 285c34cf3caa88a2… (all of the seat's roots in one cut). By AI agents, Wed Nov 11 2026. No macro, syntax, notation, axiom, sorry.
-/
import Derived.Test.YtnmomigaedfdoaaChecked
import GoSem.Claim
import GoSem.ClaimJoined
import GoSem.ClaimMapViews
import Derived.JoinedTies
import Derived.KernelRfl
namespace Go.Proofs.Ytnmomigaedfdoaa
/- THE CELL 'sum', in the pinned program and in every row, IS THE sha256 OF THE DUMP (.gsa) THAT YtnmomigaedfdoaaProg.lean LOADS. Nothing in Lean hashes anything: it is a label: what it is worth is what the hold of that sum in a sandbox is worth. -/
noncomputable def Try.pinned : Pinned := { name := "ytnmomigaedfdoaa", sum := "285c34cf3caa88a22042157b0866122e3ad69b2705b70d3e18a1bf512234a9fb", checked := Try.checked }
namespace Rows
def none {H : Type} : Left H := { results := [], args := [] }

/-- 'drydocklaw04.ExpoProduct': WHATEVER THE INPUT: true; the input reads as it did. -/
def expoProductSpec : ChangeSpec := { name := "expoProduct", fn := fun _ => fun
  | [d1, d2, d3, d4, d5] => { results := [.lit (.bool true)], args := [d1, d2, d3, d4, d5] }
  | _ => none }
def expoProductRow : OpenClaim := { program := "ytnmomigaedfdoaa", sum := "285c34cf3caa88a22042157b0866122e3ad69b2705b70d3e18a1bf512234a9fb", func := "drydock/drydocklaw04.ExpoProduct", spec := "expoProduct", apart := false }
def ExpoProductSaid : Prop := expoProductRow.holds Try.pinned (OpenSpec.ofChange expoProductSpec)

/-- ITS FALSE NEIGHBOUR: 'it returns false'. Refute it at one input. -/
def expoProductWrong : ChangeSpec := { name := "expoProduct", fn := fun _ => fun
  | [d1, d2, d3, d4, d5] => { results := [.lit (.bool false)], args := [d1, d2, d3, d4, d5] }
  | _ => none }
def ExpoProductWrongFalsely : Prop := expoProductRow.holds Try.pinned (OpenSpec.ofChange expoProductWrong)

/-- 'drydocklaw04.ExpoBetween': WHATEVER THE INPUT: true; the input reads as it did. -/
def expoBetweenSpec : ChangeSpec := { name := "expoBetween", fn := fun _ => fun
  | [d1, d2, d3] => { results := [.lit (.bool true)], args := [d1, d2, d3] }
  | _ => none }
def expoBetweenRow : OpenClaim := { program := "ytnmomigaedfdoaa", sum := "285c34cf3caa88a22042157b0866122e3ad69b2705b70d3e18a1bf512234a9fb", func := "drydock/drydocklaw04.ExpoBetween", spec := "expoBetween", apart := false }
def ExpoBetweenSaid : Prop := expoBetweenRow.holds Try.pinned (OpenSpec.ofChange expoBetweenSpec)

/-- ITS FALSE NEIGHBOUR: 'it returns false'. Refute it at one input. -/
def expoBetweenWrong : ChangeSpec := { name := "expoBetween", fn := fun _ => fun
  | [d1, d2, d3] => { results := [.lit (.bool false)], args := [d1, d2, d3] }
  | _ => none }
def ExpoBetweenWrongFalsely : Prop := expoBetweenRow.holds Try.pinned (OpenSpec.ofChange expoBetweenWrong)

/-- 'drydocklaw04.ExpoTails': WHATEVER THE INPUT: true; the input reads as it did. -/
def expoTailsSpec : ChangeSpec := { name := "expoTails", fn := fun _ => fun
  | [d1, d2, d3] => { results := [.lit (.bool true)], args := [d1, d2, d3] }
  | _ => none }
def expoTailsRow : OpenClaim := { program := "ytnmomigaedfdoaa", sum := "285c34cf3caa88a22042157b0866122e3ad69b2705b70d3e18a1bf512234a9fb", func := "drydock/drydocklaw04.ExpoTails", spec := "expoTails", apart := false }
def ExpoTailsSaid : Prop := expoTailsRow.holds Try.pinned (OpenSpec.ofChange expoTailsSpec)

/-- ITS FALSE NEIGHBOUR: 'it returns false'. Refute it at one input. -/
def expoTailsWrong : ChangeSpec := { name := "expoTails", fn := fun _ => fun
  | [d1, d2, d3] => { results := [.lit (.bool false)], args := [d1, d2, d3] }
  | _ => none }
def ExpoTailsWrongFalsely : Prop := expoTailsRow.holds Try.pinned (OpenSpec.ofChange expoTailsWrong)

/-- 'drydocklaw04.ExpoMonotone': WHATEVER THE INPUT: true; the input reads as it did. -/
def expoMonotoneSpec : ChangeSpec := { name := "expoMonotone", fn := fun _ => fun
  | [d1, d2, d3, d4, d5] => { results := [.lit (.bool true)], args := [d1, d2, d3, d4, d5] }
  | _ => none }
def expoMonotoneRow : OpenClaim := { program := "ytnmomigaedfdoaa", sum := "285c34cf3caa88a22042157b0866122e3ad69b2705b70d3e18a1bf512234a9fb", func := "drydock/drydocklaw04.ExpoMonotone", spec := "expoMonotone", apart := false }
def ExpoMonotoneSaid : Prop := expoMonotoneRow.holds Try.pinned (OpenSpec.ofChange expoMonotoneSpec)

/-- ITS FALSE NEIGHBOUR: 'it returns false'. Refute it at one input. -/
def expoMonotoneWrong : ChangeSpec := { name := "expoMonotone", fn := fun _ => fun
  | [d1, d2, d3, d4, d5] => { results := [.lit (.bool false)], args := [d1, d2, d3, d4, d5] }
  | _ => none }
def ExpoMonotoneWrongFalsely : Prop := expoMonotoneRow.holds Try.pinned (OpenSpec.ofChange expoMonotoneWrong)

/-- 'drydocklaw04.ExpoExact': WHATEVER THE INPUT: true; the input reads as it did. -/
def expoExactSpec : ChangeSpec := { name := "expoExact", fn := fun _ => fun
  | [d1, d2, d3] => { results := [.lit (.bool true)], args := [d1, d2, d3] }
  | _ => none }
def expoExactRow : OpenClaim := { program := "ytnmomigaedfdoaa", sum := "285c34cf3caa88a22042157b0866122e3ad69b2705b70d3e18a1bf512234a9fb", func := "drydock/drydocklaw04.ExpoExact", spec := "expoExact", apart := false }
def ExpoExactSaid : Prop := expoExactRow.holds Try.pinned (OpenSpec.ofChange expoExactSpec)

/-- ITS FALSE NEIGHBOUR: 'it returns false'. Refute it at one input. -/
def expoExactWrong : ChangeSpec := { name := "expoExact", fn := fun _ => fun
  | [d1, d2, d3] => { results := [.lit (.bool false)], args := [d1, d2, d3] }
  | _ => none }
def ExpoExactWrongFalsely : Prop := expoExactRow.holds Try.pinned (OpenSpec.ofChange expoExactWrong)

/-- 'drydocklaw04.ExpoNext': WHATEVER THE INPUT: true; the input reads as it did. -/
def expoNextSpec : ChangeSpec := { name := "expoNext", fn := fun _ => fun
  | [d1, d2, d3, d4] => { results := [.lit (.bool true)], args := [d1, d2, d3, d4] }
  | _ => none }
def expoNextRow : OpenClaim := { program := "ytnmomigaedfdoaa", sum := "285c34cf3caa88a22042157b0866122e3ad69b2705b70d3e18a1bf512234a9fb", func := "drydock/drydocklaw04.ExpoNext", spec := "expoNext", apart := false }
def ExpoNextSaid : Prop := expoNextRow.holds Try.pinned (OpenSpec.ofChange expoNextSpec)

/-- ITS FALSE NEIGHBOUR: 'it returns false'. Refute it at one input. -/
def expoNextWrong : ChangeSpec := { name := "expoNext", fn := fun _ => fun
  | [d1, d2, d3, d4] => { results := [.lit (.bool false)], args := [d1, d2, d3, d4] }
  | _ => none }
def ExpoNextWrongFalsely : Prop := expoNextRow.holds Try.pinned (OpenSpec.ofChange expoNextWrong)

/-- 'drydocklaw04.ExpoNested': WHATEVER THE INPUT: true; the input reads as it did. -/
def expoNestedSpec : ChangeSpec := { name := "expoNested", fn := fun _ => fun
  | [d1, d2, d3, d4, d5] => { results := [.lit (.bool true)], args := [d1, d2, d3, d4, d5] }
  | _ => none }
def expoNestedRow : OpenClaim := { program := "ytnmomigaedfdoaa", sum := "285c34cf3caa88a22042157b0866122e3ad69b2705b70d3e18a1bf512234a9fb", func := "drydock/drydocklaw04.ExpoNested", spec := "expoNested", apart := false }
def ExpoNestedSaid : Prop := expoNestedRow.holds Try.pinned (OpenSpec.ofChange expoNestedSpec)

/-- ITS FALSE NEIGHBOUR: 'it returns false'. Refute it at one input. -/
def expoNestedWrong : ChangeSpec := { name := "expoNested", fn := fun _ => fun
  | [d1, d2, d3, d4, d5] => { results := [.lit (.bool false)], args := [d1, d2, d3, d4, d5] }
  | _ => none }
def ExpoNestedWrongFalsely : Prop := expoNestedRow.holds Try.pinned (OpenSpec.ofChange expoNestedWrong)

/-- 'drydocklaw04.ExpoWhole': WHATEVER THE INPUT: true; the input reads as it did. -/
def expoWholeSpec : ChangeSpec := { name := "expoWhole", fn := fun _ => fun
  | [d1, d2, d3, d4] => { results := [.lit (.bool true)], args := [d1, d2, d3, d4] }
  | _ => none }
def expoWholeRow : OpenClaim := { program := "ytnmomigaedfdoaa", sum := "285c34cf3caa88a22042157b0866122e3ad69b2705b70d3e18a1bf512234a9fb", func := "drydock/drydocklaw04.ExpoWhole", spec := "expoWhole", apart := false }
def ExpoWholeSaid : Prop := expoWholeRow.holds Try.pinned (OpenSpec.ofChange expoWholeSpec)

/-- ITS FALSE NEIGHBOUR: 'it returns false'. Refute it at one input. -/
def expoWholeWrong : ChangeSpec := { name := "expoWhole", fn := fun _ => fun
  | [d1, d2, d3, d4] => { results := [.lit (.bool false)], args := [d1, d2, d3, d4] }
  | _ => none }
def ExpoWholeWrongFalsely : Prop := expoWholeRow.holds Try.pinned (OpenSpec.ofChange expoWholeWrong)

/-- 'drydocklaw04.ExpoTermErrors': WHATEVER THE INPUT: true; the input reads as it did. -/
def expoTermErrorsSpec : ChangeSpec := { name := "expoTermErrors", fn := fun _ => fun
  | [d1, d2] => { results := [.lit (.bool true)], args := [d1, d2] }
  | _ => none }
def expoTermErrorsRow : OpenClaim := { program := "ytnmomigaedfdoaa", sum := "285c34cf3caa88a22042157b0866122e3ad69b2705b70d3e18a1bf512234a9fb", func := "drydock/drydocklaw04.ExpoTermErrors", spec := "expoTermErrors", apart := false }
def ExpoTermErrorsSaid : Prop := expoTermErrorsRow.holds Try.pinned (OpenSpec.ofChange expoTermErrorsSpec)

/-- ITS FALSE NEIGHBOUR: 'it returns false'. Refute it at one input. -/
def expoTermErrorsWrong : ChangeSpec := { name := "expoTermErrors", fn := fun _ => fun
  | [d1, d2] => { results := [.lit (.bool false)], args := [d1, d2] }
  | _ => none }
def ExpoTermErrorsWrongFalsely : Prop := expoTermErrorsRow.holds Try.pinned (OpenSpec.ofChange expoTermErrorsWrong)

/-- 'drydocklaw04.ExpoTerms': WHATEVER THE INPUT: true; the input reads as it did. -/
def expoTermsSpec : ChangeSpec := { name := "expoTerms", fn := fun _ => fun
  | [d1, d2, d3] => { results := [.lit (.bool true)], args := [d1, d2, d3] }
  | _ => none }
def expoTermsRow : OpenClaim := { program := "ytnmomigaedfdoaa", sum := "285c34cf3caa88a22042157b0866122e3ad69b2705b70d3e18a1bf512234a9fb", func := "drydock/drydocklaw04.ExpoTerms", spec := "expoTerms", apart := false }
def ExpoTermsSaid : Prop := expoTermsRow.holds Try.pinned (OpenSpec.ofChange expoTermsSpec)

/-- ITS FALSE NEIGHBOUR: 'it returns false'. Refute it at one input. -/
def expoTermsWrong : ChangeSpec := { name := "expoTerms", fn := fun _ => fun
  | [d1, d2, d3] => { results := [.lit (.bool false)], args := [d1, d2, d3] }
  | _ => none }
def ExpoTermsWrongFalsely : Prop := expoTermsRow.holds Try.pinned (OpenSpec.ofChange expoTermsWrong)

/- THE SECOND FORM. 'bulk': how many values and letters a reading holds, each counted each time it is reached (what is shared counts as often as it is met; a slice's spare places count too). A statement '..UptoSaid' is the law's where the arguments, and the package variables that the reading takes, are together of bulk at most 1048576: NARROWER than '..Said'. Prove '..Said' where nothing that the law and all that it calls make is longer than what came in: it says more and counts as full. Else prove '..UptoSaid'. A law counts once. -/
mutual
def uptoBulk {H : Type} : DataW H → Nat
  | .lit (.string bytes) => bytes.length + 1
  | .lit _ => 1
  | .nil => 1
  | .ptr d => uptoBulk d + 1
  | .slice elems spare => uptoBulkAll elems + uptoBulkAll spare + 1
  | .agg parts => uptoBulkAll parts + 1
  | .iface _ d => uptoBulk d + 1
  | .map entries => uptoBulkEntries entries + 1
  | .held _ => 1
def uptoBulkAll {H : Type} : List (DataW H) → Nat
  | [] => 0
  | d :: r => uptoBulk d + uptoBulkAll r
def uptoBulkEntries {H : Type} : List (Lit × DataW H) → Nat
  | [] => 0
  | x :: r => uptoBulkEntry x + uptoBulkEntries r
def uptoBulkEntry {H : Type} : Lit × DataW H → Nat
  | (.string bytes, d) => bytes.length + uptoBulk d + 1
  | (_, d) => uptoBulk d + 1
 end
def uptoSmall : (H : Type) → List (DataW H) → Bool := fun _ ds => decide (uptoBulkAll ds ≤ 1048576)
def OpenSpec.upto (s : _root_.Go.ChangeSpec) : _root_.Go.OpenSpec := { _root_.Go.OpenSpec.ofChange s with cond := some uptoSmall }

/-- 'drydocklaw04.ExpoProduct', WHERE WHAT IT READS IS OF BULK AT MOST 1048576: true; the input reads as it did. -/
def expoProductUptoRow : OpenClaim := { program := "ytnmomigaedfdoaa", sum := "285c34cf3caa88a22042157b0866122e3ad69b2705b70d3e18a1bf512234a9fb", func := "drydock/drydocklaw04.ExpoProduct", spec := "expoProduct", apart := false, narrowed := true }
def ExpoProductUptoSaid : Prop := expoProductUptoRow.holds Try.pinned (OpenSpec.upto expoProductSpec)

/-- 'drydocklaw04.ExpoBetween', WHERE WHAT IT READS IS OF BULK AT MOST 1048576: true; the input reads as it did. -/
def expoBetweenUptoRow : OpenClaim := { program := "ytnmomigaedfdoaa", sum := "285c34cf3caa88a22042157b0866122e3ad69b2705b70d3e18a1bf512234a9fb", func := "drydock/drydocklaw04.ExpoBetween", spec := "expoBetween", apart := false, narrowed := true }
def ExpoBetweenUptoSaid : Prop := expoBetweenUptoRow.holds Try.pinned (OpenSpec.upto expoBetweenSpec)

/-- 'drydocklaw04.ExpoTails', WHERE WHAT IT READS IS OF BULK AT MOST 1048576: true; the input reads as it did. -/
def expoTailsUptoRow : OpenClaim := { program := "ytnmomigaedfdoaa", sum := "285c34cf3caa88a22042157b0866122e3ad69b2705b70d3e18a1bf512234a9fb", func := "drydock/drydocklaw04.ExpoTails", spec := "expoTails", apart := false, narrowed := true }
def ExpoTailsUptoSaid : Prop := expoTailsUptoRow.holds Try.pinned (OpenSpec.upto expoTailsSpec)

/-- 'drydocklaw04.ExpoMonotone', WHERE WHAT IT READS IS OF BULK AT MOST 1048576: true; the input reads as it did. -/
def expoMonotoneUptoRow : OpenClaim := { program := "ytnmomigaedfdoaa", sum := "285c34cf3caa88a22042157b0866122e3ad69b2705b70d3e18a1bf512234a9fb", func := "drydock/drydocklaw04.ExpoMonotone", spec := "expoMonotone", apart := false, narrowed := true }
def ExpoMonotoneUptoSaid : Prop := expoMonotoneUptoRow.holds Try.pinned (OpenSpec.upto expoMonotoneSpec)

/-- 'drydocklaw04.ExpoExact', WHERE WHAT IT READS IS OF BULK AT MOST 1048576: true; the input reads as it did. -/
def expoExactUptoRow : OpenClaim := { program := "ytnmomigaedfdoaa", sum := "285c34cf3caa88a22042157b0866122e3ad69b2705b70d3e18a1bf512234a9fb", func := "drydock/drydocklaw04.ExpoExact", spec := "expoExact", apart := false, narrowed := true }
def ExpoExactUptoSaid : Prop := expoExactUptoRow.holds Try.pinned (OpenSpec.upto expoExactSpec)

/-- 'drydocklaw04.ExpoNext', WHERE WHAT IT READS IS OF BULK AT MOST 1048576: true; the input reads as it did. -/
def expoNextUptoRow : OpenClaim := { program := "ytnmomigaedfdoaa", sum := "285c34cf3caa88a22042157b0866122e3ad69b2705b70d3e18a1bf512234a9fb", func := "drydock/drydocklaw04.ExpoNext", spec := "expoNext", apart := false, narrowed := true }
def ExpoNextUptoSaid : Prop := expoNextUptoRow.holds Try.pinned (OpenSpec.upto expoNextSpec)

/-- 'drydocklaw04.ExpoNested', WHERE WHAT IT READS IS OF BULK AT MOST 1048576: true; the input reads as it did. -/
def expoNestedUptoRow : OpenClaim := { program := "ytnmomigaedfdoaa", sum := "285c34cf3caa88a22042157b0866122e3ad69b2705b70d3e18a1bf512234a9fb", func := "drydock/drydocklaw04.ExpoNested", spec := "expoNested", apart := false, narrowed := true }
def ExpoNestedUptoSaid : Prop := expoNestedUptoRow.holds Try.pinned (OpenSpec.upto expoNestedSpec)

/-- 'drydocklaw04.ExpoWhole', WHERE WHAT IT READS IS OF BULK AT MOST 1048576: true; the input reads as it did. -/
def expoWholeUptoRow : OpenClaim := { program := "ytnmomigaedfdoaa", sum := "285c34cf3caa88a22042157b0866122e3ad69b2705b70d3e18a1bf512234a9fb", func := "drydock/drydocklaw04.ExpoWhole", spec := "expoWhole", apart := false, narrowed := true }
def ExpoWholeUptoSaid : Prop := expoWholeUptoRow.holds Try.pinned (OpenSpec.upto expoWholeSpec)

/-- 'drydocklaw04.ExpoTermErrors', WHERE WHAT IT READS IS OF BULK AT MOST 1048576: true; the input reads as it did. -/
def expoTermErrorsUptoRow : OpenClaim := { program := "ytnmomigaedfdoaa", sum := "285c34cf3caa88a22042157b0866122e3ad69b2705b70d3e18a1bf512234a9fb", func := "drydock/drydocklaw04.ExpoTermErrors", spec := "expoTermErrors", apart := false, narrowed := true }
def ExpoTermErrorsUptoSaid : Prop := expoTermErrorsUptoRow.holds Try.pinned (OpenSpec.upto expoTermErrorsSpec)

/-- 'drydocklaw04.ExpoTerms', WHERE WHAT IT READS IS OF BULK AT MOST 1048576: true; the input reads as it did. -/
def expoTermsUptoRow : OpenClaim := { program := "ytnmomigaedfdoaa", sum := "285c34cf3caa88a22042157b0866122e3ad69b2705b70d3e18a1bf512234a9fb", func := "drydock/drydocklaw04.ExpoTerms", spec := "expoTerms", apart := false, narrowed := true }
def ExpoTermsUptoSaid : Prop := expoTermsUptoRow.holds Try.pinned (OpenSpec.upto expoTermsSpec)

end Rows
end Go.Proofs.Ytnmomigaedfdoaa
