/-
  No cell of these rows narrows 'for every input' (looked for: loops, veiled, ifaces, maps, wideKeys, modest, calm, conditions, laid).
  DERIVED. THE GIVEN ROWS OF THIS SEAT. 9 by the template 'for every input the law returns true; each argument reads behind the call as it read before'; 0 by the template 'total and deterministic' (their statements: YtodopppoikdglaaTotals.lean).
  GIVEN WITH THE SEED: the statements are not yours to turn. If you find one false, say at which input.
  Laid BY PROGRAM, IN A SANDBOX (cutbox-rows.mjs): the forced cells as the released guide's own fill.sh prints them over the translation f2a017f4dd92c331… (all of the seat's roots in one cut). By AI agents, Wed Nov 11 2026. No macro, syntax, notation, axiom, sorry.
-/
import Derived.Test.YtodopppoikdglaaChecked
import GoSem.Claim
import GoSem.ClaimJoined
import GoSem.ClaimMapViews
import Derived.JoinedTies
import Derived.KernelRfl
namespace Go.Proofs.Ytodopppoikdglaa
/- THE CELL 'sum', in the pinned program and in every row, IS THE sha256 OF THE DUMP (.gsa) THAT YtodopppoikdglaaProg.lean LOADS. Nothing in Lean hashes anything: it is a label: what it is worth is what the hold of that sum in a sandbox is worth. -/
noncomputable def Try.pinned : Pinned := { name := "ytodopppoikdglaa", sum := "f2a017f4dd92c33187342001a7a8f5b27fd23ae001ef9c396b37696655b5e911", checked := Try.checked }
namespace Rows
def none {H : Type} : Left H := { results := [], args := [] }

/-- 'drydocklaw02.FractionMake': WHATEVER THE INPUT: true; the input reads as it did. -/
def fractionMakeSpec : ChangeSpec := { name := "fractionMake", fn := fun _ => fun
  | [d1, d2] => { results := [.lit (.bool true)], args := [d1, d2] }
  | _ => none }
def fractionMakeRow : OpenClaim := { program := "ytodopppoikdglaa", sum := "f2a017f4dd92c33187342001a7a8f5b27fd23ae001ef9c396b37696655b5e911", func := "drydock/drydocklaw02.FractionMake", spec := "fractionMake", apart := false }
def FractionMakeSaid : Prop := fractionMakeRow.holds Try.pinned (OpenSpec.ofChange fractionMakeSpec)

/-- ITS FALSE NEIGHBOUR: 'it returns false'. Refute it at one input. -/
def fractionMakeWrong : ChangeSpec := { name := "fractionMake", fn := fun _ => fun
  | [d1, d2] => { results := [.lit (.bool false)], args := [d1, d2] }
  | _ => none }
def FractionMakeWrongFalsely : Prop := fractionMakeRow.holds Try.pinned (OpenSpec.ofChange fractionMakeWrong)

/-- 'drydocklaw02.FractionSums': WHATEVER THE INPUT: true; the input reads as it did. -/
def fractionSumsSpec : ChangeSpec := { name := "fractionSums", fn := fun _ => fun
  | [d1, d2] => { results := [.lit (.bool true)], args := [d1, d2] }
  | _ => none }
def fractionSumsRow : OpenClaim := { program := "ytodopppoikdglaa", sum := "f2a017f4dd92c33187342001a7a8f5b27fd23ae001ef9c396b37696655b5e911", func := "drydock/drydocklaw02.FractionSums", spec := "fractionSums", apart := false }
def FractionSumsSaid : Prop := fractionSumsRow.holds Try.pinned (OpenSpec.ofChange fractionSumsSpec)

/-- ITS FALSE NEIGHBOUR: 'it returns false'. Refute it at one input. -/
def fractionSumsWrong : ChangeSpec := { name := "fractionSums", fn := fun _ => fun
  | [d1, d2] => { results := [.lit (.bool false)], args := [d1, d2] }
  | _ => none }
def FractionSumsWrongFalsely : Prop := fractionSumsRow.holds Try.pinned (OpenSpec.ofChange fractionSumsWrong)

/-- 'drydocklaw02.FractionLimits': WHATEVER THE INPUT: true; the input reads as it did. -/
def fractionLimitsSpec : ChangeSpec := { name := "fractionLimits", fn := fun _ => fun
  | [d1, d2, d3, d4] => { results := [.lit (.bool true)], args := [d1, d2, d3, d4] }
  | _ => none }
def fractionLimitsRow : OpenClaim := { program := "ytodopppoikdglaa", sum := "f2a017f4dd92c33187342001a7a8f5b27fd23ae001ef9c396b37696655b5e911", func := "drydock/drydocklaw02.FractionLimits", spec := "fractionLimits", apart := false }
def FractionLimitsSaid : Prop := fractionLimitsRow.holds Try.pinned (OpenSpec.ofChange fractionLimitsSpec)

/-- ITS FALSE NEIGHBOUR: 'it returns false'. Refute it at one input. -/
def fractionLimitsWrong : ChangeSpec := { name := "fractionLimits", fn := fun _ => fun
  | [d1, d2, d3, d4] => { results := [.lit (.bool false)], args := [d1, d2, d3, d4] }
  | _ => none }
def FractionLimitsWrongFalsely : Prop := fractionLimitsRow.holds Try.pinned (OpenSpec.ofChange fractionLimitsWrong)

/-- 'drydocklaw02.FractionField': WHATEVER THE INPUT: true; the input reads as it did. -/
def fractionFieldSpec : ChangeSpec := { name := "fractionField", fn := fun _ => fun
  | [d1, d2, d3] => { results := [.lit (.bool true)], args := [d1, d2, d3] }
  | _ => none }
def fractionFieldRow : OpenClaim := { program := "ytodopppoikdglaa", sum := "f2a017f4dd92c33187342001a7a8f5b27fd23ae001ef9c396b37696655b5e911", func := "drydock/drydocklaw02.FractionField", spec := "fractionField", apart := false }
def FractionFieldSaid : Prop := fractionFieldRow.holds Try.pinned (OpenSpec.ofChange fractionFieldSpec)

/-- ITS FALSE NEIGHBOUR: 'it returns false'. Refute it at one input. -/
def fractionFieldWrong : ChangeSpec := { name := "fractionField", fn := fun _ => fun
  | [d1, d2, d3] => { results := [.lit (.bool false)], args := [d1, d2, d3] }
  | _ => none }
def FractionFieldWrongFalsely : Prop := fractionFieldRow.holds Try.pinned (OpenSpec.ofChange fractionFieldWrong)

/-- 'drydocklaw02.FractionOrder': WHATEVER THE INPUT: true; the input reads as it did. -/
def fractionOrderSpec : ChangeSpec := { name := "fractionOrder", fn := fun _ => fun
  | [d1, d2, d3] => { results := [.lit (.bool true)], args := [d1, d2, d3] }
  | _ => none }
def fractionOrderRow : OpenClaim := { program := "ytodopppoikdglaa", sum := "f2a017f4dd92c33187342001a7a8f5b27fd23ae001ef9c396b37696655b5e911", func := "drydock/drydocklaw02.FractionOrder", spec := "fractionOrder", apart := false }
def FractionOrderSaid : Prop := fractionOrderRow.holds Try.pinned (OpenSpec.ofChange fractionOrderSpec)

/-- ITS FALSE NEIGHBOUR: 'it returns false'. Refute it at one input. -/
def fractionOrderWrong : ChangeSpec := { name := "fractionOrder", fn := fun _ => fun
  | [d1, d2, d3] => { results := [.lit (.bool false)], args := [d1, d2, d3] }
  | _ => none }
def FractionOrderWrongFalsely : Prop := fractionOrderRow.holds Try.pinned (OpenSpec.ofChange fractionOrderWrong)

/-- 'drydocklaw02.FractionReduced': WHATEVER THE INPUT: true; the input reads as it did. -/
def fractionReducedSpec : ChangeSpec := { name := "fractionReduced", fn := fun _ => fun
  | [d1, d2, d3] => { results := [.lit (.bool true)], args := [d1, d2, d3] }
  | _ => none }
def fractionReducedRow : OpenClaim := { program := "ytodopppoikdglaa", sum := "f2a017f4dd92c33187342001a7a8f5b27fd23ae001ef9c396b37696655b5e911", func := "drydock/drydocklaw02.FractionReduced", spec := "fractionReduced", apart := false }
def FractionReducedSaid : Prop := fractionReducedRow.holds Try.pinned (OpenSpec.ofChange fractionReducedSpec)

/-- ITS FALSE NEIGHBOUR: 'it returns false'. Refute it at one input. -/
def fractionReducedWrong : ChangeSpec := { name := "fractionReduced", fn := fun _ => fun
  | [d1, d2, d3] => { results := [.lit (.bool false)], args := [d1, d2, d3] }
  | _ => none }
def FractionReducedWrongFalsely : Prop := fractionReducedRow.holds Try.pinned (OpenSpec.ofChange fractionReducedWrong)

/-- 'drydocklaw02.FractionExact': WHATEVER THE INPUT: true; the input reads as it did. -/
def fractionExactSpec : ChangeSpec := { name := "fractionExact", fn := fun _ => fun
  | [d1, d2] => { results := [.lit (.bool true)], args := [d1, d2] }
  | _ => none }
def fractionExactRow : OpenClaim := { program := "ytodopppoikdglaa", sum := "f2a017f4dd92c33187342001a7a8f5b27fd23ae001ef9c396b37696655b5e911", func := "drydock/drydocklaw02.FractionExact", spec := "fractionExact", apart := false }
def FractionExactSaid : Prop := fractionExactRow.holds Try.pinned (OpenSpec.ofChange fractionExactSpec)

/-- ITS FALSE NEIGHBOUR: 'it returns false'. Refute it at one input. -/
def fractionExactWrong : ChangeSpec := { name := "fractionExact", fn := fun _ => fun
  | [d1, d2] => { results := [.lit (.bool false)], args := [d1, d2] }
  | _ => none }
def FractionExactWrongFalsely : Prop := fractionExactRow.holds Try.pinned (OpenSpec.ofChange fractionExactWrong)

/-- 'drydocklaw02.FractionText': WHATEVER THE INPUT: true; the input reads as it did. -/
def fractionTextSpec : ChangeSpec := { name := "fractionText", fn := fun _ => fun
  | [d1, d2] => { results := [.lit (.bool true)], args := [d1, d2] }
  | _ => none }
def fractionTextRow : OpenClaim := { program := "ytodopppoikdglaa", sum := "f2a017f4dd92c33187342001a7a8f5b27fd23ae001ef9c396b37696655b5e911", func := "drydock/drydocklaw02.FractionText", spec := "fractionText", apart := false }
def FractionTextSaid : Prop := fractionTextRow.holds Try.pinned (OpenSpec.ofChange fractionTextSpec)

/-- ITS FALSE NEIGHBOUR: 'it returns false'. Refute it at one input. -/
def fractionTextWrong : ChangeSpec := { name := "fractionText", fn := fun _ => fun
  | [d1, d2] => { results := [.lit (.bool false)], args := [d1, d2] }
  | _ => none }
def FractionTextWrongFalsely : Prop := fractionTextRow.holds Try.pinned (OpenSpec.ofChange fractionTextWrong)

/-- 'drydocklaw02.FractionRounds': WHATEVER THE INPUT: true; the input reads as it did. -/
def fractionRoundsSpec : ChangeSpec := { name := "fractionRounds", fn := fun _ => fun
  | [d1, d2] => { results := [.lit (.bool true)], args := [d1, d2] }
  | _ => none }
def fractionRoundsRow : OpenClaim := { program := "ytodopppoikdglaa", sum := "f2a017f4dd92c33187342001a7a8f5b27fd23ae001ef9c396b37696655b5e911", func := "drydock/drydocklaw02.FractionRounds", spec := "fractionRounds", apart := false }
def FractionRoundsSaid : Prop := fractionRoundsRow.holds Try.pinned (OpenSpec.ofChange fractionRoundsSpec)

/-- ITS FALSE NEIGHBOUR: 'it returns false'. Refute it at one input. -/
def fractionRoundsWrong : ChangeSpec := { name := "fractionRounds", fn := fun _ => fun
  | [d1, d2] => { results := [.lit (.bool false)], args := [d1, d2] }
  | _ => none }
def FractionRoundsWrongFalsely : Prop := fractionRoundsRow.holds Try.pinned (OpenSpec.ofChange fractionRoundsWrong)

/- THE SECOND FORM. 'bulk': how many values and letters a reading holds, each counted each time it is reached (what is shared counts as often as it is met; a slice's spare places count too). A statement '..UptoSaid' is the law's where the arguments, and the package variables that the reading takes, are together of bulk at most 1048576: NARROWER than '..Said'. Prove '..Said' where nothing that the law and all that it calls make is longer than what came in: it says more and counts as full. Else prove '..UptoSaid'. A law counts once. -/
mutual
def uptoBulk {H : Type} : DataW H → Nat
  | .lit (.string bytes) => bytes.length + 1
  | .lit _ => 1
  | .nil => 1
  | .ptr d => uptoBulk d + 1
  | .slice elems spare => uptoBulkAll elems + uptoBulkAll spare + 1
  | .agg parts => uptoBulkAll parts + 1
  | .iface _ d => uptoBulk d + 1
  | .map entries => uptoBulkEntries entries + 1
  | .held _ => 1
def uptoBulkAll {H : Type} : List (DataW H) → Nat
  | [] => 0
  | d :: r => uptoBulk d + uptoBulkAll r
def uptoBulkEntries {H : Type} : List (Lit × DataW H) → Nat
  | [] => 0
  | x :: r => uptoBulkEntry x + uptoBulkEntries r
def uptoBulkEntry {H : Type} : Lit × DataW H → Nat
  | (.string bytes, d) => bytes.length + uptoBulk d + 1
  | (_, d) => uptoBulk d + 1
 end
def uptoSmall : (H : Type) → List (DataW H) → Bool := fun _ ds => decide (uptoBulkAll ds ≤ 1048576)
def OpenSpec.upto (s : _root_.Go.ChangeSpec) : _root_.Go.OpenSpec := { _root_.Go.OpenSpec.ofChange s with cond := some uptoSmall }

/-- 'drydocklaw02.FractionMake', WHERE WHAT IT READS IS OF BULK AT MOST 1048576: true; the input reads as it did. -/
def fractionMakeUptoRow : OpenClaim := { program := "ytodopppoikdglaa", sum := "f2a017f4dd92c33187342001a7a8f5b27fd23ae001ef9c396b37696655b5e911", func := "drydock/drydocklaw02.FractionMake", spec := "fractionMake", apart := false, narrowed := true }
def FractionMakeUptoSaid : Prop := fractionMakeUptoRow.holds Try.pinned (OpenSpec.upto fractionMakeSpec)

/-- 'drydocklaw02.FractionSums', WHERE WHAT IT READS IS OF BULK AT MOST 1048576: true; the input reads as it did. -/
def fractionSumsUptoRow : OpenClaim := { program := "ytodopppoikdglaa", sum := "f2a017f4dd92c33187342001a7a8f5b27fd23ae001ef9c396b37696655b5e911", func := "drydock/drydocklaw02.FractionSums", spec := "fractionSums", apart := false, narrowed := true }
def FractionSumsUptoSaid : Prop := fractionSumsUptoRow.holds Try.pinned (OpenSpec.upto fractionSumsSpec)

/-- 'drydocklaw02.FractionLimits', WHERE WHAT IT READS IS OF BULK AT MOST 1048576: true; the input reads as it did. -/
def fractionLimitsUptoRow : OpenClaim := { program := "ytodopppoikdglaa", sum := "f2a017f4dd92c33187342001a7a8f5b27fd23ae001ef9c396b37696655b5e911", func := "drydock/drydocklaw02.FractionLimits", spec := "fractionLimits", apart := false, narrowed := true }
def FractionLimitsUptoSaid : Prop := fractionLimitsUptoRow.holds Try.pinned (OpenSpec.upto fractionLimitsSpec)

/-- 'drydocklaw02.FractionField', WHERE WHAT IT READS IS OF BULK AT MOST 1048576: true; the input reads as it did. -/
def fractionFieldUptoRow : OpenClaim := { program := "ytodopppoikdglaa", sum := "f2a017f4dd92c33187342001a7a8f5b27fd23ae001ef9c396b37696655b5e911", func := "drydock/drydocklaw02.FractionField", spec := "fractionField", apart := false, narrowed := true }
def FractionFieldUptoSaid : Prop := fractionFieldUptoRow.holds Try.pinned (OpenSpec.upto fractionFieldSpec)

/-- 'drydocklaw02.FractionOrder', WHERE WHAT IT READS IS OF BULK AT MOST 1048576: true; the input reads as it did. -/
def fractionOrderUptoRow : OpenClaim := { program := "ytodopppoikdglaa", sum := "f2a017f4dd92c33187342001a7a8f5b27fd23ae001ef9c396b37696655b5e911", func := "drydock/drydocklaw02.FractionOrder", spec := "fractionOrder", apart := false, narrowed := true }
def FractionOrderUptoSaid : Prop := fractionOrderUptoRow.holds Try.pinned (OpenSpec.upto fractionOrderSpec)

/-- 'drydocklaw02.FractionReduced', WHERE WHAT IT READS IS OF BULK AT MOST 1048576: true; the input reads as it did. -/
def fractionReducedUptoRow : OpenClaim := { program := "ytodopppoikdglaa", sum := "f2a017f4dd92c33187342001a7a8f5b27fd23ae001ef9c396b37696655b5e911", func := "drydock/drydocklaw02.FractionReduced", spec := "fractionReduced", apart := false, narrowed := true }
def FractionReducedUptoSaid : Prop := fractionReducedUptoRow.holds Try.pinned (OpenSpec.upto fractionReducedSpec)

/-- 'drydocklaw02.FractionExact', WHERE WHAT IT READS IS OF BULK AT MOST 1048576: true; the input reads as it did. -/
def fractionExactUptoRow : OpenClaim := { program := "ytodopppoikdglaa", sum := "f2a017f4dd92c33187342001a7a8f5b27fd23ae001ef9c396b37696655b5e911", func := "drydock/drydocklaw02.FractionExact", spec := "fractionExact", apart := false, narrowed := true }
def FractionExactUptoSaid : Prop := fractionExactUptoRow.holds Try.pinned (OpenSpec.upto fractionExactSpec)

/-- 'drydocklaw02.FractionText', WHERE WHAT IT READS IS OF BULK AT MOST 1048576: true; the input reads as it did. -/
def fractionTextUptoRow : OpenClaim := { program := "ytodopppoikdglaa", sum := "f2a017f4dd92c33187342001a7a8f5b27fd23ae001ef9c396b37696655b5e911", func := "drydock/drydocklaw02.FractionText", spec := "fractionText", apart := false, narrowed := true }
def FractionTextUptoSaid : Prop := fractionTextUptoRow.holds Try.pinned (OpenSpec.upto fractionTextSpec)

/-- 'drydocklaw02.FractionRounds', WHERE WHAT IT READS IS OF BULK AT MOST 1048576: true; the input reads as it did. -/
def fractionRoundsUptoRow : OpenClaim := { program := "ytodopppoikdglaa", sum := "f2a017f4dd92c33187342001a7a8f5b27fd23ae001ef9c396b37696655b5e911", func := "drydock/drydocklaw02.FractionRounds", spec := "fractionRounds", apart := false, narrowed := true }
def FractionRoundsUptoSaid : Prop := fractionRoundsUptoRow.holds Try.pinned (OpenSpec.upto fractionRoundsSpec)

end Rows
end Go.Proofs.Ytodopppoikdglaa
