/-
  No cell of these rows narrows 'for every input' (looked for: loops, veiled, ifaces, maps, wideKeys, modest, calm, conditions, laid).
  DERIVED. THE GIVEN ROWS OF THIS SEAT. 7 by the template 'for every input the law returns true; each argument reads behind the call as it read before'; 0 by the template 'total and deterministic' (their statements: YtgjhjdjbhmblmaaTotals.lean).
  GIVEN WITH THE SEED: the statements are not yours to turn. If you find one false, say at which input.
  Laid BY PROGRAM, IN A SANDBOX (cutbox-rows.mjs): the forced cells as the released guide's own fill.sh prints them over the translation b2d4b4a63fc3e258… (all of the seat's roots in one cut). By AI agents, Wed Nov 11 2026. No macro, syntax, notation, axiom, sorry.
-/
import Derived.Test.YtgjhjdjbhmblmaaChecked
import GoSem.Claim
import GoSem.ClaimJoined
import GoSem.ClaimMapViews
import Derived.JoinedTies
import Derived.KernelRfl
namespace Go.Proofs.Ytgjhjdjbhmblmaa
/- THE CELL 'sum', in the pinned program and in every row, IS THE sha256 OF THE DUMP (.gsa) THAT YtgjhjdjbhmblmaaProg.lean LOADS. Nothing in Lean hashes anything: it is a label: what it is worth is what the hold of that sum in a sandbox is worth. -/
noncomputable def Try.pinned : Pinned := { name := "ytgjhjdjbhmblmaa", sum := "b2d4b4a63fc3e258753b22f9f905d128e5e1da31cbb200b7ef444a0a4c8ced4b", checked := Try.checked }
namespace Rows
def none {H : Type} : Left H := { results := [], args := [] }

/-- 'drydocklaw32.TransferValid': WHATEVER THE INPUT: true; the input reads as it did. -/
def transferValidSpec : ChangeSpec := { name := "transferValid", fn := fun _ => fun
  | [d1, d2] => { results := [.lit (.bool true)], args := [d1, d2] }
  | _ => none }
def transferValidRow : OpenClaim := { program := "ytgjhjdjbhmblmaa", sum := "b2d4b4a63fc3e258753b22f9f905d128e5e1da31cbb200b7ef444a0a4c8ced4b", func := "drydock/drydocklaw32.TransferValid", spec := "transferValid", unfollowed := true, recurses := true, apart := false }
def TransferValidSaid : Prop := transferValidRow.holds Try.pinned (OpenSpec.ofChange transferValidSpec)

/-- ITS FALSE NEIGHBOUR: 'it returns false'. Refute it at one input. -/
def transferValidWrong : ChangeSpec := { name := "transferValid", fn := fun _ => fun
  | [d1, d2] => { results := [.lit (.bool false)], args := [d1, d2] }
  | _ => none }
def TransferValidWrongFalsely : Prop := transferValidRow.holds Try.pinned (OpenSpec.ofChange transferValidWrong)

/-- 'drydocklaw32.TransferSteps': WHATEVER THE INPUT: true; the input reads as it did. -/
def transferStepsSpec : ChangeSpec := { name := "transferSteps", fn := fun _ => fun
  | [d1, d2, d3, d4, d5] => { results := [.lit (.bool true)], args := [d1, d2, d3, d4, d5] }
  | _ => none }
def transferStepsRow : OpenClaim := { program := "ytgjhjdjbhmblmaa", sum := "b2d4b4a63fc3e258753b22f9f905d128e5e1da31cbb200b7ef444a0a4c8ced4b", func := "drydock/drydocklaw32.TransferSteps", spec := "transferSteps", unfollowed := true, recurses := true, apart := false }
def TransferStepsSaid : Prop := transferStepsRow.holds Try.pinned (OpenSpec.ofChange transferStepsSpec)

/-- ITS FALSE NEIGHBOUR: 'it returns false'. Refute it at one input. -/
def transferStepsWrong : ChangeSpec := { name := "transferSteps", fn := fun _ => fun
  | [d1, d2, d3, d4, d5] => { results := [.lit (.bool false)], args := [d1, d2, d3, d4, d5] }
  | _ => none }
def TransferStepsWrongFalsely : Prop := transferStepsRow.holds Try.pinned (OpenSpec.ofChange transferStepsWrong)

/-- 'drydocklaw32.TransferRuns': WHATEVER THE INPUT: true; the input reads as it did. -/
def transferRunsSpec : ChangeSpec := { name := "transferRuns", fn := fun _ => fun
  | [d1, d2] => { results := [.lit (.bool true)], args := [d1, d2] }
  | _ => none }
def transferRunsRow : OpenClaim := { program := "ytgjhjdjbhmblmaa", sum := "b2d4b4a63fc3e258753b22f9f905d128e5e1da31cbb200b7ef444a0a4c8ced4b", func := "drydock/drydocklaw32.TransferRuns", spec := "transferRuns", unfollowed := true, recurses := true, apart := false }
def TransferRunsSaid : Prop := transferRunsRow.holds Try.pinned (OpenSpec.ofChange transferRunsSpec)

/-- ITS FALSE NEIGHBOUR: 'it returns false'. Refute it at one input. -/
def transferRunsWrong : ChangeSpec := { name := "transferRuns", fn := fun _ => fun
  | [d1, d2] => { results := [.lit (.bool false)], args := [d1, d2] }
  | _ => none }
def TransferRunsWrongFalsely : Prop := transferRunsRow.holds Try.pinned (OpenSpec.ofChange transferRunsWrong)

/-- 'drydocklaw32.TransferBounds': WHATEVER THE INPUT: true; the input reads as it did. -/
def transferBoundsSpec : ChangeSpec := { name := "transferBounds", fn := fun _ => fun
  | [d1, d2] => { results := [.lit (.bool true)], args := [d1, d2] }
  | _ => none }
def transferBoundsRow : OpenClaim := { program := "ytgjhjdjbhmblmaa", sum := "b2d4b4a63fc3e258753b22f9f905d128e5e1da31cbb200b7ef444a0a4c8ced4b", func := "drydock/drydocklaw32.TransferBounds", spec := "transferBounds", unfollowed := true, recurses := true, apart := false }
def TransferBoundsSaid : Prop := transferBoundsRow.holds Try.pinned (OpenSpec.ofChange transferBoundsSpec)

/-- ITS FALSE NEIGHBOUR: 'it returns false'. Refute it at one input. -/
def transferBoundsWrong : ChangeSpec := { name := "transferBounds", fn := fun _ => fun
  | [d1, d2] => { results := [.lit (.bool false)], args := [d1, d2] }
  | _ => none }
def TransferBoundsWrongFalsely : Prop := transferBoundsRow.holds Try.pinned (OpenSpec.ofChange transferBoundsWrong)

/-- 'drydocklaw32.TransferConserves': WHATEVER THE INPUT: true; the input reads as it did. -/
def transferConservesSpec : ChangeSpec := { name := "transferConserves", fn := fun _ => fun
  | [d1, d2] => { results := [.lit (.bool true)], args := [d1, d2] }
  | _ => none }
def transferConservesRow : OpenClaim := { program := "ytgjhjdjbhmblmaa", sum := "b2d4b4a63fc3e258753b22f9f905d128e5e1da31cbb200b7ef444a0a4c8ced4b", func := "drydock/drydocklaw32.TransferConserves", spec := "transferConserves", unfollowed := true, recurses := true, apart := false }
def TransferConservesSaid : Prop := transferConservesRow.holds Try.pinned (OpenSpec.ofChange transferConservesSpec)

/-- ITS FALSE NEIGHBOUR: 'it returns false'. Refute it at one input. -/
def transferConservesWrong : ChangeSpec := { name := "transferConserves", fn := fun _ => fun
  | [d1, d2] => { results := [.lit (.bool false)], args := [d1, d2] }
  | _ => none }
def TransferConservesWrongFalsely : Prop := transferConservesRow.holds Try.pinned (OpenSpec.ofChange transferConservesWrong)

/-- 'drydocklaw32.TransferOneLink': WHATEVER THE INPUT: true; the input reads as it did. -/
def transferOneLinkSpec : ChangeSpec := { name := "transferOneLink", fn := fun _ => fun
  | [d1, d2] => { results := [.lit (.bool true)], args := [d1, d2] }
  | _ => none }
def transferOneLinkRow : OpenClaim := { program := "ytgjhjdjbhmblmaa", sum := "b2d4b4a63fc3e258753b22f9f905d128e5e1da31cbb200b7ef444a0a4c8ced4b", func := "drydock/drydocklaw32.TransferOneLink", spec := "transferOneLink", unfollowed := true, recurses := true, apart := false }
def TransferOneLinkSaid : Prop := transferOneLinkRow.holds Try.pinned (OpenSpec.ofChange transferOneLinkSpec)

/-- ITS FALSE NEIGHBOUR: 'it returns false'. Refute it at one input. -/
def transferOneLinkWrong : ChangeSpec := { name := "transferOneLink", fn := fun _ => fun
  | [d1, d2] => { results := [.lit (.bool false)], args := [d1, d2] }
  | _ => none }
def TransferOneLinkWrongFalsely : Prop := transferOneLinkRow.holds Try.pinned (OpenSpec.ofChange transferOneLinkWrong)

/-- 'drydocklaw32.TransferApart': WHATEVER THE INPUT: true; the input reads as it did. -/
def transferApartSpec : ChangeSpec := { name := "transferApart", fn := fun _ => fun
  | [d1, d2, d3] => { results := [.lit (.bool true)], args := [d1, d2, d3] }
  | _ => none }
def transferApartRow : OpenClaim := { program := "ytgjhjdjbhmblmaa", sum := "b2d4b4a63fc3e258753b22f9f905d128e5e1da31cbb200b7ef444a0a4c8ced4b", func := "drydock/drydocklaw32.TransferApart", spec := "transferApart", unfollowed := true, recurses := true, apart := false }
def TransferApartSaid : Prop := transferApartRow.holds Try.pinned (OpenSpec.ofChange transferApartSpec)

/-- ITS FALSE NEIGHBOUR: 'it returns false'. Refute it at one input. -/
def transferApartWrong : ChangeSpec := { name := "transferApart", fn := fun _ => fun
  | [d1, d2, d3] => { results := [.lit (.bool false)], args := [d1, d2, d3] }
  | _ => none }
def TransferApartWrongFalsely : Prop := transferApartRow.holds Try.pinned (OpenSpec.ofChange transferApartWrong)

/- THE SECOND FORM. 'bulk': how many values and letters a reading holds, each counted each time it is reached (what is shared counts as often as it is met; a slice's spare places count too). A statement '..UptoSaid' is the law's where the arguments, and the package variables that the reading takes, are together of bulk at most 1048576: NARROWER than '..Said'. Prove '..Said' where nothing that the law and all that it calls make is longer than what came in: it says more and counts as full. Else prove '..UptoSaid'. A law counts once. -/
mutual
def uptoBulk {H : Type} : DataW H → Nat
  | .lit (.string bytes) => bytes.length + 1
  | .lit _ => 1
  | .nil => 1
  | .ptr d => uptoBulk d + 1
  | .slice elems spare => uptoBulkAll elems + uptoBulkAll spare + 1
  | .agg parts => uptoBulkAll parts + 1
  | .iface _ d => uptoBulk d + 1
  | .map entries => uptoBulkEntries entries + 1
  | .held _ => 1
def uptoBulkAll {H : Type} : List (DataW H) → Nat
  | [] => 0
  | d :: r => uptoBulk d + uptoBulkAll r
def uptoBulkEntries {H : Type} : List (Lit × DataW H) → Nat
  | [] => 0
  | x :: r => uptoBulkEntry x + uptoBulkEntries r
def uptoBulkEntry {H : Type} : Lit × DataW H → Nat
  | (.string bytes, d) => bytes.length + uptoBulk d + 1
  | (_, d) => uptoBulk d + 1
 end
def uptoSmall : (H : Type) → List (DataW H) → Bool := fun _ ds => decide (uptoBulkAll ds ≤ 1048576)
def OpenSpec.upto (s : _root_.Go.ChangeSpec) : _root_.Go.OpenSpec := { _root_.Go.OpenSpec.ofChange s with cond := some uptoSmall }

/-- 'drydocklaw32.TransferValid', WHERE WHAT IT READS IS OF BULK AT MOST 1048576: true; the input reads as it did. -/
def transferValidUptoRow : OpenClaim := { program := "ytgjhjdjbhmblmaa", sum := "b2d4b4a63fc3e258753b22f9f905d128e5e1da31cbb200b7ef444a0a4c8ced4b", func := "drydock/drydocklaw32.TransferValid", spec := "transferValid", unfollowed := true, recurses := true, apart := false, narrowed := true }
def TransferValidUptoSaid : Prop := transferValidUptoRow.holds Try.pinned (OpenSpec.upto transferValidSpec)

/-- 'drydocklaw32.TransferSteps', WHERE WHAT IT READS IS OF BULK AT MOST 1048576: true; the input reads as it did. -/
def transferStepsUptoRow : OpenClaim := { program := "ytgjhjdjbhmblmaa", sum := "b2d4b4a63fc3e258753b22f9f905d128e5e1da31cbb200b7ef444a0a4c8ced4b", func := "drydock/drydocklaw32.TransferSteps", spec := "transferSteps", unfollowed := true, recurses := true, apart := false, narrowed := true }
def TransferStepsUptoSaid : Prop := transferStepsUptoRow.holds Try.pinned (OpenSpec.upto transferStepsSpec)

/-- 'drydocklaw32.TransferRuns', WHERE WHAT IT READS IS OF BULK AT MOST 1048576: true; the input reads as it did. -/
def transferRunsUptoRow : OpenClaim := { program := "ytgjhjdjbhmblmaa", sum := "b2d4b4a63fc3e258753b22f9f905d128e5e1da31cbb200b7ef444a0a4c8ced4b", func := "drydock/drydocklaw32.TransferRuns", spec := "transferRuns", unfollowed := true, recurses := true, apart := false, narrowed := true }
def TransferRunsUptoSaid : Prop := transferRunsUptoRow.holds Try.pinned (OpenSpec.upto transferRunsSpec)

/-- 'drydocklaw32.TransferBounds', WHERE WHAT IT READS IS OF BULK AT MOST 1048576: true; the input reads as it did. -/
def transferBoundsUptoRow : OpenClaim := { program := "ytgjhjdjbhmblmaa", sum := "b2d4b4a63fc3e258753b22f9f905d128e5e1da31cbb200b7ef444a0a4c8ced4b", func := "drydock/drydocklaw32.TransferBounds", spec := "transferBounds", unfollowed := true, recurses := true, apart := false, narrowed := true }
def TransferBoundsUptoSaid : Prop := transferBoundsUptoRow.holds Try.pinned (OpenSpec.upto transferBoundsSpec)

/-- 'drydocklaw32.TransferConserves', WHERE WHAT IT READS IS OF BULK AT MOST 1048576: true; the input reads as it did. -/
def transferConservesUptoRow : OpenClaim := { program := "ytgjhjdjbhmblmaa", sum := "b2d4b4a63fc3e258753b22f9f905d128e5e1da31cbb200b7ef444a0a4c8ced4b", func := "drydock/drydocklaw32.TransferConserves", spec := "transferConserves", unfollowed := true, recurses := true, apart := false, narrowed := true }
def TransferConservesUptoSaid : Prop := transferConservesUptoRow.holds Try.pinned (OpenSpec.upto transferConservesSpec)

/-- 'drydocklaw32.TransferOneLink', WHERE WHAT IT READS IS OF BULK AT MOST 1048576: true; the input reads as it did. -/
def transferOneLinkUptoRow : OpenClaim := { program := "ytgjhjdjbhmblmaa", sum := "b2d4b4a63fc3e258753b22f9f905d128e5e1da31cbb200b7ef444a0a4c8ced4b", func := "drydock/drydocklaw32.TransferOneLink", spec := "transferOneLink", unfollowed := true, recurses := true, apart := false, narrowed := true }
def TransferOneLinkUptoSaid : Prop := transferOneLinkUptoRow.holds Try.pinned (OpenSpec.upto transferOneLinkSpec)

/-- 'drydocklaw32.TransferApart', WHERE WHAT IT READS IS OF BULK AT MOST 1048576: true; the input reads as it did. -/
def transferApartUptoRow : OpenClaim := { program := "ytgjhjdjbhmblmaa", sum := "b2d4b4a63fc3e258753b22f9f905d128e5e1da31cbb200b7ef444a0a4c8ced4b", func := "drydock/drydocklaw32.TransferApart", spec := "transferApart", unfollowed := true, recurses := true, apart := false, narrowed := true }
def TransferApartUptoSaid : Prop := transferApartUptoRow.holds Try.pinned (OpenSpec.upto transferApartSpec)

end Rows
end Go.Proofs.Ytgjhjdjbhmblmaa
