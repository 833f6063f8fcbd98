/-
  No cell of these rows narrows 'for every input' (looked for: loops, veiled, ifaces, maps, wideKeys, modest, calm, conditions, laid).
  DERIVED. THE GIVEN ROWS OF THIS SEAT. 7 by the template 'for every input the law returns true; each argument reads behind the call as it read before'; 0 by the template 'total and deterministic' (their statements: YtlcolmifmhdboaaTotals.lean).
  GIVEN WITH THE SEED: the statements are not yours to turn. If you find one false, say at which input.
  Laid BY PROGRAM, IN A SANDBOX (cutbox-rows.mjs): the forced cells as the released guide's own fill.sh prints them over the translation a0f655a9775b1d48… (all of the seat's roots in one cut). By AI agents, Wed Nov 11 2026. No macro, syntax, notation, axiom, sorry.
-/
import Derived.Test.YtlcolmifmhdboaaChecked
import GoSem.Claim
import GoSem.ClaimJoined
import GoSem.ClaimMapViews
import Derived.JoinedTies
import Derived.KernelRfl
namespace Go.Proofs.Ytlcolmifmhdboaa
/- THE CELL 'sum', in the pinned program and in every row, IS THE sha256 OF THE DUMP (.gsa) THAT YtlcolmifmhdboaaProg.lean LOADS. Nothing in Lean hashes anything: it is a label: what it is worth is what the hold of that sum in a sandbox is worth. -/
noncomputable def Try.pinned : Pinned := { name := "ytlcolmifmhdboaa", sum := "a0f655a9775b1d4868ee7661957041e8a02d9d64d16aa4006e3bde34eac5c4be", checked := Try.checked }
namespace Rows
def none {H : Type} : Left H := { results := [], args := [] }

/-- 'drydocklaw02.FractionReduced': WHATEVER THE INPUT: true; the input reads as it did. -/
def fractionReducedSpec : ChangeSpec := { name := "fractionReduced", fn := fun _ => fun
  | [d1, d2, d3] => { results := [.lit (.bool true)], args := [d1, d2, d3] }
  | _ => none }
def fractionReducedRow : OpenClaim := { program := "ytlcolmifmhdboaa", sum := "a0f655a9775b1d4868ee7661957041e8a02d9d64d16aa4006e3bde34eac5c4be", func := "drydock/drydocklaw02.FractionReduced", spec := "fractionReduced", apart := false }
def FractionReducedSaid : Prop := fractionReducedRow.holds Try.pinned (OpenSpec.ofChange fractionReducedSpec)

/-- ITS FALSE NEIGHBOUR: 'it returns false'. Refute it at one input. -/
def fractionReducedWrong : ChangeSpec := { name := "fractionReduced", fn := fun _ => fun
  | [d1, d2, d3] => { results := [.lit (.bool false)], args := [d1, d2, d3] }
  | _ => none }
def FractionReducedWrongFalsely : Prop := fractionReducedRow.holds Try.pinned (OpenSpec.ofChange fractionReducedWrong)

/-- 'drydocklaw03.IntervalIncludes': WHATEVER THE INPUT: true; the input reads as it did. -/
def intervalIncludesSpec : ChangeSpec := { name := "intervalIncludes", fn := fun _ => fun
  | [d1, d2, d3, d4] => { results := [.lit (.bool true)], args := [d1, d2, d3, d4] }
  | _ => none }
def intervalIncludesRow : OpenClaim := { program := "ytlcolmifmhdboaa", sum := "a0f655a9775b1d4868ee7661957041e8a02d9d64d16aa4006e3bde34eac5c4be", func := "drydock/drydocklaw03.IntervalIncludes", spec := "intervalIncludes", unfollowed := true, recurses := true, apart := false }
def IntervalIncludesSaid : Prop := intervalIncludesRow.holds Try.pinned (OpenSpec.ofChange intervalIncludesSpec)

/-- ITS FALSE NEIGHBOUR: 'it returns false'. Refute it at one input. -/
def intervalIncludesWrong : ChangeSpec := { name := "intervalIncludes", fn := fun _ => fun
  | [d1, d2, d3, d4] => { results := [.lit (.bool false)], args := [d1, d2, d3, d4] }
  | _ => none }
def IntervalIncludesWrongFalsely : Prop := intervalIncludesRow.holds Try.pinned (OpenSpec.ofChange intervalIncludesWrong)

/-- 'drydocklaw03.IntervalMonotone': WHATEVER THE INPUT: true; the input reads as it did. -/
def intervalMonotoneSpec : ChangeSpec := { name := "intervalMonotone", fn := fun _ => fun
  | [d1, d2, d3, d4] => { results := [.lit (.bool true)], args := [d1, d2, d3, d4] }
  | _ => none }
def intervalMonotoneRow : OpenClaim := { program := "ytlcolmifmhdboaa", sum := "a0f655a9775b1d4868ee7661957041e8a02d9d64d16aa4006e3bde34eac5c4be", func := "drydock/drydocklaw03.IntervalMonotone", spec := "intervalMonotone", unfollowed := true, recurses := true, apart := false }
def IntervalMonotoneSaid : Prop := intervalMonotoneRow.holds Try.pinned (OpenSpec.ofChange intervalMonotoneSpec)

/-- ITS FALSE NEIGHBOUR: 'it returns false'. Refute it at one input. -/
def intervalMonotoneWrong : ChangeSpec := { name := "intervalMonotone", fn := fun _ => fun
  | [d1, d2, d3, d4] => { results := [.lit (.bool false)], args := [d1, d2, d3, d4] }
  | _ => none }
def IntervalMonotoneWrongFalsely : Prop := intervalMonotoneRow.holds Try.pinned (OpenSpec.ofChange intervalMonotoneWrong)

/-- 'drydocklaw03.IntervalHulls': WHATEVER THE INPUT: true; the input reads as it did. -/
def intervalHullsSpec : ChangeSpec := { name := "intervalHulls", fn := fun _ => fun
  | [d1, d2] => { results := [.lit (.bool true)], args := [d1, d2] }
  | _ => none }
def intervalHullsRow : OpenClaim := { program := "ytlcolmifmhdboaa", sum := "a0f655a9775b1d4868ee7661957041e8a02d9d64d16aa4006e3bde34eac5c4be", func := "drydock/drydocklaw03.IntervalHulls", spec := "intervalHulls", unfollowed := true, recurses := true, apart := false }
def IntervalHullsSaid : Prop := intervalHullsRow.holds Try.pinned (OpenSpec.ofChange intervalHullsSpec)

/-- ITS FALSE NEIGHBOUR: 'it returns false'. Refute it at one input. -/
def intervalHullsWrong : ChangeSpec := { name := "intervalHulls", fn := fun _ => fun
  | [d1, d2] => { results := [.lit (.bool false)], args := [d1, d2] }
  | _ => none }
def IntervalHullsWrongFalsely : Prop := intervalHullsRow.holds Try.pinned (OpenSpec.ofChange intervalHullsWrong)

/-- 'drydocklaw03.IntervalLattice': WHATEVER THE INPUT: true; the input reads as it did. -/
def intervalLatticeSpec : ChangeSpec := { name := "intervalLattice", fn := fun _ => fun
  | [d1, d2, d3] => { results := [.lit (.bool true)], args := [d1, d2, d3] }
  | _ => none }
def intervalLatticeRow : OpenClaim := { program := "ytlcolmifmhdboaa", sum := "a0f655a9775b1d4868ee7661957041e8a02d9d64d16aa4006e3bde34eac5c4be", func := "drydock/drydocklaw03.IntervalLattice", spec := "intervalLattice", unfollowed := true, recurses := true, apart := false }
def IntervalLatticeSaid : Prop := intervalLatticeRow.holds Try.pinned (OpenSpec.ofChange intervalLatticeSpec)

/-- ITS FALSE NEIGHBOUR: 'it returns false'. Refute it at one input. -/
def intervalLatticeWrong : ChangeSpec := { name := "intervalLattice", fn := fun _ => fun
  | [d1, d2, d3] => { results := [.lit (.bool false)], args := [d1, d2, d3] }
  | _ => none }
def IntervalLatticeWrongFalsely : Prop := intervalLatticeRow.holds Try.pinned (OpenSpec.ofChange intervalLatticeWrong)

/-- 'drydocklaw03.IntervalExact': WHATEVER THE INPUT: true; the input reads as it did. -/
def intervalExactSpec : ChangeSpec := { name := "intervalExact", fn := fun _ => fun
  | [d1, d2, d3] => { results := [.lit (.bool true)], args := [d1, d2, d3] }
  | _ => none }
def intervalExactRow : OpenClaim := { program := "ytlcolmifmhdboaa", sum := "a0f655a9775b1d4868ee7661957041e8a02d9d64d16aa4006e3bde34eac5c4be", func := "drydock/drydocklaw03.IntervalExact", spec := "intervalExact", unfollowed := true, recurses := true, apart := false }
def IntervalExactSaid : Prop := intervalExactRow.holds Try.pinned (OpenSpec.ofChange intervalExactSpec)

/-- ITS FALSE NEIGHBOUR: 'it returns false'. Refute it at one input. -/
def intervalExactWrong : ChangeSpec := { name := "intervalExact", fn := fun _ => fun
  | [d1, d2, d3] => { results := [.lit (.bool false)], args := [d1, d2, d3] }
  | _ => none }
def IntervalExactWrongFalsely : Prop := intervalExactRow.holds Try.pinned (OpenSpec.ofChange intervalExactWrong)

/-- 'drydocklaw03.IntervalRounds': WHATEVER THE INPUT: true; the input reads as it did. -/
def intervalRoundsSpec : ChangeSpec := { name := "intervalRounds", fn := fun _ => fun
  | [d1, d2] => { results := [.lit (.bool true)], args := [d1, d2] }
  | _ => none }
def intervalRoundsRow : OpenClaim := { program := "ytlcolmifmhdboaa", sum := "a0f655a9775b1d4868ee7661957041e8a02d9d64d16aa4006e3bde34eac5c4be", func := "drydock/drydocklaw03.IntervalRounds", spec := "intervalRounds", unfollowed := true, recurses := true, apart := false }
def IntervalRoundsSaid : Prop := intervalRoundsRow.holds Try.pinned (OpenSpec.ofChange intervalRoundsSpec)

/-- ITS FALSE NEIGHBOUR: 'it returns false'. Refute it at one input. -/
def intervalRoundsWrong : ChangeSpec := { name := "intervalRounds", fn := fun _ => fun
  | [d1, d2] => { results := [.lit (.bool false)], args := [d1, d2] }
  | _ => none }
def IntervalRoundsWrongFalsely : Prop := intervalRoundsRow.holds Try.pinned (OpenSpec.ofChange intervalRoundsWrong)

/- THE SECOND FORM. 'bulk': how many values and letters a reading holds, each counted each time it is reached (what is shared counts as often as it is met; a slice's spare places count too). A statement '..UptoSaid' is the law's where the arguments, and the package variables that the reading takes, are together of bulk at most 1048576: NARROWER than '..Said'. Prove '..Said' where nothing that the law and all that it calls make is longer than what came in: it says more and counts as full. Else prove '..UptoSaid'. A law counts once. -/
mutual
def uptoBulk {H : Type} : DataW H → Nat
  | .lit (.string bytes) => bytes.length + 1
  | .lit _ => 1
  | .nil => 1
  | .ptr d => uptoBulk d + 1
  | .slice elems spare => uptoBulkAll elems + uptoBulkAll spare + 1
  | .agg parts => uptoBulkAll parts + 1
  | .iface _ d => uptoBulk d + 1
  | .map entries => uptoBulkEntries entries + 1
  | .held _ => 1
def uptoBulkAll {H : Type} : List (DataW H) → Nat
  | [] => 0
  | d :: r => uptoBulk d + uptoBulkAll r
def uptoBulkEntries {H : Type} : List (Lit × DataW H) → Nat
  | [] => 0
  | x :: r => uptoBulkEntry x + uptoBulkEntries r
def uptoBulkEntry {H : Type} : Lit × DataW H → Nat
  | (.string bytes, d) => bytes.length + uptoBulk d + 1
  | (_, d) => uptoBulk d + 1
 end
def uptoSmall : (H : Type) → List (DataW H) → Bool := fun _ ds => decide (uptoBulkAll ds ≤ 1048576)
def OpenSpec.upto (s : _root_.Go.ChangeSpec) : _root_.Go.OpenSpec := { _root_.Go.OpenSpec.ofChange s with cond := some uptoSmall }

/-- 'drydocklaw02.FractionReduced', WHERE WHAT IT READS IS OF BULK AT MOST 1048576: true; the input reads as it did. -/
def fractionReducedUptoRow : OpenClaim := { program := "ytlcolmifmhdboaa", sum := "a0f655a9775b1d4868ee7661957041e8a02d9d64d16aa4006e3bde34eac5c4be", func := "drydock/drydocklaw02.FractionReduced", spec := "fractionReduced", apart := false, narrowed := true }
def FractionReducedUptoSaid : Prop := fractionReducedUptoRow.holds Try.pinned (OpenSpec.upto fractionReducedSpec)

/-- 'drydocklaw03.IntervalIncludes', WHERE WHAT IT READS IS OF BULK AT MOST 1048576: true; the input reads as it did. -/
def intervalIncludesUptoRow : OpenClaim := { program := "ytlcolmifmhdboaa", sum := "a0f655a9775b1d4868ee7661957041e8a02d9d64d16aa4006e3bde34eac5c4be", func := "drydock/drydocklaw03.IntervalIncludes", spec := "intervalIncludes", unfollowed := true, recurses := true, apart := false, narrowed := true }
def IntervalIncludesUptoSaid : Prop := intervalIncludesUptoRow.holds Try.pinned (OpenSpec.upto intervalIncludesSpec)

/-- 'drydocklaw03.IntervalMonotone', WHERE WHAT IT READS IS OF BULK AT MOST 1048576: true; the input reads as it did. -/
def intervalMonotoneUptoRow : OpenClaim := { program := "ytlcolmifmhdboaa", sum := "a0f655a9775b1d4868ee7661957041e8a02d9d64d16aa4006e3bde34eac5c4be", func := "drydock/drydocklaw03.IntervalMonotone", spec := "intervalMonotone", unfollowed := true, recurses := true, apart := false, narrowed := true }
def IntervalMonotoneUptoSaid : Prop := intervalMonotoneUptoRow.holds Try.pinned (OpenSpec.upto intervalMonotoneSpec)

/-- 'drydocklaw03.IntervalHulls', WHERE WHAT IT READS IS OF BULK AT MOST 1048576: true; the input reads as it did. -/
def intervalHullsUptoRow : OpenClaim := { program := "ytlcolmifmhdboaa", sum := "a0f655a9775b1d4868ee7661957041e8a02d9d64d16aa4006e3bde34eac5c4be", func := "drydock/drydocklaw03.IntervalHulls", spec := "intervalHulls", unfollowed := true, recurses := true, apart := false, narrowed := true }
def IntervalHullsUptoSaid : Prop := intervalHullsUptoRow.holds Try.pinned (OpenSpec.upto intervalHullsSpec)

/-- 'drydocklaw03.IntervalLattice', WHERE WHAT IT READS IS OF BULK AT MOST 1048576: true; the input reads as it did. -/
def intervalLatticeUptoRow : OpenClaim := { program := "ytlcolmifmhdboaa", sum := "a0f655a9775b1d4868ee7661957041e8a02d9d64d16aa4006e3bde34eac5c4be", func := "drydock/drydocklaw03.IntervalLattice", spec := "intervalLattice", unfollowed := true, recurses := true, apart := false, narrowed := true }
def IntervalLatticeUptoSaid : Prop := intervalLatticeUptoRow.holds Try.pinned (OpenSpec.upto intervalLatticeSpec)

/-- 'drydocklaw03.IntervalExact', WHERE WHAT IT READS IS OF BULK AT MOST 1048576: true; the input reads as it did. -/
def intervalExactUptoRow : OpenClaim := { program := "ytlcolmifmhdboaa", sum := "a0f655a9775b1d4868ee7661957041e8a02d9d64d16aa4006e3bde34eac5c4be", func := "drydock/drydocklaw03.IntervalExact", spec := "intervalExact", unfollowed := true, recurses := true, apart := false, narrowed := true }
def IntervalExactUptoSaid : Prop := intervalExactUptoRow.holds Try.pinned (OpenSpec.upto intervalExactSpec)

/-- 'drydocklaw03.IntervalRounds', WHERE WHAT IT READS IS OF BULK AT MOST 1048576: true; the input reads as it did. -/
def intervalRoundsUptoRow : OpenClaim := { program := "ytlcolmifmhdboaa", sum := "a0f655a9775b1d4868ee7661957041e8a02d9d64d16aa4006e3bde34eac5c4be", func := "drydock/drydocklaw03.IntervalRounds", spec := "intervalRounds", unfollowed := true, recurses := true, apart := false, narrowed := true }
def IntervalRoundsUptoSaid : Prop := intervalRoundsUptoRow.holds Try.pinned (OpenSpec.upto intervalRoundsSpec)

end Rows
end Go.Proofs.Ytlcolmifmhdboaa
