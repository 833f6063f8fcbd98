/-
  No cell of these rows narrows 'for every input' (looked for: loops, veiled, ifaces, maps, wideKeys, modest, calm, conditions, laid).
  DERIVED. THE GIVEN ROWS OF THIS SEAT. 9 by the template 'for every input the law returns true; each argument reads behind the call as it read before'; 0 by the template 'total and deterministic' (their statements: YtcenpboflecbcaaTotals.lean).
  GIVEN WITH THE SEED: the statements are not yours to turn. If you find one false, say at which input.
  Laid BY PROGRAM, IN A SANDBOX (cutbox-rows.mjs): the forced cells as the released guide's own fill.sh prints them over the translation 90cc3929e4a6cb41… (all of the seat's roots in one cut). By AI agents, Wed Nov 11 2026. No macro, syntax, notation, axiom, sorry.
-/
import Derived.Test.YtcenpboflecbcaaChecked
import GoSem.Claim
import GoSem.ClaimJoined
import GoSem.ClaimMapViews
import Derived.JoinedTies
import Derived.KernelRfl
namespace Go.Proofs.Ytcenpboflecbcaa
/- THE CELL 'sum', in the pinned program and in every row, IS THE sha256 OF THE DUMP (.gsa) THAT YtcenpboflecbcaaProg.lean LOADS. Nothing in Lean hashes anything: it is a label: what it is worth is what the hold of that sum in a sandbox is worth. -/
noncomputable def Try.pinned : Pinned := { name := "ytcenpboflecbcaa", sum := "90cc3929e4a6cb41784f252032ab330ad2bd27b4eaf1a7dfc4ead5e31803c694", checked := Try.checked }
namespace Rows
def none {H : Type} : Left H := { results := [], args := [] }

/-- 'drydocklaw01.NaturalLong': WHATEVER THE INPUT: true; the input reads as it did. -/
def naturalLongSpec : ChangeSpec := { name := "naturalLong", fn := fun _ => fun
  | [d1, d2, d3] => { results := [.lit (.bool true)], args := [d1, d2, d3] }
  | _ => none }
def naturalLongRow : OpenClaim := { program := "ytcenpboflecbcaa", sum := "90cc3929e4a6cb41784f252032ab330ad2bd27b4eaf1a7dfc4ead5e31803c694", func := "drydock/drydocklaw01.NaturalLong", spec := "naturalLong", apart := false }
def NaturalLongSaid : Prop := naturalLongRow.holds Try.pinned (OpenSpec.ofChange naturalLongSpec)

/-- ITS FALSE NEIGHBOUR: 'it returns false'. Refute it at one input. -/
def naturalLongWrong : ChangeSpec := { name := "naturalLong", fn := fun _ => fun
  | [d1, d2, d3] => { results := [.lit (.bool false)], args := [d1, d2, d3] }
  | _ => none }
def NaturalLongWrongFalsely : Prop := naturalLongRow.holds Try.pinned (OpenSpec.ofChange naturalLongWrong)

/-- 'drydocklaw01.NaturalOrder': WHATEVER THE INPUT: true; the input reads as it did. -/
def naturalOrderSpec : ChangeSpec := { name := "naturalOrder", fn := fun _ => fun
  | [d1, d2, d3] => { results := [.lit (.bool true)], args := [d1, d2, d3] }
  | _ => none }
def naturalOrderRow : OpenClaim := { program := "ytcenpboflecbcaa", sum := "90cc3929e4a6cb41784f252032ab330ad2bd27b4eaf1a7dfc4ead5e31803c694", func := "drydock/drydocklaw01.NaturalOrder", spec := "naturalOrder", apart := false }
def NaturalOrderSaid : Prop := naturalOrderRow.holds Try.pinned (OpenSpec.ofChange naturalOrderSpec)

/-- ITS FALSE NEIGHBOUR: 'it returns false'. Refute it at one input. -/
def naturalOrderWrong : ChangeSpec := { name := "naturalOrder", fn := fun _ => fun
  | [d1, d2, d3] => { results := [.lit (.bool false)], args := [d1, d2, d3] }
  | _ => none }
def NaturalOrderWrongFalsely : Prop := naturalOrderRow.holds Try.pinned (OpenSpec.ofChange naturalOrderWrong)

/-- 'drydocklaw01.NaturalText': WHATEVER THE INPUT: true; the input reads as it did. -/
def naturalTextSpec : ChangeSpec := { name := "naturalText", fn := fun _ => fun
  | [d1, d2, d3] => { results := [.lit (.bool true)], args := [d1, d2, d3] }
  | _ => none }
def naturalTextRow : OpenClaim := { program := "ytcenpboflecbcaa", sum := "90cc3929e4a6cb41784f252032ab330ad2bd27b4eaf1a7dfc4ead5e31803c694", func := "drydock/drydocklaw01.NaturalText", spec := "naturalText", apart := false }
def NaturalTextSaid : Prop := naturalTextRow.holds Try.pinned (OpenSpec.ofChange naturalTextSpec)

/-- ITS FALSE NEIGHBOUR: 'it returns false'. Refute it at one input. -/
def naturalTextWrong : ChangeSpec := { name := "naturalText", fn := fun _ => fun
  | [d1, d2, d3] => { results := [.lit (.bool false)], args := [d1, d2, d3] }
  | _ => none }
def NaturalTextWrongFalsely : Prop := naturalTextRow.holds Try.pinned (OpenSpec.ofChange naturalTextWrong)

/-- 'drydocklaw01.NaturalRing': WHATEVER THE INPUT: true; the input reads as it did. -/
def naturalRingSpec : ChangeSpec := { name := "naturalRing", fn := fun _ => fun
  | [d1, d2, d3] => { results := [.lit (.bool true)], args := [d1, d2, d3] }
  | _ => none }
def naturalRingRow : OpenClaim := { program := "ytcenpboflecbcaa", sum := "90cc3929e4a6cb41784f252032ab330ad2bd27b4eaf1a7dfc4ead5e31803c694", func := "drydock/drydocklaw01.NaturalRing", spec := "naturalRing", apart := false }
def NaturalRingSaid : Prop := naturalRingRow.holds Try.pinned (OpenSpec.ofChange naturalRingSpec)

/-- ITS FALSE NEIGHBOUR: 'it returns false'. Refute it at one input. -/
def naturalRingWrong : ChangeSpec := { name := "naturalRing", fn := fun _ => fun
  | [d1, d2, d3] => { results := [.lit (.bool false)], args := [d1, d2, d3] }
  | _ => none }
def NaturalRingWrongFalsely : Prop := naturalRingRow.holds Try.pinned (OpenSpec.ofChange naturalRingWrong)

/-- 'drydocklaw01.NaturalDivides': WHATEVER THE INPUT: true; the input reads as it did. -/
def naturalDividesSpec : ChangeSpec := { name := "naturalDivides", fn := fun _ => fun
  | [d1, d2] => { results := [.lit (.bool true)], args := [d1, d2] }
  | _ => none }
def naturalDividesRow : OpenClaim := { program := "ytcenpboflecbcaa", sum := "90cc3929e4a6cb41784f252032ab330ad2bd27b4eaf1a7dfc4ead5e31803c694", func := "drydock/drydocklaw01.NaturalDivides", spec := "naturalDivides", apart := false }
def NaturalDividesSaid : Prop := naturalDividesRow.holds Try.pinned (OpenSpec.ofChange naturalDividesSpec)

/-- ITS FALSE NEIGHBOUR: 'it returns false'. Refute it at one input. -/
def naturalDividesWrong : ChangeSpec := { name := "naturalDivides", fn := fun _ => fun
  | [d1, d2] => { results := [.lit (.bool false)], args := [d1, d2] }
  | _ => none }
def NaturalDividesWrongFalsely : Prop := naturalDividesRow.holds Try.pinned (OpenSpec.ofChange naturalDividesWrong)

/-- 'drydocklaw01.NaturalGcd': WHATEVER THE INPUT: true; the input reads as it did. -/
def naturalGcdSpec : ChangeSpec := { name := "naturalGcd", fn := fun _ => fun
  | [d1, d2, d3] => { results := [.lit (.bool true)], args := [d1, d2, d3] }
  | _ => none }
def naturalGcdRow : OpenClaim := { program := "ytcenpboflecbcaa", sum := "90cc3929e4a6cb41784f252032ab330ad2bd27b4eaf1a7dfc4ead5e31803c694", func := "drydock/drydocklaw01.NaturalGcd", spec := "naturalGcd", apart := false }
def NaturalGcdSaid : Prop := naturalGcdRow.holds Try.pinned (OpenSpec.ofChange naturalGcdSpec)

/-- ITS FALSE NEIGHBOUR: 'it returns false'. Refute it at one input. -/
def naturalGcdWrong : ChangeSpec := { name := "naturalGcd", fn := fun _ => fun
  | [d1, d2, d3] => { results := [.lit (.bool false)], args := [d1, d2, d3] }
  | _ => none }
def NaturalGcdWrongFalsely : Prop := naturalGcdRow.holds Try.pinned (OpenSpec.ofChange naturalGcdWrong)

/-- 'drydocklaw01.NaturalShifts': WHATEVER THE INPUT: true; the input reads as it did. -/
def naturalShiftsSpec : ChangeSpec := { name := "naturalShifts", fn := fun _ => fun
  | [d1, d2, d3] => { results := [.lit (.bool true)], args := [d1, d2, d3] }
  | _ => none }
def naturalShiftsRow : OpenClaim := { program := "ytcenpboflecbcaa", sum := "90cc3929e4a6cb41784f252032ab330ad2bd27b4eaf1a7dfc4ead5e31803c694", func := "drydock/drydocklaw01.NaturalShifts", spec := "naturalShifts", apart := false }
def NaturalShiftsSaid : Prop := naturalShiftsRow.holds Try.pinned (OpenSpec.ofChange naturalShiftsSpec)

/-- ITS FALSE NEIGHBOUR: 'it returns false'. Refute it at one input. -/
def naturalShiftsWrong : ChangeSpec := { name := "naturalShifts", fn := fun _ => fun
  | [d1, d2, d3] => { results := [.lit (.bool false)], args := [d1, d2, d3] }
  | _ => none }
def NaturalShiftsWrongFalsely : Prop := naturalShiftsRow.holds Try.pinned (OpenSpec.ofChange naturalShiftsWrong)

/-- 'drydocklaw01.NaturalExact': WHATEVER THE INPUT: true; the input reads as it did. -/
def naturalExactSpec : ChangeSpec := { name := "naturalExact", fn := fun _ => fun
  | [d1, d2, d3, d4] => { results := [.lit (.bool true)], args := [d1, d2, d3, d4] }
  | _ => none }
def naturalExactRow : OpenClaim := { program := "ytcenpboflecbcaa", sum := "90cc3929e4a6cb41784f252032ab330ad2bd27b4eaf1a7dfc4ead5e31803c694", func := "drydock/drydocklaw01.NaturalExact", spec := "naturalExact", apart := false }
def NaturalExactSaid : Prop := naturalExactRow.holds Try.pinned (OpenSpec.ofChange naturalExactSpec)

/-- ITS FALSE NEIGHBOUR: 'it returns false'. Refute it at one input. -/
def naturalExactWrong : ChangeSpec := { name := "naturalExact", fn := fun _ => fun
  | [d1, d2, d3, d4] => { results := [.lit (.bool false)], args := [d1, d2, d3, d4] }
  | _ => none }
def NaturalExactWrongFalsely : Prop := naturalExactRow.holds Try.pinned (OpenSpec.ofChange naturalExactWrong)

/-- 'drydocklaw01.NaturalLimits': WHATEVER THE INPUT: true; the input reads as it did. -/
def naturalLimitsSpec : ChangeSpec := { name := "naturalLimits", fn := fun _ => fun
  | [d1, d2, d3] => { results := [.lit (.bool true)], args := [d1, d2, d3] }
  | _ => none }
def naturalLimitsRow : OpenClaim := { program := "ytcenpboflecbcaa", sum := "90cc3929e4a6cb41784f252032ab330ad2bd27b4eaf1a7dfc4ead5e31803c694", func := "drydock/drydocklaw01.NaturalLimits", spec := "naturalLimits", apart := false }
def NaturalLimitsSaid : Prop := naturalLimitsRow.holds Try.pinned (OpenSpec.ofChange naturalLimitsSpec)

/-- ITS FALSE NEIGHBOUR: 'it returns false'. Refute it at one input. -/
def naturalLimitsWrong : ChangeSpec := { name := "naturalLimits", fn := fun _ => fun
  | [d1, d2, d3] => { results := [.lit (.bool false)], args := [d1, d2, d3] }
  | _ => none }
def NaturalLimitsWrongFalsely : Prop := naturalLimitsRow.holds Try.pinned (OpenSpec.ofChange naturalLimitsWrong)

/- THE SECOND FORM. 'bulk': how many values and letters a reading holds, each counted each time it is reached (what is shared counts as often as it is met; a slice's spare places count too). A statement '..UptoSaid' is the law's where the arguments, and the package variables that the reading takes, are together of bulk at most 1048576: NARROWER than '..Said'. Prove '..Said' where nothing that the law and all that it calls make is longer than what came in: it says more and counts as full. Else prove '..UptoSaid'. A law counts once. -/
mutual
def uptoBulk {H : Type} : DataW H → Nat
  | .lit (.string bytes) => bytes.length + 1
  | .lit _ => 1
  | .nil => 1
  | .ptr d => uptoBulk d + 1
  | .slice elems spare => uptoBulkAll elems + uptoBulkAll spare + 1
  | .agg parts => uptoBulkAll parts + 1
  | .iface _ d => uptoBulk d + 1
  | .map entries => uptoBulkEntries entries + 1
  | .held _ => 1
def uptoBulkAll {H : Type} : List (DataW H) → Nat
  | [] => 0
  | d :: r => uptoBulk d + uptoBulkAll r
def uptoBulkEntries {H : Type} : List (Lit × DataW H) → Nat
  | [] => 0
  | x :: r => uptoBulkEntry x + uptoBulkEntries r
def uptoBulkEntry {H : Type} : Lit × DataW H → Nat
  | (.string bytes, d) => bytes.length + uptoBulk d + 1
  | (_, d) => uptoBulk d + 1
 end
def uptoSmall : (H : Type) → List (DataW H) → Bool := fun _ ds => decide (uptoBulkAll ds ≤ 1048576)
def OpenSpec.upto (s : _root_.Go.ChangeSpec) : _root_.Go.OpenSpec := { _root_.Go.OpenSpec.ofChange s with cond := some uptoSmall }

/-- 'drydocklaw01.NaturalLong', WHERE WHAT IT READS IS OF BULK AT MOST 1048576: true; the input reads as it did. -/
def naturalLongUptoRow : OpenClaim := { program := "ytcenpboflecbcaa", sum := "90cc3929e4a6cb41784f252032ab330ad2bd27b4eaf1a7dfc4ead5e31803c694", func := "drydock/drydocklaw01.NaturalLong", spec := "naturalLong", apart := false, narrowed := true }
def NaturalLongUptoSaid : Prop := naturalLongUptoRow.holds Try.pinned (OpenSpec.upto naturalLongSpec)

/-- 'drydocklaw01.NaturalOrder', WHERE WHAT IT READS IS OF BULK AT MOST 1048576: true; the input reads as it did. -/
def naturalOrderUptoRow : OpenClaim := { program := "ytcenpboflecbcaa", sum := "90cc3929e4a6cb41784f252032ab330ad2bd27b4eaf1a7dfc4ead5e31803c694", func := "drydock/drydocklaw01.NaturalOrder", spec := "naturalOrder", apart := false, narrowed := true }
def NaturalOrderUptoSaid : Prop := naturalOrderUptoRow.holds Try.pinned (OpenSpec.upto naturalOrderSpec)

/-- 'drydocklaw01.NaturalText', WHERE WHAT IT READS IS OF BULK AT MOST 1048576: true; the input reads as it did. -/
def naturalTextUptoRow : OpenClaim := { program := "ytcenpboflecbcaa", sum := "90cc3929e4a6cb41784f252032ab330ad2bd27b4eaf1a7dfc4ead5e31803c694", func := "drydock/drydocklaw01.NaturalText", spec := "naturalText", apart := false, narrowed := true }
def NaturalTextUptoSaid : Prop := naturalTextUptoRow.holds Try.pinned (OpenSpec.upto naturalTextSpec)

/-- 'drydocklaw01.NaturalRing', WHERE WHAT IT READS IS OF BULK AT MOST 1048576: true; the input reads as it did. -/
def naturalRingUptoRow : OpenClaim := { program := "ytcenpboflecbcaa", sum := "90cc3929e4a6cb41784f252032ab330ad2bd27b4eaf1a7dfc4ead5e31803c694", func := "drydock/drydocklaw01.NaturalRing", spec := "naturalRing", apart := false, narrowed := true }
def NaturalRingUptoSaid : Prop := naturalRingUptoRow.holds Try.pinned (OpenSpec.upto naturalRingSpec)

/-- 'drydocklaw01.NaturalDivides', WHERE WHAT IT READS IS OF BULK AT MOST 1048576: true; the input reads as it did. -/
def naturalDividesUptoRow : OpenClaim := { program := "ytcenpboflecbcaa", sum := "90cc3929e4a6cb41784f252032ab330ad2bd27b4eaf1a7dfc4ead5e31803c694", func := "drydock/drydocklaw01.NaturalDivides", spec := "naturalDivides", apart := false, narrowed := true }
def NaturalDividesUptoSaid : Prop := naturalDividesUptoRow.holds Try.pinned (OpenSpec.upto naturalDividesSpec)

/-- 'drydocklaw01.NaturalGcd', WHERE WHAT IT READS IS OF BULK AT MOST 1048576: true; the input reads as it did. -/
def naturalGcdUptoRow : OpenClaim := { program := "ytcenpboflecbcaa", sum := "90cc3929e4a6cb41784f252032ab330ad2bd27b4eaf1a7dfc4ead5e31803c694", func := "drydock/drydocklaw01.NaturalGcd", spec := "naturalGcd", apart := false, narrowed := true }
def NaturalGcdUptoSaid : Prop := naturalGcdUptoRow.holds Try.pinned (OpenSpec.upto naturalGcdSpec)

/-- 'drydocklaw01.NaturalShifts', WHERE WHAT IT READS IS OF BULK AT MOST 1048576: true; the input reads as it did. -/
def naturalShiftsUptoRow : OpenClaim := { program := "ytcenpboflecbcaa", sum := "90cc3929e4a6cb41784f252032ab330ad2bd27b4eaf1a7dfc4ead5e31803c694", func := "drydock/drydocklaw01.NaturalShifts", spec := "naturalShifts", apart := false, narrowed := true }
def NaturalShiftsUptoSaid : Prop := naturalShiftsUptoRow.holds Try.pinned (OpenSpec.upto naturalShiftsSpec)

/-- 'drydocklaw01.NaturalExact', WHERE WHAT IT READS IS OF BULK AT MOST 1048576: true; the input reads as it did. -/
def naturalExactUptoRow : OpenClaim := { program := "ytcenpboflecbcaa", sum := "90cc3929e4a6cb41784f252032ab330ad2bd27b4eaf1a7dfc4ead5e31803c694", func := "drydock/drydocklaw01.NaturalExact", spec := "naturalExact", apart := false, narrowed := true }
def NaturalExactUptoSaid : Prop := naturalExactUptoRow.holds Try.pinned (OpenSpec.upto naturalExactSpec)

/-- 'drydocklaw01.NaturalLimits', WHERE WHAT IT READS IS OF BULK AT MOST 1048576: true; the input reads as it did. -/
def naturalLimitsUptoRow : OpenClaim := { program := "ytcenpboflecbcaa", sum := "90cc3929e4a6cb41784f252032ab330ad2bd27b4eaf1a7dfc4ead5e31803c694", func := "drydock/drydocklaw01.NaturalLimits", spec := "naturalLimits", apart := false, narrowed := true }
def NaturalLimitsUptoSaid : Prop := naturalLimitsUptoRow.holds Try.pinned (OpenSpec.upto naturalLimitsSpec)

end Rows
end Go.Proofs.Ytcenpboflecbcaa
