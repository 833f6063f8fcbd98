/-
  No cell of these rows narrows 'for every input' (looked for: loops, veiled, ifaces, maps, wideKeys, modest, calm, conditions, laid).
  DERIVED. THE GIVEN ROWS OF THIS SEAT. 9 by the template 'for every input the law returns true; each argument reads behind the call as it read before'; 0 by the template 'total and deterministic' (their statements: YtkpfbekmaafehaaGreatTotals.lean).
  GIVEN WITH THE SEED: the statements are not yours to turn. If you find one false, say at which input.
  Laid BY PROGRAM, IN A SANDBOX (cutbox-rows.mjs): the forced cells as the released guide's own fill.sh prints them over the translation c94762a16e4e13b0… (all of the seat's roots in one cut). By AI agents, Wed Nov 11 2026. No macro, syntax, notation, axiom, sorry.
-/
import Derived.Test.YtkpfbekmaafehaaGreatChecked
import GoSem.Claim
import GoSem.ClaimJoined
import GoSem.ClaimMapViews
import Derived.JoinedTies
import Derived.KernelRfl
namespace Go.Proofs.YtkpfbekmaafehaaGreat
/- THE CELL 'sum', in the pinned program and in every row, IS THE sha256 OF THE DUMP (.gsa) THAT YtkpfbekmaafehaaGreatProg.lean LOADS. Nothing in Lean hashes anything: it is a label: what it is worth is what the hold of that sum in a sandbox is worth. -/
noncomputable def Tryz.pinned : Pinned := { name := "ytkpfbekmaafehaagreat", sum := "c94762a16e4e13b0b40ccf846a5ecb1d43fba5bf5031e4ae539eca19939769d4", checked := Tryz.checked }
namespace Rows
def none {H : Type} : Left H := { results := [], args := [] }

/-- 'drydocklaw16.SimplexCheck': WHATEVER THE INPUT: true; the input reads as it did. -/
def simplexCheckSpec : ChangeSpec := { name := "simplexCheck", fn := fun _ => fun
  | [d1, d2] => { results := [.lit (.bool true)], args := [d1, d2] }
  | _ => none }
def simplexCheckRow : OpenClaim := { program := "ytkpfbekmaafehaagreat", sum := "c94762a16e4e13b0b40ccf846a5ecb1d43fba5bf5031e4ae539eca19939769d4", func := "drydock/drydocklaw16.SimplexCheck", spec := "simplexCheck", apart := false }
def SimplexCheckSaid : Prop := simplexCheckRow.holds Tryz.pinned (OpenSpec.ofChange simplexCheckSpec)

/-- ITS FALSE NEIGHBOUR: 'it returns false'. Refute it at one input. -/
def simplexCheckWrong : ChangeSpec := { name := "simplexCheck", fn := fun _ => fun
  | [d1, d2] => { results := [.lit (.bool false)], args := [d1, d2] }
  | _ => none }
def SimplexCheckWrongFalsely : Prop := simplexCheckRow.holds Tryz.pinned (OpenSpec.ofChange simplexCheckWrong)

/-- 'drydocklaw16.SimplexRaw': WHATEVER THE INPUT: true; the input reads as it did. -/
def simplexRawSpec : ChangeSpec := { name := "simplexRaw", fn := fun _ => fun
  | [d] => { results := [.lit (.bool true)], args := [d] }
  | _ => none }
def simplexRawRow : OpenClaim := { program := "ytkpfbekmaafehaagreat", sum := "c94762a16e4e13b0b40ccf846a5ecb1d43fba5bf5031e4ae539eca19939769d4", func := "drydock/drydocklaw16.SimplexRaw", spec := "simplexRaw", apart := false }
def SimplexRawSaid : Prop := simplexRawRow.holds Tryz.pinned (OpenSpec.ofChange simplexRawSpec)

/-- ITS FALSE NEIGHBOUR: 'it returns false'. Refute it at one input. -/
def simplexRawWrong : ChangeSpec := { name := "simplexRaw", fn := fun _ => fun
  | [d] => { results := [.lit (.bool false)], args := [d] }
  | _ => none }
def SimplexRawWrongFalsely : Prop := simplexRawRow.holds Tryz.pinned (OpenSpec.ofChange simplexRawWrong)

/-- 'drydocklaw16.SimplexSolves': WHATEVER THE INPUT: true; the input reads as it did. -/
def simplexSolvesSpec : ChangeSpec := { name := "simplexSolves", fn := fun _ => fun
  | [d] => { results := [.lit (.bool true)], args := [d] }
  | _ => none }
def simplexSolvesRow : OpenClaim := { program := "ytkpfbekmaafehaagreat", sum := "c94762a16e4e13b0b40ccf846a5ecb1d43fba5bf5031e4ae539eca19939769d4", func := "drydock/drydocklaw16.SimplexSolves", spec := "simplexSolves", apart := false }
def SimplexSolvesSaid : Prop := simplexSolvesRow.holds Tryz.pinned (OpenSpec.ofChange simplexSolvesSpec)

/-- ITS FALSE NEIGHBOUR: 'it returns false'. Refute it at one input. -/
def simplexSolvesWrong : ChangeSpec := { name := "simplexSolves", fn := fun _ => fun
  | [d] => { results := [.lit (.bool false)], args := [d] }
  | _ => none }
def SimplexSolvesWrongFalsely : Prop := simplexSolvesRow.holds Tryz.pinned (OpenSpec.ofChange simplexSolvesWrong)

/-- 'drydocklaw16.SimplexSpoilt': WHATEVER THE INPUT: true; the input reads as it did. -/
def simplexSpoiltSpec : ChangeSpec := { name := "simplexSpoilt", fn := fun _ => fun
  | [d1, d2, d3, d4] => { results := [.lit (.bool true)], args := [d1, d2, d3, d4] }
  | _ => none }
def simplexSpoiltRow : OpenClaim := { program := "ytkpfbekmaafehaagreat", sum := "c94762a16e4e13b0b40ccf846a5ecb1d43fba5bf5031e4ae539eca19939769d4", func := "drydock/drydocklaw16.SimplexSpoilt", spec := "simplexSpoilt", apart := false }
def SimplexSpoiltSaid : Prop := simplexSpoiltRow.holds Tryz.pinned (OpenSpec.ofChange simplexSpoiltSpec)

/-- ITS FALSE NEIGHBOUR: 'it returns false'. Refute it at one input. -/
def simplexSpoiltWrong : ChangeSpec := { name := "simplexSpoilt", fn := fun _ => fun
  | [d1, d2, d3, d4] => { results := [.lit (.bool false)], args := [d1, d2, d3, d4] }
  | _ => none }
def SimplexSpoiltWrongFalsely : Prop := simplexSpoiltRow.holds Tryz.pinned (OpenSpec.ofChange simplexSpoiltWrong)

/-- 'drydocklaw16.SimplexWeak': WHATEVER THE INPUT: true; the input reads as it did. -/
def simplexWeakSpec : ChangeSpec := { name := "simplexWeak", fn := fun _ => fun
  | [d] => { results := [.lit (.bool true)], args := [d] }
  | _ => none }
def simplexWeakRow : OpenClaim := { program := "ytkpfbekmaafehaagreat", sum := "c94762a16e4e13b0b40ccf846a5ecb1d43fba5bf5031e4ae539eca19939769d4", func := "drydock/drydocklaw16.SimplexWeak", spec := "simplexWeak", apart := false }
def SimplexWeakSaid : Prop := simplexWeakRow.holds Tryz.pinned (OpenSpec.ofChange simplexWeakSpec)

/-- ITS FALSE NEIGHBOUR: 'it returns false'. Refute it at one input. -/
def simplexWeakWrong : ChangeSpec := { name := "simplexWeak", fn := fun _ => fun
  | [d] => { results := [.lit (.bool false)], args := [d] }
  | _ => none }
def SimplexWeakWrongFalsely : Prop := simplexWeakRow.holds Tryz.pinned (OpenSpec.ofChange simplexWeakWrong)

/-- 'drydocklaw16.SimplexRows': WHATEVER THE INPUT: true; the input reads as it did. -/
def simplexRowsSpec : ChangeSpec := { name := "simplexRows", fn := fun _ => fun
  | [d1, d2] => { results := [.lit (.bool true)], args := [d1, d2] }
  | _ => none }
def simplexRowsRow : OpenClaim := { program := "ytkpfbekmaafehaagreat", sum := "c94762a16e4e13b0b40ccf846a5ecb1d43fba5bf5031e4ae539eca19939769d4", func := "drydock/drydocklaw16.SimplexRows", spec := "simplexRows", apart := false }
def SimplexRowsSaid : Prop := simplexRowsRow.holds Tryz.pinned (OpenSpec.ofChange simplexRowsSpec)

/-- ITS FALSE NEIGHBOUR: 'it returns false'. Refute it at one input. -/
def simplexRowsWrong : ChangeSpec := { name := "simplexRows", fn := fun _ => fun
  | [d1, d2] => { results := [.lit (.bool false)], args := [d1, d2] }
  | _ => none }
def SimplexRowsWrongFalsely : Prop := simplexRowsRow.holds Tryz.pinned (OpenSpec.ofChange simplexRowsWrong)

/-- 'drydocklaw16.SimplexColumns': WHATEVER THE INPUT: true; the input reads as it did. -/
def simplexColumnsSpec : ChangeSpec := { name := "simplexColumns", fn := fun _ => fun
  | [d1, d2, d3] => { results := [.lit (.bool true)], args := [d1, d2, d3] }
  | _ => none }
def simplexColumnsRow : OpenClaim := { program := "ytkpfbekmaafehaagreat", sum := "c94762a16e4e13b0b40ccf846a5ecb1d43fba5bf5031e4ae539eca19939769d4", func := "drydock/drydocklaw16.SimplexColumns", spec := "simplexColumns", apart := false }
def SimplexColumnsSaid : Prop := simplexColumnsRow.holds Tryz.pinned (OpenSpec.ofChange simplexColumnsSpec)

/-- ITS FALSE NEIGHBOUR: 'it returns false'. Refute it at one input. -/
def simplexColumnsWrong : ChangeSpec := { name := "simplexColumns", fn := fun _ => fun
  | [d1, d2, d3] => { results := [.lit (.bool false)], args := [d1, d2, d3] }
  | _ => none }
def SimplexColumnsWrongFalsely : Prop := simplexColumnsRow.holds Tryz.pinned (OpenSpec.ofChange simplexColumnsWrong)

/-- 'drydocklaw16.SimplexScales': WHATEVER THE INPUT: true; the input reads as it did. -/
def simplexScalesSpec : ChangeSpec := { name := "simplexScales", fn := fun _ => fun
  | [d1, d2, d3] => { results := [.lit (.bool true)], args := [d1, d2, d3] }
  | _ => none }
def simplexScalesRow : OpenClaim := { program := "ytkpfbekmaafehaagreat", sum := "c94762a16e4e13b0b40ccf846a5ecb1d43fba5bf5031e4ae539eca19939769d4", func := "drydock/drydocklaw16.SimplexScales", spec := "simplexScales", apart := false }
def SimplexScalesSaid : Prop := simplexScalesRow.holds Tryz.pinned (OpenSpec.ofChange simplexScalesSpec)

/-- ITS FALSE NEIGHBOUR: 'it returns false'. Refute it at one input. -/
def simplexScalesWrong : ChangeSpec := { name := "simplexScales", fn := fun _ => fun
  | [d1, d2, d3] => { results := [.lit (.bool false)], args := [d1, d2, d3] }
  | _ => none }
def SimplexScalesWrongFalsely : Prop := simplexScalesRow.holds Tryz.pinned (OpenSpec.ofChange simplexScalesWrong)

/-- 'drydocklaw16.SimplexWeights': WHATEVER THE INPUT: true; the input reads as it did. -/
def simplexWeightsSpec : ChangeSpec := { name := "simplexWeights", fn := fun _ => fun
  | [d1, d2] => { results := [.lit (.bool true)], args := [d1, d2] }
  | _ => none }
def simplexWeightsRow : OpenClaim := { program := "ytkpfbekmaafehaagreat", sum := "c94762a16e4e13b0b40ccf846a5ecb1d43fba5bf5031e4ae539eca19939769d4", func := "drydock/drydocklaw16.SimplexWeights", spec := "simplexWeights", apart := false }
def SimplexWeightsSaid : Prop := simplexWeightsRow.holds Tryz.pinned (OpenSpec.ofChange simplexWeightsSpec)

/-- ITS FALSE NEIGHBOUR: 'it returns false'. Refute it at one input. -/
def simplexWeightsWrong : ChangeSpec := { name := "simplexWeights", fn := fun _ => fun
  | [d1, d2] => { results := [.lit (.bool false)], args := [d1, d2] }
  | _ => none }
def SimplexWeightsWrongFalsely : Prop := simplexWeightsRow.holds Tryz.pinned (OpenSpec.ofChange simplexWeightsWrong)

/- THE SECOND FORM. 'bulk': how many values and letters a reading holds, each counted each time it is reached (what is shared counts as often as it is met; a slice's spare places count too). A statement '..UptoSaid' is the law's where the arguments, and the package variables that the reading takes, are together of bulk at most 1048576: NARROWER than '..Said'. Prove '..Said' where nothing that the law and all that it calls make is longer than what came in: it says more and counts as full. Else prove '..UptoSaid'. A law counts once. -/
mutual
def uptoBulk {H : Type} : DataW H → Nat
  | .lit (.string bytes) => bytes.length + 1
  | .lit _ => 1
  | .nil => 1
  | .ptr d => uptoBulk d + 1
  | .slice elems spare => uptoBulkAll elems + uptoBulkAll spare + 1
  | .agg parts => uptoBulkAll parts + 1
  | .iface _ d => uptoBulk d + 1
  | .map entries => uptoBulkEntries entries + 1
  | .held _ => 1
def uptoBulkAll {H : Type} : List (DataW H) → Nat
  | [] => 0
  | d :: r => uptoBulk d + uptoBulkAll r
def uptoBulkEntries {H : Type} : List (Lit × DataW H) → Nat
  | [] => 0
  | x :: r => uptoBulkEntry x + uptoBulkEntries r
def uptoBulkEntry {H : Type} : Lit × DataW H → Nat
  | (.string bytes, d) => bytes.length + uptoBulk d + 1
  | (_, d) => uptoBulk d + 1
 end
def uptoSmall : (H : Type) → List (DataW H) → Bool := fun _ ds => decide (uptoBulkAll ds ≤ 1048576)
def OpenSpec.upto (s : _root_.Go.ChangeSpec) : _root_.Go.OpenSpec := { _root_.Go.OpenSpec.ofChange s with cond := some uptoSmall }

/-- 'drydocklaw16.SimplexCheck', WHERE WHAT IT READS IS OF BULK AT MOST 1048576: true; the input reads as it did. -/
def simplexCheckUptoRow : OpenClaim := { program := "ytkpfbekmaafehaagreat", sum := "c94762a16e4e13b0b40ccf846a5ecb1d43fba5bf5031e4ae539eca19939769d4", func := "drydock/drydocklaw16.SimplexCheck", spec := "simplexCheck", apart := false, narrowed := true }
def SimplexCheckUptoSaid : Prop := simplexCheckUptoRow.holds Tryz.pinned (OpenSpec.upto simplexCheckSpec)

/-- 'drydocklaw16.SimplexRaw', WHERE WHAT IT READS IS OF BULK AT MOST 1048576: true; the input reads as it did. -/
def simplexRawUptoRow : OpenClaim := { program := "ytkpfbekmaafehaagreat", sum := "c94762a16e4e13b0b40ccf846a5ecb1d43fba5bf5031e4ae539eca19939769d4", func := "drydock/drydocklaw16.SimplexRaw", spec := "simplexRaw", apart := false, narrowed := true }
def SimplexRawUptoSaid : Prop := simplexRawUptoRow.holds Tryz.pinned (OpenSpec.upto simplexRawSpec)

/-- 'drydocklaw16.SimplexSolves', WHERE WHAT IT READS IS OF BULK AT MOST 1048576: true; the input reads as it did. -/
def simplexSolvesUptoRow : OpenClaim := { program := "ytkpfbekmaafehaagreat", sum := "c94762a16e4e13b0b40ccf846a5ecb1d43fba5bf5031e4ae539eca19939769d4", func := "drydock/drydocklaw16.SimplexSolves", spec := "simplexSolves", apart := false, narrowed := true }
def SimplexSolvesUptoSaid : Prop := simplexSolvesUptoRow.holds Tryz.pinned (OpenSpec.upto simplexSolvesSpec)

/-- 'drydocklaw16.SimplexSpoilt', WHERE WHAT IT READS IS OF BULK AT MOST 1048576: true; the input reads as it did. -/
def simplexSpoiltUptoRow : OpenClaim := { program := "ytkpfbekmaafehaagreat", sum := "c94762a16e4e13b0b40ccf846a5ecb1d43fba5bf5031e4ae539eca19939769d4", func := "drydock/drydocklaw16.SimplexSpoilt", spec := "simplexSpoilt", apart := false, narrowed := true }
def SimplexSpoiltUptoSaid : Prop := simplexSpoiltUptoRow.holds Tryz.pinned (OpenSpec.upto simplexSpoiltSpec)

/-- 'drydocklaw16.SimplexWeak', WHERE WHAT IT READS IS OF BULK AT MOST 1048576: true; the input reads as it did. -/
def simplexWeakUptoRow : OpenClaim := { program := "ytkpfbekmaafehaagreat", sum := "c94762a16e4e13b0b40ccf846a5ecb1d43fba5bf5031e4ae539eca19939769d4", func := "drydock/drydocklaw16.SimplexWeak", spec := "simplexWeak", apart := false, narrowed := true }
def SimplexWeakUptoSaid : Prop := simplexWeakUptoRow.holds Tryz.pinned (OpenSpec.upto simplexWeakSpec)

/-- 'drydocklaw16.SimplexRows', WHERE WHAT IT READS IS OF BULK AT MOST 1048576: true; the input reads as it did. -/
def simplexRowsUptoRow : OpenClaim := { program := "ytkpfbekmaafehaagreat", sum := "c94762a16e4e13b0b40ccf846a5ecb1d43fba5bf5031e4ae539eca19939769d4", func := "drydock/drydocklaw16.SimplexRows", spec := "simplexRows", apart := false, narrowed := true }
def SimplexRowsUptoSaid : Prop := simplexRowsUptoRow.holds Tryz.pinned (OpenSpec.upto simplexRowsSpec)

/-- 'drydocklaw16.SimplexColumns', WHERE WHAT IT READS IS OF BULK AT MOST 1048576: true; the input reads as it did. -/
def simplexColumnsUptoRow : OpenClaim := { program := "ytkpfbekmaafehaagreat", sum := "c94762a16e4e13b0b40ccf846a5ecb1d43fba5bf5031e4ae539eca19939769d4", func := "drydock/drydocklaw16.SimplexColumns", spec := "simplexColumns", apart := false, narrowed := true }
def SimplexColumnsUptoSaid : Prop := simplexColumnsUptoRow.holds Tryz.pinned (OpenSpec.upto simplexColumnsSpec)

/-- 'drydocklaw16.SimplexScales', WHERE WHAT IT READS IS OF BULK AT MOST 1048576: true; the input reads as it did. -/
def simplexScalesUptoRow : OpenClaim := { program := "ytkpfbekmaafehaagreat", sum := "c94762a16e4e13b0b40ccf846a5ecb1d43fba5bf5031e4ae539eca19939769d4", func := "drydock/drydocklaw16.SimplexScales", spec := "simplexScales", apart := false, narrowed := true }
def SimplexScalesUptoSaid : Prop := simplexScalesUptoRow.holds Tryz.pinned (OpenSpec.upto simplexScalesSpec)

/-- 'drydocklaw16.SimplexWeights', WHERE WHAT IT READS IS OF BULK AT MOST 1048576: true; the input reads as it did. -/
def simplexWeightsUptoRow : OpenClaim := { program := "ytkpfbekmaafehaagreat", sum := "c94762a16e4e13b0b40ccf846a5ecb1d43fba5bf5031e4ae539eca19939769d4", func := "drydock/drydocklaw16.SimplexWeights", spec := "simplexWeights", apart := false, narrowed := true }
def SimplexWeightsUptoSaid : Prop := simplexWeightsUptoRow.holds Tryz.pinned (OpenSpec.upto simplexWeightsSpec)

end Rows
end Go.Proofs.YtkpfbekmaafehaaGreat
