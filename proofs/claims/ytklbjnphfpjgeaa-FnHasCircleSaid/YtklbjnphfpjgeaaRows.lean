/-
  No cell of these rows narrows 'for every input' (looked for: loops, veiled, ifaces, maps, wideKeys, modest, calm, conditions, laid).
  DERIVED. THE GIVEN ROWS OF THIS SEAT. 6 by the template 'for every input the law returns true; each argument reads behind the call as it read before'; 0 by the template 'total and deterministic' (their statements: YtklbjnphfpjgeaaTotals.lean).
  GIVEN WITH THE SEED: the statements are not yours to turn. If you find one false, say at which input.
  Laid BY PROGRAM, IN A SANDBOX (cutbox-rows.mjs): the forced cells as the released guide's own fill.sh prints them over the translation b43c7cd6e70c50ae… (all of the seat's roots in one cut). By AI agents, Wed Nov 11 2026. No macro, syntax, notation, axiom, sorry.
-/
import Derived.Test.YtklbjnphfpjgeaaChecked
import GoSem.Claim
import GoSem.ClaimJoined
import GoSem.ClaimMapViews
import Derived.JoinedTies
import Derived.KernelRfl
namespace Go.Proofs.Ytklbjnphfpjgeaa
/- THE CELL 'sum', in the pinned program and in every row, IS THE sha256 OF THE DUMP (.gsa) THAT YtklbjnphfpjgeaaProg.lean LOADS. Nothing in Lean hashes anything: it is a label: what it is worth is what the hold of that sum in a sandbox is worth. -/
noncomputable def Try.pinned : Pinned := { name := "ytklbjnphfpjgeaa", sum := "b43c7cd6e70c50ae8fe4bfd9014ccded08bf17cc8f6791fccc8dba99b59351cc", checked := Try.checked }
namespace Rows
def none {H : Type} : Left H := { results := [], args := [] }

/-- 'laws.FnExactSwapTrace': WHATEVER THE INPUT: true; the input reads as it did. -/
def fnExactSwapTraceSpec : ChangeSpec := { name := "fnExactSwapTrace", fn := fun _ => fun
  | [d1, d2, d3] => { results := [.lit (.bool true)], args := [d1, d2, d3] }
  | _ => none }
def fnExactSwapTraceRow : OpenClaim := { program := "ytklbjnphfpjgeaa", sum := "b43c7cd6e70c50ae8fe4bfd9014ccded08bf17cc8f6791fccc8dba99b59351cc", func := "loop.example/waitkit/laws.FnExactSwapTrace", spec := "fnExactSwapTrace", apart := false }
def FnExactSwapTraceSaid : Prop := fnExactSwapTraceRow.holds Try.pinned (OpenSpec.ofChange fnExactSwapTraceSpec)

/-- ITS FALSE NEIGHBOUR: 'it returns false'. Refute it at one input. -/
def fnExactSwapTraceWrong : ChangeSpec := { name := "fnExactSwapTrace", fn := fun _ => fun
  | [d1, d2, d3] => { results := [.lit (.bool false)], args := [d1, d2, d3] }
  | _ => none }
def FnExactSwapTraceWrongFalsely : Prop := fnExactSwapTraceRow.holds Try.pinned (OpenSpec.ofChange fnExactSwapTraceWrong)

/-- 'laws.FnExactEdgesSame': WHATEVER THE INPUT: true; the input reads as it did. -/
def fnExactEdgesSameSpec : ChangeSpec := { name := "fnExactEdgesSame", fn := fun _ => fun
  | [d1, d2] => { results := [.lit (.bool true)], args := [d1, d2] }
  | _ => none }
def fnExactEdgesSameRow : OpenClaim := { program := "ytklbjnphfpjgeaa", sum := "b43c7cd6e70c50ae8fe4bfd9014ccded08bf17cc8f6791fccc8dba99b59351cc", func := "loop.example/waitkit/laws.FnExactEdgesSame", spec := "fnExactEdgesSame", apart := false }
def FnExactEdgesSameSaid : Prop := fnExactEdgesSameRow.holds Try.pinned (OpenSpec.ofChange fnExactEdgesSameSpec)

/-- ITS FALSE NEIGHBOUR: 'it returns false'. Refute it at one input. -/
def fnExactEdgesSameWrong : ChangeSpec := { name := "fnExactEdgesSame", fn := fun _ => fun
  | [d1, d2] => { results := [.lit (.bool false)], args := [d1, d2] }
  | _ => none }
def FnExactEdgesSameWrongFalsely : Prop := fnExactEdgesSameRow.holds Try.pinned (OpenSpec.ofChange fnExactEdgesSameWrong)

/-- 'laws.FnEdgesSame': WHATEVER THE INPUT: true; the input reads as it did. -/
def fnEdgesSameSpec : ChangeSpec := { name := "fnEdgesSame", fn := fun _ => fun
  | [d] => { results := [.lit (.bool true)], args := [d] }
  | _ => none }
def fnEdgesSameRow : OpenClaim := { program := "ytklbjnphfpjgeaa", sum := "b43c7cd6e70c50ae8fe4bfd9014ccded08bf17cc8f6791fccc8dba99b59351cc", func := "loop.example/waitkit/laws.FnEdgesSame", spec := "fnEdgesSame", apart := false }
def FnEdgesSameSaid : Prop := fnEdgesSameRow.holds Try.pinned (OpenSpec.ofChange fnEdgesSameSpec)

/-- ITS FALSE NEIGHBOUR: 'it returns false'. Refute it at one input. -/
def fnEdgesSameWrong : ChangeSpec := { name := "fnEdgesSame", fn := fun _ => fun
  | [d] => { results := [.lit (.bool false)], args := [d] }
  | _ => none }
def FnEdgesSameWrongFalsely : Prop := fnEdgesSameRow.holds Try.pinned (OpenSpec.ofChange fnEdgesSameWrong)

/-- 'laws.FnExactHasCircle': WHATEVER THE INPUT: true; the input reads as it did. -/
def fnExactHasCircleSpec : ChangeSpec := { name := "fnExactHasCircle", fn := fun _ => fun
  | [d] => { results := [.lit (.bool true)], args := [d] }
  | _ => none }
def fnExactHasCircleRow : OpenClaim := { program := "ytklbjnphfpjgeaa", sum := "b43c7cd6e70c50ae8fe4bfd9014ccded08bf17cc8f6791fccc8dba99b59351cc", func := "loop.example/waitkit/laws.FnExactHasCircle", spec := "fnExactHasCircle", apart := false }
def FnExactHasCircleSaid : Prop := fnExactHasCircleRow.holds Try.pinned (OpenSpec.ofChange fnExactHasCircleSpec)

/-- ITS FALSE NEIGHBOUR: 'it returns false'. Refute it at one input. -/
def fnExactHasCircleWrong : ChangeSpec := { name := "fnExactHasCircle", fn := fun _ => fun
  | [d] => { results := [.lit (.bool false)], args := [d] }
  | _ => none }
def FnExactHasCircleWrongFalsely : Prop := fnExactHasCircleRow.holds Try.pinned (OpenSpec.ofChange fnExactHasCircleWrong)

/-- 'laws.FnCircleLine': WHATEVER THE INPUT: true; the input reads as it did. -/
def fnCircleLineSpec : ChangeSpec := { name := "fnCircleLine", fn := fun _ => fun
  | [d] => { results := [.lit (.bool true)], args := [d] }
  | _ => none }
def fnCircleLineRow : OpenClaim := { program := "ytklbjnphfpjgeaa", sum := "b43c7cd6e70c50ae8fe4bfd9014ccded08bf17cc8f6791fccc8dba99b59351cc", func := "loop.example/waitkit/laws.FnCircleLine", spec := "fnCircleLine", apart := false }
def FnCircleLineSaid : Prop := fnCircleLineRow.holds Try.pinned (OpenSpec.ofChange fnCircleLineSpec)

/-- ITS FALSE NEIGHBOUR: 'it returns false'. Refute it at one input. -/
def fnCircleLineWrong : ChangeSpec := { name := "fnCircleLine", fn := fun _ => fun
  | [d] => { results := [.lit (.bool false)], args := [d] }
  | _ => none }
def FnCircleLineWrongFalsely : Prop := fnCircleLineRow.holds Try.pinned (OpenSpec.ofChange fnCircleLineWrong)

/-- 'laws.FnHasCircle': WHATEVER THE INPUT: true; the input reads as it did. -/
def fnHasCircleSpec : ChangeSpec := { name := "fnHasCircle", fn := fun _ => fun
  | [d] => { results := [.lit (.bool true)], args := [d] }
  | _ => none }
def fnHasCircleRow : OpenClaim := { program := "ytklbjnphfpjgeaa", sum := "b43c7cd6e70c50ae8fe4bfd9014ccded08bf17cc8f6791fccc8dba99b59351cc", func := "loop.example/waitkit/laws.FnHasCircle", spec := "fnHasCircle", apart := false }
def FnHasCircleSaid : Prop := fnHasCircleRow.holds Try.pinned (OpenSpec.ofChange fnHasCircleSpec)

/-- ITS FALSE NEIGHBOUR: 'it returns false'. Refute it at one input. -/
def fnHasCircleWrong : ChangeSpec := { name := "fnHasCircle", fn := fun _ => fun
  | [d] => { results := [.lit (.bool false)], args := [d] }
  | _ => none }
def FnHasCircleWrongFalsely : Prop := fnHasCircleRow.holds Try.pinned (OpenSpec.ofChange fnHasCircleWrong)

/- THE SECOND FORM. 'bulk': how many values and letters a reading holds, each counted each time it is reached (what is shared counts as often as it is met; a slice's spare places count too). A statement '..UptoSaid' is the law's where the arguments, and the package variables that the reading takes, are together of bulk at most 1048576: NARROWER than '..Said'. Prove '..Said' where nothing that the law and all that it calls make is longer than what came in: it says more and counts as full. Else prove '..UptoSaid'. A law counts once. -/
mutual
def uptoBulk {H : Type} : DataW H → Nat
  | .lit (.string bytes) => bytes.length + 1
  | .lit _ => 1
  | .nil => 1
  | .ptr d => uptoBulk d + 1
  | .slice elems spare => uptoBulkAll elems + uptoBulkAll spare + 1
  | .agg parts => uptoBulkAll parts + 1
  | .iface _ d => uptoBulk d + 1
  | .map entries => uptoBulkEntries entries + 1
  | .held _ => 1
def uptoBulkAll {H : Type} : List (DataW H) → Nat
  | [] => 0
  | d :: r => uptoBulk d + uptoBulkAll r
def uptoBulkEntries {H : Type} : List (Lit × DataW H) → Nat
  | [] => 0
  | x :: r => uptoBulkEntry x + uptoBulkEntries r
def uptoBulkEntry {H : Type} : Lit × DataW H → Nat
  | (.string bytes, d) => bytes.length + uptoBulk d + 1
  | (_, d) => uptoBulk d + 1
 end
def uptoSmall : (H : Type) → List (DataW H) → Bool := fun _ ds => decide (uptoBulkAll ds ≤ 1048576)
def OpenSpec.upto (s : _root_.Go.ChangeSpec) : _root_.Go.OpenSpec := { _root_.Go.OpenSpec.ofChange s with cond := some uptoSmall }

/-- 'laws.FnExactSwapTrace', WHERE WHAT IT READS IS OF BULK AT MOST 1048576: true; the input reads as it did. -/
def fnExactSwapTraceUptoRow : OpenClaim := { program := "ytklbjnphfpjgeaa", sum := "b43c7cd6e70c50ae8fe4bfd9014ccded08bf17cc8f6791fccc8dba99b59351cc", func := "loop.example/waitkit/laws.FnExactSwapTrace", spec := "fnExactSwapTrace", apart := false, narrowed := true }
def FnExactSwapTraceUptoSaid : Prop := fnExactSwapTraceUptoRow.holds Try.pinned (OpenSpec.upto fnExactSwapTraceSpec)

/-- 'laws.FnExactEdgesSame', WHERE WHAT IT READS IS OF BULK AT MOST 1048576: true; the input reads as it did. -/
def fnExactEdgesSameUptoRow : OpenClaim := { program := "ytklbjnphfpjgeaa", sum := "b43c7cd6e70c50ae8fe4bfd9014ccded08bf17cc8f6791fccc8dba99b59351cc", func := "loop.example/waitkit/laws.FnExactEdgesSame", spec := "fnExactEdgesSame", apart := false, narrowed := true }
def FnExactEdgesSameUptoSaid : Prop := fnExactEdgesSameUptoRow.holds Try.pinned (OpenSpec.upto fnExactEdgesSameSpec)

/-- 'laws.FnEdgesSame', WHERE WHAT IT READS IS OF BULK AT MOST 1048576: true; the input reads as it did. -/
def fnEdgesSameUptoRow : OpenClaim := { program := "ytklbjnphfpjgeaa", sum := "b43c7cd6e70c50ae8fe4bfd9014ccded08bf17cc8f6791fccc8dba99b59351cc", func := "loop.example/waitkit/laws.FnEdgesSame", spec := "fnEdgesSame", apart := false, narrowed := true }
def FnEdgesSameUptoSaid : Prop := fnEdgesSameUptoRow.holds Try.pinned (OpenSpec.upto fnEdgesSameSpec)

/-- 'laws.FnExactHasCircle', WHERE WHAT IT READS IS OF BULK AT MOST 1048576: true; the input reads as it did. -/
def fnExactHasCircleUptoRow : OpenClaim := { program := "ytklbjnphfpjgeaa", sum := "b43c7cd6e70c50ae8fe4bfd9014ccded08bf17cc8f6791fccc8dba99b59351cc", func := "loop.example/waitkit/laws.FnExactHasCircle", spec := "fnExactHasCircle", apart := false, narrowed := true }
def FnExactHasCircleUptoSaid : Prop := fnExactHasCircleUptoRow.holds Try.pinned (OpenSpec.upto fnExactHasCircleSpec)

/-- 'laws.FnCircleLine', WHERE WHAT IT READS IS OF BULK AT MOST 1048576: true; the input reads as it did. -/
def fnCircleLineUptoRow : OpenClaim := { program := "ytklbjnphfpjgeaa", sum := "b43c7cd6e70c50ae8fe4bfd9014ccded08bf17cc8f6791fccc8dba99b59351cc", func := "loop.example/waitkit/laws.FnCircleLine", spec := "fnCircleLine", apart := false, narrowed := true }
def FnCircleLineUptoSaid : Prop := fnCircleLineUptoRow.holds Try.pinned (OpenSpec.upto fnCircleLineSpec)

/-- 'laws.FnHasCircle', WHERE WHAT IT READS IS OF BULK AT MOST 1048576: true; the input reads as it did. -/
def fnHasCircleUptoRow : OpenClaim := { program := "ytklbjnphfpjgeaa", sum := "b43c7cd6e70c50ae8fe4bfd9014ccded08bf17cc8f6791fccc8dba99b59351cc", func := "loop.example/waitkit/laws.FnHasCircle", spec := "fnHasCircle", apart := false, narrowed := true }
def FnHasCircleUptoSaid : Prop := fnHasCircleUptoRow.holds Try.pinned (OpenSpec.upto fnHasCircleSpec)

end Rows
end Go.Proofs.Ytklbjnphfpjgeaa
