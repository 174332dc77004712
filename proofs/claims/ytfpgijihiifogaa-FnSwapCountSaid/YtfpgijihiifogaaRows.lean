/-
  No cell of these rows narrows 'for every input' (looked for: loops, veiled, ifaces, maps, wideKeys, modest, calm, conditions, laid).
  DERIVED. THE GIVEN ROWS OF THIS SEAT. 2 by the template 'for every input the law returns true; each argument reads behind the call as it read before'; 0 by the template 'total and deterministic' (their statements: YtfpgijihiifogaaTotals.lean).
  GIVEN WITH THE SEED: the statements are not yours to turn. If you find one false, say at which input.
  Laid BY PROGRAM, IN A SANDBOX (cutbox-rows.mjs): the forced cells as the released guide's own fill.sh prints them over the translation 6f462276df19f994… (all of the seat's roots in one cut). By AI agents, Wed Nov 11 2026. No macro, syntax, notation, axiom, sorry.
-/
import Derived.Test.YtfpgijihiifogaaChecked
import GoSem.Claim
import GoSem.ClaimJoined
import GoSem.ClaimMapViews
import Derived.JoinedTies
import Derived.KernelRfl
namespace Go.Proofs.Ytfpgijihiifogaa
/- THE CELL 'sum', in the pinned program and in every row, IS THE sha256 OF THE DUMP (.gsa) THAT YtfpgijihiifogaaProg.lean LOADS. Nothing in Lean hashes anything: it is a label: what it is worth is what the hold of that sum in a sandbox is worth. -/
noncomputable def Try.pinned : Pinned := { name := "ytfpgijihiifogaa", sum := "6f462276df19f9947cacddb75c9c3ad786d5ae6a3103a20bea7b565729a7daa8", checked := Try.checked }
namespace Rows
def none {H : Type} : Left H := { results := [], args := [] }

/-- 'laws.FnSwapCount': WHATEVER THE INPUT: true; the input reads as it did. -/
def fnSwapCountSpec : ChangeSpec := { name := "fnSwapCount", fn := fun _ => fun
  | [d] => { results := [.lit (.bool true)], args := [d] }
  | _ => none }
def fnSwapCountRow : OpenClaim := { program := "ytfpgijihiifogaa", sum := "6f462276df19f9947cacddb75c9c3ad786d5ae6a3103a20bea7b565729a7daa8", func := "loop.example/waitkit/laws.FnSwapCount", spec := "fnSwapCount", recurses := true, apart := false }
def FnSwapCountSaid : Prop := fnSwapCountRow.holds Try.pinned (OpenSpec.ofChange fnSwapCountSpec)

/-- ITS FALSE NEIGHBOUR: 'it returns false'. Refute it at one input. -/
def fnSwapCountWrong : ChangeSpec := { name := "fnSwapCount", fn := fun _ => fun
  | [d] => { results := [.lit (.bool false)], args := [d] }
  | _ => none }
def FnSwapCountWrongFalsely : Prop := fnSwapCountRow.holds Try.pinned (OpenSpec.ofChange fnSwapCountWrong)

/-- 'laws.FnSwapTrace': WHATEVER THE INPUT: true; the input reads as it did. -/
def fnSwapTraceSpec : ChangeSpec := { name := "fnSwapTrace", fn := fun _ => fun
  | [d] => { results := [.lit (.bool true)], args := [d] }
  | _ => none }
def fnSwapTraceRow : OpenClaim := { program := "ytfpgijihiifogaa", sum := "6f462276df19f9947cacddb75c9c3ad786d5ae6a3103a20bea7b565729a7daa8", func := "loop.example/waitkit/laws.FnSwapTrace", spec := "fnSwapTrace", recurses := true, apart := false }
def FnSwapTraceSaid : Prop := fnSwapTraceRow.holds Try.pinned (OpenSpec.ofChange fnSwapTraceSpec)

/-- ITS FALSE NEIGHBOUR: 'it returns false'. Refute it at one input. -/
def fnSwapTraceWrong : ChangeSpec := { name := "fnSwapTrace", fn := fun _ => fun
  | [d] => { results := [.lit (.bool false)], args := [d] }
  | _ => none }
def FnSwapTraceWrongFalsely : Prop := fnSwapTraceRow.holds Try.pinned (OpenSpec.ofChange fnSwapTraceWrong)

/- THE SECOND FORM. 'bulk': how many values and letters a reading holds, each counted each time it is reached (what is shared counts as often as it is met; a slice's spare places count too). A statement '..UptoSaid' is the law's where the arguments, and the package variables that the reading takes, are together of bulk at most 1048576: NARROWER than '..Said'. Prove '..Said' where nothing that the law and all that it calls make is longer than what came in: it says more and counts as full. Else prove '..UptoSaid'. A law counts once. -/
mutual
def uptoBulk {H : Type} : DataW H → Nat
  | .lit (.string bytes) => bytes.length + 1
  | .lit _ => 1
  | .nil => 1
  | .ptr d => uptoBulk d + 1
  | .slice elems spare => uptoBulkAll elems + uptoBulkAll spare + 1
  | .agg parts => uptoBulkAll parts + 1
  | .iface _ d => uptoBulk d + 1
  | .map entries => uptoBulkEntries entries + 1
  | .held _ => 1
def uptoBulkAll {H : Type} : List (DataW H) → Nat
  | [] => 0
  | d :: r => uptoBulk d + uptoBulkAll r
def uptoBulkEntries {H : Type} : List (Lit × DataW H) → Nat
  | [] => 0
  | x :: r => uptoBulkEntry x + uptoBulkEntries r
def uptoBulkEntry {H : Type} : Lit × DataW H → Nat
  | (.string bytes, d) => bytes.length + uptoBulk d + 1
  | (_, d) => uptoBulk d + 1
 end
def uptoSmall : (H : Type) → List (DataW H) → Bool := fun _ ds => decide (uptoBulkAll ds ≤ 1048576)
def OpenSpec.upto (s : _root_.Go.ChangeSpec) : _root_.Go.OpenSpec := { _root_.Go.OpenSpec.ofChange s with cond := some uptoSmall }

/-- 'laws.FnSwapCount', WHERE WHAT IT READS IS OF BULK AT MOST 1048576: true; the input reads as it did. -/
def fnSwapCountUptoRow : OpenClaim := { program := "ytfpgijihiifogaa", sum := "6f462276df19f9947cacddb75c9c3ad786d5ae6a3103a20bea7b565729a7daa8", func := "loop.example/waitkit/laws.FnSwapCount", spec := "fnSwapCount", recurses := true, apart := false, narrowed := true }
def FnSwapCountUptoSaid : Prop := fnSwapCountUptoRow.holds Try.pinned (OpenSpec.upto fnSwapCountSpec)

/-- 'laws.FnSwapTrace', WHERE WHAT IT READS IS OF BULK AT MOST 1048576: true; the input reads as it did. -/
def fnSwapTraceUptoRow : OpenClaim := { program := "ytfpgijihiifogaa", sum := "6f462276df19f9947cacddb75c9c3ad786d5ae6a3103a20bea7b565729a7daa8", func := "loop.example/waitkit/laws.FnSwapTrace", spec := "fnSwapTrace", recurses := true, apart := false, narrowed := true }
def FnSwapTraceUptoSaid : Prop := fnSwapTraceUptoRow.holds Try.pinned (OpenSpec.upto fnSwapTraceSpec)

end Rows
end Go.Proofs.Ytfpgijihiifogaa
