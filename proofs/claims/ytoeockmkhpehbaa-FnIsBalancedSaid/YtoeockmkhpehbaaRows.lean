/-
  No cell of these rows narrows 'for every input' (looked for: loops, veiled, ifaces, maps, wideKeys, modest, calm, conditions, laid).
  DERIVED. THE GIVEN ROWS OF THIS SEAT. 7 by the template 'for every input the law returns true; each argument reads behind the call as it read before'; 0 by the template 'total and deterministic' (their statements: YtoeockmkhpehbaaTotals.lean).
  GIVEN WITH THE SEED: the statements are not yours to turn. If you find one false, say at which input.
  Laid BY PROGRAM, IN A SANDBOX (cutbox-rows.mjs): the forced cells as the released guide's own fill.sh prints them over the translation cc4b39a064bcd63a… (all of the seat's roots in one cut). By AI agents, Wed Nov 11 2026. No macro, syntax, notation, axiom, sorry.
-/
import Derived.Test.YtoeockmkhpehbaaChecked
import GoSem.Claim
import GoSem.ClaimJoined
import GoSem.ClaimMapViews
import Derived.JoinedTies
import Derived.KernelRfl
namespace Go.Proofs.Ytoeockmkhpehbaa
/- THE CELL 'sum', in the pinned program and in every row, IS THE sha256 OF THE DUMP (.gsa) THAT YtoeockmkhpehbaaProg.lean LOADS. Nothing in Lean hashes anything: it is a label: what it is worth is what the hold of that sum in a sandbox is worth. -/
noncomputable def Try.pinned : Pinned := { name := "ytoeockmkhpehbaa", sum := "cc4b39a064bcd63a6fe0c3d184a993fc8af076ccf479ff7d5c33591cc8f4f79b", checked := Try.checked }
namespace Rows
def none {H : Type} : Left H := { results := [], args := [] }

/-- 'laws.FnArrivalsOf': WHATEVER THE INPUT: true; the input reads as it did. -/
def fnArrivalsOfSpec : ChangeSpec := { name := "fnArrivalsOf", fn := fun _ => fun
  | [d] => { results := [.lit (.bool true)], args := [d] }
  | _ => none }
def fnArrivalsOfRow : OpenClaim := { program := "ytoeockmkhpehbaa", sum := "cc4b39a064bcd63a6fe0c3d184a993fc8af076ccf479ff7d5c33591cc8f4f79b", func := "loop.example/waitkit/laws.FnArrivalsOf", spec := "fnArrivalsOf", unfollowed := true, recurses := true, apart := false }
def FnArrivalsOfSaid : Prop := fnArrivalsOfRow.holds Try.pinned (OpenSpec.ofChange fnArrivalsOfSpec)

/-- ITS FALSE NEIGHBOUR: 'it returns false'. Refute it at one input. -/
def fnArrivalsOfWrong : ChangeSpec := { name := "fnArrivalsOf", fn := fun _ => fun
  | [d] => { results := [.lit (.bool false)], args := [d] }
  | _ => none }
def FnArrivalsOfWrongFalsely : Prop := fnArrivalsOfRow.holds Try.pinned (OpenSpec.ofChange fnArrivalsOfWrong)

/-- 'laws.FnArriveTurns': WHATEVER THE INPUT: true; the input reads as it did. -/
def fnArriveTurnsSpec : ChangeSpec := { name := "fnArriveTurns", fn := fun _ => fun
  | [d] => { results := [.lit (.bool true)], args := [d] }
  | _ => none }
def fnArriveTurnsRow : OpenClaim := { program := "ytoeockmkhpehbaa", sum := "cc4b39a064bcd63a6fe0c3d184a993fc8af076ccf479ff7d5c33591cc8f4f79b", func := "loop.example/waitkit/laws.FnArriveTurns", spec := "fnArriveTurns", unfollowed := true, recurses := true, apart := false }
def FnArriveTurnsSaid : Prop := fnArriveTurnsRow.holds Try.pinned (OpenSpec.ofChange fnArriveTurnsSpec)

/-- ITS FALSE NEIGHBOUR: 'it returns false'. Refute it at one input. -/
def fnArriveTurnsWrong : ChangeSpec := { name := "fnArriveTurns", fn := fun _ => fun
  | [d] => { results := [.lit (.bool false)], args := [d] }
  | _ => none }
def FnArriveTurnsWrongFalsely : Prop := fnArriveTurnsRow.holds Try.pinned (OpenSpec.ofChange fnArriveTurnsWrong)

/-- 'laws.FnGroupsLeft': WHATEVER THE INPUT: true; the input reads as it did. -/
def fnGroupsLeftSpec : ChangeSpec := { name := "fnGroupsLeft", fn := fun _ => fun
  | [d] => { results := [.lit (.bool true)], args := [d] }
  | _ => none }
def fnGroupsLeftRow : OpenClaim := { program := "ytoeockmkhpehbaa", sum := "cc4b39a064bcd63a6fe0c3d184a993fc8af076ccf479ff7d5c33591cc8f4f79b", func := "loop.example/waitkit/laws.FnGroupsLeft", spec := "fnGroupsLeft", unfollowed := true, recurses := true, apart := false }
def FnGroupsLeftSaid : Prop := fnGroupsLeftRow.holds Try.pinned (OpenSpec.ofChange fnGroupsLeftSpec)

/-- ITS FALSE NEIGHBOUR: 'it returns false'. Refute it at one input. -/
def fnGroupsLeftWrong : ChangeSpec := { name := "fnGroupsLeft", fn := fun _ => fun
  | [d] => { results := [.lit (.bool false)], args := [d] }
  | _ => none }
def FnGroupsLeftWrongFalsely : Prop := fnGroupsLeftRow.holds Try.pinned (OpenSpec.ofChange fnGroupsLeftWrong)

/-- 'laws.FnLettersOf': WHATEVER THE INPUT: true; the input reads as it did. -/
def fnLettersOfSpec : ChangeSpec := { name := "fnLettersOf", fn := fun _ => fun
  | [d] => { results := [.lit (.bool true)], args := [d] }
  | _ => none }
def fnLettersOfRow : OpenClaim := { program := "ytoeockmkhpehbaa", sum := "cc4b39a064bcd63a6fe0c3d184a993fc8af076ccf479ff7d5c33591cc8f4f79b", func := "loop.example/waitkit/laws.FnLettersOf", spec := "fnLettersOf", unfollowed := true, recurses := true, apart := false }
def FnLettersOfSaid : Prop := fnLettersOfRow.holds Try.pinned (OpenSpec.ofChange fnLettersOfSpec)

/-- ITS FALSE NEIGHBOUR: 'it returns false'. Refute it at one input. -/
def fnLettersOfWrong : ChangeSpec := { name := "fnLettersOf", fn := fun _ => fun
  | [d] => { results := [.lit (.bool false)], args := [d] }
  | _ => none }
def FnLettersOfWrongFalsely : Prop := fnLettersOfRow.holds Try.pinned (OpenSpec.ofChange fnLettersOfWrong)

/-- 'laws.FnOnlySems': WHATEVER THE INPUT: true; the input reads as it did. -/
def fnOnlySemsSpec : ChangeSpec := { name := "fnOnlySems", fn := fun _ => fun
  | [d] => { results := [.lit (.bool true)], args := [d] }
  | _ => none }
def fnOnlySemsRow : OpenClaim := { program := "ytoeockmkhpehbaa", sum := "cc4b39a064bcd63a6fe0c3d184a993fc8af076ccf479ff7d5c33591cc8f4f79b", func := "loop.example/waitkit/laws.FnOnlySems", spec := "fnOnlySems", unfollowed := true, recurses := true, apart := false }
def FnOnlySemsSaid : Prop := fnOnlySemsRow.holds Try.pinned (OpenSpec.ofChange fnOnlySemsSpec)

/-- ITS FALSE NEIGHBOUR: 'it returns false'. Refute it at one input. -/
def fnOnlySemsWrong : ChangeSpec := { name := "fnOnlySems", fn := fun _ => fun
  | [d] => { results := [.lit (.bool false)], args := [d] }
  | _ => none }
def FnOnlySemsWrongFalsely : Prop := fnOnlySemsRow.holds Try.pinned (OpenSpec.ofChange fnOnlySemsWrong)

/-- 'laws.FnSaysGone': WHATEVER THE INPUT: true; the input reads as it did. -/
def fnSaysGoneSpec : ChangeSpec := { name := "fnSaysGone", fn := fun _ => fun
  | [d] => { results := [.lit (.bool true)], args := [d] }
  | _ => none }
def fnSaysGoneRow : OpenClaim := { program := "ytoeockmkhpehbaa", sum := "cc4b39a064bcd63a6fe0c3d184a993fc8af076ccf479ff7d5c33591cc8f4f79b", func := "loop.example/waitkit/laws.FnSaysGone", spec := "fnSaysGone", unfollowed := true, recurses := true, apart := false }
def FnSaysGoneSaid : Prop := fnSaysGoneRow.holds Try.pinned (OpenSpec.ofChange fnSaysGoneSpec)

/-- ITS FALSE NEIGHBOUR: 'it returns false'. Refute it at one input. -/
def fnSaysGoneWrong : ChangeSpec := { name := "fnSaysGone", fn := fun _ => fun
  | [d] => { results := [.lit (.bool false)], args := [d] }
  | _ => none }
def FnSaysGoneWrongFalsely : Prop := fnSaysGoneRow.holds Try.pinned (OpenSpec.ofChange fnSaysGoneWrong)

/-- 'laws.FnIsBalanced': WHATEVER THE INPUT: true; the input reads as it did. -/
def fnIsBalancedSpec : ChangeSpec := { name := "fnIsBalanced", fn := fun _ => fun
  | [d] => { results := [.lit (.bool true)], args := [d] }
  | _ => none }
def fnIsBalancedRow : OpenClaim := { program := "ytoeockmkhpehbaa", sum := "cc4b39a064bcd63a6fe0c3d184a993fc8af076ccf479ff7d5c33591cc8f4f79b", func := "loop.example/waitkit/laws.FnIsBalanced", spec := "fnIsBalanced", unfollowed := true, recurses := true, apart := false }
def FnIsBalancedSaid : Prop := fnIsBalancedRow.holds Try.pinned (OpenSpec.ofChange fnIsBalancedSpec)

/-- ITS FALSE NEIGHBOUR: 'it returns false'. Refute it at one input. -/
def fnIsBalancedWrong : ChangeSpec := { name := "fnIsBalanced", fn := fun _ => fun
  | [d] => { results := [.lit (.bool false)], args := [d] }
  | _ => none }
def FnIsBalancedWrongFalsely : Prop := fnIsBalancedRow.holds Try.pinned (OpenSpec.ofChange fnIsBalancedWrong)

/- THE SECOND FORM. 'bulk': how many values and letters a reading holds, each counted each time it is reached (what is shared counts as often as it is met; a slice's spare places count too). A statement '..UptoSaid' is the law's where the arguments, and the package variables that the reading takes, are together of bulk at most 1048576: NARROWER than '..Said'. Prove '..Said' where nothing that the law and all that it calls make is longer than what came in: it says more and counts as full. Else prove '..UptoSaid'. A law counts once. -/
mutual
def uptoBulk {H : Type} : DataW H → Nat
  | .lit (.string bytes) => bytes.length + 1
  | .lit _ => 1
  | .nil => 1
  | .ptr d => uptoBulk d + 1
  | .slice elems spare => uptoBulkAll elems + uptoBulkAll spare + 1
  | .agg parts => uptoBulkAll parts + 1
  | .iface _ d => uptoBulk d + 1
  | .map entries => uptoBulkEntries entries + 1
  | .held _ => 1
def uptoBulkAll {H : Type} : List (DataW H) → Nat
  | [] => 0
  | d :: r => uptoBulk d + uptoBulkAll r
def uptoBulkEntries {H : Type} : List (Lit × DataW H) → Nat
  | [] => 0
  | x :: r => uptoBulkEntry x + uptoBulkEntries r
def uptoBulkEntry {H : Type} : Lit × DataW H → Nat
  | (.string bytes, d) => bytes.length + uptoBulk d + 1
  | (_, d) => uptoBulk d + 1
 end
def uptoSmall : (H : Type) → List (DataW H) → Bool := fun _ ds => decide (uptoBulkAll ds ≤ 1048576)
def OpenSpec.upto (s : _root_.Go.ChangeSpec) : _root_.Go.OpenSpec := { _root_.Go.OpenSpec.ofChange s with cond := some uptoSmall }

/-- 'laws.FnArrivalsOf', WHERE WHAT IT READS IS OF BULK AT MOST 1048576: true; the input reads as it did. -/
def fnArrivalsOfUptoRow : OpenClaim := { program := "ytoeockmkhpehbaa", sum := "cc4b39a064bcd63a6fe0c3d184a993fc8af076ccf479ff7d5c33591cc8f4f79b", func := "loop.example/waitkit/laws.FnArrivalsOf", spec := "fnArrivalsOf", unfollowed := true, recurses := true, apart := false, narrowed := true }
def FnArrivalsOfUptoSaid : Prop := fnArrivalsOfUptoRow.holds Try.pinned (OpenSpec.upto fnArrivalsOfSpec)

/-- 'laws.FnArriveTurns', WHERE WHAT IT READS IS OF BULK AT MOST 1048576: true; the input reads as it did. -/
def fnArriveTurnsUptoRow : OpenClaim := { program := "ytoeockmkhpehbaa", sum := "cc4b39a064bcd63a6fe0c3d184a993fc8af076ccf479ff7d5c33591cc8f4f79b", func := "loop.example/waitkit/laws.FnArriveTurns", spec := "fnArriveTurns", unfollowed := true, recurses := true, apart := false, narrowed := true }
def FnArriveTurnsUptoSaid : Prop := fnArriveTurnsUptoRow.holds Try.pinned (OpenSpec.upto fnArriveTurnsSpec)

/-- 'laws.FnGroupsLeft', WHERE WHAT IT READS IS OF BULK AT MOST 1048576: true; the input reads as it did. -/
def fnGroupsLeftUptoRow : OpenClaim := { program := "ytoeockmkhpehbaa", sum := "cc4b39a064bcd63a6fe0c3d184a993fc8af076ccf479ff7d5c33591cc8f4f79b", func := "loop.example/waitkit/laws.FnGroupsLeft", spec := "fnGroupsLeft", unfollowed := true, recurses := true, apart := false, narrowed := true }
def FnGroupsLeftUptoSaid : Prop := fnGroupsLeftUptoRow.holds Try.pinned (OpenSpec.upto fnGroupsLeftSpec)

/-- 'laws.FnLettersOf', WHERE WHAT IT READS IS OF BULK AT MOST 1048576: true; the input reads as it did. -/
def fnLettersOfUptoRow : OpenClaim := { program := "ytoeockmkhpehbaa", sum := "cc4b39a064bcd63a6fe0c3d184a993fc8af076ccf479ff7d5c33591cc8f4f79b", func := "loop.example/waitkit/laws.FnLettersOf", spec := "fnLettersOf", unfollowed := true, recurses := true, apart := false, narrowed := true }
def FnLettersOfUptoSaid : Prop := fnLettersOfUptoRow.holds Try.pinned (OpenSpec.upto fnLettersOfSpec)

/-- 'laws.FnOnlySems', WHERE WHAT IT READS IS OF BULK AT MOST 1048576: true; the input reads as it did. -/
def fnOnlySemsUptoRow : OpenClaim := { program := "ytoeockmkhpehbaa", sum := "cc4b39a064bcd63a6fe0c3d184a993fc8af076ccf479ff7d5c33591cc8f4f79b", func := "loop.example/waitkit/laws.FnOnlySems", spec := "fnOnlySems", unfollowed := true, recurses := true, apart := false, narrowed := true }
def FnOnlySemsUptoSaid : Prop := fnOnlySemsUptoRow.holds Try.pinned (OpenSpec.upto fnOnlySemsSpec)

/-- 'laws.FnSaysGone', WHERE WHAT IT READS IS OF BULK AT MOST 1048576: true; the input reads as it did. -/
def fnSaysGoneUptoRow : OpenClaim := { program := "ytoeockmkhpehbaa", sum := "cc4b39a064bcd63a6fe0c3d184a993fc8af076ccf479ff7d5c33591cc8f4f79b", func := "loop.example/waitkit/laws.FnSaysGone", spec := "fnSaysGone", unfollowed := true, recurses := true, apart := false, narrowed := true }
def FnSaysGoneUptoSaid : Prop := fnSaysGoneUptoRow.holds Try.pinned (OpenSpec.upto fnSaysGoneSpec)

/-- 'laws.FnIsBalanced', WHERE WHAT IT READS IS OF BULK AT MOST 1048576: true; the input reads as it did. -/
def fnIsBalancedUptoRow : OpenClaim := { program := "ytoeockmkhpehbaa", sum := "cc4b39a064bcd63a6fe0c3d184a993fc8af076ccf479ff7d5c33591cc8f4f79b", func := "loop.example/waitkit/laws.FnIsBalanced", spec := "fnIsBalanced", unfollowed := true, recurses := true, apart := false, narrowed := true }
def FnIsBalancedUptoSaid : Prop := fnIsBalancedUptoRow.holds Try.pinned (OpenSpec.upto fnIsBalancedSpec)

end Rows
end Go.Proofs.Ytoeockmkhpehbaa
