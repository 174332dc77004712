/-
  No cell of these rows narrows 'for every input' (looked for: loops, veiled, ifaces, maps, wideKeys, modest, calm, conditions, laid).
  DERIVED. THE GIVEN ROWS OF THIS SEAT. 9 by the template 'for every input the law returns true; each argument reads behind the call as it read before'; 0 by the template 'total and deterministic' (their statements: YtfclolgfegdfjaaGreatTotals.lean).
  GIVEN WITH THE SEED: the statements are not yours to turn. If you find one false, say at which input.
  Laid BY PROGRAM, IN A SANDBOX (cutbox-rows.mjs): the forced cells as the released guide's own fill.sh prints them over the translation 90625bbb8ae780cb… (all of the seat's roots in one cut). By AI agents, Wed Nov 11 2026. No macro, syntax, notation, axiom, sorry.
-/
import Derived.Test.YtfclolgfegdfjaaGreatChecked
import GoSem.Claim
import GoSem.ClaimJoined
import GoSem.ClaimMapViews
import Derived.JoinedTies
import Derived.KernelRfl
namespace Go.Proofs.YtfclolgfegdfjaaGreat
/- THE CELL 'sum', in the pinned program and in every row, IS THE sha256 OF THE DUMP (.gsa) THAT YtfclolgfegdfjaaGreatProg.lean LOADS. Nothing in Lean hashes anything: it is a label: what it is worth is what the hold of that sum in a sandbox is worth. -/
noncomputable def Tryz.pinned : Pinned := { name := "ytfclolgfegdfjaagreat", sum := "90625bbb8ae780cb39e565ea264849127d4e7bbfee38dd616a02d0f7b3568262", checked := Tryz.checked }
namespace Rows
def none {H : Type} : Left H := { results := [], args := [] }

/-- 'laws.FnChoicesOf': WHATEVER THE INPUT: true; the input reads as it did. -/
def fnChoicesOfSpec : ChangeSpec := { name := "fnChoicesOf", fn := fun _ => fun
  | [d] => { results := [.lit (.bool true)], args := [d] }
  | _ => none }
def fnChoicesOfRow : OpenClaim := { program := "ytfclolgfegdfjaagreat", sum := "90625bbb8ae780cb39e565ea264849127d4e7bbfee38dd616a02d0f7b3568262", func := "loop.example/waitkit/laws.FnChoicesOf", spec := "fnChoicesOf", unfollowed := true, recurses := true, apart := false }
def FnChoicesOfSaid : Prop := fnChoicesOfRow.holds Tryz.pinned (OpenSpec.ofChange fnChoicesOfSpec)

/-- ITS FALSE NEIGHBOUR: 'it returns false'. Refute it at one input. -/
def fnChoicesOfWrong : ChangeSpec := { name := "fnChoicesOf", fn := fun _ => fun
  | [d] => { results := [.lit (.bool false)], args := [d] }
  | _ => none }
def FnChoicesOfWrongFalsely : Prop := fnChoicesOfRow.holds Tryz.pinned (OpenSpec.ofChange fnChoicesOfWrong)

/-- 'laws.FnEndTurns': WHATEVER THE INPUT: true; the input reads as it did. -/
def fnEndTurnsSpec : ChangeSpec := { name := "fnEndTurns", fn := fun _ => fun
  | [d] => { results := [.lit (.bool true)], args := [d] }
  | _ => none }
def fnEndTurnsRow : OpenClaim := { program := "ytfclolgfegdfjaagreat", sum := "90625bbb8ae780cb39e565ea264849127d4e7bbfee38dd616a02d0f7b3568262", func := "loop.example/waitkit/laws.FnEndTurns", spec := "fnEndTurns", unfollowed := true, recurses := true, apart := false }
def FnEndTurnsSaid : Prop := fnEndTurnsRow.holds Tryz.pinned (OpenSpec.ofChange fnEndTurnsSpec)

/-- ITS FALSE NEIGHBOUR: 'it returns false'. Refute it at one input. -/
def fnEndTurnsWrong : ChangeSpec := { name := "fnEndTurns", fn := fun _ => fun
  | [d] => { results := [.lit (.bool false)], args := [d] }
  | _ => none }
def FnEndTurnsWrongFalsely : Prop := fnEndTurnsRow.holds Tryz.pinned (OpenSpec.ofChange fnEndTurnsWrong)

/-- 'laws.FnReplayShort': WHATEVER THE INPUT: true; the input reads as it did. -/
def fnReplayShortSpec : ChangeSpec := { name := "fnReplayShort", fn := fun _ => fun
  | [d] => { results := [.lit (.bool true)], args := [d] }
  | _ => none }
def fnReplayShortRow : OpenClaim := { program := "ytfclolgfegdfjaagreat", sum := "90625bbb8ae780cb39e565ea264849127d4e7bbfee38dd616a02d0f7b3568262", func := "loop.example/waitkit/laws.FnReplayShort", spec := "fnReplayShort", unfollowed := true, recurses := true, apart := false }
def FnReplayShortSaid : Prop := fnReplayShortRow.holds Tryz.pinned (OpenSpec.ofChange fnReplayShortSpec)

/-- ITS FALSE NEIGHBOUR: 'it returns false'. Refute it at one input. -/
def fnReplayShortWrong : ChangeSpec := { name := "fnReplayShort", fn := fun _ => fun
  | [d] => { results := [.lit (.bool false)], args := [d] }
  | _ => none }
def FnReplayShortWrongFalsely : Prop := fnReplayShortRow.holds Tryz.pinned (OpenSpec.ofChange fnReplayShortWrong)

/-- 'laws.FnTurnsCount': WHATEVER THE INPUT: true; the input reads as it did. -/
def fnTurnsCountSpec : ChangeSpec := { name := "fnTurnsCount", fn := fun _ => fun
  | [d] => { results := [.lit (.bool true)], args := [d] }
  | _ => none }
def fnTurnsCountRow : OpenClaim := { program := "ytfclolgfegdfjaagreat", sum := "90625bbb8ae780cb39e565ea264849127d4e7bbfee38dd616a02d0f7b3568262", func := "loop.example/waitkit/laws.FnTurnsCount", spec := "fnTurnsCount", unfollowed := true, recurses := true, apart := false }
def FnTurnsCountSaid : Prop := fnTurnsCountRow.holds Tryz.pinned (OpenSpec.ofChange fnTurnsCountSpec)

/-- ITS FALSE NEIGHBOUR: 'it returns false'. Refute it at one input. -/
def fnTurnsCountWrong : ChangeSpec := { name := "fnTurnsCount", fn := fun _ => fun
  | [d] => { results := [.lit (.bool false)], args := [d] }
  | _ => none }
def FnTurnsCountWrongFalsely : Prop := fnTurnsCountRow.holds Tryz.pinned (OpenSpec.ofChange fnTurnsCountWrong)

/-- 'laws.FnReplayTrace': WHATEVER THE INPUT: true; the input reads as it did. -/
def fnReplayTraceSpec : ChangeSpec := { name := "fnReplayTrace", fn := fun _ => fun
  | [d] => { results := [.lit (.bool true)], args := [d] }
  | _ => none }
def fnReplayTraceRow : OpenClaim := { program := "ytfclolgfegdfjaagreat", sum := "90625bbb8ae780cb39e565ea264849127d4e7bbfee38dd616a02d0f7b3568262", func := "loop.example/waitkit/laws.FnReplayTrace", spec := "fnReplayTrace", unfollowed := true, recurses := true, apart := false }
def FnReplayTraceSaid : Prop := fnReplayTraceRow.holds Tryz.pinned (OpenSpec.ofChange fnReplayTraceSpec)

/-- ITS FALSE NEIGHBOUR: 'it returns false'. Refute it at one input. -/
def fnReplayTraceWrong : ChangeSpec := { name := "fnReplayTrace", fn := fun _ => fun
  | [d] => { results := [.lit (.bool false)], args := [d] }
  | _ => none }
def FnReplayTraceWrongFalsely : Prop := fnReplayTraceRow.holds Tryz.pinned (OpenSpec.ofChange fnReplayTraceWrong)

/-- 'laws.FnTraceSaid': WHATEVER THE INPUT: true; the input reads as it did. -/
def fnTraceSaidSpec : ChangeSpec := { name := "fnTraceSaid", fn := fun _ => fun
  | [d] => { results := [.lit (.bool true)], args := [d] }
  | _ => none }
def fnTraceSaidRow : OpenClaim := { program := "ytfclolgfegdfjaagreat", sum := "90625bbb8ae780cb39e565ea264849127d4e7bbfee38dd616a02d0f7b3568262", func := "loop.example/waitkit/laws.FnTraceSaid", spec := "fnTraceSaid", unfollowed := true, recurses := true, apart := false }
def FnTraceSaidSaid : Prop := fnTraceSaidRow.holds Tryz.pinned (OpenSpec.ofChange fnTraceSaidSpec)

/-- ITS FALSE NEIGHBOUR: 'it returns false'. Refute it at one input. -/
def fnTraceSaidWrong : ChangeSpec := { name := "fnTraceSaid", fn := fun _ => fun
  | [d] => { results := [.lit (.bool false)], args := [d] }
  | _ => none }
def FnTraceSaidWrongFalsely : Prop := fnTraceSaidRow.holds Tryz.pinned (OpenSpec.ofChange fnTraceSaidWrong)

/-- 'laws.FnRunChoices': WHATEVER THE INPUT: true; the input reads as it did. -/
def fnRunChoicesSpec : ChangeSpec := { name := "fnRunChoices", fn := fun _ => fun
  | [d] => { results := [.lit (.bool true)], args := [d] }
  | _ => none }
def fnRunChoicesRow : OpenClaim := { program := "ytfclolgfegdfjaagreat", sum := "90625bbb8ae780cb39e565ea264849127d4e7bbfee38dd616a02d0f7b3568262", func := "loop.example/waitkit/laws.FnRunChoices", spec := "fnRunChoices", unfollowed := true, recurses := true, apart := false }
def FnRunChoicesSaid : Prop := fnRunChoicesRow.holds Tryz.pinned (OpenSpec.ofChange fnRunChoicesSpec)

/-- ITS FALSE NEIGHBOUR: 'it returns false'. Refute it at one input. -/
def fnRunChoicesWrong : ChangeSpec := { name := "fnRunChoices", fn := fun _ => fun
  | [d] => { results := [.lit (.bool false)], args := [d] }
  | _ => none }
def FnRunChoicesWrongFalsely : Prop := fnRunChoicesRow.holds Tryz.pinned (OpenSpec.ofChange fnRunChoicesWrong)

/-- 'laws.FnRunFirst': WHATEVER THE INPUT: true; the input reads as it did. -/
def fnRunFirstSpec : ChangeSpec := { name := "fnRunFirst", fn := fun _ => fun
  | [d] => { results := [.lit (.bool true)], args := [d] }
  | _ => none }
def fnRunFirstRow : OpenClaim := { program := "ytfclolgfegdfjaagreat", sum := "90625bbb8ae780cb39e565ea264849127d4e7bbfee38dd616a02d0f7b3568262", func := "loop.example/waitkit/laws.FnRunFirst", spec := "fnRunFirst", unfollowed := true, recurses := true, apart := false }
def FnRunFirstSaid : Prop := fnRunFirstRow.holds Tryz.pinned (OpenSpec.ofChange fnRunFirstSpec)

/-- ITS FALSE NEIGHBOUR: 'it returns false'. Refute it at one input. -/
def fnRunFirstWrong : ChangeSpec := { name := "fnRunFirst", fn := fun _ => fun
  | [d] => { results := [.lit (.bool false)], args := [d] }
  | _ => none }
def FnRunFirstWrongFalsely : Prop := fnRunFirstRow.holds Tryz.pinned (OpenSpec.ofChange fnRunFirstWrong)

/-- 'laws.FnRunTurns': WHATEVER THE INPUT: true; the input reads as it did. -/
def fnRunTurnsSpec : ChangeSpec := { name := "fnRunTurns", fn := fun _ => fun
  | [d] => { results := [.lit (.bool true)], args := [d] }
  | _ => none }
def fnRunTurnsRow : OpenClaim := { program := "ytfclolgfegdfjaagreat", sum := "90625bbb8ae780cb39e565ea264849127d4e7bbfee38dd616a02d0f7b3568262", func := "loop.example/waitkit/laws.FnRunTurns", spec := "fnRunTurns", unfollowed := true, recurses := true, apart := false }
def FnRunTurnsSaid : Prop := fnRunTurnsRow.holds Tryz.pinned (OpenSpec.ofChange fnRunTurnsSpec)

/-- ITS FALSE NEIGHBOUR: 'it returns false'. Refute it at one input. -/
def fnRunTurnsWrong : ChangeSpec := { name := "fnRunTurns", fn := fun _ => fun
  | [d] => { results := [.lit (.bool false)], args := [d] }
  | _ => none }
def FnRunTurnsWrongFalsely : Prop := fnRunTurnsRow.holds Tryz.pinned (OpenSpec.ofChange fnRunTurnsWrong)

/- THE SECOND FORM. 'bulk': how many values and letters a reading holds, each counted each time it is reached (what is shared counts as often as it is met; a slice's spare places count too). A statement '..UptoSaid' is the law's where the arguments, and the package variables that the reading takes, are together of bulk at most 1048576: NARROWER than '..Said'. Prove '..Said' where nothing that the law and all that it calls make is longer than what came in: it says more and counts as full. Else prove '..UptoSaid'. A law counts once. -/
mutual
def uptoBulk {H : Type} : DataW H → Nat
  | .lit (.string bytes) => bytes.length + 1
  | .lit _ => 1
  | .nil => 1
  | .ptr d => uptoBulk d + 1
  | .slice elems spare => uptoBulkAll elems + uptoBulkAll spare + 1
  | .agg parts => uptoBulkAll parts + 1
  | .iface _ d => uptoBulk d + 1
  | .map entries => uptoBulkEntries entries + 1
  | .held _ => 1
def uptoBulkAll {H : Type} : List (DataW H) → Nat
  | [] => 0
  | d :: r => uptoBulk d + uptoBulkAll r
def uptoBulkEntries {H : Type} : List (Lit × DataW H) → Nat
  | [] => 0
  | x :: r => uptoBulkEntry x + uptoBulkEntries r
def uptoBulkEntry {H : Type} : Lit × DataW H → Nat
  | (.string bytes, d) => bytes.length + uptoBulk d + 1
  | (_, d) => uptoBulk d + 1
 end
def uptoSmall : (H : Type) → List (DataW H) → Bool := fun _ ds => decide (uptoBulkAll ds ≤ 1048576)
def OpenSpec.upto (s : _root_.Go.ChangeSpec) : _root_.Go.OpenSpec := { _root_.Go.OpenSpec.ofChange s with cond := some uptoSmall }

/-- 'laws.FnChoicesOf', WHERE WHAT IT READS IS OF BULK AT MOST 1048576: true; the input reads as it did. -/
def fnChoicesOfUptoRow : OpenClaim := { program := "ytfclolgfegdfjaagreat", sum := "90625bbb8ae780cb39e565ea264849127d4e7bbfee38dd616a02d0f7b3568262", func := "loop.example/waitkit/laws.FnChoicesOf", spec := "fnChoicesOf", unfollowed := true, recurses := true, apart := false, narrowed := true }
def FnChoicesOfUptoSaid : Prop := fnChoicesOfUptoRow.holds Tryz.pinned (OpenSpec.upto fnChoicesOfSpec)

/-- 'laws.FnEndTurns', WHERE WHAT IT READS IS OF BULK AT MOST 1048576: true; the input reads as it did. -/
def fnEndTurnsUptoRow : OpenClaim := { program := "ytfclolgfegdfjaagreat", sum := "90625bbb8ae780cb39e565ea264849127d4e7bbfee38dd616a02d0f7b3568262", func := "loop.example/waitkit/laws.FnEndTurns", spec := "fnEndTurns", unfollowed := true, recurses := true, apart := false, narrowed := true }
def FnEndTurnsUptoSaid : Prop := fnEndTurnsUptoRow.holds Tryz.pinned (OpenSpec.upto fnEndTurnsSpec)

/-- 'laws.FnReplayShort', WHERE WHAT IT READS IS OF BULK AT MOST 1048576: true; the input reads as it did. -/
def fnReplayShortUptoRow : OpenClaim := { program := "ytfclolgfegdfjaagreat", sum := "90625bbb8ae780cb39e565ea264849127d4e7bbfee38dd616a02d0f7b3568262", func := "loop.example/waitkit/laws.FnReplayShort", spec := "fnReplayShort", unfollowed := true, recurses := true, apart := false, narrowed := true }
def FnReplayShortUptoSaid : Prop := fnReplayShortUptoRow.holds Tryz.pinned (OpenSpec.upto fnReplayShortSpec)

/-- 'laws.FnTurnsCount', WHERE WHAT IT READS IS OF BULK AT MOST 1048576: true; the input reads as it did. -/
def fnTurnsCountUptoRow : OpenClaim := { program := "ytfclolgfegdfjaagreat", sum := "90625bbb8ae780cb39e565ea264849127d4e7bbfee38dd616a02d0f7b3568262", func := "loop.example/waitkit/laws.FnTurnsCount", spec := "fnTurnsCount", unfollowed := true, recurses := true, apart := false, narrowed := true }
def FnTurnsCountUptoSaid : Prop := fnTurnsCountUptoRow.holds Tryz.pinned (OpenSpec.upto fnTurnsCountSpec)

/-- 'laws.FnReplayTrace', WHERE WHAT IT READS IS OF BULK AT MOST 1048576: true; the input reads as it did. -/
def fnReplayTraceUptoRow : OpenClaim := { program := "ytfclolgfegdfjaagreat", sum := "90625bbb8ae780cb39e565ea264849127d4e7bbfee38dd616a02d0f7b3568262", func := "loop.example/waitkit/laws.FnReplayTrace", spec := "fnReplayTrace", unfollowed := true, recurses := true, apart := false, narrowed := true }
def FnReplayTraceUptoSaid : Prop := fnReplayTraceUptoRow.holds Tryz.pinned (OpenSpec.upto fnReplayTraceSpec)

/-- 'laws.FnTraceSaid', WHERE WHAT IT READS IS OF BULK AT MOST 1048576: true; the input reads as it did. -/
def fnTraceSaidUptoRow : OpenClaim := { program := "ytfclolgfegdfjaagreat", sum := "90625bbb8ae780cb39e565ea264849127d4e7bbfee38dd616a02d0f7b3568262", func := "loop.example/waitkit/laws.FnTraceSaid", spec := "fnTraceSaid", unfollowed := true, recurses := true, apart := false, narrowed := true }
def FnTraceSaidUptoSaid : Prop := fnTraceSaidUptoRow.holds Tryz.pinned (OpenSpec.upto fnTraceSaidSpec)

/-- 'laws.FnRunChoices', WHERE WHAT IT READS IS OF BULK AT MOST 1048576: true; the input reads as it did. -/
def fnRunChoicesUptoRow : OpenClaim := { program := "ytfclolgfegdfjaagreat", sum := "90625bbb8ae780cb39e565ea264849127d4e7bbfee38dd616a02d0f7b3568262", func := "loop.example/waitkit/laws.FnRunChoices", spec := "fnRunChoices", unfollowed := true, recurses := true, apart := false, narrowed := true }
def FnRunChoicesUptoSaid : Prop := fnRunChoicesUptoRow.holds Tryz.pinned (OpenSpec.upto fnRunChoicesSpec)

/-- 'laws.FnRunFirst', WHERE WHAT IT READS IS OF BULK AT MOST 1048576: true; the input reads as it did. -/
def fnRunFirstUptoRow : OpenClaim := { program := "ytfclolgfegdfjaagreat", sum := "90625bbb8ae780cb39e565ea264849127d4e7bbfee38dd616a02d0f7b3568262", func := "loop.example/waitkit/laws.FnRunFirst", spec := "fnRunFirst", unfollowed := true, recurses := true, apart := false, narrowed := true }
def FnRunFirstUptoSaid : Prop := fnRunFirstUptoRow.holds Tryz.pinned (OpenSpec.upto fnRunFirstSpec)

/-- 'laws.FnRunTurns', WHERE WHAT IT READS IS OF BULK AT MOST 1048576: true; the input reads as it did. -/
def fnRunTurnsUptoRow : OpenClaim := { program := "ytfclolgfegdfjaagreat", sum := "90625bbb8ae780cb39e565ea264849127d4e7bbfee38dd616a02d0f7b3568262", func := "loop.example/waitkit/laws.FnRunTurns", spec := "fnRunTurns", unfollowed := true, recurses := true, apart := false, narrowed := true }
def FnRunTurnsUptoSaid : Prop := fnRunTurnsUptoRow.holds Tryz.pinned (OpenSpec.upto fnRunTurnsSpec)

end Rows
end Go.Proofs.YtfclolgfegdfjaaGreat
