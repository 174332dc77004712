/-
  No cell of these rows narrows 'for every input' (looked for: loops, veiled, ifaces, maps, wideKeys, modest, calm, conditions, laid).
  DERIVED. THE GIVEN ROWS OF THIS SEAT. 4 by the template 'for every input the law returns true; each argument reads behind the call as it read before'; 0 by the template 'total and deterministic' (their statements: YtnlijgjpgdjpiaaGreatTotals.lean).
  GIVEN WITH THE SEED: the statements are not yours to turn. If you find one false, say at which input.
  Laid BY PROGRAM, IN A SANDBOX (cutbox-rows.mjs): the forced cells as the released guide's own fill.sh prints them over the translation b06d55d2db261dfd… (all of the seat's roots in one cut). By AI agents, Wed Nov 11 2026. No macro, syntax, notation, axiom, sorry.
-/
import Derived.Test.YtnlijgjpgdjpiaaGreatChecked
import GoSem.Claim
import GoSem.ClaimJoined
import GoSem.ClaimMapViews
import Derived.JoinedTies
import Derived.KernelRfl
namespace Go.Proofs.YtnlijgjpgdjpiaaGreat
/- THE CELL 'sum', in the pinned program and in every row, IS THE sha256 OF THE DUMP (.gsa) THAT YtnlijgjpgdjpiaaGreatProg.lean LOADS. Nothing in Lean hashes anything: it is a label: what it is worth is what the hold of that sum in a sandbox is worth. -/
noncomputable def Tryz.pinned : Pinned := { name := "ytnlijgjpgdjpiaagreat", sum := "b06d55d2db261dfdd2f8bb2ecc4b9eee7a936d477731dfebe38a4432cac13b0f", checked := Tryz.checked }
namespace Rows
def none {H : Type} : Left H := { results := [], args := [] }

/-- 'laws.FnExactRunChoices': WHATEVER THE INPUT: true; the input reads as it did. -/
def fnExactRunChoicesSpec : ChangeSpec := { name := "fnExactRunChoices", fn := fun _ => fun
  | [d1, d2] => { results := [.lit (.bool true)], args := [d1, d2] }
  | _ => none }
def fnExactRunChoicesRow : OpenClaim := { program := "ytnlijgjpgdjpiaagreat", sum := "b06d55d2db261dfdd2f8bb2ecc4b9eee7a936d477731dfebe38a4432cac13b0f", func := "loop.example/waitkit/laws.FnExactRunChoices", spec := "fnExactRunChoices", unfollowed := true, recurses := true, apart := false }
def FnExactRunChoicesSaid : Prop := fnExactRunChoicesRow.holds Tryz.pinned (OpenSpec.ofChange fnExactRunChoicesSpec)

/-- ITS FALSE NEIGHBOUR: 'it returns false'. Refute it at one input. -/
def fnExactRunChoicesWrong : ChangeSpec := { name := "fnExactRunChoices", fn := fun _ => fun
  | [d1, d2] => { results := [.lit (.bool false)], args := [d1, d2] }
  | _ => none }
def FnExactRunChoicesWrongFalsely : Prop := fnExactRunChoicesRow.holds Tryz.pinned (OpenSpec.ofChange fnExactRunChoicesWrong)

/-- 'laws.FnExactRunFirst': WHATEVER THE INPUT: true; the input reads as it did. -/
def fnExactRunFirstSpec : ChangeSpec := { name := "fnExactRunFirst", fn := fun _ => fun
  | [d] => { results := [.lit (.bool true)], args := [d] }
  | _ => none }
def fnExactRunFirstRow : OpenClaim := { program := "ytnlijgjpgdjpiaagreat", sum := "b06d55d2db261dfdd2f8bb2ecc4b9eee7a936d477731dfebe38a4432cac13b0f", func := "loop.example/waitkit/laws.FnExactRunFirst", spec := "fnExactRunFirst", unfollowed := true, recurses := true, apart := false }
def FnExactRunFirstSaid : Prop := fnExactRunFirstRow.holds Tryz.pinned (OpenSpec.ofChange fnExactRunFirstSpec)

/-- ITS FALSE NEIGHBOUR: 'it returns false'. Refute it at one input. -/
def fnExactRunFirstWrong : ChangeSpec := { name := "fnExactRunFirst", fn := fun _ => fun
  | [d] => { results := [.lit (.bool false)], args := [d] }
  | _ => none }
def FnExactRunFirstWrongFalsely : Prop := fnExactRunFirstRow.holds Tryz.pinned (OpenSpec.ofChange fnExactRunFirstWrong)

/-- 'laws.FnExactRunTurns': WHATEVER THE INPUT: true; the input reads as it did. -/
def fnExactRunTurnsSpec : ChangeSpec := { name := "fnExactRunTurns", fn := fun _ => fun
  | [d] => { results := [.lit (.bool true)], args := [d] }
  | _ => none }
def fnExactRunTurnsRow : OpenClaim := { program := "ytnlijgjpgdjpiaagreat", sum := "b06d55d2db261dfdd2f8bb2ecc4b9eee7a936d477731dfebe38a4432cac13b0f", func := "loop.example/waitkit/laws.FnExactRunTurns", spec := "fnExactRunTurns", unfollowed := true, recurses := true, apart := false }
def FnExactRunTurnsSaid : Prop := fnExactRunTurnsRow.holds Tryz.pinned (OpenSpec.ofChange fnExactRunTurnsSpec)

/-- ITS FALSE NEIGHBOUR: 'it returns false'. Refute it at one input. -/
def fnExactRunTurnsWrong : ChangeSpec := { name := "fnExactRunTurns", fn := fun _ => fun
  | [d] => { results := [.lit (.bool false)], args := [d] }
  | _ => none }
def FnExactRunTurnsWrongFalsely : Prop := fnExactRunTurnsRow.holds Tryz.pinned (OpenSpec.ofChange fnExactRunTurnsWrong)

/-- 'laws.FnExactReplayTrace': WHATEVER THE INPUT: true; the input reads as it did. -/
def fnExactReplayTraceSpec : ChangeSpec := { name := "fnExactReplayTrace", fn := fun _ => fun
  | [d1, d2] => { results := [.lit (.bool true)], args := [d1, d2] }
  | _ => none }
def fnExactReplayTraceRow : OpenClaim := { program := "ytnlijgjpgdjpiaagreat", sum := "b06d55d2db261dfdd2f8bb2ecc4b9eee7a936d477731dfebe38a4432cac13b0f", func := "loop.example/waitkit/laws.FnExactReplayTrace", spec := "fnExactReplayTrace", unfollowed := true, recurses := true, apart := false }
def FnExactReplayTraceSaid : Prop := fnExactReplayTraceRow.holds Tryz.pinned (OpenSpec.ofChange fnExactReplayTraceSpec)

/-- ITS FALSE NEIGHBOUR: 'it returns false'. Refute it at one input. -/
def fnExactReplayTraceWrong : ChangeSpec := { name := "fnExactReplayTrace", fn := fun _ => fun
  | [d1, d2] => { results := [.lit (.bool false)], args := [d1, d2] }
  | _ => none }
def FnExactReplayTraceWrongFalsely : Prop := fnExactReplayTraceRow.holds Tryz.pinned (OpenSpec.ofChange fnExactReplayTraceWrong)

/- THE SECOND FORM. 'bulk': how many values and letters a reading holds, each counted each time it is reached (what is shared counts as often as it is met; a slice's spare places count too). A statement '..UptoSaid' is the law's where the arguments, and the package variables that the reading takes, are together of bulk at most 1048576: NARROWER than '..Said'. Prove '..Said' where nothing that the law and all that it calls make is longer than what came in: it says more and counts as full. Else prove '..UptoSaid'. A law counts once. -/
mutual
def uptoBulk {H : Type} : DataW H → Nat
  | .lit (.string bytes) => bytes.length + 1
  | .lit _ => 1
  | .nil => 1
  | .ptr d => uptoBulk d + 1
  | .slice elems spare => uptoBulkAll elems + uptoBulkAll spare + 1
  | .agg parts => uptoBulkAll parts + 1
  | .iface _ d => uptoBulk d + 1
  | .map entries => uptoBulkEntries entries + 1
  | .held _ => 1
def uptoBulkAll {H : Type} : List (DataW H) → Nat
  | [] => 0
  | d :: r => uptoBulk d + uptoBulkAll r
def uptoBulkEntries {H : Type} : List (Lit × DataW H) → Nat
  | [] => 0
  | x :: r => uptoBulkEntry x + uptoBulkEntries r
def uptoBulkEntry {H : Type} : Lit × DataW H → Nat
  | (.string bytes, d) => bytes.length + uptoBulk d + 1
  | (_, d) => uptoBulk d + 1
 end
def uptoSmall : (H : Type) → List (DataW H) → Bool := fun _ ds => decide (uptoBulkAll ds ≤ 1048576)
def OpenSpec.upto (s : _root_.Go.ChangeSpec) : _root_.Go.OpenSpec := { _root_.Go.OpenSpec.ofChange s with cond := some uptoSmall }

/-- 'laws.FnExactRunChoices', WHERE WHAT IT READS IS OF BULK AT MOST 1048576: true; the input reads as it did. -/
def fnExactRunChoicesUptoRow : OpenClaim := { program := "ytnlijgjpgdjpiaagreat", sum := "b06d55d2db261dfdd2f8bb2ecc4b9eee7a936d477731dfebe38a4432cac13b0f", func := "loop.example/waitkit/laws.FnExactRunChoices", spec := "fnExactRunChoices", unfollowed := true, recurses := true, apart := false, narrowed := true }
def FnExactRunChoicesUptoSaid : Prop := fnExactRunChoicesUptoRow.holds Tryz.pinned (OpenSpec.upto fnExactRunChoicesSpec)

/-- 'laws.FnExactRunFirst', WHERE WHAT IT READS IS OF BULK AT MOST 1048576: true; the input reads as it did. -/
def fnExactRunFirstUptoRow : OpenClaim := { program := "ytnlijgjpgdjpiaagreat", sum := "b06d55d2db261dfdd2f8bb2ecc4b9eee7a936d477731dfebe38a4432cac13b0f", func := "loop.example/waitkit/laws.FnExactRunFirst", spec := "fnExactRunFirst", unfollowed := true, recurses := true, apart := false, narrowed := true }
def FnExactRunFirstUptoSaid : Prop := fnExactRunFirstUptoRow.holds Tryz.pinned (OpenSpec.upto fnExactRunFirstSpec)

/-- 'laws.FnExactRunTurns', WHERE WHAT IT READS IS OF BULK AT MOST 1048576: true; the input reads as it did. -/
def fnExactRunTurnsUptoRow : OpenClaim := { program := "ytnlijgjpgdjpiaagreat", sum := "b06d55d2db261dfdd2f8bb2ecc4b9eee7a936d477731dfebe38a4432cac13b0f", func := "loop.example/waitkit/laws.FnExactRunTurns", spec := "fnExactRunTurns", unfollowed := true, recurses := true, apart := false, narrowed := true }
def FnExactRunTurnsUptoSaid : Prop := fnExactRunTurnsUptoRow.holds Tryz.pinned (OpenSpec.upto fnExactRunTurnsSpec)

/-- 'laws.FnExactReplayTrace', WHERE WHAT IT READS IS OF BULK AT MOST 1048576: true; the input reads as it did. -/
def fnExactReplayTraceUptoRow : OpenClaim := { program := "ytnlijgjpgdjpiaagreat", sum := "b06d55d2db261dfdd2f8bb2ecc4b9eee7a936d477731dfebe38a4432cac13b0f", func := "loop.example/waitkit/laws.FnExactReplayTrace", spec := "fnExactReplayTrace", unfollowed := true, recurses := true, apart := false, narrowed := true }
def FnExactReplayTraceUptoSaid : Prop := fnExactReplayTraceUptoRow.holds Tryz.pinned (OpenSpec.upto fnExactReplayTraceSpec)

end Rows
end Go.Proofs.YtnlijgjpgdjpiaaGreat
