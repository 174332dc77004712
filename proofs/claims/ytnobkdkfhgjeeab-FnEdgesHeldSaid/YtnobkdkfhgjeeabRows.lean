/-
  No cell of these rows narrows 'for every input' (looked for: loops, veiled, ifaces, maps, wideKeys, modest, calm, conditions, laid).
  DERIVED. THE GIVEN ROWS OF THIS SEAT. 7 by the template 'for every input the law returns true; each argument reads behind the call as it read before'; 0 by the template 'total and deterministic' (their statements: YtnobkdkfhgjeeabTotals.lean).
  GIVEN WITH THE SEED: the statements are not yours to turn. If you find one false, say at which input.
  Laid BY PROGRAM, IN A SANDBOX (cutbox-rows.mjs): the forced cells as the released guide's own fill.sh prints them over the translation 0e2922416a15b990… (all of the seat's roots in one cut). By AI agents, Wed Nov 11 2026. No macro, syntax, notation, axiom, sorry.
-/
import Derived.Test.YtnobkdkfhgjeeabChecked
import GoSem.Claim
import GoSem.ClaimJoined
import GoSem.ClaimMapViews
import Derived.JoinedTies
import Derived.KernelRfl
namespace Go.Proofs.Ytnobkdkfhgjeeab
/- THE CELL 'sum', in the pinned program and in every row, IS THE sha256 OF THE DUMP (.gsa) THAT YtnobkdkfhgjeeabProg.lean LOADS. Nothing in Lean hashes anything: it is a label: what it is worth is what the hold of that sum in a sandbox is worth. -/
noncomputable def Try.pinned : Pinned := { name := "ytnobkdkfhgjeeab", sum := "0e2922416a15b9905b5cad4f5e515c57666aae4ece3f58c5d24bc07d40f6a93e", checked := Try.checked }
namespace Rows
def none {H : Type} : Left H := { results := [], args := [] }

/-- 'laws.FnCutThread': WHATEVER THE INPUT: true; the input reads as it did. -/
def fnCutThreadSpec : ChangeSpec := { name := "fnCutThread", fn := fun _ => fun
  | [d] => { results := [.lit (.bool true)], args := [d] }
  | _ => none }
def fnCutThreadRow : OpenClaim := { program := "ytnobkdkfhgjeeab", sum := "0e2922416a15b9905b5cad4f5e515c57666aae4ece3f58c5d24bc07d40f6a93e", func := "loop.example/waitkit/laws.FnCutThread", spec := "fnCutThread", unfollowed := true, recurses := true, apart := false }
def FnCutThreadSaid : Prop := fnCutThreadRow.holds Try.pinned (OpenSpec.ofChange fnCutThreadSpec)

/-- ITS FALSE NEIGHBOUR: 'it returns false'. Refute it at one input. -/
def fnCutThreadWrong : ChangeSpec := { name := "fnCutThread", fn := fun _ => fun
  | [d] => { results := [.lit (.bool false)], args := [d] }
  | _ => none }
def FnCutThreadWrongFalsely : Prop := fnCutThreadRow.holds Try.pinned (OpenSpec.ofChange fnCutThreadWrong)

/-- 'laws.FnExactPutOp': WHATEVER THE INPUT: true; the input reads as it did. -/
def fnExactPutOpSpec : ChangeSpec := { name := "fnExactPutOp", fn := fun _ => fun
  | [d1, d2, d3, d4] => { results := [.lit (.bool true)], args := [d1, d2, d3, d4] }
  | _ => none }
def fnExactPutOpRow : OpenClaim := { program := "ytnobkdkfhgjeeab", sum := "0e2922416a15b9905b5cad4f5e515c57666aae4ece3f58c5d24bc07d40f6a93e", func := "loop.example/waitkit/laws.FnExactPutOp", spec := "fnExactPutOp", inPlace := ["slices.overlaps[loop.example/waitkit/impl.Op]"], unfollowed := true, recurses := true, apart := false }
def FnExactPutOpSaid : Prop := fnExactPutOpRow.holds Try.pinned (OpenSpec.ofChange fnExactPutOpSpec)

/-- ITS FALSE NEIGHBOUR: 'it returns false'. Refute it at one input. -/
def fnExactPutOpWrong : ChangeSpec := { name := "fnExactPutOp", fn := fun _ => fun
  | [d1, d2, d3, d4] => { results := [.lit (.bool false)], args := [d1, d2, d3, d4] }
  | _ => none }
def FnExactPutOpWrongFalsely : Prop := fnExactPutOpRow.holds Try.pinned (OpenSpec.ofChange fnExactPutOpWrong)

/-- 'laws.FnCutSums': WHATEVER THE INPUT: true; the input reads as it did. -/
def fnCutSumsSpec : ChangeSpec := { name := "fnCutSums", fn := fun _ => fun
  | [d] => { results := [.lit (.bool true)], args := [d] }
  | _ => none }
def fnCutSumsRow : OpenClaim := { program := "ytnobkdkfhgjeeab", sum := "0e2922416a15b9905b5cad4f5e515c57666aae4ece3f58c5d24bc07d40f6a93e", func := "loop.example/waitkit/laws.FnCutSums", spec := "fnCutSums", unfollowed := true, recurses := true, apart := false }
def FnCutSumsSaid : Prop := fnCutSumsRow.holds Try.pinned (OpenSpec.ofChange fnCutSumsSpec)

/-- ITS FALSE NEIGHBOUR: 'it returns false'. Refute it at one input. -/
def fnCutSumsWrong : ChangeSpec := { name := "fnCutSums", fn := fun _ => fun
  | [d] => { results := [.lit (.bool false)], args := [d] }
  | _ => none }
def FnCutSumsWrongFalsely : Prop := fnCutSumsRow.holds Try.pinned (OpenSpec.ofChange fnCutSumsWrong)

/-- 'laws.FnDropOp': WHATEVER THE INPUT: true; the input reads as it did. -/
def fnDropOpSpec : ChangeSpec := { name := "fnDropOp", fn := fun _ => fun
  | [d] => { results := [.lit (.bool true)], args := [d] }
  | _ => none }
def fnDropOpRow : OpenClaim := { program := "ytnobkdkfhgjeeab", sum := "0e2922416a15b9905b5cad4f5e515c57666aae4ece3f58c5d24bc07d40f6a93e", func := "loop.example/waitkit/laws.FnDropOp", spec := "fnDropOp", inPlace := ["slices.overlaps[loop.example/waitkit/impl.Op]"], unfollowed := true, recurses := true, apart := false }
def FnDropOpSaid : Prop := fnDropOpRow.holds Try.pinned (OpenSpec.ofChange fnDropOpSpec)

/-- ITS FALSE NEIGHBOUR: 'it returns false'. Refute it at one input. -/
def fnDropOpWrong : ChangeSpec := { name := "fnDropOp", fn := fun _ => fun
  | [d] => { results := [.lit (.bool false)], args := [d] }
  | _ => none }
def FnDropOpWrongFalsely : Prop := fnDropOpRow.holds Try.pinned (OpenSpec.ofChange fnDropOpWrong)

/-- 'laws.FnPutOp': WHATEVER THE INPUT: true; the input reads as it did. -/
def fnPutOpSpec : ChangeSpec := { name := "fnPutOp", fn := fun _ => fun
  | [d] => { results := [.lit (.bool true)], args := [d] }
  | _ => none }
def fnPutOpRow : OpenClaim := { program := "ytnobkdkfhgjeeab", sum := "0e2922416a15b9905b5cad4f5e515c57666aae4ece3f58c5d24bc07d40f6a93e", func := "loop.example/waitkit/laws.FnPutOp", spec := "fnPutOp", inPlace := ["slices.overlaps[loop.example/waitkit/impl.Op]"], unfollowed := true, recurses := true, apart := false }
def FnPutOpSaid : Prop := fnPutOpRow.holds Try.pinned (OpenSpec.ofChange fnPutOpSpec)

/-- ITS FALSE NEIGHBOUR: 'it returns false'. Refute it at one input. -/
def fnPutOpWrong : ChangeSpec := { name := "fnPutOp", fn := fun _ => fun
  | [d] => { results := [.lit (.bool false)], args := [d] }
  | _ => none }
def FnPutOpWrongFalsely : Prop := fnPutOpRow.holds Try.pinned (OpenSpec.ofChange fnPutOpWrong)

/-- 'laws.FnExactHoldEdges': WHATEVER THE INPUT: true; the input reads as it did. -/
def fnExactHoldEdgesSpec : ChangeSpec := { name := "fnExactHoldEdges", fn := fun _ => fun
  | [d] => { results := [.lit (.bool true)], args := [d] }
  | _ => none }
def fnExactHoldEdgesRow : OpenClaim := { program := "ytnobkdkfhgjeeab", sum := "0e2922416a15b9905b5cad4f5e515c57666aae4ece3f58c5d24bc07d40f6a93e", func := "loop.example/waitkit/laws.FnExactHoldEdges", spec := "fnExactHoldEdges", unfollowed := true, recurses := true, apart := false }
def FnExactHoldEdgesSaid : Prop := fnExactHoldEdgesRow.holds Try.pinned (OpenSpec.ofChange fnExactHoldEdgesSpec)

/-- ITS FALSE NEIGHBOUR: 'it returns false'. Refute it at one input. -/
def fnExactHoldEdgesWrong : ChangeSpec := { name := "fnExactHoldEdges", fn := fun _ => fun
  | [d] => { results := [.lit (.bool false)], args := [d] }
  | _ => none }
def FnExactHoldEdgesWrongFalsely : Prop := fnExactHoldEdgesRow.holds Try.pinned (OpenSpec.ofChange fnExactHoldEdgesWrong)

/-- 'laws.FnEdgesHeld': WHATEVER THE INPUT: true; the input reads as it did. -/
def fnEdgesHeldSpec : ChangeSpec := { name := "fnEdgesHeld", fn := fun _ => fun
  | [d] => { results := [.lit (.bool true)], args := [d] }
  | _ => none }
def fnEdgesHeldRow : OpenClaim := { program := "ytnobkdkfhgjeeab", sum := "0e2922416a15b9905b5cad4f5e515c57666aae4ece3f58c5d24bc07d40f6a93e", func := "loop.example/waitkit/laws.FnEdgesHeld", spec := "fnEdgesHeld", unfollowed := true, recurses := true, apart := false }
def FnEdgesHeldSaid : Prop := fnEdgesHeldRow.holds Try.pinned (OpenSpec.ofChange fnEdgesHeldSpec)

/-- ITS FALSE NEIGHBOUR: 'it returns false'. Refute it at one input. -/
def fnEdgesHeldWrong : ChangeSpec := { name := "fnEdgesHeld", fn := fun _ => fun
  | [d] => { results := [.lit (.bool false)], args := [d] }
  | _ => none }
def FnEdgesHeldWrongFalsely : Prop := fnEdgesHeldRow.holds Try.pinned (OpenSpec.ofChange fnEdgesHeldWrong)

/- THE SECOND FORM. 'bulk': how many values and letters a reading holds, each counted each time it is reached (what is shared counts as often as it is met; a slice's spare places count too). A statement '..UptoSaid' is the law's where the arguments, and the package variables that the reading takes, are together of bulk at most 1048576: NARROWER than '..Said'. Prove '..Said' where nothing that the law and all that it calls make is longer than what came in: it says more and counts as full. Else prove '..UptoSaid'. A law counts once. -/
mutual
def uptoBulk {H : Type} : DataW H → Nat
  | .lit (.string bytes) => bytes.length + 1
  | .lit _ => 1
  | .nil => 1
  | .ptr d => uptoBulk d + 1
  | .slice elems spare => uptoBulkAll elems + uptoBulkAll spare + 1
  | .agg parts => uptoBulkAll parts + 1
  | .iface _ d => uptoBulk d + 1
  | .map entries => uptoBulkEntries entries + 1
  | .held _ => 1
def uptoBulkAll {H : Type} : List (DataW H) → Nat
  | [] => 0
  | d :: r => uptoBulk d + uptoBulkAll r
def uptoBulkEntries {H : Type} : List (Lit × DataW H) → Nat
  | [] => 0
  | x :: r => uptoBulkEntry x + uptoBulkEntries r
def uptoBulkEntry {H : Type} : Lit × DataW H → Nat
  | (.string bytes, d) => bytes.length + uptoBulk d + 1
  | (_, d) => uptoBulk d + 1
 end
def uptoSmall : (H : Type) → List (DataW H) → Bool := fun _ ds => decide (uptoBulkAll ds ≤ 1048576)
def OpenSpec.upto (s : _root_.Go.ChangeSpec) : _root_.Go.OpenSpec := { _root_.Go.OpenSpec.ofChange s with cond := some uptoSmall }

/-- 'laws.FnCutThread', WHERE WHAT IT READS IS OF BULK AT MOST 1048576: true; the input reads as it did. -/
def fnCutThreadUptoRow : OpenClaim := { program := "ytnobkdkfhgjeeab", sum := "0e2922416a15b9905b5cad4f5e515c57666aae4ece3f58c5d24bc07d40f6a93e", func := "loop.example/waitkit/laws.FnCutThread", spec := "fnCutThread", unfollowed := true, recurses := true, apart := false, narrowed := true }
def FnCutThreadUptoSaid : Prop := fnCutThreadUptoRow.holds Try.pinned (OpenSpec.upto fnCutThreadSpec)

/-- 'laws.FnExactPutOp', WHERE WHAT IT READS IS OF BULK AT MOST 1048576: true; the input reads as it did. -/
def fnExactPutOpUptoRow : OpenClaim := { program := "ytnobkdkfhgjeeab", sum := "0e2922416a15b9905b5cad4f5e515c57666aae4ece3f58c5d24bc07d40f6a93e", func := "loop.example/waitkit/laws.FnExactPutOp", spec := "fnExactPutOp", inPlace := ["slices.overlaps[loop.example/waitkit/impl.Op]"], unfollowed := true, recurses := true, apart := false, narrowed := true }
def FnExactPutOpUptoSaid : Prop := fnExactPutOpUptoRow.holds Try.pinned (OpenSpec.upto fnExactPutOpSpec)

/-- 'laws.FnCutSums', WHERE WHAT IT READS IS OF BULK AT MOST 1048576: true; the input reads as it did. -/
def fnCutSumsUptoRow : OpenClaim := { program := "ytnobkdkfhgjeeab", sum := "0e2922416a15b9905b5cad4f5e515c57666aae4ece3f58c5d24bc07d40f6a93e", func := "loop.example/waitkit/laws.FnCutSums", spec := "fnCutSums", unfollowed := true, recurses := true, apart := false, narrowed := true }
def FnCutSumsUptoSaid : Prop := fnCutSumsUptoRow.holds Try.pinned (OpenSpec.upto fnCutSumsSpec)

/-- 'laws.FnDropOp', WHERE WHAT IT READS IS OF BULK AT MOST 1048576: true; the input reads as it did. -/
def fnDropOpUptoRow : OpenClaim := { program := "ytnobkdkfhgjeeab", sum := "0e2922416a15b9905b5cad4f5e515c57666aae4ece3f58c5d24bc07d40f6a93e", func := "loop.example/waitkit/laws.FnDropOp", spec := "fnDropOp", inPlace := ["slices.overlaps[loop.example/waitkit/impl.Op]"], unfollowed := true, recurses := true, apart := false, narrowed := true }
def FnDropOpUptoSaid : Prop := fnDropOpUptoRow.holds Try.pinned (OpenSpec.upto fnDropOpSpec)

/-- 'laws.FnPutOp', WHERE WHAT IT READS IS OF BULK AT MOST 1048576: true; the input reads as it did. -/
def fnPutOpUptoRow : OpenClaim := { program := "ytnobkdkfhgjeeab", sum := "0e2922416a15b9905b5cad4f5e515c57666aae4ece3f58c5d24bc07d40f6a93e", func := "loop.example/waitkit/laws.FnPutOp", spec := "fnPutOp", inPlace := ["slices.overlaps[loop.example/waitkit/impl.Op]"], unfollowed := true, recurses := true, apart := false, narrowed := true }
def FnPutOpUptoSaid : Prop := fnPutOpUptoRow.holds Try.pinned (OpenSpec.upto fnPutOpSpec)

/-- 'laws.FnExactHoldEdges', WHERE WHAT IT READS IS OF BULK AT MOST 1048576: true; the input reads as it did. -/
def fnExactHoldEdgesUptoRow : OpenClaim := { program := "ytnobkdkfhgjeeab", sum := "0e2922416a15b9905b5cad4f5e515c57666aae4ece3f58c5d24bc07d40f6a93e", func := "loop.example/waitkit/laws.FnExactHoldEdges", spec := "fnExactHoldEdges", unfollowed := true, recurses := true, apart := false, narrowed := true }
def FnExactHoldEdgesUptoSaid : Prop := fnExactHoldEdgesUptoRow.holds Try.pinned (OpenSpec.upto fnExactHoldEdgesSpec)

/-- 'laws.FnEdgesHeld', WHERE WHAT IT READS IS OF BULK AT MOST 1048576: true; the input reads as it did. -/
def fnEdgesHeldUptoRow : OpenClaim := { program := "ytnobkdkfhgjeeab", sum := "0e2922416a15b9905b5cad4f5e515c57666aae4ece3f58c5d24bc07d40f6a93e", func := "loop.example/waitkit/laws.FnEdgesHeld", spec := "fnEdgesHeld", unfollowed := true, recurses := true, apart := false, narrowed := true }
def FnEdgesHeldUptoSaid : Prop := fnEdgesHeldUptoRow.holds Try.pinned (OpenSpec.upto fnEdgesHeldSpec)

end Rows
end Go.Proofs.Ytnobkdkfhgjeeab
