/-
  No cell of these rows narrows 'for every input' (looked for: loops, veiled, ifaces, maps, wideKeys, modest, calm, conditions, laid).
  DERIVED. THE GIVEN ROWS OF THIS SEAT. 12 by the template 'for every input the law returns true; each argument reads behind the call as it read before'; 0 by the template 'total and deterministic' (their statements: YtnobkdkfhgjeeaaTotals.lean).
  GIVEN WITH THE SEED: the statements are not yours to turn. If you find one false, say at which input.
  Laid BY PROGRAM, IN A SANDBOX (cutbox-rows.mjs): the forced cells as the released guide's own fill.sh prints them over the translation 9e88f52a0f8c0837… (all of the seat's roots in one cut). By AI agents, Wed Nov 11 2026. No macro, syntax, notation, axiom, sorry.
-/
import Derived.Test.YtnobkdkfhgjeeaaChecked
import GoSem.Claim
import GoSem.ClaimJoined
import GoSem.ClaimMapViews
import Derived.JoinedTies
import Derived.KernelRfl
namespace Go.Proofs.Ytnobkdkfhgjeeaa
/- THE CELL 'sum', in the pinned program and in every row, IS THE sha256 OF THE DUMP (.gsa) THAT YtnobkdkfhgjeeaaProg.lean LOADS. Nothing in Lean hashes anything: it is a label: what it is worth is what the hold of that sum in a sandbox is worth. -/
noncomputable def Try.pinned : Pinned := { name := "ytnobkdkfhgjeeaa", sum := "9e88f52a0f8c0837fc08aa1a73df10308cb8d751227cc1af8d9ae58dd255ab94", checked := Try.checked }
namespace Rows
def none {H : Type} : Left H := { results := [], args := [] }

/-- 'laws.FnExactOnlySems': WHATEVER THE INPUT: true; the input reads as it did. -/
def fnExactOnlySemsSpec : ChangeSpec := { name := "fnExactOnlySems", fn := fun _ => fun
  | [d] => { results := [.lit (.bool true)], args := [d] }
  | _ => none }
def fnExactOnlySemsRow : OpenClaim := { program := "ytnobkdkfhgjeeaa", sum := "9e88f52a0f8c0837fc08aa1a73df10308cb8d751227cc1af8d9ae58dd255ab94", func := "loop.example/waitkit/laws.FnExactOnlySems", spec := "fnExactOnlySems", unfollowed := true, recurses := true, apart := false }
def FnExactOnlySemsSaid : Prop := fnExactOnlySemsRow.holds Try.pinned (OpenSpec.ofChange fnExactOnlySemsSpec)

/-- ITS FALSE NEIGHBOUR: 'it returns false'. Refute it at one input. -/
def fnExactOnlySemsWrong : ChangeSpec := { name := "fnExactOnlySems", fn := fun _ => fun
  | [d] => { results := [.lit (.bool false)], args := [d] }
  | _ => none }
def FnExactOnlySemsWrongFalsely : Prop := fnExactOnlySemsRow.holds Try.pinned (OpenSpec.ofChange fnExactOnlySemsWrong)

/-- 'laws.FnExactIsBalanced': WHATEVER THE INPUT: true; the input reads as it did. -/
def fnExactIsBalancedSpec : ChangeSpec := { name := "fnExactIsBalanced", fn := fun _ => fun
  | [d] => { results := [.lit (.bool true)], args := [d] }
  | _ => none }
def fnExactIsBalancedRow : OpenClaim := { program := "ytnobkdkfhgjeeaa", sum := "9e88f52a0f8c0837fc08aa1a73df10308cb8d751227cc1af8d9ae58dd255ab94", func := "loop.example/waitkit/laws.FnExactIsBalanced", spec := "fnExactIsBalanced", unfollowed := true, recurses := true, apart := false }
def FnExactIsBalancedSaid : Prop := fnExactIsBalancedRow.holds Try.pinned (OpenSpec.ofChange fnExactIsBalancedSpec)

/-- ITS FALSE NEIGHBOUR: 'it returns false'. Refute it at one input. -/
def fnExactIsBalancedWrong : ChangeSpec := { name := "fnExactIsBalanced", fn := fun _ => fun
  | [d] => { results := [.lit (.bool false)], args := [d] }
  | _ => none }
def FnExactIsBalancedWrongFalsely : Prop := fnExactIsBalancedRow.holds Try.pinned (OpenSpec.ofChange fnExactIsBalancedWrong)

/-- 'laws.FnExactArrivalsOf': WHATEVER THE INPUT: true; the input reads as it did. -/
def fnExactArrivalsOfSpec : ChangeSpec := { name := "fnExactArrivalsOf", fn := fun _ => fun
  | [d] => { results := [.lit (.bool true)], args := [d] }
  | _ => none }
def fnExactArrivalsOfRow : OpenClaim := { program := "ytnobkdkfhgjeeaa", sum := "9e88f52a0f8c0837fc08aa1a73df10308cb8d751227cc1af8d9ae58dd255ab94", func := "loop.example/waitkit/laws.FnExactArrivalsOf", spec := "fnExactArrivalsOf", unfollowed := true, recurses := true, apart := false }
def FnExactArrivalsOfSaid : Prop := fnExactArrivalsOfRow.holds Try.pinned (OpenSpec.ofChange fnExactArrivalsOfSpec)

/-- ITS FALSE NEIGHBOUR: 'it returns false'. Refute it at one input. -/
def fnExactArrivalsOfWrong : ChangeSpec := { name := "fnExactArrivalsOf", fn := fun _ => fun
  | [d] => { results := [.lit (.bool false)], args := [d] }
  | _ => none }
def FnExactArrivalsOfWrongFalsely : Prop := fnExactArrivalsOfRow.holds Try.pinned (OpenSpec.ofChange fnExactArrivalsOfWrong)

/-- 'laws.FnExactGroupsLeft': WHATEVER THE INPUT: true; the input reads as it did. -/
def fnExactGroupsLeftSpec : ChangeSpec := { name := "fnExactGroupsLeft", fn := fun _ => fun
  | [d] => { results := [.lit (.bool true)], args := [d] }
  | _ => none }
def fnExactGroupsLeftRow : OpenClaim := { program := "ytnobkdkfhgjeeaa", sum := "9e88f52a0f8c0837fc08aa1a73df10308cb8d751227cc1af8d9ae58dd255ab94", func := "loop.example/waitkit/laws.FnExactGroupsLeft", spec := "fnExactGroupsLeft", unfollowed := true, recurses := true, apart := false }
def FnExactGroupsLeftSaid : Prop := fnExactGroupsLeftRow.holds Try.pinned (OpenSpec.ofChange fnExactGroupsLeftSpec)

/-- ITS FALSE NEIGHBOUR: 'it returns false'. Refute it at one input. -/
def fnExactGroupsLeftWrong : ChangeSpec := { name := "fnExactGroupsLeft", fn := fun _ => fun
  | [d] => { results := [.lit (.bool false)], args := [d] }
  | _ => none }
def FnExactGroupsLeftWrongFalsely : Prop := fnExactGroupsLeftRow.holds Try.pinned (OpenSpec.ofChange fnExactGroupsLeftWrong)

/-- 'laws.FnExactLettersOf': WHATEVER THE INPUT: true; the input reads as it did. -/
def fnExactLettersOfSpec : ChangeSpec := { name := "fnExactLettersOf", fn := fun _ => fun
  | [d] => { results := [.lit (.bool true)], args := [d] }
  | _ => none }
def fnExactLettersOfRow : OpenClaim := { program := "ytnobkdkfhgjeeaa", sum := "9e88f52a0f8c0837fc08aa1a73df10308cb8d751227cc1af8d9ae58dd255ab94", func := "loop.example/waitkit/laws.FnExactLettersOf", spec := "fnExactLettersOf", unfollowed := true, recurses := true, apart := false }
def FnExactLettersOfSaid : Prop := fnExactLettersOfRow.holds Try.pinned (OpenSpec.ofChange fnExactLettersOfSpec)

/-- ITS FALSE NEIGHBOUR: 'it returns false'. Refute it at one input. -/
def fnExactLettersOfWrong : ChangeSpec := { name := "fnExactLettersOf", fn := fun _ => fun
  | [d] => { results := [.lit (.bool false)], args := [d] }
  | _ => none }
def FnExactLettersOfWrongFalsely : Prop := fnExactLettersOfRow.holds Try.pinned (OpenSpec.ofChange fnExactLettersOfWrong)

/-- 'laws.FnExactSwapThreads': WHATEVER THE INPUT: true; the input reads as it did. -/
def fnExactSwapThreadsSpec : ChangeSpec := { name := "fnExactSwapThreads", fn := fun _ => fun
  | [d1, d2, d3] => { results := [.lit (.bool true)], args := [d1, d2, d3] }
  | _ => none }
def fnExactSwapThreadsRow : OpenClaim := { program := "ytnobkdkfhgjeeaa", sum := "9e88f52a0f8c0837fc08aa1a73df10308cb8d751227cc1af8d9ae58dd255ab94", func := "loop.example/waitkit/laws.FnExactSwapThreads", spec := "fnExactSwapThreads", unfollowed := true, recurses := true, apart := false }
def FnExactSwapThreadsSaid : Prop := fnExactSwapThreadsRow.holds Try.pinned (OpenSpec.ofChange fnExactSwapThreadsSpec)

/-- ITS FALSE NEIGHBOUR: 'it returns false'. Refute it at one input. -/
def fnExactSwapThreadsWrong : ChangeSpec := { name := "fnExactSwapThreads", fn := fun _ => fun
  | [d1, d2, d3] => { results := [.lit (.bool false)], args := [d1, d2, d3] }
  | _ => none }
def FnExactSwapThreadsWrongFalsely : Prop := fnExactSwapThreadsRow.holds Try.pinned (OpenSpec.ofChange fnExactSwapThreadsWrong)

/-- 'laws.FnExactCutThread': WHATEVER THE INPUT: true; the input reads as it did. -/
def fnExactCutThreadSpec : ChangeSpec := { name := "fnExactCutThread", fn := fun _ => fun
  | [d1, d2] => { results := [.lit (.bool true)], args := [d1, d2] }
  | _ => none }
def fnExactCutThreadRow : OpenClaim := { program := "ytnobkdkfhgjeeaa", sum := "9e88f52a0f8c0837fc08aa1a73df10308cb8d751227cc1af8d9ae58dd255ab94", func := "loop.example/waitkit/laws.FnExactCutThread", spec := "fnExactCutThread", unfollowed := true, recurses := true, apart := false }
def FnExactCutThreadSaid : Prop := fnExactCutThreadRow.holds Try.pinned (OpenSpec.ofChange fnExactCutThreadSpec)

/-- ITS FALSE NEIGHBOUR: 'it returns false'. Refute it at one input. -/
def fnExactCutThreadWrong : ChangeSpec := { name := "fnExactCutThread", fn := fun _ => fun
  | [d1, d2] => { results := [.lit (.bool false)], args := [d1, d2] }
  | _ => none }
def FnExactCutThreadWrongFalsely : Prop := fnExactCutThreadRow.holds Try.pinned (OpenSpec.ofChange fnExactCutThreadWrong)

/-- 'laws.FnExactDropOp': WHATEVER THE INPUT: true; the input reads as it did. -/
def fnExactDropOpSpec : ChangeSpec := { name := "fnExactDropOp", fn := fun _ => fun
  | [d1, d2, d3] => { results := [.lit (.bool true)], args := [d1, d2, d3] }
  | _ => none }
def fnExactDropOpRow : OpenClaim := { program := "ytnobkdkfhgjeeaa", sum := "9e88f52a0f8c0837fc08aa1a73df10308cb8d751227cc1af8d9ae58dd255ab94", func := "loop.example/waitkit/laws.FnExactDropOp", spec := "fnExactDropOp", unfollowed := true, recurses := true, apart := false }
def FnExactDropOpSaid : Prop := fnExactDropOpRow.holds Try.pinned (OpenSpec.ofChange fnExactDropOpSpec)

/-- ITS FALSE NEIGHBOUR: 'it returns false'. Refute it at one input. -/
def fnExactDropOpWrong : ChangeSpec := { name := "fnExactDropOp", fn := fun _ => fun
  | [d1, d2, d3] => { results := [.lit (.bool false)], args := [d1, d2, d3] }
  | _ => none }
def FnExactDropOpWrongFalsely : Prop := fnExactDropOpRow.holds Try.pinned (OpenSpec.ofChange fnExactDropOpWrong)

/-- 'laws.FnExactWithoutSays': WHATEVER THE INPUT: true; the input reads as it did. -/
def fnExactWithoutSaysSpec : ChangeSpec := { name := "fnExactWithoutSays", fn := fun _ => fun
  | [d] => { results := [.lit (.bool true)], args := [d] }
  | _ => none }
def fnExactWithoutSaysRow : OpenClaim := { program := "ytnobkdkfhgjeeaa", sum := "9e88f52a0f8c0837fc08aa1a73df10308cb8d751227cc1af8d9ae58dd255ab94", func := "loop.example/waitkit/laws.FnExactWithoutSays", spec := "fnExactWithoutSays", unfollowed := true, recurses := true, apart := false }
def FnExactWithoutSaysSaid : Prop := fnExactWithoutSaysRow.holds Try.pinned (OpenSpec.ofChange fnExactWithoutSaysSpec)

/-- ITS FALSE NEIGHBOUR: 'it returns false'. Refute it at one input. -/
def fnExactWithoutSaysWrong : ChangeSpec := { name := "fnExactWithoutSays", fn := fun _ => fun
  | [d] => { results := [.lit (.bool false)], args := [d] }
  | _ => none }
def FnExactWithoutSaysWrongFalsely : Prop := fnExactWithoutSaysRow.holds Try.pinned (OpenSpec.ofChange fnExactWithoutSaysWrong)

/-- 'laws.FnLeftThreads': WHATEVER THE INPUT: true; the input reads as it did. -/
def fnLeftThreadsSpec : ChangeSpec := { name := "fnLeftThreads", fn := fun _ => fun
  | [d] => { results := [.lit (.bool true)], args := [d] }
  | _ => none }
def fnLeftThreadsRow : OpenClaim := { program := "ytnobkdkfhgjeeaa", sum := "9e88f52a0f8c0837fc08aa1a73df10308cb8d751227cc1af8d9ae58dd255ab94", func := "loop.example/waitkit/laws.FnLeftThreads", spec := "fnLeftThreads", unfollowed := true, recurses := true, apart := false }
def FnLeftThreadsSaid : Prop := fnLeftThreadsRow.holds Try.pinned (OpenSpec.ofChange fnLeftThreadsSpec)

/-- ITS FALSE NEIGHBOUR: 'it returns false'. Refute it at one input. -/
def fnLeftThreadsWrong : ChangeSpec := { name := "fnLeftThreads", fn := fun _ => fun
  | [d] => { results := [.lit (.bool false)], args := [d] }
  | _ => none }
def FnLeftThreadsWrongFalsely : Prop := fnLeftThreadsRow.holds Try.pinned (OpenSpec.ofChange fnLeftThreadsWrong)

/-- 'laws.FnBalancedThread': WHATEVER THE INPUT: true; the input reads as it did. -/
def fnBalancedThreadSpec : ChangeSpec := { name := "fnBalancedThread", fn := fun _ => fun
  | [d] => { results := [.lit (.bool true)], args := [d] }
  | _ => none }
def fnBalancedThreadRow : OpenClaim := { program := "ytnobkdkfhgjeeaa", sum := "9e88f52a0f8c0837fc08aa1a73df10308cb8d751227cc1af8d9ae58dd255ab94", func := "loop.example/waitkit/laws.FnBalancedThread", spec := "fnBalancedThread", unfollowed := true, recurses := true, apart := false }
def FnBalancedThreadSaid : Prop := fnBalancedThreadRow.holds Try.pinned (OpenSpec.ofChange fnBalancedThreadSpec)

/-- ITS FALSE NEIGHBOUR: 'it returns false'. Refute it at one input. -/
def fnBalancedThreadWrong : ChangeSpec := { name := "fnBalancedThread", fn := fun _ => fun
  | [d] => { results := [.lit (.bool false)], args := [d] }
  | _ => none }
def FnBalancedThreadWrongFalsely : Prop := fnBalancedThreadRow.holds Try.pinned (OpenSpec.ofChange fnBalancedThreadWrong)

/-- 'laws.FnDropSize': WHATEVER THE INPUT: true; the input reads as it did. -/
def fnDropSizeSpec : ChangeSpec := { name := "fnDropSize", fn := fun _ => fun
  | [d] => { results := [.lit (.bool true)], args := [d] }
  | _ => none }
def fnDropSizeRow : OpenClaim := { program := "ytnobkdkfhgjeeaa", sum := "9e88f52a0f8c0837fc08aa1a73df10308cb8d751227cc1af8d9ae58dd255ab94", func := "loop.example/waitkit/laws.FnDropSize", spec := "fnDropSize", unfollowed := true, recurses := true, apart := false }
def FnDropSizeSaid : Prop := fnDropSizeRow.holds Try.pinned (OpenSpec.ofChange fnDropSizeSpec)

/-- ITS FALSE NEIGHBOUR: 'it returns false'. Refute it at one input. -/
def fnDropSizeWrong : ChangeSpec := { name := "fnDropSize", fn := fun _ => fun
  | [d] => { results := [.lit (.bool false)], args := [d] }
  | _ => none }
def FnDropSizeWrongFalsely : Prop := fnDropSizeRow.holds Try.pinned (OpenSpec.ofChange fnDropSizeWrong)

/- THE SECOND FORM. 'bulk': how many values and letters a reading holds, each counted each time it is reached (what is shared counts as often as it is met; a slice's spare places count too). A statement '..UptoSaid' is the law's where the arguments, and the package variables that the reading takes, are together of bulk at most 1048576: NARROWER than '..Said'. Prove '..Said' where nothing that the law and all that it calls make is longer than what came in: it says more and counts as full. Else prove '..UptoSaid'. A law counts once. -/
mutual
def uptoBulk {H : Type} : DataW H → Nat
  | .lit (.string bytes) => bytes.length + 1
  | .lit _ => 1
  | .nil => 1
  | .ptr d => uptoBulk d + 1
  | .slice elems spare => uptoBulkAll elems + uptoBulkAll spare + 1
  | .agg parts => uptoBulkAll parts + 1
  | .iface _ d => uptoBulk d + 1
  | .map entries => uptoBulkEntries entries + 1
  | .held _ => 1
def uptoBulkAll {H : Type} : List (DataW H) → Nat
  | [] => 0
  | d :: r => uptoBulk d + uptoBulkAll r
def uptoBulkEntries {H : Type} : List (Lit × DataW H) → Nat
  | [] => 0
  | x :: r => uptoBulkEntry x + uptoBulkEntries r
def uptoBulkEntry {H : Type} : Lit × DataW H → Nat
  | (.string bytes, d) => bytes.length + uptoBulk d + 1
  | (_, d) => uptoBulk d + 1
 end
def uptoSmall : (H : Type) → List (DataW H) → Bool := fun _ ds => decide (uptoBulkAll ds ≤ 1048576)
def OpenSpec.upto (s : _root_.Go.ChangeSpec) : _root_.Go.OpenSpec := { _root_.Go.OpenSpec.ofChange s with cond := some uptoSmall }

/-- 'laws.FnExactOnlySems', WHERE WHAT IT READS IS OF BULK AT MOST 1048576: true; the input reads as it did. -/
def fnExactOnlySemsUptoRow : OpenClaim := { program := "ytnobkdkfhgjeeaa", sum := "9e88f52a0f8c0837fc08aa1a73df10308cb8d751227cc1af8d9ae58dd255ab94", func := "loop.example/waitkit/laws.FnExactOnlySems", spec := "fnExactOnlySems", unfollowed := true, recurses := true, apart := false, narrowed := true }
def FnExactOnlySemsUptoSaid : Prop := fnExactOnlySemsUptoRow.holds Try.pinned (OpenSpec.upto fnExactOnlySemsSpec)

/-- 'laws.FnExactIsBalanced', WHERE WHAT IT READS IS OF BULK AT MOST 1048576: true; the input reads as it did. -/
def fnExactIsBalancedUptoRow : OpenClaim := { program := "ytnobkdkfhgjeeaa", sum := "9e88f52a0f8c0837fc08aa1a73df10308cb8d751227cc1af8d9ae58dd255ab94", func := "loop.example/waitkit/laws.FnExactIsBalanced", spec := "fnExactIsBalanced", unfollowed := true, recurses := true, apart := false, narrowed := true }
def FnExactIsBalancedUptoSaid : Prop := fnExactIsBalancedUptoRow.holds Try.pinned (OpenSpec.upto fnExactIsBalancedSpec)

/-- 'laws.FnExactArrivalsOf', WHERE WHAT IT READS IS OF BULK AT MOST 1048576: true; the input reads as it did. -/
def fnExactArrivalsOfUptoRow : OpenClaim := { program := "ytnobkdkfhgjeeaa", sum := "9e88f52a0f8c0837fc08aa1a73df10308cb8d751227cc1af8d9ae58dd255ab94", func := "loop.example/waitkit/laws.FnExactArrivalsOf", spec := "fnExactArrivalsOf", unfollowed := true, recurses := true, apart := false, narrowed := true }
def FnExactArrivalsOfUptoSaid : Prop := fnExactArrivalsOfUptoRow.holds Try.pinned (OpenSpec.upto fnExactArrivalsOfSpec)

/-- 'laws.FnExactGroupsLeft', WHERE WHAT IT READS IS OF BULK AT MOST 1048576: true; the input reads as it did. -/
def fnExactGroupsLeftUptoRow : OpenClaim := { program := "ytnobkdkfhgjeeaa", sum := "9e88f52a0f8c0837fc08aa1a73df10308cb8d751227cc1af8d9ae58dd255ab94", func := "loop.example/waitkit/laws.FnExactGroupsLeft", spec := "fnExactGroupsLeft", unfollowed := true, recurses := true, apart := false, narrowed := true }
def FnExactGroupsLeftUptoSaid : Prop := fnExactGroupsLeftUptoRow.holds Try.pinned (OpenSpec.upto fnExactGroupsLeftSpec)

/-- 'laws.FnExactLettersOf', WHERE WHAT IT READS IS OF BULK AT MOST 1048576: true; the input reads as it did. -/
def fnExactLettersOfUptoRow : OpenClaim := { program := "ytnobkdkfhgjeeaa", sum := "9e88f52a0f8c0837fc08aa1a73df10308cb8d751227cc1af8d9ae58dd255ab94", func := "loop.example/waitkit/laws.FnExactLettersOf", spec := "fnExactLettersOf", unfollowed := true, recurses := true, apart := false, narrowed := true }
def FnExactLettersOfUptoSaid : Prop := fnExactLettersOfUptoRow.holds Try.pinned (OpenSpec.upto fnExactLettersOfSpec)

/-- 'laws.FnExactSwapThreads', WHERE WHAT IT READS IS OF BULK AT MOST 1048576: true; the input reads as it did. -/
def fnExactSwapThreadsUptoRow : OpenClaim := { program := "ytnobkdkfhgjeeaa", sum := "9e88f52a0f8c0837fc08aa1a73df10308cb8d751227cc1af8d9ae58dd255ab94", func := "loop.example/waitkit/laws.FnExactSwapThreads", spec := "fnExactSwapThreads", unfollowed := true, recurses := true, apart := false, narrowed := true }
def FnExactSwapThreadsUptoSaid : Prop := fnExactSwapThreadsUptoRow.holds Try.pinned (OpenSpec.upto fnExactSwapThreadsSpec)

/-- 'laws.FnExactCutThread', WHERE WHAT IT READS IS OF BULK AT MOST 1048576: true; the input reads as it did. -/
def fnExactCutThreadUptoRow : OpenClaim := { program := "ytnobkdkfhgjeeaa", sum := "9e88f52a0f8c0837fc08aa1a73df10308cb8d751227cc1af8d9ae58dd255ab94", func := "loop.example/waitkit/laws.FnExactCutThread", spec := "fnExactCutThread", unfollowed := true, recurses := true, apart := false, narrowed := true }
def FnExactCutThreadUptoSaid : Prop := fnExactCutThreadUptoRow.holds Try.pinned (OpenSpec.upto fnExactCutThreadSpec)

/-- 'laws.FnExactDropOp', WHERE WHAT IT READS IS OF BULK AT MOST 1048576: true; the input reads as it did. -/
def fnExactDropOpUptoRow : OpenClaim := { program := "ytnobkdkfhgjeeaa", sum := "9e88f52a0f8c0837fc08aa1a73df10308cb8d751227cc1af8d9ae58dd255ab94", func := "loop.example/waitkit/laws.FnExactDropOp", spec := "fnExactDropOp", unfollowed := true, recurses := true, apart := false, narrowed := true }
def FnExactDropOpUptoSaid : Prop := fnExactDropOpUptoRow.holds Try.pinned (OpenSpec.upto fnExactDropOpSpec)

/-- 'laws.FnExactWithoutSays', WHERE WHAT IT READS IS OF BULK AT MOST 1048576: true; the input reads as it did. -/
def fnExactWithoutSaysUptoRow : OpenClaim := { program := "ytnobkdkfhgjeeaa", sum := "9e88f52a0f8c0837fc08aa1a73df10308cb8d751227cc1af8d9ae58dd255ab94", func := "loop.example/waitkit/laws.FnExactWithoutSays", spec := "fnExactWithoutSays", unfollowed := true, recurses := true, apart := false, narrowed := true }
def FnExactWithoutSaysUptoSaid : Prop := fnExactWithoutSaysUptoRow.holds Try.pinned (OpenSpec.upto fnExactWithoutSaysSpec)

/-- 'laws.FnLeftThreads', WHERE WHAT IT READS IS OF BULK AT MOST 1048576: true; the input reads as it did. -/
def fnLeftThreadsUptoRow : OpenClaim := { program := "ytnobkdkfhgjeeaa", sum := "9e88f52a0f8c0837fc08aa1a73df10308cb8d751227cc1af8d9ae58dd255ab94", func := "loop.example/waitkit/laws.FnLeftThreads", spec := "fnLeftThreads", unfollowed := true, recurses := true, apart := false, narrowed := true }
def FnLeftThreadsUptoSaid : Prop := fnLeftThreadsUptoRow.holds Try.pinned (OpenSpec.upto fnLeftThreadsSpec)

/-- 'laws.FnBalancedThread', WHERE WHAT IT READS IS OF BULK AT MOST 1048576: true; the input reads as it did. -/
def fnBalancedThreadUptoRow : OpenClaim := { program := "ytnobkdkfhgjeeaa", sum := "9e88f52a0f8c0837fc08aa1a73df10308cb8d751227cc1af8d9ae58dd255ab94", func := "loop.example/waitkit/laws.FnBalancedThread", spec := "fnBalancedThread", unfollowed := true, recurses := true, apart := false, narrowed := true }
def FnBalancedThreadUptoSaid : Prop := fnBalancedThreadUptoRow.holds Try.pinned (OpenSpec.upto fnBalancedThreadSpec)

/-- 'laws.FnDropSize', WHERE WHAT IT READS IS OF BULK AT MOST 1048576: true; the input reads as it did. -/
def fnDropSizeUptoRow : OpenClaim := { program := "ytnobkdkfhgjeeaa", sum := "9e88f52a0f8c0837fc08aa1a73df10308cb8d751227cc1af8d9ae58dd255ab94", func := "loop.example/waitkit/laws.FnDropSize", spec := "fnDropSize", unfollowed := true, recurses := true, apart := false, narrowed := true }
def FnDropSizeUptoSaid : Prop := fnDropSizeUptoRow.holds Try.pinned (OpenSpec.upto fnDropSizeSpec)

end Rows
end Go.Proofs.Ytnobkdkfhgjeeaa
