/- A region that draws its order, holds calls, and has guards that the facts at hand decide: the unwanted operations are taken at once. -/
import Derived.Test.YtnobkdkfhgjeeaaLib
import Derived.Deep.RegionHeld3
namespace Go
open Lean Elab Tactic Meta

/-- Walk: an operation that is not wanted is passed at once; one that yields its value in every world that meets S is taken first; one that is left (a call) goes by 'tac'. -/
partial def regionWalkG (keep tac : TSyntax `tactic) (tell : Bool) : TacticM Unit := withMainContext do
  let t := (← instantiateMVars (← getMainTarget)).consumeMData
  unless t.isAppOfArity ``wpAnyH 9 do throwError "region_g: the goal is no 'wpAnyH':\n{t}"
  let args := t.getAppArgs
  let md := args[1]!
  let ops := args[2]!
  let listed := args[6]!
  let ready ← kernelNats (mkApp3 (mkConst ``Region.ready) md ops listed)
  if ready.isEmpty then
    evalTactic (← `(tactic| refine wpAnyH_done (by kernel_rfl) ?_ _))
    return
  let mut why : Array MessageData := #[]
  -- what is not wanted
  for i in ready do
    let s ← saveState
    let took ← try
      let some oe := opAt ops i | throwError "the region is not written out"
      let oStx ← Term.exprToSyntax oe
      Tactic.withoutRecover (evalTactic (← `(tactic| refine wpAnyH_take (i := $(quote i)) (oi := $oStx) (v := undef) rfl (by kernel_rfl) (by kernel_rfl) (by kernel_rfl) (fun _ _ _ h => h) (Or.inr ⟨by rfl, rfl⟩) (by assumption) ?_)))
      evalTactic (← `(tactic| try simp only [Act.put, List.setIfInBounds_toArray, List.set_cons_zero, List.set_cons_succ]))
      pure true
    catch _ => s.restore; pure false
    if took then
      if tell then logInfo m!"region_g: {opWords ops i} is not wanted"
      regionWalkG keep tac tell
      return
  for i in ready do
    if opHead ops i == some ``Op.call then continue
    let s ← saveState
    let took ← try
      let some oe := opAt ops i | throwError "the region is not written out"
      let oStx ← Term.exprToSyntax oe
      Tactic.withoutRecover (evalTactic (← `(tactic| refine wpAnyH_take (i := $(quote i)) (oi := $oStx) (v := ?_) rfl (by kernel_rfl) (by kernel_rfl) (by kernel_rfl) (fun _ _ _ h => h) (Or.inl ⟨by rfl, ?_⟩) (by assumption) ?_)))
      let gs ← getGoals
      let [_, hy, rest] := gs | throwError "three goals expected"
      setGoals [hy]
      evalTactic (← `(tactic| (intro w hSw; (try dsimp only at hSw); go_simp)))
      unless (← getGoals).isEmpty do evalTactic (← `(tactic| with_reducible rfl))
      unless (← getGoals).isEmpty do throwError "not closed"
      setGoals [rest]
      evalTactic (← `(tactic| try simp only [Act.put, List.setIfInBounds_toArray, List.set_cons_zero, List.set_cons_succ]))
      pure true
    catch e =>
      s.restore
      why := why.push m!"region_g: {opWords ops i} was not taken first: {e.toMessageData}"
      pure false
    if took then
      if tell then logInfo m!"region_g: {opWords ops i} is taken first"
      regionWalkG keep tac tell
      return
  if tell then for m in why do logInfo m
  let lits : Array (TSyntax `term) := ready.toArray.map fun i => quote i
  evalTactic (← `(tactic| refine wpAnyH_ready (rs := [$lits,*]) (by kernel_rfl) (by simp) ?_))
  if tell then logInfo m!"region_g: branching over {ready}"
  let mut done : List MVarId := []
  for i in ready do
    let some oeB := opAt ops i | throwError "region_g: the region is not written out"
    let oStxB ← Term.exprToSyntax oeB
    evalTactic (← `(tactic| refine AllReadyH.cons (o := $oStxB) rfl (fun K hK => ?_) ?_))
    let [step, more] ← getGoals | throwError "region_g: two goals expected"
    setGoals [step]
    evalTactic (← `(tactic| go_simp))
    unless (← instantiateMVars (← getMainTarget)).consumeMData.getAppFn.isFVar do
      underBudget (Tactic.withoutRecover (evalTactic tac))
      unless (← getGoals).isEmpty || (← instantiateMVars (← getMainTarget)).consumeMData.getAppFn.isFVar do evalTactic (← `(tactic| go_wp2_with fail))
      unless (← getGoals).length == 1 do throwError "region_g: {opWords ops i}: {(← getGoals).length} goals are left behind the call"
    let left := (← instantiateMVars (← getMainTarget)).consumeMData
    unless left.getAppFn.isFVar do throwError "region_g: operation {opWords ops i} could not be run to its end:\n{left}"
    evalTactic (← `(tactic| refine hK.out _ _ ?_ (fun hHeld => ?_)))
    let [hS, rest] ← getGoals | throwError "region_g: two goals expected behind the step"
    setGoals [hS]
    evalTactic (← `(tactic| try dsimp only))
    unless (← getUnsolvedGoals).isEmpty do underBudget (Tactic.withoutRecover (evalTactic keep))
    unless (← getUnsolvedGoals).isEmpty do throwError "region_g: S is not shown behind {opWords ops i}"
    setGoals [rest]
    evalTactic (← `(tactic| clear hK K))
    evalTactic (← `(tactic| try simp only [Act.put, List.setIfInBounds_toArray, List.set_cons_zero, List.set_cons_succ]))
    regionWalkG keep tac tell
    done := done ++ (← getGoals)
    setGoals [more]
  evalTactic (← `(tactic| exact AllReadyH.nil))
  setGoals done

def regionGStart (S : TSyntax `term) (keep tac : TSyntax `tactic) (tell : Bool) : TacticM Unit := withMainContext do
  if tac.raw.hasMissing || keep.raw.hasMissing || S.raw.hasMissing then throwError "region_g: an argument did not parse"
  evalTactic (← `(tactic| refine wp_region_noPanic ?_))
  evalTactic (← `(tactic| refine wp_region_held_drew (S := $S) (by kernel_rfl) ?_ (fun hHeld => ?_)))
  let [hS, rest] ← getGoals | throwError "region_g: two goals expected at the beginning"
  setGoals [hS]
  evalTactic (← `(tactic| try dsimp only))
  unless (← getUnsolvedGoals).isEmpty do underBudget (Tactic.withoutRecover (evalTactic keep))
  unless (← getUnsolvedGoals).isEmpty do throwError "region_g: S is not shown of the world where the region begins"
  setGoals [rest]
  regionWalkG keep tac tell
  evalTactic (← `(tactic| all_goals (refine NoPanic.normal ?_)))

elab "region_g " S:term:max ppSpace "(" keep:tactic ")" ppSpace "(" tac:tactic ")" : tactic => regionGStart S keep tac false
elab "region_g? " S:term:max ppSpace "(" keep:tactic ")" ppSpace "(" tac:tactic ")" : tactic => regionGStart S keep tac true

end Go
