/- A valid operation's text is read as that operation (the reference's reader): plain. -/
import Derived.Test.YthamndmfenpniaaGreatDoorSplitL
namespace Go.Proofs.YthamndmfenpniaaGreatDoor
open Go.RowKit

theorem toL_inj {a b : ByteArray} (h : toL a = toL b) : a = b := by
  obtain ⟨x⟩ := a
  obtain ⟨y⟩ := b
  exact congrArg _ (Array.toList_inj.1 h)
theorem toL_append (a b : ByteArray) : toL (a ++ b) = toL a ++ toL b := by
  show (a ++ b).data.toList = _
  rw [ByteArray.data_append, Array.toList_append]
theorem maps_inj : ∀ {a b : List ByteArray}, a.map toL = b.map toL → a = b
  | [], [], _ => rfl
  | [], _ :: _, h => by cases h
  | _ :: _, [], h => by cases h
  | x :: a, y :: b, h => by
    rw [List.map_cons, List.map_cons] at h
    injection h with h1 h2
    rw [toL_inj h1, maps_inj h2]
/-- Small numbers' texts, without recursion. -/
def decS (n : Int) : ByteArray := if n < 0 then ⟨#[45]⟩ ++ (digB (-n).toNat ++ ⟨#[]⟩) else if n ≤ 9 then digB n.toNat ++ ⟨#[]⟩ else digB (n.toNat / 10) ++ (digB (n.toNat % 10) ++ ⟨#[]⟩)
theorem decI_small {n : Int} (h1 : -9 ≤ n) (h2 : n ≤ 99) : decI n = decS n := by
  unfold decI decS
  rw [if_neg (by omega)]
  by_cases h : n < 0
  · rw [if_pos h, if_pos h, decNat_last _ _ (by omega)]
  · rw [if_neg h, if_neg h]
    by_cases h9 : n ≤ 9
    · rw [if_pos h9, decNat_last _ _ (by omega)]
    · rw [if_neg h9, decNat_more _ _ (by omega), decNat_last _ _ (by omega)]
theorem decS_all : ∀ k : Fin 109, numB (decS ((k.val : Int) - 9)) = some ((k.val : Int) - 9) ∧ (32 ∉ toL (decS ((k.val : Int) - 9)) ∧ 10 ∉ toL (decS ((k.val : Int) - 9)) ∧ 44 ∉ toL (decS ((k.val : Int) - 9))) ∧ toL (decS ((k.val : Int) - 9)) ≠ [] := by decide +kernel
theorem dec_facts {n : Int} (h1 : -9 ≤ n) (h2 : n ≤ 99) : numB (decI n) = some n ∧ (32 ∉ toL (decI n) ∧ 10 ∉ toL (decI n) ∧ 44 ∉ toL (decI n)) ∧ toL (decI n) ≠ [] := by
  have h := decS_all ⟨(n + 9).toNat, by omega⟩
  have e : ((n + 9).toNat : Int) - 9 = n := by omega
  simp only [e] at h
  rw [decI_small h1 h2]
  exact h
theorem word_all : ∀ k : Fin 10, (32 ∉ toL (wordB ((k.val : Int) + 1)) ∧ 10 ∉ toL (wordB ((k.val : Int) + 1)) ∧ 44 ∉ toL (wordB ((k.val : Int) + 1))) ∧ toL (wordB ((k.val : Int) + 1)) ≠ [] ∧ (toL (wordB ((k.val : Int) + 1))).head? ≠ some 32 := by decide +kernel
theorem word_facts {k : Int} (h1 : 1 ≤ k) (h2 : k ≤ 10) : (32 ∉ toL (wordB k) ∧ 10 ∉ toL (wordB k) ∧ 44 ∉ toL (wordB k)) ∧ toL (wordB k) ≠ [] ∧ (toL (wordB k)).head? ≠ some 32 := by
  have h := word_all ⟨(k - 1).toNat, by omega⟩
  have e : ((k - 1).toNat : Int) + 1 = k := by omega
  simp only [e] at h
  exact h
theorem word_one : ∀ i j : Fin 10, toL (wordB ((i.val : Int) + 1)) = toL (wordB ((j.val : Int) + 1)) → i = j := by decide +kernel
theorem word_inj {i j : Int} (hi : 1 ≤ i ∧ i ≤ 10) (hj : 1 ≤ j ∧ j ≤ 10) (h : wordB i = wordB j) : i = j := by
  have h' := word_one ⟨(i - 1).toNat, by omega⟩ ⟨(j - 1).toNat, by omega⟩ (by
    show toL (wordB (((i - 1).toNat : Int) + 1)) = toL (wordB (((j - 1).toNat : Int) + 1))
    rw [show ((i - 1).toNat : Int) + 1 = i by omega, show ((j - 1).toNat : Int) + 1 = j by omega, h])
  have := congrArg Fin.val h'
  simp only at this
  omega
theorem firstKind_none {text : ByteArray} {parts : List ByteArray} {nums : List Int} : ∀ {n : Nat}, (∀ j : Int, 1 ≤ j → j ≤ n → wordB j ≠ parts.getD 0 noB) → firstKind text parts nums n = none
  | 0, _ => rfl
  | n + 1, h => by
    show (match firstKind text parts nums n with | some o => some o | none => tryKind text parts nums ((n : Int) + 1)) = none
    rw [firstKind_none (n := n) (fun j h1 h2 => h j h1 (by omega))]
    show tryKind text parts nums ((n : Int) + 1) = none
    unfold tryKind
    rw [if_neg (h _ (by omega) (by omega))]
theorem firstKind_stays {text : ByteArray} {parts : List ByteArray} {nums : List Int} {o : OpD} {k : Nat} (hk : firstKind text parts nums k = some o) : ∀ n, firstKind text parts nums (k + n) = some o
  | 0 => hk
  | n + 1 => by
    show (match firstKind text parts nums (k + n) with | some o => some o | none => tryKind text parts nums (((k + n : Nat) : Int) + 1)) = some o
    rw [firstKind_stays hk n]
theorem first_found {text : ByteArray} {parts : List ByteArray} {nums : List Int} {o : OpD} {k : Int} (hk : 1 ≤ k ∧ k ≤ 10) (hw : parts.getD 0 noB = wordB k) (hm : makeOp k nums = some o) (hf : fmtOp o = text) : firstKind text parts nums 10 = some o := by
  obtain ⟨m, hm1⟩ : ∃ m : Nat, k = (m : Int) + 1 := ⟨(k - 1).toNat, by omega⟩
  have h0 : firstKind text parts nums m = none := firstKind_none fun j h1 h2 he => by
    have := word_inj ⟨h1, by omega⟩ hk (he.trans hw)
    omega
  have h1 : firstKind text parts nums (m + 1) = some o := by
    show (match firstKind text parts nums m with | some o => some o | none => tryKind text parts nums ((m : Int) + 1)) = some o
    rw [h0]
    show tryKind text parts nums ((m : Int) + 1) = some o
    unfold tryKind
    rw [← hm1, hw, if_pos rfl, hm]
    show (if fmtOp o = text then some o else none) = some o
    rw [if_pos hf]
  have h2 := firstKind_stays h1 (10 - (m + 1))
  rw [show m + 1 + (10 - (m + 1)) = 10 by omega] at h2
  exact h2
/-- What a text of an operation is. -/
theorem op_text {p : Pg} (hv : progValid p = true) {o : OpD} (h : opValid p o = true) : parseOp (fmtOp o) = some o ∧ (10 ∉ toL (fmtOp o) ∧ 44 ∉ toL (fmtOp o)) ∧ toL (fmtOp o) ≠ [] ∧ (toL (fmtOp o)).head? ≠ some 32 := by
  obtain ⟨hk, hon, harg⟩ := opValid_facts h
  obtain ⟨⟨b1, b2⟩, b3, b4⟩ := valid_bounds hv h
  obtain ⟨⟨w32, w10, w44⟩, wne, whd⟩ := word_facts hk.1 hk.2
  obtain ⟨an, ⟨a32, a10, a44⟩, ane⟩ := dec_facts b3 b4
  obtain ⟨on, ⟨o32, o10, o44⟩, one⟩ := dec_facts (n := o.on) (by omega) (by omega)
  have hsp : toL spB = [32] := rfl
  have hd : ∀ r, (toL (wordB o.kind) ++ r).head? ≠ some 32 := fun r => by
    cases hw : toL (wordB o.kind) with
    | nil => exact absurd hw wne
    | cons x y => rw [hw] at whd; simpa using whd
  have hne : ∀ r, toL (wordB o.kind) ++ r ≠ [] := fun r h0 => wne (List.append_eq_nil_iff.1 h0).1
  unfold fmtOp
  rw [if_pos ⟨hk.1, hk.2⟩]
  rcases argsN_cases o.kind with ha | ha | ha
  · rw [if_pos ha]
    have ht : toL (wordB o.kind ++ spB ++ decI o.arg) = toL (wordB o.kind) ++ 32 :: toL (decI o.arg) := by simp only [toL_append, hsp, List.append_assoc]; rfl
    have hp : cutB (wordB o.kind ++ spB ++ decI o.arg) 32 = [wordB o.kind, decI o.arg] := maps_inj (by
      have := cutB_splitL (wordB o.kind ++ spB ++ decI o.arg) 32
      rw [ht, splitL_cons _ _ w32, splitL_none _ a32] at this
      exact this)
    have h1 : o.kind = 1 := by unfold argsN at ha; split at ha; cases ha; split at ha; assumption; cases ha
    refine ⟨?_, ⟨?_, ?_⟩, ?_, ?_⟩
    · unfold parseOp parseOpParts
      rw [hp]
      have hn : numsTo [wordB o.kind, decI o.arg] (Nat.min ([wordB o.kind, decI o.arg].length - 1) 3) = some [o.arg] := by
        show (match some [] with | none => none | some l => match numB (decI o.arg) with | none => none | some x => some (l ++ [x])) = _
        rw [an]
        rfl
      rw [hn]
      show firstKind _ _ _ 10 = some o
      refine first_found hk rfl (o := o) ?_ ?_
      · unfold makeOp
        rw [if_pos ⟨ha, rfl⟩]
        have h0 : o.on = 0 := by
          have := hon.2
          unfold shared at this
          rw [if_pos h1] at this
          omega
        show some (OpD.mk o.kind 0 o.arg) = some o
        rw [← h0]
      · unfold fmtOp
        rw [if_pos ⟨hk.1, hk.2⟩, if_pos ha]
    · rw [ht]; simp [w10, a10]
    · rw [ht]; simp [w44, a44]
    · rw [ht]; exact hne _
    · rw [ht]; exact hd _
  · rw [if_neg (by omega), if_pos ha]
    have ht : toL (wordB o.kind ++ spB ++ decI o.on) = toL (wordB o.kind) ++ 32 :: toL (decI o.on) := by simp only [toL_append, hsp, List.append_assoc]; rfl
    have hp : cutB (wordB o.kind ++ spB ++ decI o.on) 32 = [wordB o.kind, decI o.on] := maps_inj (by
      have := cutB_splitL (wordB o.kind ++ spB ++ decI o.on) 32
      rw [ht, splitL_cons _ _ w32, splitL_none _ o32] at this
      exact this)
    have h1 : o.kind = 6 ∨ o.kind = 7 ∨ o.kind = 9 ∨ o.kind = 10 := by unfold argsN at ha; split at ha; assumption; split at ha; cases ha; cases ha
    refine ⟨?_, ⟨?_, ?_⟩, ?_, ?_⟩
    · unfold parseOp parseOpParts
      rw [hp]
      have hn : numsTo [wordB o.kind, decI o.on] (Nat.min ([wordB o.kind, decI o.on].length - 1) 3) = some [o.on] := by
        show (match some [] with | none => none | some l => match numB (decI o.on) with | none => none | some x => some (l ++ [x])) = _
        rw [on]
        rfl
      rw [hn]
      show firstKind _ _ _ 10 = some o
      refine first_found hk rfl (o := o) ?_ ?_
      · unfold makeOp
        rw [if_neg (by omega), if_pos ⟨ha, rfl⟩]
        have h0 : o.arg = 0 := by
          have := harg
          unfold argOk at this
          rw [if_neg (by omega), if_neg (by omega), if_neg (by omega)] at this
          simpa using this
        show some (OpD.mk o.kind o.on 0) = some o
        rw [← h0]
      · unfold fmtOp
        rw [if_pos ⟨hk.1, hk.2⟩, if_neg (by omega), if_pos ha]
    · rw [ht]; simp [w10, o10]
    · rw [ht]; simp [w44, o44]
    · rw [ht]; exact hne _
    · rw [ht]; exact hd _
  · rw [if_neg (by omega), if_neg (by omega)]
    have ht : toL (wordB o.kind ++ spB ++ decI o.on ++ spB ++ decI o.arg) = toL (wordB o.kind) ++ 32 :: (toL (decI o.on) ++ 32 :: toL (decI o.arg)) := by simp only [toL_append, hsp, List.append_assoc]; rfl
    have hp : cutB (wordB o.kind ++ spB ++ decI o.on ++ spB ++ decI o.arg) 32 = [wordB o.kind, decI o.on, decI o.arg] := maps_inj (by
      have := cutB_splitL (wordB o.kind ++ spB ++ decI o.on ++ spB ++ decI o.arg) 32
      rw [ht, splitL_cons _ _ w32, splitL_cons _ _ o32, splitL_none _ a32] at this
      exact this)
    refine ⟨?_, ⟨?_, ?_⟩, ?_, ?_⟩
    · unfold parseOp parseOpParts
      rw [hp]
      have hn : numsTo [wordB o.kind, decI o.on, decI o.arg] (Nat.min ([wordB o.kind, decI o.on, decI o.arg].length - 1) 3) = some [o.on, o.arg] := by
        show (match (match some [] with | none => none | some l => match numB (decI o.on) with | none => none | some x => some (l ++ [x])) with | none => none | some l => match numB (decI o.arg) with | none => none | some x => some (l ++ [x])) = _
        rw [on, an]
        rfl
      rw [hn]
      show firstKind _ _ _ 10 = some o
      refine first_found hk rfl (o := o) ?_ ?_
      · unfold makeOp
        rw [if_neg (by omega), if_neg (by omega), if_pos ⟨ha, rfl⟩]
        rfl
      · unfold fmtOp
        rw [if_pos ⟨hk.1, hk.2⟩, if_neg (by omega), if_neg (by omega)]
    · rw [ht]; simp [w10, o10, a10]
    · rw [ht]; simp [w44, o44, a44]
    · rw [ht]; exact hne _
    · rw [ht]; exact hd _
end Go.Proofs.YthamndmfenpniaaGreatDoor
