/- What the program's ParseOp reads, on the words of a text: plain. -/
import Derived.Test.YthamndmfenpniaaGreatDoorNumImpl
namespace Go.Proofs.YthamndmfenpniaaGreatDoor
open Go.RowKit

/-- The first kind of a word, from k on. -/
def kindOf (w : ByteArray) : Nat → Option Nat
  | 0 => none
  | n + 1 => match kindOf w n with
    | some k => some k
    | none => if wordB ((n : Int) + 1) = w then some (n + 1) else none
/-- The operation of a kind with the numbers' texts. -/
def restI (k : Int) : List ByteArray → Option OpD
  | [a] => if argsN k = 0 then (numI a).map fun x => ⟨k, 0, x⟩ else if argsN k = 1 then (numI a).map fun x => ⟨k, x, 0⟩ else none
  | [a, b] => if argsN k = 2 then (numI a).bind fun x => (numI b).map fun y => ⟨k, x, y⟩ else none
  | _ => none
def opI (words : List ByteArray) : Option OpD := (kindOf (words.getD 0 noB) 10).bind fun k => restI k words.tail
theorem kindOf_none {w : ByteArray} : ∀ {n : Nat}, (∀ j : Int, 1 ≤ j → j ≤ n → wordB j ≠ w) → kindOf w n = none
  | 0, _ => rfl
  | n + 1, h => by
    show (match kindOf w n with | some k => some k | none => if wordB ((n : Int) + 1) = w then some (n + 1) else none) = none
    rw [kindOf_none (n := n) (fun j h1 h2 => h j h1 (by omega))]
    exact if_neg (h _ (by omega) (by omega))
theorem kindOf_stays {w : ByteArray} {k m : Nat} (h : kindOf w k = some m) : ∀ n, kindOf w (k + n) = some m
  | 0 => h
  | n + 1 => by
    show (match kindOf w (k + n) with | some k => some k | none => if wordB (((k + n : Nat) : Int) + 1) = w then some (k + n + 1) else none) = some m
    rw [kindOf_stays h n]
theorem kindOf_word {k : Int} (hk : 1 ≤ k ∧ k ≤ 10) : kindOf (wordB k) 10 = some k.toNat := by
  obtain ⟨m, rfl⟩ : ∃ m : Nat, k = (m : Int) + 1 := ⟨(k - 1).toNat, by omega⟩
  have h0 : kindOf (wordB ((m : Int) + 1)) m = none := kindOf_none fun j h1 h2 he => by
    have := word_inj ⟨h1, by omega⟩ hk he
    omega
  have h1 : kindOf (wordB ((m : Int) + 1)) (m + 1) = some (m + 1) := by
    show (match kindOf (wordB ((m : Int) + 1)) m with | some k => some k | none => if wordB ((m : Int) + 1) = wordB ((m : Int) + 1) then some (m + 1) else none) = _
    rw [h0]
    exact if_pos rfl
  have h2 := kindOf_stays h1 (10 - (m + 1))
  rw [show m + 1 + (10 - (m + 1)) = 10 by omega] at h2
  rw [h2]
  congr 1
/-- The words of an operation. -/
def wordsOp (o : OpD) : List ByteArray := if argsN o.kind = 0 then [wordB o.kind, decI o.arg] else if argsN o.kind = 1 then [wordB o.kind, decI o.on] else [wordB o.kind, decI o.on, decI o.arg]
theorem opI_own {p : Pg} (hv : progValid p = true) {o : OpD} (h : opValid p o = true) : opI (wordsOp o) = some o := by
  obtain ⟨hk, hon, harg⟩ := opValid_facts h
  obtain ⟨⟨b1, b2⟩, b3, b4⟩ := valid_bounds hv h
  have an := numI_dec b3 b4
  have on := numI_dec (n := o.on) (by omega) (by omega)
  have hK := kindOf_word hk
  have hcast : ((o.kind.toNat : Nat) : Int) = o.kind := by omega
  unfold wordsOp
  rcases argsN_cases o.kind with ha | ha | ha
  · rw [if_pos ha]
    show (kindOf (wordB o.kind) 10).bind (fun k => restI k [decI o.arg]) = _
    rw [hK]
    show restI ((o.kind.toNat : Nat) : Int) [decI o.arg] = _
    rw [hcast]
    show (if argsN o.kind = 0 then (numI (decI o.arg)).map (fun x => (⟨o.kind, 0, x⟩ : OpD)) else _) = _
    rw [if_pos ha, an]
    have h1 : o.kind = 1 := by unfold argsN at ha; split at ha; cases ha; split at ha; assumption; cases ha
    have h0 : o.on = 0 := by
      have := hon.2
      unfold shared at this
      rw [if_pos h1] at this
      omega
    show some (OpD.mk o.kind 0 o.arg) = some o
    rw [← h0]
  · rw [if_neg (by omega), if_pos ha]
    show (kindOf (wordB o.kind) 10).bind (fun k => restI k [decI o.on]) = _
    rw [hK]
    show restI ((o.kind.toNat : Nat) : Int) [decI o.on] = _
    rw [hcast]
    show (if argsN o.kind = 0 then _ else if argsN o.kind = 1 then (numI (decI o.on)).map (fun x => (⟨o.kind, x, 0⟩ : OpD)) else none) = _
    rw [if_neg (by omega), if_pos ha, on]
    have h1 : o.kind = 6 ∨ o.kind = 7 ∨ o.kind = 9 ∨ o.kind = 10 := by unfold argsN at ha; split at ha; assumption; split at ha; cases ha; cases ha
    have h0 : o.arg = 0 := by
      have := harg
      unfold argOk at this
      rw [if_neg (by omega), if_neg (by omega), if_neg (by omega)] at this
      simpa using this
    show some (OpD.mk o.kind o.on 0) = some o
    rw [← h0]
  · rw [if_neg (by omega), if_neg (by omega)]
    show (kindOf (wordB o.kind) 10).bind (fun k => restI k [decI o.on, decI o.arg]) = _
    rw [hK]
    show restI ((o.kind.toNat : Nat) : Int) [decI o.on, decI o.arg] = _
    rw [hcast]
    show (if argsN o.kind = 2 then (numI (decI o.on)).bind (fun x => (numI (decI o.arg)).map fun y => (⟨o.kind, x, y⟩ : OpD)) else none) = _
    rw [if_pos ha, on, an]
    rfl
end Go.Proofs.YthamndmfenpniaaGreatDoor
