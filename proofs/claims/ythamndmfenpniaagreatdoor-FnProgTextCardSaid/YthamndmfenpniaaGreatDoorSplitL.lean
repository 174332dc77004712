/- The reference's pieces of a text, as a law of lists: plain. -/
import Derived.Test.YthamndmfenpniaaGreatDoorBaseD
namespace Go.Proofs.YthamndmfenpniaaGreatDoor
open Go.RowKit

/-- The pieces between the bytes c. -/
def splitL (c : UInt8) : List UInt8 → List (List UInt8)
  | [] => [[]]
  | b :: r => if b = c then [] :: splitL c r else match splitL c r with
    | [] => [[b]]
    | h :: t => (b :: h) :: t
abbrev toL (s : ByteArray) : List UInt8 := s.data.toList
theorem splitL_cons {c : UInt8} : ∀ (x r : List UInt8), c ∉ x → splitL c (x ++ c :: r) = x :: splitL c r
  | [], r, _ => by simp [splitL]
  | b :: x, r, h => by
    have hb : b ≠ c := fun e => h (by rw [e]; exact List.mem_cons_self)
    have hx : c ∉ x := fun e => h (List.mem_cons_of_mem _ e)
    show (if b = c then [] :: splitL c (x ++ c :: r) else match splitL c (x ++ c :: r) with | [] => [[b]] | h :: t => (b :: h) :: t) = _
    rw [if_neg hb, splitL_cons x r hx]
theorem splitL_none {c : UInt8} : ∀ (x : List UInt8), c ∉ x → splitL c x = [x]
  | [], _ => rfl
  | b :: x, h => by
    have hb : b ≠ c := fun e => h (by rw [e]; exact List.mem_cons_self)
    have hx : c ∉ x := fun e => h (List.mem_cons_of_mem _ e)
    show (if b = c then [] :: splitL c x else match splitL c x with | [] => [[b]] | h :: t => (b :: h) :: t) = _
    rw [if_neg hb, splitL_none x hx]
theorem splitL_lines {c : UInt8} : ∀ (l : List (List UInt8)) (y : List UInt8), (∀ x ∈ l, c ∉ x) → splitL c ((l.map (· ++ [c])).flatten ++ y) = l ++ splitL c y
  | [], y, _ => rfl
  | x :: l, y, h => by
    have e : ((x :: l).map (· ++ [c])).flatten ++ y = x ++ c :: ((l.map (· ++ [c])).flatten ++ y) := by simp
    rw [e, splitL_cons _ _ (h x List.mem_cons_self), splitL_lines l y (fun z hz => h z (List.mem_cons_of_mem _ hz))]
    rfl
theorem toL_extract (s : ByteArray) (a b : Nat) : toL (s.extract a b) = ((toL s).drop a).take (b - a) := by
  show (s.extract a b).data.toList = _
  rw [ByteArray.data_extract, Array.toList_extract, List.extract_eq_take_drop]
theorem byteAt_L {s : ByteArray} {i : Nat} (h : i < s.size) : byteAt s i = (((toL s)[i]'(by simpa using h)).toNat : Int) := by
  unfold byteAt
  rw [dif_pos h]
  rfl
theorem byteAt_is {s : ByteArray} {i : Nat} {c : UInt8} (h : i < s.size) : byteAt s i = (c.toNat : Int) ↔ (toL s)[i]'(by simpa using h) = c := by
  rw [byteAt_L h]
  constructor
  · intro e
    exact UInt8.toNat_inj.1 (by exact_mod_cast e)
  · intro e; rw [e]
theorem cutTo_splitL (s : ByteArray) (c : UInt8) : ∀ i, i ≤ s.size → (cutTo s c.toNat i).2 ≤ i ∧ splitL c (toL s) = (cutTo s c.toNat i).1.map toL ++ splitL c ((toL s).drop (cutTo s c.toNat i).2) ∧ c ∉ ((toL s).drop (cutTo s c.toNat i).2).take (i - (cutTo s c.toNat i).2)
  | 0, _ => ⟨Nat.le_refl _, by simp [cutTo], by simp [cutTo]⟩
  | i + 1, h => by
    obtain ⟨h1, h2, h3⟩ := cutTo_splitL s c i (by omega)
    have hi : i < s.size := h
    have hL : i < (toL s).length := by simpa using hi
    show (if i = s.size ∨ byteAt s i = c.toNat then ((cutTo s c.toNat i).1 ++ [s.extract (cutTo s c.toNat i).2 i], i + 1) else cutTo s c.toNat i).2 ≤ i + 1 ∧ splitL c (toL s) = (if i = s.size ∨ byteAt s i = c.toNat then ((cutTo s c.toNat i).1 ++ [s.extract (cutTo s c.toNat i).2 i], i + 1) else cutTo s c.toNat i).1.map toL ++ splitL c ((toL s).drop (if i = s.size ∨ byteAt s i = c.toNat then ((cutTo s c.toNat i).1 ++ [s.extract (cutTo s c.toNat i).2 i], i + 1) else cutTo s c.toNat i).2) ∧ c ∉ ((toL s).drop (if i = s.size ∨ byteAt s i = c.toNat then ((cutTo s c.toNat i).1 ++ [s.extract (cutTo s c.toNat i).2 i], i + 1) else cutTo s c.toNat i).2).take (i + 1 - (if i = s.size ∨ byteAt s i = c.toNat then ((cutTo s c.toNat i).1 ++ [s.extract (cutTo s c.toNat i).2 i], i + 1) else cutTo s c.toNat i).2)
    obtain ⟨st, hst⟩ : ∃ st, st = (cutTo s c.toNat i).2 := ⟨_, rfl⟩
    rw [← hst] at h1 h2 h3 ⊢
    by_cases hb : byteAt s i = c.toNat
    · rw [if_pos (.inr hb)]
      have hc := (byteAt_is hi).1 hb
      refine ⟨Nat.le_refl _, ?_, by simp⟩
      have e : (toL s).drop st = ((toL s).drop st).take (i - st) ++ c :: (toL s).drop (i + 1) := by
        have e1 : ((toL s).drop st).drop (i - st) = c :: (toL s).drop (i + 1) := by
          rw [List.drop_drop, show st + (i - st) = i by omega, List.drop_eq_getElem_cons hL, hc]
        rw [← e1, List.take_append_drop]
      rw [h2, e, splitL_cons _ _ h3]
      show _ = ((cutTo s c.toNat i).1 ++ [s.extract st i]).map toL ++ splitL c ((toL s).drop (i + 1))
      rw [List.map_append, List.append_assoc]
      show _ = _ ++ (toL (s.extract st i) :: splitL c ((toL s).drop (i + 1)))
      rw [toL_extract]
    · rw [if_neg (by rintro (h0 | h0); omega; exact hb h0), ← hst]
      refine ⟨by omega, h2, ?_⟩
      rw [show i + 1 - st = (i - st) + 1 by omega, List.take_add_one, List.mem_append]
      rintro (h0 | h0)
      · exact h3 h0
      · rw [List.getElem?_drop, show st + (i - st) = i by omega, List.getElem?_eq_getElem hL] at h0
        have : c = (toL s)[i] := by simpa using h0
        exact hb ((byteAt_is hi).2 this.symm)
/-- The pieces are those of the list of bytes. -/
theorem cutB_splitL (s : ByteArray) (c : UInt8) : (cutB s c.toNat).map toL = splitL c (toL s) := by
  obtain ⟨h1, h2, h3⟩ := cutTo_splitL s c s.size (Nat.le_refl _)
  show ((if s.size = s.size ∨ byteAt s s.size = c.toNat then ((cutTo s c.toNat s.size).1 ++ [s.extract (cutTo s c.toNat s.size).2 s.size], s.size + 1) else cutTo s c.toNat s.size).1).map toL = _
  rw [if_pos (.inl rfl), h2]
  obtain ⟨st, hst⟩ : ∃ st, st = (cutTo s c.toNat s.size).2 := ⟨_, rfl⟩
  rw [← hst] at h1 h3 ⊢
  have hlen : ((toL s).drop st).length = s.size - st := by rw [List.length_drop]; rfl
  rw [← hlen, List.take_length] at h3
  rw [splitL_none _ h3]
  show ((cutTo s c.toNat s.size).1 ++ [s.extract st s.size]).map toL = _
  rw [List.map_append]
  show _ ++ [toL (s.extract st s.size)] = _
  rw [toL_extract, ← hlen, List.take_length]
end Go.Proofs.YthamndmfenpniaaGreatDoor
