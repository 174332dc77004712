/- The program's numbers of a text, in the library's words: plain. -/
import Derived.Test.YthamndmfenpniaaGreatDoorOpText
import Derived.Lib.AtoiAll
import Derived.Shelf.Strings.Prefix
namespace Go.Proofs.YthamndmfenpniaaGreatDoor
open Go.RowKit

/-- What parseNumber reads. -/
def numI (s : ByteArray) : Option Int :=
  if (Lib.trimPrefix (toL s) [45]).length < 1 ∨ 17 < (Lib.trimPrefix (toL s) [45]).length then none
  else match Lib.atoiAll (toL s) with
    | .ok n => if decI n = s then some n else none
    | _ => none
theorem numI_all : ∀ k : Fin 109, ¬ ((Lib.trimPrefix (toL (decS ((k.val : Int) - 9))) [45]).length < 1 ∨ 17 < (Lib.trimPrefix (toL (decS ((k.val : Int) - 9))) [45]).length) ∧ (match Lib.atoiAll (toL (decS ((k.val : Int) - 9))) with | .ok n => decide (n = (k.val : Int) - 9) | _ => false) = true := by decide +kernel
theorem numI_dec {n : Int} (h1 : -9 ≤ n) (h2 : n ≤ 99) : numI (decI n) = some n := by
  obtain ⟨ha, hb⟩ := numI_all ⟨(n + 9).toNat, by omega⟩
  have e : ((n + 9).toNat : Int) - 9 = n := by omega
  simp only [e] at ha hb
  unfold numI
  rw [decI_small h1 h2, if_neg ha]
  split at hb
  · next m hm =>
    obtain rfl : m = n := by simpa using hb
    exact if_pos (decI_small h1 h2)
  · cases hb
end Go.Proofs.YthamndmfenpniaaGreatDoor
