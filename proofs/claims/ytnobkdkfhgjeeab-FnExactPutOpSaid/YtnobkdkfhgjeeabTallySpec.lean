/- What operations add up to: the reference's own text. -/
import Derived.Test.YtnobkdkfhgjeeabTally
import Derived.Deep.RegionHeld3
import Derived.Deep.AppendLies
namespace Go.Proofs.Ytnobkdkfhgjeeab
open Go.RowKit

theorem sums_small {p : Pg} {of : OpD → Int} (hv : progValid p = true) {i k j : Nat} (hi : i < p.threads.length) (hk : k ≤ (p.threads.getD i []).length) (hob : ∀ o, opValid p o = true → -9 ≤ of o ∧ of o ≤ 9) :
    -330 ≤ sumsAt of j (p.threads.take i) + sumAt of j ((p.threads.getD i []).take k) ∧ sumsAt of j (p.threads.take i) + sumAt of j ((p.threads.getD i []).take k) ≤ 330 := by
  have h := tally_small (start := List.replicate (j + 1) 0) (j := j) hv hi hk (by simp [List.getD]) hob
  have e0 : (List.replicate (j + 1) (0 : Int)).getD j 0 = 0 := by simp [List.getD]
  rw [tallyOf_get _ _ _ _ (by simp), sumsAt_append, e0] at h
  simp only [sumsAt] at h
  omega
theorem sumsAt_done (of : OpD → Int) (j : Nat) (ts : List (List OpD)) (i : Nat) (hi : i < ts.length) : sumsAt of j (ts.take i) + sumAt of j ((ts.getD i []).take (ts.getD i []).length) = sumsAt of j (ts.take (i + 1)) := by
  rw [List.take_length, sumsAt_take of j ts i hi]

end Go.Proofs.Ytnobkdkfhgjeeab
