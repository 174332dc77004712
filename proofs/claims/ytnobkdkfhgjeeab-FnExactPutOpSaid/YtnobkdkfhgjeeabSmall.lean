/- What the statements' bound leaves of a program's sizes. -/
import Derived.Test.YtnobkdkfhgjeeabPgmSz
import Derived.Test.YtnobkdkfhgjeeabPgmEq
namespace Go.Proofs.Ytnobkdkfhgjeeab
open Go.RowKit

theorem len_tlen (ts : List (List OpD)) (i : Nat) : (ts.getD i []).length ≤ tlen ts ts.length := by
  by_cases hi : i < ts.length
  · have := tlen_succ ts i hi
    have := tlen_le ts (i + 1)
    omega
  · have : ts.getD i [] = [] := by simp [List.getD, Nat.le_of_not_lt hi]
    rw [this]; exact Nat.zero_le _

theorem small_of {w : World} {v : PV} {p : Pg} (hr : RdP w v p) (_hz : Lens v p) (h : ¬ 1048576 < total v p) : Small v p := by
  unfold total at h
  have hl := hr.lt
  refine ⟨by omega, by omega, by omega, by omega, by omega, fun i => ?_⟩
  have := len_tlen p.threads i
  rw [hl] at this
  omega

theorem Small.at {v u : PV} {p : Pg} {w w' : World} (h : Small v p) (hr : RdP w v p) (hu : RdP w' u p) : Small u p :=
  ⟨by rw [← hu.ls, hr.ls]; exact h.ls, by rw [← hu.lg, hr.lg]; exact h.lg, by rw [← hu.lb, hr.lb]; exact h.lb, by rw [← hu.lr, hr.lr]; exact h.lr, by rw [← hu.lt, hr.lt]; exact h.lt, h.inn⟩

end Go.Proofs.Ytnobkdkfhgjeeab
