/- The sizes of a program with a thread cut. -/
import Derived.Test.YtnobkdkfhgjeeabBaseE
import Derived.Test.YtnobkdkfhgjeeabCut
namespace Go.Proofs.Ytnobkdkfhgjeeab
open Go.RowKit

theorem lenSum_erase : ∀ (ts : List (List OpD)) (i : Nat), lenSum (ts.eraseIdx i) ≤ lenSum ts
  | [], i => by simp [lenSum]
  | t :: ts, 0 => by simp [lenSum]
  | t :: ts, i + 1 => by
    have := lenSum_erase ts i
    simp only [lenSum, List.eraseIdx_cons_succ, List.map_cons, List.sum_cons] at this ⊢
    omega

theorem fit_cut {v : PV} {p : Pg} {w : World} (a : Int) (hr : RdP w v p) (hs : Small v p) (h : ¬ 1048576 < total v p) : FitP ((cutThread p a).getD noPg) := by
  have hsp := hs.data hr
  have hl := lenSum_le hr h
  unfold cutThread changeP
  split
  · next h' =>
    cases hc : cutRes p a with
    | none => exact fit_none
    | some p' =>
      have h1 := cutRes_ok hsp h'.2.1 h'.2.2 p' hc
      refine fit_of h1.1 ?_
      unfold cutRes at hc
      split at hc
      · cases hc
      · obtain rfl : p.thr (p.threads.eraseIdx a.toNat) = p' := by simpa using hc
        have := lenSum_erase p.threads a.toNat
        show lenSum (p.threads.eraseIdx a.toNat) ≤ _
        omega
  · exact fit_none

end Go.Proofs.Ytnobkdkfhgjeeab
