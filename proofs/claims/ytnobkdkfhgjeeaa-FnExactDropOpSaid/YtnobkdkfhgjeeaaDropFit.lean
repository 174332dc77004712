/- The sizes of a program with an operation dropped. -/
import Derived.Test.YtnobkdkfhgjeeaaLawFit
import Derived.Test.YtnobkdkfhgjeeaaDrop
namespace Go.Proofs.Ytnobkdkfhgjeeaa
open Go.RowKit

theorem fit_drop {v : PV} {p : Pg} {w : World} (a x : Int) (hr : RdP w v p) (hs : Small v p) (h : ¬ 1048576 < total v p) : FitP ((dropOp p a x).getD noPg) := by
  have hsp := hs.data hr
  have hl := lenSum_le hr h
  unfold dropOp changeP
  split
  · next h' =>
    cases hc : dropRes p a x with
    | none => exact fit_none
    | some p' =>
      have h1 := dropRes_ok hsp h'.2.1 h'.2.2 p' hc
      refine fit_of h1.1 ?_
      unfold dropRes at hc
      split at hc
      · obtain rfl : p.thr (p.threads.set a.toNat ((p.threads.getD a.toNat []).eraseIdx x.toNat)) = p' := by simpa using hc
        have h2 := lenSum_set p.threads a.toNat ((p.threads.getD a.toNat []).eraseIdx x.toNat)
        have h3 := List.length_eraseIdx_le (p.threads.getD a.toNat []) x.toNat
        have h4 := hsp.inn a.toNat
        show lenSum (p.threads.set a.toNat _) ≤ _
        omega
      · cases hc
  · exact fit_none

end Go.Proofs.Ytnobkdkfhgjeeaa
