/- The sizes of a program without what it says. -/
import Derived.Test.YtnobkdkfhgjeeaaLawFit
import Derived.Test.YtnobkdkfhgjeeaaWithout
namespace Go.Proofs.Ytnobkdkfhgjeeaa
open Go.RowKit

theorem lenSum_hush : ∀ ts : List (List OpD), lenSum (ts.map hush) ≤ lenSum ts
  | [] => by simp [lenSum]
  | t :: ts => by
    have := lenSum_hush ts
    have := hush_len t
    simp only [lenSum, List.map_cons, List.sum_cons] at *
    omega

theorem fit_without {v : PV} {p : Pg} {w : World} (hr : RdP w v p) (hs : Small v p) (h : ¬ 1048576 < total v p) : FitP ((withoutSays p).getD noPg) := by
  have hsp := hs.data hr
  have hl := lenSum_le hr h
  unfold withoutSays changeP
  split
  · next h' =>
    have h1 := withoutRes_ok hsp (by omega) _ rfl
    refine fit_of h1.1 ?_
    have := lenSum_hush p.threads
    show lenSum (p.threads.map hush) ≤ _
    omega
  · exact fit_none

end Go.Proofs.Ytnobkdkfhgjeeaa
