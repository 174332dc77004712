/- SwapThreads: the program's own text. -/
import Derived.Test.YtnobkdkfhgjeeabChangeKit
import Derived.Deep.RegionHeld3
namespace Go.Proofs.Ytnobkdkfhgjeeab
open Go.RowKit

theorem swapRes_ok {p : Pg} {a b : Int} (hs : SmallP p) (hp : 0 < p.threads.length) (h0 : 0 ≤ a) (h1 : a < p.threads.length) : ∀ p', swapRes p a b = some p' → SmallP p' ∧ 0 < p'.threads.length := by
  intro p' h
  unfold swapRes at h
  split at h
  · next hb =>
    obtain rfl : p.thr (swapTs [] p.threads a.toNat b.toNat) = p' := by simpa using h
    refine ⟨hs.thr (by rw [swapTs_len]; exact hs.lt) (fun i => ?_), by show 0 < (swapTs [] p.threads a.toNat b.toNat).length; rw [swapTs_len]; exact hp⟩
    rw [swapTs_get _ _ _ _ _ (by omega) (by omega)]
    split
    · exact hs.inn _
    · split
      · exact hs.inn _
      · exact hs.inn _
  · cases h

end Go.Proofs.Ytnobkdkfhgjeeab
