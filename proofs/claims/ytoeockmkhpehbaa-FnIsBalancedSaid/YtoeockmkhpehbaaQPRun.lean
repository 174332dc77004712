/- Part of a proof: IRun. -/
import Derived.Test.YtoeockmkhpehbaaQIWalk
set_option maxRecDepth 100000
set_option maxHeartbeats 16000000
namespace Go.Proofs.Ytoeockmkhpehbaa
open Go.RowKit
theorem head_mem {l : List Int} (h : l.length ≠ 0) : l.getD 0 0 ∈ l := by
 cases l with
 | nil => exact absurd rfl h
 | cons a l => simp
end Go.Proofs.Ytoeockmkhpehbaa
