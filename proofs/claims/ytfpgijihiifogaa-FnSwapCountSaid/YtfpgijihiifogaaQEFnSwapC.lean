/- Part of a proof: SwapK. -/
import Derived.Lib.QuietBelow
import Derived.BigQuiet
import Derived.IntWalk
import Derived.Test.YtfpgijihiifogaaQPSwap
import Derived.Test.YtfpgijihiifogaaQDrawSwapT
set_option maxRecDepth 100000
set_option maxHeartbeats 16000000
namespace Go.Proofs.Ytfpgijihiifogaa
open Go.RowKit
theorem swp_b_iff (a b t : Int) : (swp a b t == b) = (t == a) := by
 rw [Bool.eq_iff_iff]
 simp only [beq_iff_eq]
 unfold swp
 (repeat' split) <;> omega
end Go.Proofs.Ytfpgijihiifogaa
