/- Part of a proof: SwapK. -/
import Derived.Lib.QuietBelow
import Derived.BigQuiet
import Derived.IntWalk
import Derived.Test.YtfpgijihiifogaaQPSwap
import Derived.Test.YtfpgijihiifogaaQDrawSwapT
set_option maxRecDepth 100000
set_option maxHeartbeats 16000000
namespace Go.Proofs.Ytfpgijihiifogaa
open Go.RowKit
theorem swp_swp (a b t : Int) : swp a b (swp a b t) = t := by
 unfold swp
 (repeat' split) <;> omega
theorem swp_comm (a b t : Int) : swp b a t = swp a b t := by
 unfold swp
 (repeat' split) <;> omega
end Go.Proofs.Ytfpgijihiifogaa
