/- Part of a proof: SlTo. -/
import Derived.Test.YtfclolgfegdfjaaGreatVBaseA
set_option maxRecDepth 100000
set_option maxHeartbeats 16000000
namespace Go.Proofs.YtfclolgfegdfjaaGreat
open Go.RowKit
theorem DC (a:uQ) (n c i:Nat) (h1:i<=c) (h2:n<=c) (W:World):(Instr.slice 24 (.slice a n c) none (some (uy (i:Int))) none).run Tryz.prog W= .ok (.slice a i c) W:=by
 have j0:(0:Int)<=(i:Int):=jq;have j1:(i:Int)<=(c:Int):=jq;have j2:(n:Int)<=(c:Int):=jq
 cases a<;>go_simp
theorem XB (a:uQ) (n c i:Nat) (h1:i<=c) (h2:n<=c) (W:World):(Instr.slice 23 (.slice a n c) none (some (uy (i:Int))) none).run Tryz.prog W= .ok (.slice a i c) W:=by
 have j0:(0:Int)<=(i:Int):=jq;have j1:(i:Int)<=(c:Int):=jq;have j2:(n:Int)<=(c:Int):=jq
 cases a<;>go_simp
end Go.Proofs.YtfclolgfegdfjaaGreat
