/- Part of a proof: Sb. -/
import Derived.Test.YtjmpejaifmopnaaGreatQPFr
set_option maxRecDepth 100000
set_option maxHeartbeats 16000000
namespace Go.Proofs.YtjmpejaifmopnaaGreat
open Go.RowKit
abbrev svC (v:StV):Array Value:= #[.slice v.pl.a v.pl.n v.pl.c,.slice v.st.a v.st.n v.st.c,.slice v.se.a v.se.n v.se.c,.slice v.on.a v.on.n v.on.c,.slice v.gr.a v.gr.n v.gr.c,.slice v.ba.a v.ba.n v.ba.c,.slice v.ch.a v.ch.n v.ch.c,.slice v.sa.a v.sa.n v.sa.c,.int .i64 v.fl]
abbrev zC:Array Value:= #[.slice none 0 0,.slice none 0 0,.slice none 0 0,.slice none 0 0,.slice none 0 0,.slice none 0 0,.slice none 0 0,.slice none 0 0,.int .i64 0]
abbrev cl3 (w:World) (G:Nat) (V v:StV):List It:=[.blk G (svC V) 38,.blk (w.heap.size+1) zC 38,.blk w.heap.size (svC v) 38]
abbrev pvC (u:PV):Array Value:= #[.slice u.s u.ns u.cs,.slice u.g u.ng u.cg,.slice u.b u.nb u.cb,.slice u.r u.nr u.cr,.slice u.t u.nt u.ct]
abbrev sb3 (w:World) (u:PV) (v:StV) (z:Array Value):List It:=[.blk (w.heap.size+1+1) z 38,.blk (w.heap.size+1) (svC v) 38,.blk w.heap.size (pvC u) 26]
end Go.Proofs.YtjmpejaifmopnaaGreat
