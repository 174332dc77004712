/- Part of a proof: EqZ. -/
import Derived.Test.YtfclolgfegdfjaaGreatVPMachK
set_option maxRecDepth 100000
set_option maxHeartbeats 16000000
namespace Go.Proofs.YtfclolgfegdfjaaGreat
open Go.RowKit
variable {s:zp}
structure X5 (s:zp):Prop where
 pl:s.places.length<=1048576
 st:s.status.length<=1048576
 sa:s.said.length<=1048576
 se:s.sems.length<=1048576
 on:s.onces.length<=1048576
 gr:s.groups.length<=1048576
 ba:s.bars.length<=1048576
 ch:s.chans.length<=1048576
 qse:∀i,(s.sems.getD i yi).queue.length<=1048576
 qon:∀i,(s.onces.getD i zH).waits.length<=1048576
 qgr:∀i,(s.groups.getD i yH).waits.length<=1048576
 qba:∀i,(s.bars.getD i ye).waits.length<=1048576
 qch:∀i,(s.chans.getD i yq).items.length<=1048576/\(s.chans.getD i yq).senders.length<=1048576/\(s.chans.getD i yq).getters.length<=1048576
theorem GE.e (h:GE s):X5 s:=⟨h.pl.2,h.st.2,h.sa,h.se,h.on,h.gr,h.ba,h.ch,h.qse,h.qon,h.qgr,h.qba,h.qch⟩
theorem fE (w:World) (a0 a1 b0 b1:Int):(binOp .neq 151 (.agg #[uy a0,uy a1]) (.agg #[uy b0,uy b1])).run Tryz.prog w= .ok (.bool (!(a0==b0&&a1==b1))) w:=by
 have u3:=Tryz.underlying3;have a3:=Tryz.isAgg3;have z3:=Tryz.sizeOf3;have hS:Tryz.prog.underlying 151=some (.struct (Tryz.prog.fieldsOf 151)):=by kernel_rfl
 have hp:Tryz.prog.stoodInHeld 151=false:=by kernel_rfl
 rw[run_neq_struct,show(10000:Nat)=9999+1 from rfl,run_equalIn_agg w 9999 _ _ _ hS hp];simp only[Program.fieldsOf,Tryz.underlying151];go_simp;by_cases h0:a0=b0<;>by_cases h1:a1=b1<;>simp[h0,h1]
theorem tY (w:World) (x y:Operand) (xs ys:Array Value):(eqGuard .neq 151 x y (.agg xs) (.agg ys)).run Tryz.prog w= .ok () w:=
 run_eqGuard_agg w .neq _ x y xs ys (by kernel_rfl)
theorem fT (w:World) (a0 a1 b0 b1:Int):(binOp .neq 154 (.agg #[uy a0,uy a1]) (.agg #[uy b0,uy b1])).run Tryz.prog w= .ok (.bool (!(a0==b0&&a1==b1))) w:=by
 have u3:=Tryz.underlying3;have a3:=Tryz.isAgg3;have z3:=Tryz.sizeOf3;have hS:Tryz.prog.underlying 154=some (.struct (Tryz.prog.fieldsOf 154)):=by kernel_rfl
 have hp:Tryz.prog.stoodInHeld 154=false:=by kernel_rfl
 rw[run_neq_struct,show(10000:Nat)=9999+1 from rfl,run_equalIn_agg w 9999 _ _ _ hS hp];simp only[Program.fieldsOf,Tryz.underlying154];go_simp;by_cases h0:a0=b0<;>by_cases h1:a1=b1<;>simp[h0,h1]
theorem kU (w:World) (x y:Operand) (xs ys:Array Value):(eqGuard .neq 154 x y (.agg xs) (.agg ys)).run Tryz.prog w= .ok () w:=
 run_eqGuard_agg w .neq _ x y xs ys (by kernel_rfl)
end Go.Proofs.YtfclolgfegdfjaaGreat
