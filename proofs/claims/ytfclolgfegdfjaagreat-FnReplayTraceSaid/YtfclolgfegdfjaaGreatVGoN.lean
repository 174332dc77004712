/- Part of a proof: GoN. -/
import Derived.Test.YtfclolgfegdfjaaGreatVGoD
import Derived.Test.YtfclolgfegdfjaaGreatVRPlay
set_option maxRecDepth 100000
set_option maxHeartbeats 16000000
namespace Go.Proofs.YtfclolgfegdfjaaGreat
open Go.RowKit
variable {s:zp} {k:Nat} {p:Pg}
theorem VI {T:List Int} {z:zp} (h:xx p T=some (s,T)) (hk:k<T.length) (hz:xx p (T.take k)=some (z,T.take k)):T.getD k 0∈zq z/\xx p (T.take (k+1))=some (zJ p z (T.getD k 0),T.take (k+1)):=by
 obtain⟨y,hy,-⟩:=Zk h (k+1);have g:=(xf hy).2.2.2;rw[gY hk,Jr,(xf hz).2.2.2] at g;obtain⟨hm,rfl⟩:=DY g;exact⟨hm,hy⟩
end Go.Proofs.YtfclolgfegdfjaaGreat
