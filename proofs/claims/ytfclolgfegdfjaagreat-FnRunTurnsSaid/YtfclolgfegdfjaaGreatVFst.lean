/- Part of a proof: Fst. -/
import Derived.Deep.RegionHeld3
import Derived.Deep.AppendLies
import Derived.Test.YtfclolgfegdfjaaGreatVIEnd
import Derived.Test.YtfclolgfegdfjaaGreatVPot
set_option maxRecDepth 100000
set_option maxHeartbeats 16000000
namespace Go.Proofs.YtfclolgfegdfjaaGreat
open Go.RowKit
variable {s:zp} {p:Pg} {tr:List Int}
theorem fB:∀{l:List Int},l.length≠0->yO l (l.getD 0 0)=0
 |[],h=>by simp at h
 |x::l,_=>by simp[yO]
theorem Gx:∀(n:Nat) (s:zp) (A:List Int) (r:zp×List Int),xg p (xh false) n s A=some r->∃B,r.2=A++B/\∀c∈jm p s B,c=0
 |0,_,_,_,h=>by cases h
 |n+1,s,A,r,h=>by
  unfold xg at h;split at h
  ·obtain rfl:=Option.some.inj h;exact⟨[],jv,λ_ hc=>by cases hc⟩
  ·next t e=>
   split at h
   ·obtain⟨B,e1,g⟩:=Gx n _ _ r h;refine⟨t::B,by rw[e1];simp,λc hc=> ?_⟩;rcases List.mem_cons.1 hc with rfl|hc
    ·unfold xh at e;split at e
     ·cases e
     ·next hn=>
      obtain rfl:=Option.some.inj e;exact fB λe0=>hn (.inl e0)
    ·exact g c hc
   ·cases h
theorem GR (h:xn p (xh false)=some (s,tr)):∀c∈jm p (zI p) tr,c=0:=by
 unfold xn at h;split at h
 ·obtain⟨B,e,g⟩:=Gx 101 _ [] _ h;obtain rfl:tr=B:=by simpa using e
  exact g
 ·cases h
theorem kJ {ch:zp->List Int->Option Int}:∀(n:Nat) (s:zp) (A:List Int) (r:zp×List Int),xg p ch n s A=some r->ch r.1 r.2=none
 |0,_,_,_,h=>by cases h
 |n+1,s,A,r,h=>by
  unfold xg at h;split at h
  ·next e=>obtain rfl:=Option.some.inj h;exact e
  ·split at h
   ·exact kJ n _ _ r h
   ·cases h
theorem UD {b:Bool} (h:xn p (xh b)=some (s,tr)):(zq s).length=0:=by
 obtain⟨hv,-,g⟩:=QB h;have he:xh b s tr=none:=by
  unfold xn at h;rw[if_pos hv] at h;exact kJ 101 _ [] _ h
 by_cases hf:s.fault=0
 ·have:=Dk hv g hf;unfold xh at he;split at he
  ·next hc=>omega
  ·cases he
 ·unfold zq;rw[if_neg hf];rfl
theorem Gl (h:(zq s).length=0):((UH s).toList==[111,112,101,110])=false:=by
 unfold UH;by_cases hf:s.fault=0
 ·rw[if_pos hf]
  cases ho:Vb s with
  |true=>rw[if_pos rfl];kernel_rfl
  |false=>
   have:XT s=true:=by
    unfold Vb at ho;rw[xK hf,Bool.true_and] at ho;unfold XT;rw[xK hf,xK h,ho];rfl
   rw[if_neg Bool.false_ne_true,this,if_pos rfl];show((⟨#[115,116,117,99,107]⟩:ByteArray).toList==[111,112,101,110])=false
   kernel_rfl
 ·rw[if_neg hf]
  kernel_rfl
end Go.Proofs.YtfclolgfegdfjaaGreat
