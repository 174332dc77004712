/- Part of a proof: OneT. -/
import Derived.Test.YtfclolgfegdfjaaGreatVGoD
set_option maxRecDepth 100000
set_option maxHeartbeats 16000000
namespace Go.Proofs.YtfclolgfegdfjaaGreat
open Go.RowKit
variable {w:World} {s:zp} {a:uQ} {p:Pg} {cs:uZ} {tr:List Int}
def QS (p:Pg):Pg:={p with threads:=p.threads.take 1}
theorem YW (h:zD p=true):zD (QS p)=true:=by
 unfold zD at h⊢;simp only[Bool.and_eq_true,decide_eq_true_eq,List.all_eq_true] at h⊢;obtain⟨⟨⟨⟨⟨⟨h1,h2⟩,h3⟩,h4⟩,h5⟩,h6⟩,h7⟩:=h;refine⟨⟨⟨⟨⟨⟨h1,h2⟩,h3⟩,h4⟩,?_⟩,?_⟩,λt ht=>h7 t (List.mem_of_mem_take ht)⟩
 ·show 1<=(p.threads.take 1).length;rw[jO];omega
 ·show(p.threads.take 1).length<=4;rw[jO];omega
theorem Dp (h:zD p=true):(QS p).threads.length=1:=by
 have:=(yf h).2.2.2.2.1;show(p.threads.take 1).length=1;rw[jO];omega
theorem gR (h:yp p s):(zq s).length<=p.threads.length:=by
 rw[vh,<-h.nst];split
 ·exact vW s _
 ·simp
theorem dv (h:(zq s).length<=1):xh true s tr=xh false s tr:=by
 unfold xh;split
 ·rfl
 ·next hn=>
  obtain⟨z,hz⟩:∃z,zq s=[z]:=by
   match e:zq s,h with
   |[],_=>exact absurd (.inl (by rw[e];rfl)) hn
   |[z],_=>exact⟨z,rfl⟩
  rw[hz];unfold ja ja;by_cases hx:Xe tr<=z<;>simp[hx]
theorem td (h1:p.threads.length=1):∀(n:Nat) (s:zp) (tr:List Int),xF p s->xg p (xh true) n s tr=xg p (xh false) n s tr
 |0,_,_,_=>rfl
 |n+1,s,tr,hr=>by
  have hl:=gR hr.fits;have e:=dv (tr:=tr) (show(zq s).length<=1 by omega)
  cases hc:xh false s tr with
  |none=>rw[ZQ hc,ZQ (e.trans hc)]
  |some t=>
   by_cases ht:t∈zq s
   ·rw[Zs hc ht,Zs (e.trans hc) ht];exact td h1 n _ _ (hr.step (hr.fits.turn ht))
   ·rw[JE hc ht,JE (e.trans hc) ht]
theorem pf (h:zD p=true):xn (QS p) (xh true)=xn (QS p) (xh false):=by
 unfold xn;rw[if_pos (YW h),if_pos (YW h)];exact td (Dp h) 101 _ _ (xF.start (YW h))
theorem dQ {b:Bool} (h:zD p=true):∃s tr,xn p (xh b)=some (s,tr):=by
 unfold xn;rw[if_pos h];obtain⟨r,e⟩:=JZ (p:=p) (ch:=xh b) (λ_ _ _ hc=>Gz hc) (λs tr hl=>by unfold xh;rw[if_pos (.inr hl)]) 101 (zI p) [] rfl jk;exact⟨r.1,r.2,e⟩
theorem Rd.tk (h:Rd w a cs) (k:Nat):Rd w a (cs.take k):=by
 rcases h with rfl|⟨b,o,e,h⟩
 ·exact .inl jv
 ·exact .inr ⟨b,o,e,λj hj=>by
   rw[jO] at hj;rw[h j jq];simp[List.getD,show j<k by omega]⟩
theorem yK.one {v:PV} (h:yK w v p) (hn:1<=p.threads.length):yK w {v with nt:=1} (QS p):=by
 obtain⟨vs,hv⟩:=h.rt;refine⟨h.ls,h.lg,h.lb,h.lr,?_,h.rs,h.rg,h.rb,h.rr,vs.take 1,?_,hv.out.tk 1,λi hi=> ?_⟩
 ·show(p.threads.take 1).length=1;rw[jO];omega
 ·show(vs.take 1).length=(p.threads.take 1).length;rw[jO,jO,hv.len]
 ·have a0:i<1:=by
   have:i<(p.threads.take 1).length:=hi;rw[jO] at this;omega
  obtain rfl:i=0:=jq;obtain⟨a',c',e,hr⟩:=hv.inn 0 jq;have e1:(p.threads.take 1).getD 0 []=p.threads.getD 0 []:=by
   cases p.threads<;>simp
  have e2:(vs.take 1).getD 0 undef=vs.getD 0 undef:=by
   cases vs<;>simp
  exact⟨a',c',by rw[e2];show _=Value.slice a' ((p.threads.take 1).getD 0 []).length c';rw[e1];exact e,by show Rd w a' (qR ((p.threads.take 1).getD 0 []));rw[e1];exact hr⟩
end Go.Proofs.YtfclolgfegdfjaaGreat
