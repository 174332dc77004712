/- Part of a proof: GoD. -/
import Derived.Test.YtfclolgfegdfjaaGreatVPRunC
set_option maxRecDepth 100000
set_option maxHeartbeats 16000000
namespace Go.Proofs.YtfclolgfegdfjaaGreat
open Go.RowKit
variable {s:zp} {p:Pg} {t:Int} {tr:List Int}
def qz (p:Pg):zp->List Int->Option zp
 |s,[]=>some s
 |s,t::T=>if t∈zq s then qz p (zJ p s t) T else none
theorem Jr:∀(A:List Int) (s:zp) (B:List Int),qz p s (A++B)=(qz p s A).bind λx=>qz p x B
 |[],_,_=>rfl
 |t::A,s,B=>by
  show(if t∈zq s then qz p (zJ p s t) (A++B) else none)=(if t∈zq s then qz p (zJ p s t) A else none).bind λx=>qz p x B;split
  ·exact Jr A _ B
  ·rfl
theorem DY {x:zp} (h:qz p s [t]=some x):t∈zq s/\x=zJ p s t:=by
 unfold qz at h;split at h
 ·next ht=>exact⟨ht,(Option.some.inj h).symm⟩
 ·cases h
theorem ft {T:List Int}:∀(n:Nat) (A B:List Int) (s:zp),T=A++B->B.length<n->xg p (jW T) n s A=(qz p s B).map λx=>(x,T)
 |0,_,_,_,_,h=>jq
 |n+1,A,[],s,e,_=>by
  have hc:jW T s A=none:=by unfold jW;rw[if_pos (by rw[e,List.append_nil])]
  rw[ZQ hc,e,List.append_nil];rfl
 |n+1,A,t::B,s,e,h=>by
  have hc:jW T s A=some t:=by
   unfold jW;rw[if_neg (by rw[e];simp),e];simp
  unfold qz;split
  ·next ht=>
   rw[Zs hc ht];exact ft n (A++[t]) B _ (by rw[e];simp) (by simp at h;omega)
  ·next ht=>rw[JE hc ht];rfl
theorem VV {T:List Int}:xx p T=if T.length<=100/\zD p=true then (qz p (zI p) T).map λx=>(x,T) else none:=by
 unfold xx xn;split
 ·next h=>
  split
  ·next hv=>rw[if_pos ⟨h,hv⟩];exact ft 101 [] T _ rfl jq
  ·next hv=>rw[if_neg λg=>hv g.2]
 ·next h=>rw[if_neg λg=>h g.1]
theorem fi {ch:zp->List Int->Option Int}:∀(n:Nat) (s:zp) (A:List Int) (r:zp×List Int),xg p ch n s A=some r->∃B,r.2=A++B/\qz p s B=some r.1/\B.length<n
 |0,_,_,_,h=>by cases h
 |n+1,s,A,r,h=>by
  unfold xg at h;split at h
  ·obtain rfl:=Option.some.inj h;exact⟨[],jv,rfl,jv⟩
  ·next t _=>
   split at h
   ·next ht=>
    obtain⟨B,e,g,l⟩:=fi n _ _ r h;refine⟨t::B,by rw[e];simp,?_,by simp;omega⟩;unfold qz;rw[if_pos ht];exact g
   ·cases h
theorem QB {ch:zp->List Int->Option Int} (h:xn p ch=some (s,tr)):zD p=true/\tr.length<=100/\qz p (zI p) tr=some s:=by
 unfold xn at h;split at h
 ·next hv=>
  obtain⟨B,e,g,l⟩:=fi 101 _ [] _ h;obtain rfl:tr=B:=by simpa using e
  exact⟨hv,jq,g⟩
 ·cases h
theorem Q7 {ch:zp->List Int->Option Int} (h:xn p ch=some (s,tr)):xx p tr=some (s,tr):=by
 obtain⟨hv,hl,g⟩:=QB h;rw[VV,if_pos ⟨hl,hv⟩,g];rfl
theorem xf {T U:List Int} (h:xx p T=some (s,U)):U=T/\T.length<=100/\zD p=true/\qz p (zI p) T=some s:=by
 rw[VV] at h;split at h
 ·next hc=>
  cases g:qz p (zI p) T with
  |none=>rw[g] at h;cases h
  |some x=>
   rw[g] at h;obtain⟨rfl,rfl⟩:=Prod.mk.inj (Option.some.inj h);exact⟨rfl,hc.1,hc.2,rfl⟩
 ·cases h
theorem Zk {T U:List Int} (h:xx p T=some (s,U)) (i:Nat):∃y,xx p (T.take i)=some (y,T.take i)/\qz p y (T.drop i)=some s:=by
 obtain⟨-,hl,hv,g⟩:=xf h;rw[<-List.take_append_drop i T,Jr] at g
 cases e:qz p (zI p) (T.take i) with
 |none=>rw[e] at g;cases g
 |some y=>
  rw[e] at g;exact⟨y,by rw[VV,if_pos ⟨by rw[jO];omega,hv⟩,e];rfl,g⟩
theorem uA:∀(T:List Int) {s x:zp},xF p s->qz p s T=some x->xF p x
 |[],_,_,hr,h=>by obtain rfl:=Option.some.inj h;exact hr
 |t::T,s,x,hr,h=>by
  unfold qz at h;split at h
  ·next ht=>exact uA T (hr.step (hr.fits.turn ht)) h
  ·cases h
theorem dY (p:Pg) (s:zp) (t:Int):∃l,(zJ p s t).said=s.said++l:=by
 have go:∀(s1:zp) (l:List Int),(goAll p s1 l).said=s1.said:=λs1 l=>j4 l s1;unfold zJ;split
 ·exact⟨_,rfl⟩
 split
 ·unfold doSem jh;split<;>exact⟨[],by simp[jR,yw,setSem]⟩
 split
 ·unfold doRel;split
  ·exact⟨[],by simp[jt]⟩
  ·exact⟨[],by rw[go];simp[setSem]⟩
 split
 ·unfold doOnce
  repeat' split
  all_goals exact⟨[],by first|(rw[go];simp[setOnce])|simp[jR,yw,setOnce]⟩
 split
 ·unfold doAdd;split
  ·exact⟨[],by simp[jt]⟩
  ·exact⟨[],by rw[go];simp[setGrp]⟩
 split
 ·unfold doWait jh;split<;>exact⟨[],by simp[jR,yw,setGrp]⟩
 split
 ·unfold doCome
  repeat' split
  all_goals exact⟨[],by first|(rw[go];simp[setBar])|simp[yw,setBar]⟩
 split
 ·unfold doSend;split
  ·exact⟨[],by simp[jt]⟩
  ·unfold jh;split
   ·show ∃l,(goAll p _ _).said=s.said++l;rw[go];split
    ·exact⟨[],by simp[setChn]⟩
    ·exact⟨_,rfl⟩
   ·show ∃l,(goAll p _ _).said=s.said++l;rw[go];split
    ·exact⟨[],by simp[setChn]⟩
    ·exact⟨_,rfl⟩
 split
 ·unfold doGet;split
  ·exact⟨[],by simp[yw,setChn]⟩
  ·rw[go];split
   ·exact⟨_,rfl⟩
   ·exact⟨[],by simp[setChn]⟩
 unfold doClose;split
 ·exact⟨[],by simp[jt]⟩
 ·exact⟨[],by rw[go];simp[setChn]⟩
theorem tQ:∀(T:List Int) {s x:zp},qz p s T=some x->∃l,x.said=s.said++l
 |[],s,x,h=>by obtain rfl:=Option.some.inj h;exact⟨[],jv⟩
 |t::T,s,x,h=>by
  unfold qz at h;split at h
  ·obtain⟨l,e⟩:=tQ T h;obtain⟨m,e'⟩:=dY p s t;exact⟨m++l,by rw[e,e'];simp⟩
  ·cases h
theorem UB:∀{l:List Int} {t:Int},t∈l->(yO l t).toNat<l.length
 |x::l,t,h=>by
  unfold yO;split
  ·simp
  ·next hn=>
   have hm:t∈l:=by
    rcases List.mem_cons.1 h with e|h
    ·exact absurd e.symm hn
    ·exact h
   have h1:=UB hm;have h2:=(vE hm).1;rw[if_neg jq];simp only[List.length_cons];omega
def jm (p:Pg):zp->List Int->List Int
 |_,[]=>[]
 |s,t::T=>yO (zq s) t::jm p (zJ p s t) T
theorem Zt:∀(T:List Int) (s:zp),(jm p s T).length=T.length
 |[],_=>rfl
 |t::T,s=>by show(jm p _ T).length+1=T.length+1;rw[Zt T]
theorem Ul:∀(A:List Int) (s x:zp) (B:List Int),qz p s A=some x->jm p s (A++B)=jm p s A++jm p x B
 |[],_,_,_,h=>by obtain rfl:=Option.some.inj h;rfl
 |t::A,s,x,B,h=>by
  unfold qz at h;split at h
  ·show yO (zq s) t::jm p _ (A++B)=_;rw[Ul A _ x B h];rfl
  ·cases h
theorem kl {cs:List Int}:∀(n:Nat) (A B cA:List Int) (s x:zp),qz p s B=some x->cs=cA++jm p s B->cA.length=A.length->B.length<n->xg p (qo cs) n s A=some (x,A++B)
 |0,_,_,_,_,_,_,_,_,h=>jq
 |n+1,A,[],cA,s,x,g,e,hl,_=>by
  obtain rfl:=Option.some.inj g;have hc:qo cs s A=none:=by unfold qo;rw[if_pos (.inr (by rw[e];simp[jm,hl]))]
  rw[ZQ hc,List.append_nil]
 |n+1,A,t::B,cA,s,x,g,e,hl,h=>by
  unfold qz at g;split at g
  ·next ht=>
   have hf:=vE ht;have hc:qo cs s A=some t:=by
    unfold qo;have e1:cs.getD A.length 0=yO (zq s) t:=by
     rw[e,<-hl];show(cA++(yO (zq s) t::jm p _ B)).getD cA.length 0=_;simp
    have c0:0<(zq s).length:=List.length_pos_of_mem ht;have b0:=UB ht;have a0:¬((zq s).length=0\/A.length=cs.length):=by
     rintro(h0|h0)
     ·omega
     ·rw[e,xp,hl] at h0;simp[jm] at h0
    rw[if_neg a0,e1,Nat.mod_eq_of_lt b0];congr 1;exact hf.2
   rw[Zs hc ht,kl n (A++[t]) B (cA++[yO (zq s) t]) _ x g (by rw[e];simp[jm]) (by simp[hl]) (by simp at h;omega)];simp
  ·cases g
theorem Ut:∀(T:List Int) {s x:zp},qz p s T=some x->∀c∈jm p s T,0<=c
 |[],_,_,_,c,h=>by cases h
 |t::T,s,x,g,c,h=>by
  unfold qz at g;split at g
  ·next ht=>
   rcases List.mem_cons.1 h with rfl|h
   ·exact(vE ht).1
   ·exact Ut T g c h
  ·cases g
theorem DF {T:List Int} (h:xx p T=some (s,T)):qL p (jm p (zI p) T)=some (s,T):=by
 obtain⟨-,hl,hv,g⟩:=xf h;unfold qL xn;rw[if_pos ⟨by rw[Zt];exact hl,List.all_eq_true.2 λc hc=>by simpa using Ut T g c hc⟩,if_pos hv];exact kl 101 [] T [] _ s g rfl rfl jq
end Go.Proofs.YtfclolgfegdfjaaGreat
