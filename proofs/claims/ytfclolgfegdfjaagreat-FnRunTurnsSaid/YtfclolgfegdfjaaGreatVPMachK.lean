/- Part of a proof: MachK2 FitsP Rdy GoAll MachK3 MachK4 Flt Told SfPut RunF. -/
import Derived.Test.YtfclolgfegdfjaaGreatVPFr
set_option maxRecDepth 100000
set_option maxHeartbeats 16000000
namespace Go.Proofs.YtfclolgfegdfjaaGreat
variable {i:Nat} {α:Type}
theorem qF [BEq α] [LawfulBEq α] {E E' A B:List α} (h:∀e,E'.count e+A.count e=E.count e+B.count e):(E'++A).Perm (E++B):=
 List.perm_iff_count.2 λe=>by rw[List.count_append,List.count_append,h e]
theorem Vc {E E' R N:List α} (h:(E'++(R++N)).Perm (E++N)):(E'++R).Perm E:=by
 rw[<-qh] at h;exact(List.perm_append_right_iff N).1 h
theorem YE {E E' N:List α} {e:α} (h:(E'++N).Perm (E++(N++[e]))):E'.Perm (e::E):=by
 have h2:(E++(N++[e])).Perm ((e::E)++N):=by
  rw[<-qh];exact List.perm_append_comm.trans jv
 exact(List.perm_append_right_iff N).1 (h.trans h2)
theorem ZZ {E E' N:List α} (h:(E'++N).Perm (E++N)):E'.Perm E:=(List.perm_append_right_iff N).1 h
theorem kD:∀(n:Nat) (l:List Int),l.Nodup->(∀t∈l,0<=t/\t<n)->l.length<=n
 |0,l,_,h=>by
  cases l with
  |nil=>simp
  |cons a l=>have:=h a jv;omega
 |n+1,l,hn,h=>by
  have ih:=kD n (l.erase (n:Int)) (hn.erase _) (λt ht=>by
   have h1:=h t (List.mem_of_mem_erase ht);have h2:t≠(n:Int):=λe=>by
    rw[e] at ht;exact(List.Nodup.mem_erase_iff hn).1 ht|>.1 rfl
   omega)
  have:= @List.length_erase Int _ _ (n:Int) l;split at this<;>omega
section
variable {p:Pg} {s:zp} {t:Int}
theorem yp.opv (h:yp p s) (ht:uu p s t):zX p (ya p s t)=true:=by
 have:=ht.rg;have h1:=ht.lt;have:=ht.ge
 unfold ya vJ;unfold vJ at h1;exact kT h.prog jq jq
theorem qC {o:xA} (ho:zX p o=true):0<=o.on/\o.on<zN p o.kind:=(ux ho).2.1
theorem K5 {o:xA} (ho:zX p o=true):1<=o.kind/\o.kind<=10:=(ux ho).1
theorem JC {o:xA} (ho:zX p o=true) (hk:o.kind=2\/o.kind=3):1<=o.arg/\o.arg<=p.sems.getD o.on.toNat 0:=by
 have h:=(ux ho).2.2;unfold j5 at h;rw[if_pos hk] at h;simpa using h
theorem JW {o:xA} (ho:zX p o=true) (hk:o.kind=1\/o.kind=4\/o.kind=8):0<=o.arg/\o.arg<=99:=by
 have h:=(ux ho).2.2;unfold j5 at h;rw[if_neg jq,if_neg jq,if_pos hk] at h;unfold vS at h;simpa using h
theorem XN (hi:i<s.sems.length) {e:xq} (he:e∈yL (s.sems.getD i yi) i):e∈yD s:=by
 unfold yD;exact yW (.inl (qD.2 ⟨i,hi,he⟩))
theorem JQ (hi:i<s.onces.length) {e:xq} (he:e∈yx (s.onces.getD i zH) i):e∈yD s:=by
 unfold yD;exact yW (.inr (yW (.inl (qD.2 ⟨i,hi,he⟩))))
theorem XM (hi:i<s.groups.length) {e:xq} (he:e∈xj (s.groups.getD i yH) i):e∈yD s:=by
 unfold yD;exact yW (.inr (yW (.inr (yW (.inl (qD.2 ⟨i,hi,he⟩))))))
theorem XJ (hi:i<s.bars.length) {e:xq} (he:e∈xz (s.bars.getD i ye) i):e∈yD s:=by
 unfold yD;exact yW (.inr (yW (.inr (yW (.inr (yW (.inl (qD.2 ⟨i,hi,he⟩))))))))
theorem vY (hi:i<s.chans.length) {e:xq} (he:e∈yT (s.chans.getD i yq) i):e∈yD s:=by
 unfold yD;exact yW (.inr (yW (.inr (yW (.inr (yW (.inr (qD.2 ⟨i,hi,he⟩))))))))
theorem KS (hi:i<s.onces.length) {e:Int×Int} (he:e∈xP (s.onces.getD i zH) i):e∈jg s:=qD.2 ⟨i,hi,he⟩
theorem YR (h:yp p s) (ht:uu p s t) {l:List Int} (hl:Zc l) (a0:∀u∈l,u∈eT s):Zc (l++[t])/\t∉l:=by
 have c0:t∉l:=λhm=>ht.ne (a0 t hm);have b0:(l++[t]).Nodup:=List.nodup_append.2 ⟨hl.2.2,jv,λa ha b hb e=>c0 (by rw[yh hb] at e;exact e▸ha)⟩;have hp:=(vM h.prog).2;have hr:∀u∈l++[t],0<=u/\u<(4:Nat):=λu hu=>by
  have:0<=u/\u<p.threads.length:=by
   rcases xM hu with hu|hu
   ·exact(h.waits (a0 u hu)).1
   ·rw[yh hu];exact ht.rg
  omega
 refine⟨⟨?_,λu hu=>by have:=hr u hu;omega,b0⟩,c0⟩;have:=kD 4 _ b0 hr;omega
theorem VK {l k:List Int} (h:Zc (l++k)):Zc k:=⟨by have:=h.1;rw[xp] at this;omega,λt ht=>h.2.1 t (yW (.inr ht)),(List.nodup_append.1 h.2.2).2.1⟩
theorem uO:Zc []:=⟨jv,jv,jv⟩
theorem Qk:∀(q:List (Int×Int)) (f:Int),0<=f->(∀w∈q,1<=w.2)->∃P N,q=P++N/\(yC f q).2.1=P.map (·.1)/\(yC f q).2.2=N/\0<=(yC f q).1/\(yC f q).1<=f/\(∀w N',N=w::N'->(yC f q).1<w.2)
 |[],f,hf,_=>⟨[],[],rfl,rfl,rfl,hf,Int.le_refl _,jv⟩
 |w::q,f,hf,hq=>by
  by_cases hw:w.2<=f
  ·obtain⟨P,N,h1,h2,h3,h4,h5,h6⟩:=Qk q (f-w.2) jq (λx hx=>hq x (List.mem_cons_of_mem _ hx));have e:yC f (w::q)=((yC (f-w.2) q).1,w.1::(yC (f-w.2) q).2.1,(yC (f-w.2) q).2.2):=(by rw[yC,if_pos hw]);rw[e];refine⟨w::P,N,by rw[h1];rfl,by simp[h2],h3,h4,?_,h6⟩;have:=hq w jv;show(yC (f-w.2) q).1<=f;omega
  ·have e:yC f (w::q)=(f,[],w::q):=(by rw[yC,if_neg hw]);rw[e];exact⟨[],w::q,rfl,rfl,rfl,hf,Int.le_refl _,λw' N' h=>by rw[<-(List.cons.inj h).1];show f<w.2;omega⟩
theorem yp.doSem (h:yp p s) (ht:uu p s t) (ho:t∉oT s) (hk:(ya p s t).kind=2):yp p (doSem p s t (ya p s t))/\ZE p s t (doSem p s t (ya p s t)):=by
 have hv:=h.opv ht;obtain⟨o,eo⟩:=jy (ya p s t);rw[<-eo] at hv hk⊢;obtain⟨h0,h1⟩:=qC hv;rw[show zN p o.kind=p.sems.length by unfold zN;rw[if_neg jq,if_pos (.inl hk)]] at h1;have hi:o.on.toNat<s.sems.length:=by rw[h.nse];omega
 obtain⟨x,ex⟩:=jy (s.sems.getD o.on.toNat yi);obtain⟨ok,b0⟩:=h.se _ hi;have hc:=JC hv (.inl hk);rw[<-ex] at ok b0;rw[<-b0] at hc;have a0:=V6 s o.on (jB x t o.arg).1 hi;rw[<-ex] at a0;have hP:=qF a0;unfold Go.Proofs.YtfclolgfegdfjaaGreat.doSem;rw[<-ex];by_cases hq:x.queue=[]/\o.arg<=x.free
 ·have e:jB x t o.arg=(⟨x.free-o.arg,x.limit,x.queue⟩,true):=by unfold jB;rw[if_pos hq]
  rw[e] at hP⊢;have hT:yM p (setSem s o.on ⟨x.free-o.arg,x.limit,x.queue⟩):=h.things.setSem ⟨⟨ok.1,⟨by show 0<=x.free-o.arg;omega,by show x.free-o.arg<=x.limit;have:=ok.2.1;omega⟩,ok.2.2.1,ok.2.2.2.1,λw q hw=>by
   dsimp only at hw;rw[hq.1] at hw;cases hw⟩,b0⟩
  have:=h.tell (R:=[]) ht ho hT rfl rfl (by rw[List.append_nil];exact ZZ hP) rfl;exact this
 ·have e:jB x t o.arg=(⟨x.free,x.limit,x.queue++[(t,o.arg)]⟩,false):=by unfold jB;rw[if_neg hq]
  rw[e] at hP⊢;have c0:∀u∈x.queue.map (·.1),u∈eT s:=λu hu=>by
   obtain⟨w,hw,rfl⟩:=yU.1 hu;refine yU.2 ⟨(w.1,2,((o.on.toNat:Nat):Int),w.2),XN hi ?_,rfl⟩;rw[<-ex];exact yU.2 ⟨w,hw,rfl⟩
  have d0:=YR h ht ok.2.2.2.1 c0;have hT:yM p (setSem s o.on ⟨x.free,x.limit,x.queue++[(t,o.arg)]⟩):=h.things.setSem ⟨⟨ok.1,ok.2.1,λw hw=>by
    rcases xM hw with hw|hw
    ·exact ok.2.2.1 w hw
    ·rw[yh hw];exact hc,by show Zc (List.map _ (x.queue++[(t,o.arg)]));rw[vQ];exact d0.1,λw q hw=>by
    dsimp only at hw⊢
    cases hxq:x.queue with
    |nil=>
     rw[hxq] at hw;simp only[qZ,List.cons.injEq] at hw;rw[<-hw.1];have:¬o.arg<=x.free:=λhh=>hq ⟨hxq,hh⟩;show x.free<o.arg;omega
    |cons a l=>
     rw[hxq] at hw;simp only[List.cons_append,List.cons.injEq] at hw;exact ok.2.2.2.2 w l (by rw[hxq,hw.1])⟩,b0⟩
  refine h.wait ht ho hT rfl rfl (YE (N:=yL x o.on.toNat) ?_) rfl;rw[<-eo];have e2:yL (⟨x.free,x.limit,x.queue++[(t,o.arg)]⟩:xS) o.on.toNat=yL x o.on.toNat++[Z3 o t]:=by
   unfold yL Z3;rw[if_pos (.inl hk),hk,vQ];simp only[List.map_cons,List.map_nil];rw[show((o.on.toNat:Nat):Int)=o.on by omega]
  rw[e2] at hP;exact hP
theorem yp.doRel (h:yp p s) (ht:uu p s t) (ho:t∉oT s) (hk:(ya p s t).kind=3):yp p (doRel p s t (ya p s t))/\ZE p s t (doRel p s t (ya p s t)):=by
 have hv:=h.opv ht;obtain⟨o,eo⟩:=jy (ya p s t);rw[<-eo] at hv hk⊢;obtain⟨h0,h1⟩:=qC hv;rw[show zN p o.kind=p.sems.length by unfold zN;rw[if_neg jq,if_pos (.inr hk)]] at h1;have hi:o.on.toNat<s.sems.length:=by rw[h.nse];omega
 obtain⟨x,ex⟩:=jy (s.sems.getD o.on.toNat yi);obtain⟨ok,b0⟩:=h.se _ hi;have hc:=JC hv (.inr hk);rw[<-ex] at ok b0;unfold Go.Proofs.YtfclolgfegdfjaaGreat.doRel;rw[<-ex];unfold qP;by_cases hf:o.arg<=x.limit-x.free
 ·rw[if_pos hf];have a0:=V6 s o.on ⟨(yC (x.free+o.arg) x.queue).1,x.limit,(yC (x.free+o.arg) x.queue).2.2⟩ hi;rw[<-ex] at a0;have hP:=qF a0;obtain⟨P,N,e1,e2,e3,e4,e5,e6⟩:=Qk x.queue (x.free+o.arg) (jQ ok.2.1) (λw hw=>(ok.2.2.1 w hw).1);rw[e3] at hP⊢;rw[e2];have c0:yL x o.on.toNat=(P.map λw=>((w.1,2,((o.on.toNat:Nat):Int),w.2):xq))++yL (⟨(yC (x.free+o.arg) x.queue).1,x.limit,N⟩:xS) o.on.toNat:=by
   unfold yL;rw[e1,vQ]
  rw[c0] at hP;have hT:yM p (setSem s o.on ⟨(yC (x.free+o.arg) x.queue).1,x.limit,N⟩):=h.things.setSem ⟨⟨ok.1,⟨e4,by show(yC (x.free+o.arg) x.queue).1<=x.limit;omega⟩,λw hw=>ok.2.2.1 w (by rw[e1];exact yW (.inr hw)),VK (l:=P.map (·.1)) (by rw[<-vQ,<-e1];exact ok.2.2.2.1),e6⟩,b0⟩;have:=h.tell (R:=P.map λw=>((w.1,2,((o.on.toNat:Nat):Int),w.2):xq)) ht ho hT rfl rfl (Vc hP) rfl;rw[List.map_map] at this;exact this
 ·rw[if_neg hf];exact h.fail jq
theorem yp.doOnce (h:yp p s) (ht:uu p s t) (hk:(ya p s t).kind=4):yp p (doOnce p s t (ya p s t))/\ZE p s t (doOnce p s t (ya p s t)):=by
 have hv:=h.opv ht;have o0:=ht.st;obtain⟨o,eo⟩:=jy (ya p s t);rw[<-eo] at hv hk o0⊢;obtain⟨h0,h1⟩:=qC hv;rw[show zN p o.kind=3 by unfold zN;rw[if_neg jq,if_neg jq,if_pos hk]] at h1;have hi:o.on.toNat<s.onces.length:=by rw[h.non];omega
 obtain⟨x,ex⟩:=jy (s.onces.getD o.on.toNat zH);have ok:=h.on _ hi;have u0:=JW hv (.inr (.inl hk));rw[<-ex] at ok;have c0:∀u∈x.waits,u∈eT s:=λu hu=>by
  refine yU.2 ⟨(u,4,((o.on.toNat:Nat):Int),0),JQ hi ?_,rfl⟩;rw[<-ex];exact yU.2 ⟨u,hu,rfl⟩
 have k0:((o.on.toNat:Nat):Int)=o.on:=jq;have n0:0<=t/\t<6:=by have:=ht.rg;have:=(vM h.prog).2;omega
 unfold Go.Proofs.YtfclolgfegdfjaaGreat.doOnce;rw[<-ex];rcases o0 with ⟨s0,j0⟩|⟨s2,-,i0⟩
 ·rw[if_neg jq];have d0:=VC s o.on (qU x t) hi;have f0:=Vt s o.on (qU x t) hi;rw[<-ex] at d0 f0;have hE:=qF d0;have hO:=qF f0;rcases ok with ⟨k1,k2,k3,k4⟩|⟨k1,k2,k3,k4,k5⟩|⟨k1,k2,k3,k4⟩
  ·rw[if_pos k1];have e:qU x t=⟨1,t,0,[]⟩:=by unfold qU;rw[if_pos k1]
   rw[e] at hE hO⊢;have hT:yM p (setOnce s o.on ⟨1,t,0,[]⟩):=h.things.setOnce (.inr (.inl ⟨rfl,n0,rfl,uO,jv⟩));refine h.own ht j0 (by rw[<-eo];exact hk) hT rfl rfl ?_ ?_
   ·have e2:yx (⟨1,t,0,[]⟩:xJ) o.on.toNat=yx x o.on.toNat:=by unfold yx;rw[k4]
    rw[e2] at hE;exact ZZ hE
   ·have e2:xP (⟨1,t,0,[]⟩:xJ) o.on.toNat=xP x o.on.toNat++[(t,o.on)]:=by
     unfold xP;rw[if_pos rfl,if_neg jq,k0];rfl
    rw[e2] at hO;rw[<-eo];exact YE hO
  ·rw[if_neg jq,if_pos k1];have e:qU x t=⟨1,x.owner,0,x.waits++[t]⟩:=by unfold qU;rw[if_neg jq,if_pos k1]
   rw[e] at hE hO⊢;have m0:=YR h ht k4 c0;have b0:x.owner∈oT s:=by
    refine yU.2 ⟨(x.owner,((o.on.toNat:Nat):Int)),KS hi ?_,rfl⟩;rw[<-ex];unfold xP;rw[if_pos k1];simp
   have t0:x.owner≠t:=λe=>j0 (e▸b0);have hT:yM p (setOnce s o.on ⟨1,x.owner,0,x.waits++[t]⟩):=h.things.setOnce (.inr (.inl ⟨rfl,k2,rfl,m0.1,λhm=>by
    rcases xM hm with hm|hm
    ·exact k5 hm
    ·exact t0 (yh hm)⟩))
   have q0:jg (setOnce s o.on ⟨1,x.owner,0,x.waits++[t]⟩)=jg s:=by
    unfold jg setOnce;simp only[List.length_set];refine uE λi r0=> ?_;rw[jo];by_cases g0:i=o.on.toNat/\o.on.toNat<s.onces.length
    ·rw[if_pos g0,g0.1,<-ex];unfold xP;rw[if_pos rfl,if_pos k1]
    ·rw[if_neg g0]
   refine h.wait ht j0 hT rfl rfl (YE (N:=yx x o.on.toNat) ?_) q0;have e2:yx (⟨1,x.owner,0,x.waits++[t]⟩:xJ) o.on.toNat=yx x o.on.toNat++[Z3 o t]:=by
    unfold yx Z3;rw[if_neg jq,hk,vQ,k0];rfl
   rw[e2] at hE;rw[<-eo];exact hE
  ·rw[if_neg jq,if_neg jq];exact h.tell (R:=[]) ht j0 h.things rfl rfl (by rw[List.append_nil]) rfl
 ·rw[if_pos s2];have d0:=VC s o.on (Yl t o.arg) hi;have f0:=Vt s o.on (Yl t o.arg) hi;rw[<-ex] at d0 f0;have hE:=qF d0;have hO:=qF f0;obtain⟨i,r0,a0⟩:=qD.1 i0;have p0:(s.onces.getD i zH).state=1/\t=(s.onces.getD i zH).owner/\o.on=i:=by
   unfold xP at a0;by_cases l0:(s.onces.getD i zH).state=1
   ·rw[if_pos l0] at a0;have:=yh a0;simp only[Prod.mk.injEq] at this;exact⟨l0,this.1,this.2⟩
   ·rw[if_neg l0] at a0;cases a0
  have g0:o.on.toNat=i:=jq;rw[<-g0,<-ex] at p0;obtain⟨x1,x2,-⟩:=p0;have m0:Zc x.waits:=by
   rcases ok with ⟨k1,k2,k3,k4⟩|⟨k1,k2,k3,k4,k5⟩|⟨k1,k2,k3,k4⟩
   ·rw[k4];exact uO
   ·exact k4
   ·rw[k4];exact uO
  have hT:yM p (setOnce s o.on (Yl t o.arg)):=h.things.setOnce (.inr (.inr ⟨rfl,n0,u0,rfl⟩));have eN:yx (Yl t o.arg) o.on.toNat=[]:=rfl;have eM:xP (Yl t o.arg) o.on.toNat=[]:=by unfold xP Yl;rw[if_neg (by show¬(2:Int)=1;decide)]
  have eQ:xP x o.on.toNat=[(t,o.on)]:=by unfold xP;rw[if_pos x1,k0,<-x2]
  rw[eN,List.append_nil] at hE;rw[eM,eQ,List.append_nil] at hO;have pE:=hE.map (·.1);have pO:=hO.map (·.1);rw[vQ] at pE pO;have nE:=List.nodup_append.1 (pE.nodup_iff.2 h.ne);have nO:=List.nodup_append.1 (pO.nodup_iff.2 h.no);have mR:(yx x o.on.toNat).map (λe:xq=>e.1)=x.waits:=by
   unfold yx;rw[List.map_map];exact List.map_id' _
  have tO:t∈oT s:=yU.2 ⟨_,i0,rfl⟩;refine h.go hT rfl rfl hE hO ?_ ?_ ?_ ?_ ?_ jv (λu hu=>(xM hu).elim (λh=> .inr (c0 u h)) (λh=> .inl (yh h)))
  ·exact List.nodup_append.2 ⟨m0.2.2,jv,λa ha b hb e=>ht.ne (by rw[yh hb] at e;exact e▸c0 a ha)⟩
  ·intro u hu;rcases xM hu with hu|hu
   ·exact⟨(h.waits (c0 u hu)).1,(h.waits (c0 u hu)).2.1⟩
   ·rw[yh hu];exact⟨ht.rg,ht.lt⟩
  ·intro u hu;rcases xM hu with hu|hu
   ·refine⟨λhx=>nE.2.2 u hx u (by rw[mR];exact hu) rfl,λhx=> ?_⟩;exact(h.waits (c0 u hu)).2.2 (pO.mem_iff.1 (yW (.inl hx)))
   ·rw[yh hu];exact⟨λhx=>ht.ne (pE.mem_iff.1 (yW (.inl hx))),λhx=>nO.2.2 t hx t jv rfl⟩
  ·intro e he;refine yW (.inl ?_);rw[<-mR];exact List.mem_map_of_mem he
  ·intro e he;rw[yh he];exact yW (.inr jv)
end
end Go.Proofs.YtfclolgfegdfjaaGreat
namespace Go.Proofs.YtfclolgfegdfjaaGreat
open Go.RowKit Go.Sort
variable {w:World} {s:zp} {i:Nat} {p:Pg} {α:Type}
theorem yf (h:zD p=true):p.sems.length<=3/\p.groups.length<=3/\p.barriers.length<=3/\p.rooms.length<=3/\(1<=p.threads.length/\p.threads.length<=4)/\∀i,(p.threads.getD i []).length<=8:=by
 unfold zD xl at h;simp only[Bool.and_eq_true,decide_eq_true_eq,List.all_eq_true] at h;obtain⟨⟨⟨⟨⟨⟨⟨h1,-⟩,⟨h2,-⟩⟩,⟨h3,-⟩⟩,⟨h4,-⟩⟩,h5⟩,h6⟩,h7⟩:=h;refine⟨h1,h2,h3,h4,⟨h5,h6⟩,λi=> ?_⟩;by_cases hi:i<p.threads.length
 ·rw[xm,xV hi];exact(h7 _ (List.getElem_mem hi)).1
 ·rw[xm,List.getElem?_eq_none jq];simp
theorem vx {v:PV} (h:zD p=true) (hr:yK w v p):xH v p:=by
 obtain⟨h1,h2,h3,h4,⟨h5,h6⟩,h7⟩:=yf h;exact⟨by rw[<-hr.ls];omega,by rw[<-hr.lg];omega,by rw[<-hr.lb];omega,by rw[<-hr.lr];omega,by rw[<-hr.lt];omega,λi=>Nat.le_trans (h7 i) jq⟩
theorem JD {l:List α} {d:α} (h:¬i<l.length):l.getD i d=d:=by
 rw[xm,List.getElem?_eq_none jq];rfl
theorem Kd {o:xJ} (h:uF o):o.waits.length<=6:=by
 rcases h with ⟨-,-,-,h⟩|⟨-,-,-,h,-⟩|⟨-,-,-,h⟩
 ·rw[h];simp
 ·exact h.1
 ·rw[h];simp
theorem yp.sm (h:yp p s):GE s:=by
 obtain⟨h1,h2,h3,h4,⟨h5,h6⟩,h7⟩:=yf h.prog;have np:=h.np;have nst:=h.nst;have nse:=h.nse;have non:=h.non;have ngr:=h.ngr;have nba:=h.nba;have nch:=h.nch;have nsa:=h.nsa;refine⟨⟨jq,jq⟩,⟨jq,jq⟩,jq,jq,jq,jq,jq,jq,λi=> ?_,λi=> ?_,λi=> ?_,λi=> ?_,λi=> ?_⟩
 ·by_cases hi:i<s.sems.length
  ·have:=(h.se i hi).1.2.2.2.1.1;rw[yG] at this;omega
  ·rw[JD hi];simp[yi]
 ·by_cases hi:i<s.onces.length
  ·have:=Kd (h.on i hi);omega
  ·rw[JD hi];simp[zH]
 ·by_cases hi:i<s.groups.length
  ·have:=(h.gr i hi).2.1.1;omega
  ·rw[JD hi];simp[yH]
 ·by_cases hi:i<s.bars.length
  ·have:=(h.ba i hi).1.2.2.1.1;omega
  ·rw[JD hi];simp[ye]
 ·by_cases hi:i<s.chans.length
  ·have h9:=(h.ch i hi).1;have:=h9.2.2.2.2.1.1;rw[xp,yG] at this;have a0:=h9.2.1;have b0:=h9.1.2;exact⟨jq,jq,jq⟩
  ·rw[JD hi];simp[yq]
end Go.Proofs.YtfclolgfegdfjaaGreat
namespace Go.Proofs.YtfclolgfegdfjaaGreat
variable {s:zp} {i:Nat} {p:Pg} {t:Int} {α:Type}
def vU (s:zp) (k:Nat):List Int:=((List.range k).filter λi=>decide (s.status.getD i 0=0\/s.status.getD i 0=2)).map (λi:Nat=>(i:Int))
theorem Jw (s:zp) (k:Nat):vU s (k+1)=if s.status.getD k 0=0\/s.status.getD k 0=2 then vU s k++[(k:Int)] else vU s k:=by
 unfold vU;rw[List.range_succ,List.filter_append,vQ];by_cases h:s.status.getD k 0=0\/s.status.getD k 0=2
 ·rw[if_pos h];simp only[List.filter_cons,List.filter_nil];rw[if_pos (by simpa using h)];rfl
 ·rw[if_neg h];simp only[List.filter_cons,List.filter_nil];rw[if_neg (by simpa using h)];simp
theorem vW (s:zp) (k:Nat):(vU s k).length<=k:=by
 unfold vU;rw[yG];exact Nat.le_trans (List.length_filter_le _ _) jv
theorem vh (s:zp):zq s=if s.fault=0 then vU s s.status.length else []:=rfl
theorem jj {p:Pg}:∀(l:List Int) (s:zp) (i:Nat),s.places.getD i 0<=(goAll p s l).places.getD i 0/\(goAll p s l).places.getD i 0<=s.places.getD i 0+l.length
 |[],s,i=>by simp[goAll]
 |t::l,s,i=>by
  have ih:=jj (p:=p) l (jR p s t) i;have h1:s.places.getD i 0<=(jR p s t).places.getD i 0/\(jR p s t).places.getD i 0<=s.places.getD i 0+1:=by
   show s.places.getD i 0<=(s.places.set t.toNat _).getD i 0/\(s.places.set t.toNat _).getD i 0<=s.places.getD i 0+1;rw[jo];by_cases h:i=t.toNat/\t.toNat<s.places.length
   ·rw[if_pos h,h.1];omega
   ·rw[if_neg h];omega
  rw[show goAll p s (t::l)=goAll p (jR p s t) l from rfl,List.length_cons];omega
theorem YK (p:Pg) (s:zp) (l m:List Int):goAll p s (l++m)=goAll p (goAll p s l) m:=by unfold goAll;rw[List.foldl_append]
section
variable {p:Pg} {s:zp} {t:Int}
theorem QY (l:List Int) (k:Int) (i:Int):(l.map λu=>((u,k,i,0):xq)).map (λe:xq=>e.1)=l:=by
 rw[List.map_map];exact List.map_id' _
theorem Di {o:xA} (ho:zX p o=true) (hk:o.kind=5): -9<=o.arg/\o.arg<=9:=by
 have h:=(ux ho).2.2;unfold j5 at h;rw[if_neg jq,if_pos hk] at h;simpa using h
theorem yp.doAdd (h:yp p s) (ht:uu p s t) (ho:t∉oT s) (hk:(ya p s t).kind=5):yp p (doAdd p s t (ya p s t))/\ZE p s t (doAdd p s t (ya p s t)):=by
 have hv:=h.opv ht;obtain⟨o,eo⟩:=jy (ya p s t);rw[<-eo] at hv hk⊢;obtain⟨h0,h1⟩:=qC hv;rw[show zN p o.kind=p.groups.length by unfold zN;rw[if_neg jq,if_neg jq,if_neg jq,if_pos (.inl hk)]] at h1;have hi:o.on.toNat<s.groups.length:=by rw[h.ngr];omega
 obtain⟨x,ex⟩:=jy (s.groups.getD o.on.toNat yH);have ok:=h.gr _ hi;rw[<-ex] at ok;unfold Go.Proofs.YtfclolgfegdfjaaGreat.doAdd;rw[<-ex];unfold j9;by_cases hr:0<=x.count+o.arg/\x.count+o.arg<=99
 ·rw[if_pos hr];by_cases hz:x.count+o.arg=0
  ·rw[if_pos hz];have a0:=Qs s o.on ⟨0,[]⟩ hi;rw[<-ex] at a0;have hP:=qF a0;rw[show xj (⟨0,[]⟩:ji) o.on.toNat=[] from rfl,List.append_nil] at hP;have hT:yM p (setGrp s o.on ⟨0,[]⟩):=h.things.setGrp ⟨jv,uO,λ_=>rfl⟩;have:=h.tell (R:=xj x o.on.toNat) ht ho hT rfl rfl hP rfl;unfold xj at this;rw[QY] at this;exact this
  ·rw[if_neg hz];have a0:=Qs s o.on ⟨x.count+o.arg,x.waits⟩ hi;rw[<-ex] at a0;have hP:=qF a0;have hT:yM p (setGrp s o.on ⟨x.count+o.arg,x.waits⟩):=h.things.setGrp ⟨hr,ok.2.1,λe=>absurd e hz⟩;exact h.tell (R:=[]) ht ho hT rfl rfl (by rw[List.append_nil];exact ZZ hP) rfl
 ·rw[if_neg hr];exact h.fail jq
theorem yp.doWait (h:yp p s) (ht:uu p s t) (ho:t∉oT s) (hk:(ya p s t).kind=6):yp p (doWait p s t (ya p s t))/\ZE p s t (doWait p s t (ya p s t)):=by
 have hv:=h.opv ht;obtain⟨o,eo⟩:=jy (ya p s t);rw[<-eo] at hv hk⊢;obtain⟨h0,h1⟩:=qC hv;rw[show zN p o.kind=p.groups.length by unfold zN;rw[if_neg jq,if_neg jq,if_neg jq,if_pos (.inr hk)]] at h1;have hi:o.on.toNat<s.groups.length:=by rw[h.ngr];omega
 obtain⟨x,ex⟩:=jy (s.groups.getD o.on.toNat yH);have ok:=h.gr _ hi;rw[<-ex] at ok;have a0:=Qs s o.on (jc x t).1 hi;rw[<-ex] at a0;have hP:=qF a0;unfold Go.Proofs.YtfclolgfegdfjaaGreat.doWait;rw[<-ex];by_cases hz:x.count=0
 ·have e:jc x t=(x,true):=by unfold jc;rw[if_pos hz]
  rw[e] at hP⊢;have hT:yM p (setGrp s o.on x):=h.things.setGrp ok;exact h.tell (R:=[]) ht ho hT rfl rfl (by rw[List.append_nil];exact ZZ hP) rfl
 ·have e:jc x t=(⟨x.count,x.waits++[t]⟩,false):=by unfold jc;rw[if_neg hz]
  rw[e] at hP⊢;have b0:∀u∈x.waits,u∈eT s:=λu hu=>by
   refine yU.2 ⟨(u,6,((o.on.toNat:Nat):Int),0),XM hi ?_,rfl⟩;rw[<-ex];exact yU.2 ⟨u,hu,rfl⟩
  have c0:=YR h ht ok.2.1 b0;have hT:yM p (setGrp s o.on ⟨x.count,x.waits++[t]⟩):=h.things.setGrp ⟨ok.1,c0.1,λe=>absurd e hz⟩;refine h.wait ht ho hT rfl rfl (YE (N:=xj x o.on.toNat) ?_) rfl;rw[<-eo];have e2:xj (⟨x.count,x.waits++[t]⟩:ji) o.on.toNat=xj x o.on.toNat++[Z3 o t]:=by
   unfold xj Z3;rw[if_neg jq,hk,vQ,show((o.on.toNat:Nat):Int)=o.on by omega];rfl
  rw[e2] at hP;exact hP
theorem yp.doCome (h:yp p s) (ht:uu p s t) (ho:t∉oT s) (hk:(ya p s t).kind=7) (g0:∀i,(s.bars.getD i ye).round<9999):yp p (doCome p s t (ya p s t))/\ZE p s t (doCome p s t (ya p s t)):=by
 have hv:=h.opv ht;obtain⟨o,eo⟩:=jy (ya p s t);rw[<-eo] at hv hk⊢;obtain⟨h0,h1⟩:=qC hv;rw[show zN p o.kind=p.barriers.length by unfold zN;rw[if_neg jq,if_neg jq,if_neg jq,if_neg jq,if_pos hk]] at h1;have hi:o.on.toNat<s.bars.length:=by rw[h.nba];omega
 obtain⟨x,ex⟩:=jy (s.bars.getD o.on.toNat ye);obtain⟨ok,b0⟩:=h.ba _ hi;have hr:=g0 o.on.toNat
 rw[<-ex] at ok b0 hr;have a0:=gy s o.on (jb x t).1 hi;rw[<-ex] at a0;have hP:=qF a0;unfold Go.Proofs.YtfclolgfegdfjaaGreat.doCome;rw[<-ex];have f0:((o.on.toNat:Nat):Int)=o.on:=jq;have d0:∀u∈x.waits,u∈eT s:=λu hu=>by
  refine yU.2 ⟨(u,7,((o.on.toNat:Nat):Int),0),XJ hi ?_,rfl⟩;rw[<-ex];exact yU.2 ⟨u,hu,rfl⟩
 have i0:=YR h ht ok.2.2.1 d0;by_cases c0:(x.waits.length:Int)+1<x.parties
 ·have e:jb x t=(⟨x.parties,x.round,x.waits++[t]⟩,[]):=by unfold jb;rw[if_pos c0]
  rw[e] at hP⊢;rw[if_pos rfl];have hT:yM p (setBar s o.on ⟨x.parties,x.round,x.waits++[t]⟩):=h.things.setBar ⟨⟨ok.1,ok.2.1,i0.1,by
   show(((x.waits++[t]).length:Nat):Int)<x.parties;rw[xp];simpa using c0⟩,b0⟩
  refine h.wait ht ho hT rfl rfl (YE (N:=xz x o.on.toNat) ?_) rfl;rw[<-eo];have e2:xz (⟨x.parties,x.round,x.waits++[t]⟩:j6) o.on.toNat=xz x o.on.toNat++[Z3 o t]:=by
   unfold xz Z3;rw[if_neg jq,hk,vQ,f0];rfl
  rw[e2] at hP;exact hP
 ·have e:jb x t=(⟨x.parties,x.round+1,[]⟩,x.waits++[t]):=by unfold jb;rw[if_neg c0]
  rw[e] at hP⊢;rw[if_neg jv];rw[show xz (⟨x.parties,x.round+1,[]⟩:j6) o.on.toNat=[] from rfl,List.append_nil] at hP;have hT:yM p (setBar s o.on ⟨x.parties,x.round+1,[]⟩):=h.things.setBar ⟨⟨ok.1,⟨by show 0<=x.round+1;have:=ok.2.1.1;omega,by show x.round+1<=9999;omega⟩,uO,by show((0:Nat):Int)<x.parties;have:=ok.1.1;omega⟩,b0⟩;have:=h.tell (R:=xz x o.on.toNat) ht ho hT rfl rfl hP rfl;unfold xz at this;rw[QY] at this;exact this
theorem yp.doSay (h:yp p s) (ht:uu p s t) (ho:t∉oT s) (hk:(ya p s t).kind=1) (hn:s.said.length<64):yp p (jR p (Go.Proofs.YtfclolgfegdfjaaGreat.sayIt s (ya p s t).arg) t)/\ZE p s t (jR p (Go.Proofs.YtfclolgfegdfjaaGreat.sayIt s (ya p s t).arg) t):=by
 have hv:=JW (h.opv ht) (.inl hk);exact h.tell (R:=[]) ht ho (h.things.say hv hn) rfl rfl (by rw[List.append_nil];exact List.Perm.refl _) rfl
theorem J9 {o:xA} (hk:8<=o.kind):zN p o.kind=p.rooms.length:=by
 unfold zN;rw[if_neg jq,if_neg jq,if_neg jq,if_neg jq,if_neg jq]
theorem yp.doSend (h:yp p s) (ht:uu p s t) (ho:t∉oT s) (hk:(ya p s t).kind=8) (hn:s.said.length<64):yp p (doSend p s t (ya p s t))/\ZE p s t (doSend p s t (ya p s t)):=by
 have hv:=h.opv ht;obtain⟨o,eo⟩:=jy (ya p s t);rw[<-eo] at hv hk⊢;obtain⟨h0,h1⟩:=qC hv;rw[J9 jq] at h1;have hi:o.on.toNat<s.chans.length:=by rw[h.nch];omega
 have g0:=JW hv (.inr (.inr hk));obtain⟨x,ex⟩:=jy (s.chans.getD o.on.toNat yq);obtain⟨ok,b0⟩:=h.ch _ hi;rw[<-ex] at ok b0;obtain⟨k1,k2,k3,k4,k5,k6,k7⟩:=ok;unfold Go.Proofs.YtfclolgfegdfjaaGreat.doSend;rw[<-ex];have k0:((o.on.toNat:Nat):Int)=o.on:=jq;unfold jI;by_cases hc:x.closed=true
 ·rw[if_pos hc];exact h.fail jq
 ·rw[if_neg hc];have i0:x.closed=false:=by simpa using hc
  cases hg:x.getters with
  |cons g gs=>
   dsimp only;rw[if_neg jv];have d0:=(k7 (by rw[hg];simp)).1;have c0:x.senders=[]:=by
    cases hs:x.senders with
    |nil=>rfl
    |cons a l=>have:=(k6 (by rw[hs];simp)).2.1;rw[hg] at this;cases this
   have a0:=Yv s o.on ⟨x.room,x.items,x.senders,gs,x.closed⟩ hi;rw[<-ex] at a0;have hP:=qF a0;have f0:yT x o.on.toNat=[((g,9,((o.on.toNat:Nat):Int),0):xq)]++yT (⟨x.room,x.items,x.senders,gs,x.closed⟩:xi) o.on.toNat:=by
    unfold yT;rw[c0,hg];rfl
   rw[f0] at hP;rw[c0,hg] at k5;have hT:yM p (Go.Proofs.YtfclolgfegdfjaaGreat.sayIt (setChn s o.on ⟨x.room,x.items,x.senders,gs,x.closed⟩) o.arg):=(h.things.setChn (x:=⟨x.room,x.items,x.senders,gs,x.closed⟩) ⟨⟨k1,k2,k3,k4,by
    show Zc (x.senders.map (·.1)++gs);rw[c0];exact VK (l:=[g]) k5,λe=>absurd c0 e,λ_=>⟨d0,i0⟩⟩,b0⟩).say g0 hn
   have:=h.tell (R:=[((g,9,((o.on.toNat:Nat):Int),0):xq)]) ht ho hT rfl rfl (Vc hP) rfl;exact this
  |nil=>
   dsimp only;by_cases hr:(x.items.length:Int)<x.room
   ·rw[if_pos hr];dsimp only;rw[if_pos rfl];have a0:=Yv s o.on ⟨x.room,x.items++[o.arg],x.senders,[],x.closed⟩ hi;rw[<-ex] at a0;have hP:=qF a0;have f0:yT (⟨x.room,x.items++[o.arg],x.senders,[],x.closed⟩:xi) o.on.toNat=yT x o.on.toNat:=by unfold yT;rw[hg]
    rw[f0] at hP;have c0:x.senders=[]:=by
     cases hs:x.senders with
     |nil=>rfl
     |cons a l=>have:=(k6 (by rw[hs];simp)).1;omega
    have hT:yM p (setChn s o.on ⟨x.room,x.items++[o.arg],x.senders,[],x.closed⟩):=h.things.setChn ⟨⟨k1,by
     show(((x.items++[o.arg]).length:Nat):Int)<=x.room;rw[xp];simp;omega,λv hv=>by
     rcases xM hv with hv|hv
     ·exact k3 v hv
     ·rw[yh hv];exact g0,k4,by rw[hg] at k5;exact k5,λe=>absurd c0 e,λe=>absurd rfl e⟩,b0⟩
    exact h.tell (R:=[]) ht ho hT rfl rfl (by rw[List.append_nil];exact ZZ hP) rfl
   ·rw[if_neg hr];dsimp only;rw[if_pos rfl];have a0:=Yv s o.on ⟨x.room,x.items,x.senders++[(t,o.arg)],[],x.closed⟩ hi;rw[<-ex] at a0;have hP:=qF a0;have f0:yT (⟨x.room,x.items,x.senders++[(t,o.arg)],[],x.closed⟩:xi) o.on.toNat=yT x o.on.toNat++[Z3 o t]:=by
     unfold yT Z3;rw[hg,if_pos (.inr hk),hk,vQ,k0];simp
    rw[f0] at hP;have j0:∀u∈x.senders.map (·.1),u∈eT s:=λu hu=>by
     obtain⟨w,hw,rfl⟩:=yU.1 hu;refine yU.2 ⟨(w.1,8,((o.on.toNat:Nat):Int),w.2),vY hi ?_,rfl⟩;rw[<-ex];exact yW (.inl (yU.2 ⟨w,hw,rfl⟩))
    rw[hg,List.append_nil] at k5;have l0:=YR h ht k5 j0;have hT:yM p (setChn s o.on ⟨x.room,x.items,x.senders++[(t,o.arg)],[],x.closed⟩):=h.things.setChn ⟨⟨k1,k2,k3,λl hl=>by
     rcases xM hl with hl|hl
     ·exact k4 l hl
     ·rw[yh hl];exact g0,by
     show Zc (List.map _ (x.senders++[(t,o.arg)])++[]);rw[List.append_nil,vQ];exact l0.1,λ_=>⟨by show(x.items.length:Int)=x.room;omega,rfl,i0⟩,λe=>absurd rfl e⟩,b0⟩
    refine h.wait ht ho hT rfl rfl (YE (N:=yT x o.on.toNat) ?_) rfl;rw[<-eo];exact hP
theorem yp.doGet (h:yp p s) (ht:uu p s t) (ho:t∉oT s) (hk:(ya p s t).kind=9) (hn:s.said.length<64):yp p (doGet p s t (ya p s t))/\ZE p s t (doGet p s t (ya p s t)):=by
 have hv:=h.opv ht;obtain⟨o,eo⟩:=jy (ya p s t);rw[<-eo] at hv hk⊢;obtain⟨h0,h1⟩:=qC hv;rw[J9 jq] at h1;have hi:o.on.toNat<s.chans.length:=by rw[h.nch];omega
 obtain⟨x,ex⟩:=jy (s.chans.getD o.on.toNat yq);obtain⟨ok,a0⟩:=h.ch _ hi;rw[<-ex] at ok a0;obtain⟨k1,k2,k3,k4,k5,k6,k7⟩:=ok;unfold Go.Proofs.YtfclolgfegdfjaaGreat.doGet;rw[<-ex];have l0:((o.on.toNat:Nat):Int)=o.on:=jq;have b0:=Yv s o.on (xR x t).1 hi;rw[<-ex] at b0;have hP:=qF b0
 cases hs:x.senders with
 |cons l ls=>
  obtain⟨f1,f2,f3⟩:=k6 (by rw[hs];simp);have f0:yT x o.on.toNat=[((l.1,8,((o.on.toNat:Nat):Int),l.2):xq)]++ls.map λw=>((w.1,8,((o.on.toNat:Nat):Int),w.2):xq):=by
   unfold yT;rw[hs,f2];simp
  have d0:=k4 l (by rw[hs];simp);have i0:Zc (ls.map (·.1)++x.getters):=by
   rw[hs] at k5;exact VK (l:=[l.1]) k5
  have g0:∀w∈ls,0<=w.2/\w.2<=99:=λw hw=>k4 w (by rw[hs];exact List.mem_cons_of_mem _ hw)
  cases hit:x.items with
  |cons y ys=>
   have e:xR x t=(⟨x.room,ys++[l.2],ls,x.getters,x.closed⟩,y,1,[l.1]):=by unfold xR;rw[hs,hit]
   rw[e] at hP⊢;rw[if_neg (show¬(1:Int)=0 by decide),if_pos rfl];have e2:yT (⟨x.room,ys++[l.2],ls,x.getters,x.closed⟩:xi) o.on.toNat=ls.map λw=>((w.1,8,((o.on.toNat:Nat):Int),w.2):xq):=by unfold yT;rw[f2];simp
   rw[e2,f0] at hP;have c0:(((ys++[l.2]).length:Nat):Int)=x.room:=by rw[hit] at f1;rw[<-f1];simp
   have hT:yM p (Go.Proofs.YtfclolgfegdfjaaGreat.sayIt (setChn s o.on ⟨x.room,ys++[l.2],ls,x.getters,x.closed⟩) y):=(h.things.setChn (x:=⟨x.room,ys++[l.2],ls,x.getters,x.closed⟩) ⟨⟨k1,by show(((ys++[l.2]).length:Nat):Int)<=x.room;omega,λv hv=>by
    rcases xM hv with hv|hv
    ·exact k3 v (by rw[hit];exact List.mem_cons_of_mem _ hv)
    ·rw[yh hv];exact d0,g0,i0,λ_=>⟨c0,f2,f3⟩,λe=>absurd f2 e⟩,a0⟩).say (k3 y (by rw[hit];simp)) hn
   exact h.tell (R:=[((l.1,8,((o.on.toNat:Nat):Int),l.2):xq)]) ht ho hT rfl rfl (Vc hP) rfl
  |nil=>
   have e:xR x t=(⟨x.room,[],ls,x.getters,x.closed⟩,l.2,1,[l.1]):=by unfold xR;rw[hs,hit]
   rw[e] at hP⊢;rw[if_neg (show¬(1:Int)=0 by decide),if_pos rfl];have e2:yT (⟨x.room,[],ls,x.getters,x.closed⟩:xi) o.on.toNat=ls.map λw=>((w.1,8,((o.on.toNat:Nat):Int),w.2):xq):=by unfold yT;rw[f2];simp
   rw[e2,f0] at hP;rw[hit] at f1;have hT:yM p (Go.Proofs.YtfclolgfegdfjaaGreat.sayIt (setChn s o.on ⟨x.room,[],ls,x.getters,x.closed⟩) l.2):=(h.things.setChn (x:=⟨x.room,[],ls,x.getters,x.closed⟩) ⟨⟨k1,by rw[hit] at k2;exact k2,λv hv=>(by cases hv),g0,i0,λ_=>⟨f1,f2,f3⟩,λe=>absurd f2 e⟩,a0⟩).say d0 hn;exact h.tell (R:=[((l.1,8,((o.on.toNat:Nat):Int),l.2):xq)]) ht ho hT rfl rfl (Vc hP) rfl
 |nil=>
  rw[hs,List.map_nil,qZ] at k5
  cases hit:x.items with
  |cons y ys=>
   have hg:x.getters=[]:=by
    cases hg:x.getters with
    |nil=>rfl
    |cons a l=>have:=(k7 (by rw[hg];simp)).1;rw[hit] at this;cases this
   have e:xR x t=(⟨x.room,ys,[],x.getters,x.closed⟩,y,1,[]):=by unfold xR;rw[hs,hit]
   rw[e] at hP⊢;rw[if_neg (show¬(1:Int)=0 by decide),if_pos rfl];have e2:yT (⟨x.room,ys,[],x.getters,x.closed⟩:xi) o.on.toNat=yT x o.on.toNat:=by unfold yT;rw[hs]
   rw[e2] at hP;have hT:yM p (Go.Proofs.YtfclolgfegdfjaaGreat.sayIt (setChn s o.on ⟨x.room,ys,[],x.getters,x.closed⟩) y):=(h.things.setChn (x:=⟨x.room,ys,[],x.getters,x.closed⟩) ⟨⟨k1,by
    show((ys.length:Nat):Int)<=x.room;rw[hit,List.length_cons] at k2;omega,λv hv=>k3 v (by rw[hit];exact List.mem_cons_of_mem _ hv),λl hl=>(by cases hl),by show Zc ([]++x.getters);exact k5,λe=>absurd rfl e,λe=>absurd hg e⟩,a0⟩).say (k3 y (by rw[hit];simp)) hn
   exact h.tell (R:=[]) ht ho hT rfl rfl (by rw[List.append_nil];exact ZZ hP) rfl
  |nil=>
   by_cases hc:x.closed=true
   ·have e:xR x t=(x,0,2,[]):=by unfold xR;rw[hs,hit];dsimp only;rw[if_pos hc]
    rw[e] at hP⊢;rw[if_neg (show¬(2:Int)=0 by decide),if_neg (show¬(2:Int)=1 by decide)];have hT:yM p (setChn s o.on x):=h.things.setChn ⟨⟨k1,k2,k3,k4,by rw[hs];exact k5,k6,k7⟩,a0⟩;exact h.tell (R:=[]) ht ho hT rfl rfl (by rw[List.append_nil];exact ZZ hP) rfl
   ·have j0:x.closed=false:=(by simpa using hc);have e:xR x t=(⟨x.room,[],[],x.getters++[t],x.closed⟩,0,0,[]):=by unfold xR;rw[hs,hit];dsimp only;rw[if_neg hc]
    rw[e] at hP⊢;rw[if_pos rfl];have k0:∀u∈x.getters,u∈eT s:=λu hu=>by
     refine yU.2 ⟨(u,9,((o.on.toNat:Nat):Int),0),vY hi ?_,rfl⟩;rw[<-ex];exact yW (.inr (yU.2 ⟨u,hu,rfl⟩))
    have m0:=YR h ht k5 k0;have hT:yM p (setChn s o.on ⟨x.room,[],[],x.getters++[t],x.closed⟩):=h.things.setChn (x:=⟨x.room,[],[],x.getters++[t],x.closed⟩) ⟨⟨k1,by rw[hit] at k2;exact k2,λv hv=>(by cases hv),λl hl=>(by cases hl),by show Zc ([]++(x.getters++[t]));exact m0.1,λe=>absurd rfl e,λ_=>⟨rfl,j0⟩⟩,a0⟩;refine h.wait ht ho hT rfl rfl (YE (N:=yT x o.on.toNat) ?_) rfl;rw[<-eo];have e2:yT (⟨x.room,[],[],x.getters++[t],x.closed⟩:xi) o.on.toNat=yT x o.on.toNat++[Z3 o t]:=by
     unfold yT Z3;rw[hs,if_neg jq,hk,l0];simp
    rw[e2] at hP;exact hP
theorem yp.doClose (h:yp p s) (ht:uu p s t) (ho:t∉oT s) (hk:(ya p s t).kind=10):yp p (doClose p s t (ya p s t))/\ZE p s t (doClose p s t (ya p s t)):=by
 have hv:=h.opv ht;obtain⟨o,eo⟩:=jy (ya p s t);rw[<-eo] at hv hk⊢;obtain⟨h0,h1⟩:=qC hv;rw[J9 jq] at h1;have hi:o.on.toNat<s.chans.length:=by rw[h.nch];omega
 obtain⟨x,ex⟩:=jy (s.chans.getD o.on.toNat yq);obtain⟨ok,c0⟩:=h.ch _ hi;rw[<-ex] at ok c0;obtain⟨k1,k2,k3,k4,k5,k6,k7⟩:=ok;unfold Go.Proofs.YtfclolgfegdfjaaGreat.doClose;rw[<-ex];unfold qd;by_cases hc:x.closed=true\/x.senders≠[]
 ·rw[if_pos hc];exact h.fail jq
 ·rw[if_neg hc];have b0:x.senders=[]:=by
   by_cases hs:x.senders=[]
   ·exact hs
   ·exact absurd (.inr hs) hc
  dsimp only;have a0:=Yv s o.on ⟨x.room,x.items,x.senders,[],true⟩ hi;rw[<-ex] at a0;have hP:=qF a0;have e1:yT (⟨x.room,x.items,x.senders,[],true⟩:xi) o.on.toNat=[]:=by unfold yT;rw[b0];rfl
  have e2:yT x o.on.toNat=x.getters.map λu=>((u,9,((o.on.toNat:Nat):Int),0):xq):=by unfold yT;rw[b0];rfl
  rw[e1,e2,List.append_nil] at hP;have hT:yM p (setChn s o.on ⟨x.room,x.items,x.senders,[],true⟩):=h.things.setChn ⟨⟨k1,k2,k3,k4,by
   show Zc (x.senders.map (·.1)++[]);rw[b0];exact uO,λe=>absurd b0 e,λe=>absurd rfl e⟩,c0⟩
  have:=h.tell (R:=x.getters.map λu=>((u,9,((o.on.toNat:Nat):Int),0):xq)) ht ho hT rfl rfl hP rfl;rw[QY] at this;exact this
end
theorem fh:∀(l:List Int) (i:Nat) (x:Int),i<l.length->(l.set i x).sum=l.sum-l.getD i 0+x
 |[],_,_,h=>by simp at h
 |a::l,0,x,_=>by simp;omega
 |a::l,i+1,x,h=>by
  have ih:=fh l i x (by simpa using h);simp only[List.set_cons_succ,List.sum_cons,List.getD_cons_succ];omega
theorem du:∀(l:List Int) (n:Int),(∀x∈l,x<=n)->l.sum<=n*l.length
 |[],n,_=>jv
 |a::l,n,h=>by
  have ih:=du l n (λx hx=>h x (List.mem_cons_of_mem _ hx));have h1:=h a jv;have e:n*((a::l).length:Int)=n*(l.length:Int)+n:=by
   rw[List.length_cons];have:((l.length+1:Nat):Int)=(l.length:Int)+1:=jq;rw[this,Int.mul_add,Int.mul_one]
  rw[List.sum_cons,e];omega
section
variable {p:Pg}
theorem Uz (s:zp) (t:Int) (h:t.toNat<s.places.length):(jR p s t).places.sum=s.places.sum+1:=by
 show(s.places.set t.toNat _).sum=_;rw[fh _ _ _ h];omega
theorem Qf (s:zp) (t:Int):s.places.sum<=(jR p s t).places.sum:=by
 by_cases h:t.toNat<s.places.length
 ·rw[Uz s t h];omega
 ·show s.places.sum<=(s.places.set t.toNat _).sum;rw[List.set_eq_of_length_le jq];exact Int.le_refl _
theorem vF:∀(l:List Int) (s:zp),s.places.sum<=(goAll p s l).places.sum
 |[],_=>Int.le_refl _
 |t::l,s=>Int.le_trans (Qf s t) (vF l (jR p s t))
theorem XD (l:List Int) (s:zp) (t:Int) (h:t.toNat<s.places.length):s.places.sum+1<=(goAll p s (l++[t])).places.sum:=by
 rw[<-Jl,Uz _ _ (by rw[jn];exact h)];have:=vF (p:=p) l s;omega
structure xF (p:Pg) (s:zp):Prop where
 fits:yp p s
 said:(s.said.length:Int)<=s.places.sum
 rnd:∀i,(s.bars.getD i ye).round<=s.places.sum
theorem yp.places8 (h:yp p s):∀x∈s.places,x<=8:=by
 intro x hx;obtain⟨i,hi,rfl⟩:=List.mem_iff_getElem.1 hx;rw[h.np] at hi;have h1:=h.th i hi;unfold JF at h1;rw[show((i:Nat):Int).toNat=i by simp,qW] at h1;have e:s.places.getD i 0=s.places[i]'(by rw[h.np];exact hi):=by rw[xm,xV (by rw[h.np];exact hi)];rfl
 rw[e] at h1;have h8:(p.threads.getD i []).length<=8:=by
  have hv:=h.prog;unfold zD at hv;simp only[Bool.and_eq_true,List.all_eq_true,decide_eq_true_eq] at hv;rw[xm,xV hi];exact(hv.2 _ (List.getElem_mem hi)).1
 omega
theorem yp.sum32 (h:yp p s):s.places.sum<=32:=by
 have h1:=du s.places 8 h.places8;have h2:=(vM h.prog).2;have h3:=h.np;omega
theorem xF.of {s':zp} (h:xF p s) (hF:yp p s'/\ZE p s t s') (hs:s.places.sum<=s'.places.sum) (h1:s'.said.length<=s.said.length\/(s'.said.length<=s.said.length+1/\s.places.sum+1<=s'.places.sum)) (h2:∀i,(s'.bars.getD i ye).round<=(s.bars.getD i ye).round\/((s'.bars.getD i ye).round<=(s.bars.getD i ye).round+1/\s.places.sum+1<=s'.places.sum)):xF p s'/\ZE p s t s':=by
 refine⟨⟨hF.1,?_,λi=> ?_⟩,hF.2⟩
 ·have:=h.said;omega
 ·have:=h.rnd i;have:=h2 i;omega
theorem xF.keep {s':zp} (h:xF p s) (hF:yp p s'/\ZE p s t s') (hs:s.places.sum<=s'.places.sum) (h1:s'.said=s.said) (h2:s'.bars=s.bars):xF p s'/\ZE p s t s':=
 h.of hF hs (.inl (by rw[h1];exact Nat.le_refl _)) (λi=> .inl (by rw[h2];exact Int.le_refl _))
theorem xF.spoken {s':zp} (h:xF p s) (hF:yp p s'/\ZE p s t s') (hs:s.places.sum+1<=s'.places.sum) (h1:s'.said.length<=s.said.length+1) (h2:s'.bars=s.bars):xF p s'/\ZE p s t s':=
 h.of hF jq (.inr ⟨h1,hs⟩) (λi=> .inl (by rw[h2];exact Int.le_refl _))
theorem XH (s:zp) (t:Int) (b:Bool):(jh p s t b).said=s.said:=by unfold jh;split<;>rfl
theorem XO (s:zp) (t:Int) (b:Bool):(jh p s t b).bars=s.bars:=by unfold jh;split<;>rfl
theorem Va (s:zp) (t:Int) (b:Bool):s.places.sum<=(jh p s t b).places.sum:=by
 unfold jh;split
 ·exact Qf s t
 ·exact Int.le_refl _
theorem xF.stepS (h:xF p s) (ht:uu p s t):xF p (zJ p s t)/\ZE p s t (zJ p s t):=by
 have hF:=h.fits;have j0:=hF.sum32;have a0:s.said.length<64:=by have:=h.said;omega
 have i0:∀i,(s.bars.getD i ye).round<9999:=λi=>by have:=h.rnd i;omega
 have f0:t.toNat<s.places.length:=by have:=ht.rg;rw[hF.np];omega
 have hk:=K5 (hF.opv ht);have b0:(ya p s t).kind≠4->t∉oT s:=λh0=>by
  rcases ht.st with ⟨-,h1⟩|⟨-,h1,-⟩
  ·exact h1
  ·exact absurd h1 h0
 unfold zJ;by_cases k1:(ya p s t).kind=1
 ·rw[if_pos k1];refine h.spoken (hF.doSay ht (b0 jq) k1 a0) ?_ ?_ rfl
  ·have e:=Uz (p:=p) (sayIt s (ya p s t).arg) t f0;rw[e];exact Int.le_refl _
  ·show(s.said++[(ya p s t).arg]).length<=_;rw[xp];exact Nat.le_refl _
 rw[if_neg k1];by_cases k2:(ya p s t).kind=2
 ·rw[if_pos k2];exact h.keep (hF.doSem ht (b0 jq) k2) (Va _ _ _) (XH _ _ _) (XO _ _ _)
 rw[if_neg k2];by_cases k3:(ya p s t).kind=3
 ·rw[if_pos k3];have hf:=hF.doRel ht (b0 jq) k3;revert hf;unfold doRel
  cases qP (s.sems.getD (ya p s t).on.toNat yi) (ya p s t).arg with
  |none=>exact λhf=>h.keep hf (Int.le_refl _) rfl rfl
  |some x=>exact λhf=>h.keep hf (vF _ _) (j4 _ _) (qn _ _)
 rw[if_neg k3];by_cases k4:(ya p s t).kind=4
 ·rw[if_pos k4];have hf:=hF.doOnce ht k4;revert hf;unfold doOnce;split
  ·exact λhf=>h.keep hf (vF _ _) (j4 _ _) (qn _ _)
  ·split
   ·exact λhf=>h.keep hf (Int.le_refl _) rfl rfl
   ·split
    ·exact λhf=>h.keep hf (Int.le_refl _) rfl rfl
    ·exact λhf=>h.keep hf (Qf _ _) rfl rfl
 rw[if_neg k4];by_cases k5:(ya p s t).kind=5
 ·rw[if_pos k5];have hf:=hF.doAdd ht (b0 jq) k5;revert hf;unfold doAdd
  cases j9 (s.groups.getD (ya p s t).on.toNat yH) (ya p s t).arg with
  |none=>exact λhf=>h.keep hf (Int.le_refl _) rfl rfl
  |some x=>exact λhf=>h.keep hf (vF _ _) (j4 _ _) (qn _ _)
 rw[if_neg k5];by_cases k6:(ya p s t).kind=6
 ·rw[if_pos k6];exact h.keep (hF.doWait ht (b0 jq) k6) (Va _ _ _) (XH _ _ _) (XO _ _ _)
 rw[if_neg k6];by_cases k7:(ya p s t).kind=7
 ·rw[if_pos k7];have hf:=hF.doCome ht (b0 jq) k7 i0;revert hf;unfold doCome;obtain⟨o,eo⟩:=jy (ya p s t);rw[<-eo];have c0:∀(y:j6) (d:Int),y.round<=(s.bars.getD o.on.toNat ye).round+d->0<=d->∀i,((setBar s o.on y).bars.getD i ye).round<=(s.bars.getD i ye).round+d:=by
   intro y d hy hd i;show((s.bars.set o.on.toNat y).getD i ye).round<=_;rw[jo];by_cases hi:i=o.on.toNat/\o.on.toNat<s.bars.length
   ·rw[if_pos hi,hi.1];exact hy
   ·rw[if_neg hi];omega
  by_cases g0:((s.bars.getD o.on.toNat ye).waits.length:Int)+1<(s.bars.getD o.on.toNat ye).parties
  ·have e:jb (s.bars.getD o.on.toNat ye) t=(⟨(s.bars.getD o.on.toNat ye).parties,(s.bars.getD o.on.toNat ye).round,(s.bars.getD o.on.toNat ye).waits++[t]⟩,[]):=by unfold jb;rw[if_pos g0]
   rw[e,if_pos rfl];intro hf;refine h.of hf (Int.le_refl _) (.inl yk) (λi=> .inl ?_);have:=c0 ⟨(s.bars.getD o.on.toNat ye).parties,(s.bars.getD o.on.toNat ye).round,(s.bars.getD o.on.toNat ye).waits++[t]⟩ 0 (by show(s.bars.getD o.on.toNat ye).round<=_;omega) jq i;rw[Int.add_zero] at this;exact this
  ·have e:jb (s.bars.getD o.on.toNat ye) t=(⟨(s.bars.getD o.on.toNat ye).parties,(s.bars.getD o.on.toNat ye).round+1,[]⟩,(s.bars.getD o.on.toNat ye).waits++[t]):=by unfold jb;rw[if_neg g0]
   rw[e,if_neg jv];intro hf;have d0:s.places.sum+1<=(goAll p (setBar s o.on ⟨(s.bars.getD o.on.toNat ye).parties,(s.bars.getD o.on.toNat ye).round+1,[]⟩) ((s.bars.getD o.on.toNat ye).waits++[t])).places.sum:=XD (p:=p) (s.bars.getD o.on.toNat ye).waits (setBar s o.on ⟨(s.bars.getD o.on.toNat ye).parties,(s.bars.getD o.on.toNat ye).round+1,[]⟩) t f0;refine h.of hf (Int.le_trans jq d0) (.inl (by rw[j4];exact Nat.le_refl _)) (λi=> .inr ⟨?_,d0⟩);rw[qn];exact c0 ⟨(s.bars.getD o.on.toNat ye).parties,(s.bars.getD o.on.toNat ye).round+1,[]⟩ 1 (Int.le_refl _) jq i
 rw[if_neg k7];by_cases k8:(ya p s t).kind=8
 ·rw[if_pos k8];have hf:=hF.doSend ht (b0 jq) k8 a0;revert hf;unfold doSend
  cases hc:jI (s.chans.getD (ya p s t).on.toNat yq) t (ya p s t).arg with
  |none=>exact λhf=>h.keep hf (Int.le_refl _) rfl rfl
  |some x=>
   obtain⟨x,l,b⟩:=x;dsimp only;by_cases hl:l=[]
   ·rw[if_pos hl];intro hf;refine h.keep hf (Int.le_trans (vF (p:=p) l (setChn s (ya p s t).on x)) (Va _ _ _)) ?_ ?_
    ·rw[XH,j4];rfl
    ·rw[XO,qn];rfl
   ·rw[if_neg hl];intro hf;have hb:b=true:=by
     unfold jI at hc;split at hc
     ·cases hc
     ·split at hc
      ·cases hc;rfl
      ·split at hc
       ·cases hc;exact absurd rfl hl
       ·cases hc;exact absurd rfl hl
    subst hb;refine h.spoken hf ?_ ?_ ?_
    ·unfold jh;rw[if_pos rfl,Jl];exact XD _ (sayIt (setChn s (ya p s t).on x) (ya p s t).arg) t f0
    ·rw[XH,j4];show(s.said++[(ya p s t).arg]).length<=_;rw[xp];exact Nat.le_refl _
    ·rw[XO,qn];rfl
 rw[if_neg k8];by_cases k9:(ya p s t).kind=9
 ·rw[if_pos k9];have hf:=hF.doGet ht (b0 jq) k9 a0;revert hf;unfold doGet;split
  ·exact λhf=>h.keep hf (Int.le_refl _) rfl rfl
  ·split
   ·intro hf;refine h.spoken hf (XD _ (sayIt _ _) t f0) ?_ ?_
    ·rw[j4];show(s.said++[_]).length<=_;rw[xp];exact Nat.le_refl _
    ·rw[qn];rfl
   ·exact λhf=>h.keep hf (vF _ _) (j4 _ _) (qn _ _)
 rw[if_neg k9];have hf:=hF.doClose ht (b0 jq) jq;revert hf;unfold doClose
 cases qd (s.chans.getD (ya p s t).on.toNat yq) with
 |none=>exact λhf=>h.keep hf (Int.le_refl _) rfl rfl
 |some x=>exact λhf=>h.keep hf (vF _ _) (j4 _ _) (qn _ _)
theorem xF.step (h:xF p s) (ht:uu p s t):xF p (zJ p s t):=(h.stepS ht).1
end
theorem Jt {l:List Int} {lo hi:Int} (h:xl l lo hi=true) (a0:i<l.length):lo<=l.getD i 0/\l.getD i 0<=hi:=by
 unfold xl at h;simp only[Bool.and_eq_true,List.all_eq_true,decide_eq_true_eq] at h;rw[xm,xV a0];exact h.2 _ (List.getElem_mem a0)
theorem YL {β:Type} (f:α->β) (l:List α) (d:α) (e:β) (hi:i<l.length):(l.map f).getD i e=f (l.getD i d):=by
 rw[xm,List.getElem?_map,xV hi,xm,xV hi];rfl
theorem YD {f:Nat->List α}:∀{n:Nat},(∀i,i<n->f i=[])->zt f n=[]
 |0,_=>rfl
 |n+1,h=>by rw[zt,YD (λi hi=>h i jq),h n jq];rfl
theorem xF.start (hv:zD p=true):xF p (zI p):=by
 have b0:=hv;unfold zD at b0;simp only[Bool.and_eq_true] at b0;obtain⟨⟨⟨⟨⟨⟨w1,w2⟩,w3⟩,w4⟩,-⟩,-⟩,-⟩:=b0;have gS:∀i,i<p.sems.length->(zI p).sems.getD i yi=⟨p.sems.getD i 0,p.sems.getD i 0,[]⟩:=λi hi=>YL (λn:Int=>(⟨n,n,[]⟩:xS)) p.sems 0 yi hi;have gO:∀i,i<3->(zI p).onces.getD i zH=zH:=λi hi=>by
  show(List.replicate 3 zH).getD i zH=zH;rw[xm,List.getElem?_replicate];split<;>rfl
 have gG:∀i,i<p.groups.length->(zI p).groups.getD i yH=⟨p.groups.getD i 0,[]⟩:=λi hi=>YL (λn:Int=>(⟨n,[]⟩:ji)) p.groups 0 yH hi;have gB:∀i,i<p.barriers.length->(zI p).bars.getD i ye=⟨p.barriers.getD i 0,0,[]⟩:=λi hi=>YL (λn:Int=>(⟨n,0,[]⟩:j6)) p.barriers 0 ye hi;have gC:∀i,i<p.rooms.length->(zI p).chans.getD i yq=⟨p.rooms.getD i 0,[],[],[],false⟩:=λi hi=>YL (λn:Int=>(⟨n,[],[],[],false⟩:xi)) p.rooms 0 yq hi;have l1:(zI p).sems.length=p.sems.length:=yG _;have l2:(zI p).onces.length=3:=List.length_replicate;have l3:(zI p).groups.length=p.groups.length:=yG _;have l4:(zI p).bars.length=p.barriers.length:=yG _;have l5:(zI p).chans.length=p.rooms.length:=yG _;have l6:(zI p).places.length=p.threads.length:=yG _;have l7:(zI p).status.length=p.threads.length:=yG _;have eE:yD (zI p)=[]:=by
  unfold yD;rw[YD (λi hi=>by rw[gS i jq];rfl),YD (λi hi=>by rw[gO i jq];rfl),YD (λi hi=>by rw[gG i jq];rfl),YD (λi hi=>by rw[gB i jq];rfl),YD (λi hi=>by rw[gC i jq];rfl)];rfl
 have eO:jg (zI p)=[]:=by
  unfold jg;exact YD (λi hi=>by rw[gO i jq];rfl)
 have c0:eT (zI p)=[]:=by unfold eT;rw[eE];rfl
 have d0:oT (zI p)=[]:=by unfold oT;rw[eO];rfl
 have a0:(zI p).places.sum=0:=by
  show(p.threads.map λ_=>(0:Int)).sum=0;generalize p.threads=l
  induction l with
  |nil=>rfl
  |cons a l ih=>simpa using ih
 refine⟨⟨hv,l6,l7,l1,l2,l3,l4,l5,by show(0:Nat)<=64;omega,⟨by show(0:Int)<=0;omega,by show(0:Int)<=4;omega⟩,λi hi=> ?_,λi hi=> ?_,λi hi=> ?_,λi hi=> ?_,λi hi=> ?_,λv hv=>(by cases hv),by rw[eE];simp,by rw[eO];simp,by rw[c0];simp,by rw[d0];simp,λt ht=> ?_⟩,by rw[a0];exact Int.le_refl _,λi=> ?_⟩
 ·rw[gS i jq];have:=Jt w1 (i:=i) jq;exact⟨⟨this,⟨by show 0<=p.sems.getD i 0;omega,Int.le_refl _⟩,λw hw=>(by cases hw),uO,λw q h=>(by cases h)⟩,rfl⟩
 ·rw[gO i jq];exact .inl ⟨rfl,rfl,rfl,rfl⟩
 ·rw[gG i jq];have:=Jt w2 (i:=i) jq;exact⟨⟨this.1,by show p.groups.getD i 0<=99;omega⟩,uO,λ_=>rfl⟩
 ·rw[gB i jq];have:=Jt w3 (i:=i) jq;exact⟨⟨this,⟨Int.le_refl _,by show(0:Int)<=9999;omega⟩,uO,by show((0:Nat):Int)<p.barriers.getD i 0;omega⟩,rfl⟩
 ·rw[gC i jq];have:=Jt w4 (i:=i) jq;exact⟨⟨this,this.1,λv hv=>(by cases hv),λl hl=>(by cases hl),uO,λe=>absurd rfl e,λe=>absurd rfl e⟩,rfl⟩
 ·unfold JF;rw[c0,d0];have e1:(zI p).places.getD ((t:Nat):Int).toNat 0=0:=by
   rw[show((t:Nat):Int).toNat=t by simp];exact YL (λ_:List xA=>(0:Int)) p.threads [] 0 ht
  have e2:(zI p).status.getD ((t:Nat):Int).toNat 0=if (p.threads.getD t []).length=0 then 3 else 0:=by
   rw[show((t:Nat):Int).toNat=t by simp];exact YL (λl:List xA=>if l.length=0 then (3:Int) else 0) p.threads [] 0 ht
  rw[e1,e2,qW];refine⟨Int.le_refl _,jq,?_⟩;by_cases h0:(p.threads.getD t []).length=0
  ·rw[if_pos h0,h0];exact .inl ⟨rfl,rfl,jv,jv⟩
  ·rw[if_neg h0];exact .inr ⟨jq,.inl ⟨rfl,jv,jv⟩⟩
 ·rw[a0];by_cases hi:i<p.barriers.length
  ·rw[gB i hi];exact Int.le_refl _
  ·rw[xm,List.getElem?_eq_none jq];exact Int.le_refl _
end Go.Proofs.YtfclolgfegdfjaaGreat
namespace Go.Proofs.YtfclolgfegdfjaaGreat
open Go.RowKit
variable {w W w' W':World} {s:zp} {B n k i b g c sz:Nat} {a:uQ} {v:zu} {L:zQ} {T e E:TypeId} {l:List It} {p:Pg} {P:Program} {q:zP} {X S:List Nat} {cs xs:uZ} {t:Int} {α:Type} {tr:List Int}
theorem yr.fault (h:yr X B w v L s) (f:Int):yr X B w {v with fl:=f} L (jt s f):=
 ⟨h.pl,h.npl,h.st,h.nst,h.se,h.nse,h.on,h.non,h.gr,h.ngr,h.ba,h.nba,h.ch,h.nch,h.sa,h.nsa,rfl,h.dps,h.dpa,h.dsa,h.xs,h.inn.to ⟨rfl,rfl,rfl,rfl,rfl⟩⟩
theorem yz.lower {B':Nat} (h:yz B L) (hb:B'<=B):yz B' L:=
 ⟨λz hz=>(h.se z hz).lower hb,λz hz=>(h.on z hz).lower hb,λz hz=>(h.gr z hz).lower hb,λz hz=>(h.ba z hz).lower hb,λz hz=>⟨(h.ch z hz).1.lower hb,(h.ch z hz).2.1.lower hb,(h.ch z hz).2.2.lower hb⟩⟩
theorem yp.place_le (h:yp p s) (i:Nat):0<=s.places.getD i 0/\s.places.getD i 0<=8:=by
 by_cases hi:i<p.threads.length
 ·have h1:=h.th i hi;unfold JF at h1;rw[show((i:Nat):Int).toNat=i by simp,qW] at h1;have:=(yf h.prog).2.2.2.2.2 i;omega
 ·rw[xm,List.getElem?_eq_none (by rw[h.np];omega)];simp
theorem jG {base size:Nat} (h:w.ownsRow base e size (.slice (some ⟨g,0,none⟩) n c) n xs) (j:Nat) (hj:j<n*size):∃y,w.cell? ⟨g,j,none⟩=some y:=
 ⟨_,(h.cellAt j hj).trans (xV (jQ h.1))⟩
def qG (p:Pg) (s:zp) (l:List Int):Prop:=l.length<=8/\∀z∈l,0<=z/\z<p.threads.length/\z<s.places.length
theorem X8 {W0:World} {k:List It} (h:Sf w W0 k v L s) {u:zP} {l:List Int} (ho:W.ownsRow W0.heap.size E 1 u.val u.n (zf l)) (hE:E∉QA:=by decide):yc v.blks W u (zf l) l.length:=by
 have h1:=h.apart (yy.of_owns (w0:=W0) (w:=W) ho yk hE);have h2:u.n=l.length:=by have:=ho.1;simp only[zf,yG] at this;omega
 exact⟨h2,h1.rd,h1.far.imp id (λh b hb hm=>h b hb (yW (.inr hm))),h1.cap⟩
theorem yc.drew {s:zP} (h:yc S w s cs k):yc S w.drew s cs k:=h.below xd.drew
variable {p:Pg} {s:zp}
theorem yp.told {l:List Int} (h:yp p s) (hm:∀z∈l,z∈eT s) (hl:l.length<=6):qG p s l:=
 ⟨jq,λz hz=>by have:=(h.waits (hm z hz)).1;have:=h.np;omega⟩
theorem uM:qG p s []:=⟨jv,jv⟩
theorem kV (h:yp p s) (hi:i<s.sems.length) {m:Int} (hm:0<=m) {y:xS} {l:List Int} (e:qP (s.sems.getD i yi) m=some (y,l)):qG p s l:=by
 have ok:=(h.se i hi).1;unfold qP at e;split at e
 ·obtain⟨P,N,e1,e2,-⟩:=Qk (s.sems.getD i yi).queue ((s.sems.getD i yi).free+m) (jQ ok.2.1) (λw hw=>(ok.2.2.1 w hw).1);obtain rfl:l=P.map (·.1):=by rw[<-e2];exact(Prod.mk.inj (Option.some.inj e)).2.symm
  have h6:(s.sems.getD i yi).queue.length<=6:=by simpa using ok.2.2.2.1.1
  refine h.told (λz hz=> ?_) (by rw[yG];rw[e1,xp] at h6;omega);obtain⟨y,hy,rfl⟩:=yU.1 hz;exact yU.2 ⟨(y.1,2,(i:Int),y.2),XN hi (yU.2 ⟨y,by rw[e1];exact yW (.inl hy),rfl⟩),rfl⟩
 ·cases e
theorem GD (h:yp p s) (hi:i<s.onces.length):qG p s (s.onces.getD i zH).waits:=
 h.told (λz hz=>yU.2 ⟨(z,4,(i:Int),0),JQ hi (yU.2 ⟨z,hz,rfl⟩),rfl⟩) (Kd (h.on i hi))
theorem Db (h:yp p s) (hi:i<s.groups.length):qG p s (s.groups.getD i yH).waits:=
 h.told (λz hz=>yU.2 ⟨(z,6,(i:Int),0),XM hi (yU.2 ⟨z,hz,rfl⟩),rfl⟩) (h.gr i hi).2.1.1
theorem tg (h:yp p s) (hi:i<s.groups.length) {m:Int} {y:ji} {l:List Int} (e:j9 (s.groups.getD i yH) m=some (y,l)):qG p s l:=by
 have h1:=Db h hi;unfold j9 at e;split at e
 ·split at e
  ·obtain rfl:=(Prod.mk.inj (Option.some.inj e)).2;exact h1
  ·obtain rfl:=(Prod.mk.inj (Option.some.inj e)).2;exact uM
 ·cases e
theorem tV (h:yp p s) (hi:i<s.bars.length) (ht:0<=t/\t<p.threads.length/\t<s.places.length) {y:j6} {l:List Int} (e:jb (s.bars.getD i ye) t=(y,l)):qG p s l:=by
 have h1:qG p s (s.bars.getD i ye).waits:=h.told (λz hz=>yU.2 ⟨(z,7,(i:Int),0),XJ hi (yU.2 ⟨z,hz,rfl⟩),rfl⟩) (h.ba i hi).1.2.2.1.1;have h6:=(h.ba i hi).1.2.2.1.1;unfold jb at e;split at e
 ·obtain rfl:=(Prod.mk.inj e).2;exact uM
 ·obtain rfl:=(Prod.mk.inj e).2;refine⟨by rw[xp];show _+1<=8;omega,λz hz=> ?_⟩;rcases xM hz with hz|hz
  ·exact h1.2 z hz
  ·obtain rfl:=yh hz;exact ht
theorem Gg (h:yp p s) (hi:i<s.chans.length):qG p s (s.chans.getD i yq).getters:=
 h.told (λz hz=>yU.2 ⟨(z,9,(i:Int),0),vY hi (yW (.inr (yU.2 ⟨z,hz,rfl⟩))),rfl⟩) (by have:=(h.ch i hi).1.2.2.2.2.1.1;rw[xp] at this;omega)
theorem X3 (hi:i<s.chans.length):∀z∈(s.chans.getD i yq).senders,z.1∈eT s:=λz hz=>
 yU.2 ⟨(z.1,8,(i:Int),z.2),vY hi (yW (.inl (yU.2 ⟨z,hz,rfl⟩))),rfl⟩
theorem Gc (h:yp p s) (hi:i<s.chans.length) {v:Int} {y:xi} {l:List Int} {b:Bool} (e:jI (s.chans.getD i yq) t v=some (y,l,b)):qG p s l/\(l=[]\/∃g,l=[g]/\b=true):=by
 have h1:=Gg h hi;unfold jI at e;split at e
 ·cases e
 ·split at e
  ·next g gs eg=>
   obtain rfl:[g]=l:=(Prod.mk.inj (Prod.mk.inj (Option.some.inj e)).2).1;exact⟨⟨jv,λz hz=>h1.2 z (by rw[eg,yh hz];exact List.mem_cons_self)⟩,.inr ⟨g,rfl,(Prod.mk.inj (Prod.mk.inj (Option.some.inj e)).2).2.symm⟩⟩
  ·split at e
   ·obtain rfl:=(Prod.mk.inj (Prod.mk.inj (Option.some.inj e)).2).1;exact⟨uM,.inl rfl⟩
   ·obtain rfl:=(Prod.mk.inj (Prod.mk.inj (Option.some.inj e)).2).1;exact⟨uM,.inl rfl⟩
theorem ku (h:yp p s) (hi:i<s.chans.length) {v how:Int} {y:xi} {l:List Int} (e:xR (s.chans.getD i yq) t=(y,v,how,l)):qG p s l/\(how=0->l=[])/\(how=0\/how=1\/how=2):=by
 have h1:=X3 hi;have one:∀z,(z:Int×Int)∈(s.chans.getD i yq).senders->qG p s [z.1]:=λz hz=>h.told (λa ha=>by rw[yh ha];exact h1 z hz) jv;unfold xR at e;split at e
 ·next l1 ls es=>
  split at e
  ·obtain⟨-,e1⟩:=Prod.mk.inj e;obtain⟨-,e2⟩:=Prod.mk.inj e1;obtain⟨rfl,rfl⟩:=Prod.mk.inj e2;exact⟨one l1 (by rw[es];exact List.mem_cons_self),jq,jq⟩
  ·obtain⟨-,e1⟩:=Prod.mk.inj e;obtain⟨-,e2⟩:=Prod.mk.inj e1;obtain⟨rfl,rfl⟩:=Prod.mk.inj e2;exact⟨one l1 (by rw[es];exact List.mem_cons_self),jq,jq⟩
 ·split at e
  ·obtain⟨-,e1⟩:=Prod.mk.inj e;obtain⟨-,e2⟩:=Prod.mk.inj e1;obtain⟨rfl,rfl⟩:=Prod.mk.inj e2;exact⟨uM,λ_=>rfl,jq⟩
  ·split at e
   ·obtain⟨-,e1⟩:=Prod.mk.inj e;obtain⟨-,e2⟩:=Prod.mk.inj e1;obtain⟨rfl,rfl⟩:=Prod.mk.inj e2;exact⟨uM,λ_=>rfl,jq⟩
   ·obtain⟨-,e1⟩:=Prod.mk.inj e;obtain⟨-,e2⟩:=Prod.mk.inj e1;obtain⟨rfl,rfl⟩:=Prod.mk.inj e2;exact⟨uM,λ_=>rfl,jq⟩
theorem UU (h:yp p s) (hi:i<s.chans.length) {y:xi} {l:List Int} (e:qd (s.chans.getD i yq)=some (y,l)):qG p s l:=by
 unfold qd at e;split at e
 ·cases e
 ·obtain rfl:=(Prod.mk.inj (Option.some.inj e)).2;exact Gg h hi
theorem VG (s:zp) (t:Int) (b:Bool) (i:Nat):s.places.getD i 0<=(jh p s t b).places.getD i 0:=by
 unfold jh;split
 ·exact(jj [t] s i).1
 ·exact Int.le_refl _
theorem tR {s1 s2:zp} (h:yp p s2) (h0:∀i,0<=s.places.getD i 0) (h1:∀i,s.places.getD i 0<=s1.places.getD i 0) (h2:∀i,s1.places.getD i 0<=s2.places.getD i 0):∀i,0<=s1.places.getD i 0/\s1.places.getD i 0<=8:=λi=>by
 have:=h.place_le i;have:=h0 i;have:=h1 i;have:=h2 i;omega
theorem Gk:∀(l:List Int) (s:zp) (v:Int),sayIt (goAll p s l) v=goAll p (sayIt s v) l
 |[],_,_=>rfl
 |t::l,s,v=>Gk l (jR p s t) v
theorem dy (h:(t,(i:Int))∈jg s):i<s.onces.length/\(s.onces.getD i zH).state=1/\(s.onces.getD i zH).owner=t:=by
 obtain⟨k,hk,hm⟩:=qD.1 h;unfold xP at hm;split at hm
 ·next hs=>
  obtain⟨e1,e2⟩:=Prod.mk.inj (yh hm);obtain rfl:i=k:=jq;exact⟨hk,hs,e1.symm⟩
 ·cases hm
theorem Gj (hi:i<s.onces.length) (hn:t∉eT s) (ho:t∉oT s):(s.onces.getD i zH).state=1->t≠(s.onces.getD i zH).owner/\t∉(s.onces.getD i zH).waits:=λh1=>
 ⟨λe=>ho (yU.2 ⟨(t,(i:Int)),KS hi (by unfold xP;rw[if_pos h1,e];exact List.mem_singleton.2 rfl),rfl⟩),λhm=>hn (yU.2 ⟨(t,4,(i:Int),0),JQ hi (yU.2 ⟨t,hm,rfl⟩),rfl⟩)⟩
theorem DB (l:List α) (i:Nat) (d:α):l.set i (l.getD i d)=l:=by
 apply List.ext_getElem?;intro k;rw[List.getElem?_set];split
 ·next e=>
  subst e;split
  ·next hi=>rw[xm,xV hi];rfl
  ·next hi=>rw[List.getElem?_eq_none jq]
 ·rfl
theorem Vp (s:zp) (i:Nat):setOnce s (i:Int) (s.onces.getD i zH)=s:=by
 unfold setOnce;rw[show((i:Nat):Int).toNat=i from rfl,DB]
theorem Sf.putf_se {s:zp} (h:Sf w W l v L s) (hi:i<s.sems.length) {x:xS} (hq:Xn (zO l++v.blks) W x q):∃g:Nat,v.se.a=some ⟨g,0,none⟩/\g∈v.blks/\(i:Int)<(v.se.n:Int)/\(0:Int)<=(i:Int)/\Sf w (((W.setCell ⟨g,i*3,none⟩ (uy x.free)).setCell ⟨g,i*3+1,none⟩ (uy x.limit)).setCell ⟨g,i*3+2,none⟩ (q.val)) l v {L with se:=L.se.set i (x,q)} {s with sems:=s.sems.set i x}/\zo [g] W (((W.setCell ⟨g,i*3,none⟩ (uy x.free)).setCell ⟨g,i*3+1,none⟩ (uy x.limit)).setCell ⟨g,i*3+2,none⟩ (q.val))/\W.frozen? ⟨g,i*3,none⟩=false/\(∃y,W.cell? ⟨g,i*3,none⟩=some y)/\W.frozen? ⟨g,i*3+1,none⟩=false/\(∃y,W.cell? ⟨g,i*3+1,none⟩=some y)/\W.frozen? ⟨g,i*3+2,none⟩=false/\(∃y,W.cell? ⟨g,i*3+2,none⟩=some y):=by
 obtain⟨g,eg,-,-⟩:=jF h.st.se (by rw[h.st.nse];omega);have own:=h.st.se;rw[show v.se.val= .slice (some ⟨g,0,none⟩) v.se.n v.se.c by rw[<-eg]] at own;have hP:=h.st.put_se eg i hi (x:=x) (q:=q) hq;have hm:g∈v.blks:=zu.mem_se (by rw[eg];rfl);have hn:=h.st.nse;exact⟨g,eg,hm,jq,jq,h.upd (hP.2.mono (λk hk=>by obtain rfl:=yh hk;exact hm)) hP.1,hP.2,own.frozenAt _,jG own _ jq,own.frozenAt _,jG own _ jq,own.frozenAt _,jG own _ jq⟩
theorem Sf.putf_on {s:zp} (h:Sf w W l v L s) (hi:i<s.onces.length) {x:xJ} (hq:Xm (zO l++v.blks) W x q):∃g:Nat,v.on.a=some ⟨g,0,none⟩/\g∈v.blks/\(i:Int)<(v.on.n:Int)/\(0:Int)<=(i:Int)/\Sf w ((((W.setCell ⟨g,i*4,none⟩ (uy x.state)).setCell ⟨g,i*4+1,none⟩ (uy x.owner)).setCell ⟨g,i*4+2,none⟩ (uy x.value)).setCell ⟨g,i*4+3,none⟩ (q.val)) l v {L with on:=L.on.set i (x,q)} {s with onces:=s.onces.set i x}/\zo [g] W ((((W.setCell ⟨g,i*4,none⟩ (uy x.state)).setCell ⟨g,i*4+1,none⟩ (uy x.owner)).setCell ⟨g,i*4+2,none⟩ (uy x.value)).setCell ⟨g,i*4+3,none⟩ (q.val))/\W.frozen? ⟨g,i*4,none⟩=false/\(∃y,W.cell? ⟨g,i*4,none⟩=some y)/\W.frozen? ⟨g,i*4+1,none⟩=false/\(∃y,W.cell? ⟨g,i*4+1,none⟩=some y)/\W.frozen? ⟨g,i*4+2,none⟩=false/\(∃y,W.cell? ⟨g,i*4+2,none⟩=some y)/\W.frozen? ⟨g,i*4+3,none⟩=false/\(∃y,W.cell? ⟨g,i*4+3,none⟩=some y):=by
 obtain⟨g,eg,-,-⟩:=jF h.st.on (by rw[h.st.non];omega);have own:=h.st.on;rw[show v.on.val= .slice (some ⟨g,0,none⟩) v.on.n v.on.c by rw[<-eg]] at own;have hP:=h.st.put_on eg i hi (x:=x) (q:=q) hq;have hm:g∈v.blks:=zu.mem_on (by rw[eg];rfl);have hn:=h.st.non;exact⟨g,eg,hm,jq,jq,h.upd (hP.2.mono (λk hk=>by obtain rfl:=yh hk;exact hm)) hP.1,hP.2,own.frozenAt _,jG own _ jq,own.frozenAt _,jG own _ jq,own.frozenAt _,jG own _ jq,own.frozenAt _,jG own _ jq⟩
theorem Sf.putf_gr {s:zp} (h:Sf w W l v L s) (hi:i<s.groups.length) {x:ji} (hq:JK (zO l++v.blks) W x q):∃g:Nat,v.gr.a=some ⟨g,0,none⟩/\g∈v.blks/\(i:Int)<(v.gr.n:Int)/\(0:Int)<=(i:Int)/\Sf w ((W.setCell ⟨g,i*2,none⟩ (uy x.count)).setCell ⟨g,i*2+1,none⟩ (q.val)) l v {L with gr:=L.gr.set i (x,q)} {s with groups:=s.groups.set i x}/\zo [g] W ((W.setCell ⟨g,i*2,none⟩ (uy x.count)).setCell ⟨g,i*2+1,none⟩ (q.val))/\W.frozen? ⟨g,i*2,none⟩=false/\(∃y,W.cell? ⟨g,i*2,none⟩=some y)/\W.frozen? ⟨g,i*2+1,none⟩=false/\(∃y,W.cell? ⟨g,i*2+1,none⟩=some y):=by
 obtain⟨g,eg,-,-⟩:=jF h.st.gr (by rw[h.st.ngr];omega);have own:=h.st.gr;rw[show v.gr.val= .slice (some ⟨g,0,none⟩) v.gr.n v.gr.c by rw[<-eg]] at own;have hP:=h.st.put_gr eg i hi (x:=x) (q:=q) hq;have hm:g∈v.blks:=zu.mem_gr (by rw[eg];rfl);have hn:=h.st.ngr;exact⟨g,eg,hm,jq,jq,h.upd (hP.2.mono (λk hk=>by obtain rfl:=yh hk;exact hm)) hP.1,hP.2,own.frozenAt _,jG own _ jq,own.frozenAt _,jG own _ jq⟩
theorem Sf.putf_ba {s:zp} (h:Sf w W l v L s) (hi:i<s.bars.length) {x:j6} (hq:Qj (zO l++v.blks) W x q):∃g:Nat,v.ba.a=some ⟨g,0,none⟩/\g∈v.blks/\(i:Int)<(v.ba.n:Int)/\(0:Int)<=(i:Int)/\Sf w (((W.setCell ⟨g,i*3,none⟩ (uy x.parties)).setCell ⟨g,i*3+1,none⟩ (uy x.round)).setCell ⟨g,i*3+2,none⟩ (q.val)) l v {L with ba:=L.ba.set i (x,q)} {s with bars:=s.bars.set i x}/\zo [g] W (((W.setCell ⟨g,i*3,none⟩ (uy x.parties)).setCell ⟨g,i*3+1,none⟩ (uy x.round)).setCell ⟨g,i*3+2,none⟩ (q.val))/\W.frozen? ⟨g,i*3,none⟩=false/\(∃y,W.cell? ⟨g,i*3,none⟩=some y)/\W.frozen? ⟨g,i*3+1,none⟩=false/\(∃y,W.cell? ⟨g,i*3+1,none⟩=some y)/\W.frozen? ⟨g,i*3+2,none⟩=false/\(∃y,W.cell? ⟨g,i*3+2,none⟩=some y):=by
 obtain⟨g,eg,-,-⟩:=jF h.st.ba (by rw[h.st.nba];omega);have own:=h.st.ba;rw[show v.ba.val= .slice (some ⟨g,0,none⟩) v.ba.n v.ba.c by rw[<-eg]] at own;have hP:=h.st.put_ba eg i hi (x:=x) (q:=q) hq;have hm:g∈v.blks:=zu.mem_ba (by rw[eg];rfl);have hn:=h.st.nba;exact⟨g,eg,hm,jq,jq,h.upd (hP.2.mono (λk hk=>by obtain rfl:=yh hk;exact hm)) hP.1,hP.2,own.frozenAt _,jG own _ jq,own.frozenAt _,jG own _ jq,own.frozenAt _,jG own _ jq⟩
theorem Sf.putf_ch {s:zp} (h:Sf w W l v L s) (hi:i<s.chans.length) {x:xi} {q:zP×zP×zP} (hq:Xp (zO l++v.blks) W x q):∃g:Nat,v.ch.a=some ⟨g,0,none⟩/\g∈v.blks/\(i:Int)<(v.ch.n:Int)/\(0:Int)<=(i:Int)/\Sf w (((((W.setCell ⟨g,i*5,none⟩ (uy x.room)).setCell ⟨g,i*5+1,none⟩ (q.1.val)).setCell ⟨g,i*5+2,none⟩ (q.2.1.val)).setCell ⟨g,i*5+3,none⟩ (q.2.2.val)).setCell ⟨g,i*5+4,none⟩ (.bool x.closed)) l v {L with ch:=L.ch.set i (x,q)} {s with chans:=s.chans.set i x}/\zo [g] W (((((W.setCell ⟨g,i*5,none⟩ (uy x.room)).setCell ⟨g,i*5+1,none⟩ (q.1.val)).setCell ⟨g,i*5+2,none⟩ (q.2.1.val)).setCell ⟨g,i*5+3,none⟩ (q.2.2.val)).setCell ⟨g,i*5+4,none⟩ (.bool x.closed))/\W.frozen? ⟨g,i*5,none⟩=false/\(∃y,W.cell? ⟨g,i*5,none⟩=some y)/\W.frozen? ⟨g,i*5+1,none⟩=false/\(∃y,W.cell? ⟨g,i*5+1,none⟩=some y)/\W.frozen? ⟨g,i*5+2,none⟩=false/\(∃y,W.cell? ⟨g,i*5+2,none⟩=some y)/\W.frozen? ⟨g,i*5+3,none⟩=false/\(∃y,W.cell? ⟨g,i*5+3,none⟩=some y)/\W.frozen? ⟨g,i*5+4,none⟩=false/\(∃y,W.cell? ⟨g,i*5+4,none⟩=some y):=by
 obtain⟨g,eg,-,-⟩:=jF h.st.ch (by rw[h.st.nch];omega);have own:=h.st.ch;rw[show v.ch.val= .slice (some ⟨g,0,none⟩) v.ch.n v.ch.c by rw[<-eg]] at own;have hP:=h.st.put_ch eg i hi (x:=x) (q:=q) hq;have hm:g∈v.blks:=zu.mem_ch (by rw[eg];rfl);have hn:=h.st.nch;exact⟨g,eg,hm,jq,jq,h.upd (hP.2.mono (λk hk=>by obtain rfl:=yh hk;exact hm)) hP.1,hP.2,own.frozenAt _,jG own _ jq,own.frozenAt _,jG own _ jq,own.frozenAt _,jG own _ jq,own.frozenAt _,jG own _ jq,own.frozenAt _,jG own _ jq⟩
def xg (p:Pg) (ch:zp->List Int->Option Int):Nat->zp->List Int->Option (zp×List Int)
 |0,_,_=>none
 |n+1,s,tr=>match ch s tr with
  |none=>some (s,tr)
  |some t=>if t∈zq s then xg p ch n (zJ p s t) (tr++[t]) else none
theorem ZQ {p:Pg} {ch:zp->List Int->Option Int} {s:zp} (h:ch s tr=none):xg p ch (n+1) s tr=some (s,tr):=by simp only[xg,h]
theorem Zs {p:Pg} {ch:zp->List Int->Option Int} {s:zp} (h:ch s tr=some t) (hr:t∈zq s):xg p ch (n+1) s tr=xg p ch n (zJ p s t) (tr++[t]):=by simp only[xg,h,if_pos hr]
theorem JE {p:Pg} {ch:zp->List Int->Option Int} {s:zp} (h:ch s tr=some t) (hr:t∉zq s):xg p ch (n+1) s tr=none:=by simp only[xg,h,if_neg hr]
theorem Kn {o:Oper} {ρ:Operand->Value} {f0:Value->World->Prop} (s x:Operand) (t:TypeId) 
  (ho:o.op= .call {callee:= .builtin .append,args:= #[s,x],argTypes:= #[t,t]}) {B:Nat} {e:TypeId} {z:Value} {size a0:Nat} (ht:P.underlying t=some (.slice e)) (d0:(P.info? e).map (λi=>(i.zero,i.size,i.bytes))=some (some z,size,a0))
  (k0:z.cells.size=size) (j0:0<size) {a:uQ} {n c:Nat} {xs:uZ} (hs:ρ s= .slice a n c) (g0:w.ownsRow B e size (.slice a n c) n xs)
  {a2:uQ} {m c2:Nat} {news:uZ} (hx:ρ x= .slice a2 m c2) (hl:news.length=m*size) (h0:Rd w a2 news) (h1:∀u∈news,u.oneCell'=true) (b0:(n+m)*a0<=140737488355328) (i0:0<a0) (c0:B<=w.heap.size)
  (h:∀a' c' w',w'.ownsRow B e size (.slice a' (n+m) c') (n+m) (xs++news)->w.grownBy w' (zj a)->(∀k,zj a'=some k->zj a=some k\/w.heap.size<=k)->f0 (.slice a' (n+m) c') w'):xO P o ρ w f0:=by
 obtain⟨a',c',w',hr,h2,h3,h4⟩:=uw (P:=P) (c2:=c2) t o.type ht d0 k0 j0 g0 hl h0 h1 b0 i0 c0;refine zh (u:= .slice a' (n+m) c') (w':=w') ?_ (h a' c' w' h2 h3 h4);unfold execOp;simp only[ho,resolve,invoke,builtin,Sem.run_bind,Sem.run_pure,Result.andThen_ok,List.map_toArray,List.map_cons,List.map_nil,hs,hx,hr]
theorem yr.newer {s:zp} (h:yr [] B w v L s) (hb:xW w w') (hX:∀k∈X,w.heap.size<=k/\k<w'.heap.size):yr X B w' v L s:=
 have g:=h.below hb
 ⟨g.pl,g.npl,g.st,g.nst,g.se,g.nse,g.on,g.non,g.gr,g.ngr,g.ba,g.nba,g.ch,g.nch,g.sa,g.nsa,g.fl,g.dps,g.dpa,g.dsa,λk hk=>⟨(hX k hk).2,λhm=>by have:=(h.from k hm).2;have:=(hX k hk).1;omega⟩,
  h.inn.wide (zo.of_below hb) λb hm=>by
   rcases xM hm with hm|hm
   ·exact .inr (hX b hm).1
   ·exact .inl hm⟩
theorem fF {i':It}:∀q∈zO (l.set k i'),q∈zO l\/q∈i'.foot:=λq hq=>by
 obtain⟨i,hi,a0⟩:=List.mem_flatMap.1 hq;rcases List.mem_or_eq_of_mem_set hi with hi|rfl
 ·exact .inl (List.mem_flatMap.2 ⟨i,hi,a0⟩)
 ·exact .inr a0
theorem Sf.appT {s:zp} (h:Sf w W l v L s) (k:Nat) {a':uQ} {n' c':Nat} {cs':uZ} (hi:l[k]? =some (.row a n c E sz cs)) (T:zo (zj a).toList W W') (h':W'.ownsRow w.heap.size E sz (.slice a' n' c') n' cs') (hn:∀q,zj a'=some q->zj a=some q\/W.heap.size<=q):Sf w W' (l.set k (.row a' n' c' E sz cs')) v L s:=by
 have hX:∀q∈zO (l.set k (.row a' n' c' E sz cs')),q∈zO l\/W.heap.size<=q:=λq hq=>by
  rcases fF q hq with h1|h1
  ·exact .inl h1
  ·rcases hn q (by simpa[It.foot] using h1) with h2|h2
   ·exact .inl (YQ hi q (by simp[It.foot,h2]))
   ·exact .inr h2
 have F:=h.fr.step (i':= .row a' n' c' E sz cs') k hi T h' λq hq=>(hn q (by simpa[It.foot] using hq)).imp (λh=>by simp[It.foot,h]) id;have a0:zo (zO l) W W':=T.mono (YQ hi);have g:=h.st.other a0;refine⟨F,g.pl,g.npl,g.st,g.nst,g.se,g.nse,g.on,g.non,g.gr,g.ngr,g.ba,g.nba,g.ch,g.nch,g.sa,g.nsa,g.fl,g.dps,g.dpa,g.dsa,λq hq=>⟨(F.inside q hq).2,λhm=> ?_⟩,?_⟩
 ·rcases hX q hq with h1|h1
  ·exact(h.st.xs q h1).2 hm
  ·have:=(h.st.from q hm).2;omega
 ·refine h.st.inn.wide (a0.mono λq hq=>yW (.inl hq)) λb hb=> ?_;rcases xM hb with hb|hb
  ·exact(hX b hb).imp (λh=>yW (.inl h)) id
  ·exact .inl (yW (.inr hb))
theorem Sf.gainR {s:zp} (F:Fr w W l) (hb:xW W W') (ho:W'.ownsRow W.heap.size E sz (.slice a n c) n cs) (hs:yr (zj a).toList W.heap.size W' v L s) (hn:yz W.heap.size L):Sf w W' (.row a n c E sz cs::l) v L s:=by
 have hB:∀k∈zO l,k<W.heap.size:=λk hk=>(F.inside k hk).2;have hX:∀k∈zO l,k<W'.heap.size/\k∉v.blks:=λk hk=>⟨Nat.lt_of_lt_of_le (hB k hk) hb.size,λhm=>by have:=(hs.from k hm).1;have:=hB k hk;omega⟩
 have a0:Jc (zO l++((zj a).toList++v.blks)) W' L s:=
  ⟨⟨hs.inn.se.e,λx hx=>(hs.inn.se.r x hx).aside (hn.se x hx) hB⟩,⟨hs.inn.on.e,λx hx=>(hs.inn.on.r x hx).aside (hn.on x hx) hB⟩,⟨hs.inn.gr.e,λx hx=>(hs.inn.gr.r x hx).aside (hn.gr x hx) hB⟩,⟨hs.inn.ba.e,λx hx=>(hs.inn.ba.r x hx).aside (hn.ba x hx) hB⟩,⟨hs.inn.ch.e,λx hx=>⟨(hs.inn.ch.r x hx).1.aside (hn.ch x hx).1 hB,(hs.inn.ch.r x hx).2.1.aside (hn.ch x hx).2.1 hB,(hs.inn.ch.r x hx).2.2.aside (hn.ch x hx).2.2 hB⟩⟩⟩
 refine⟨F.row hb ho,(yr.lower ⟨hs.pl,hs.npl,hs.st,hs.nst,hs.se,hs.nse,hs.on,hs.non,hs.gr,hs.ngr,hs.ba,hs.nba,hs.ch,hs.nch,hs.sa,hs.nsa,hs.fl,hs.dps,hs.dpa,hs.dsa,λk hk=> ?_,?_⟩ F.bel.size)⟩
 ·rcases xM (show k∈(zj a).toList++zO l from hk) with h1|h1
  ·exact hs.xs k h1
  ·exact hX k h1
 ·exact a0.map λx cs k hx=>hx.wide (zo.refl _ _) λb hm=>by
   left;rcases xM hm with h1|h1
   ·rcases xM (show b∈(zj a).toList++zO l from h1) with h2|h2
    ·exact yW (.inr (yW (.inl h2)))
    ·exact yW (.inl h2)
   ·exact yW (.inr (yW (.inr h1)))
theorem Sf.set10 {s:zp} (h:Sf w W l v L s) (k:Nat) {u0 u1 u2 u3 u4 u5 u6 u7 u8 u9:Value} (hi:l[k]? =some (.blk b #[u0,u1,u2,u3,u4,u5,u6,u7,u8,u9] T)) (v0 v1 v2 v3 v4 v5 v6 v7 v8 v9:Value):Sf w ((((((((((W.setCell ⟨b,0,none⟩ v0).setCell ⟨b,1,none⟩ v1).setCell ⟨b,2,none⟩ v2).setCell ⟨b,3,none⟩ v3).setCell ⟨b,4,none⟩ v4).setCell ⟨b,5,none⟩ v5).setCell ⟨b,6,none⟩ v6).setCell ⟨b,7,none⟩ v7).setCell ⟨b,8,none⟩ v8).setCell ⟨b,9,none⟩ v9) (l.set k (.blk b #[v0,v1,v2,v3,v4,v5,v6,v7,v8,v9] T)) v L s:=by
 have hh:=h.fr.has _ (vB hi);exact h.step k hi (((((((((((zo.refl _ _).set yl).set yl).set yl).set yl).set yl).set yl).set yl).set yl).set yl).set yl) ⟨hh.1,by have h9:=((((((((((hh.2.set 0 v0).set 1 v1).set 2 v2).set 3 v3).set 4 v4).set 5 v5).set 6 v6).set 7 v7).set 8 v8).set 9 v9);simpa using h9⟩ rfl
theorem Sf.setR {s:zp} (h:Sf w W l v L s) (k:Nat) {u0 u1 u2 u3 u4 u5 u6 u7 u8 u9:Value} (hi:l[k]? =some (.blk b #[u0,u1,u2,u3,u4,u5,u6,u7,u8,u9] T)) (y:zu) (a:Option Addr) (m c:Nat):Sf w ((((((((((W.setCell ⟨b,0,none⟩ (.slice y.pl.a y.pl.n y.pl.c)).setCell ⟨b,1,none⟩ (.slice y.st.a y.st.n y.st.c)).setCell ⟨b,2,none⟩ (.slice y.se.a y.se.n y.se.c)).setCell ⟨b,3,none⟩ (.slice y.on.a y.on.n y.on.c)).setCell ⟨b,4,none⟩ (.slice y.gr.a y.gr.n y.gr.c)).setCell ⟨b,5,none⟩ (.slice y.ba.a y.ba.n y.ba.c)).setCell ⟨b,6,none⟩ (.slice y.ch.a y.ch.n y.ch.c)).setCell ⟨b,7,none⟩ (.slice y.sa.a y.sa.n y.sa.c)).setCell ⟨b,8,none⟩ (.int .i64 y.fl)).setCell ⟨b,9,none⟩ (.slice a m c)) (l.set k (.blk b (rC y a m c) T)) v L s:=h.set10 k hi _ _ _ _ _ _ _ _ _ _
theorem Sf.setY {s:zp} (h:Sf w W l v L s) (k:Nat) {u0 u1 u2 u3 u4 u5 u6 u7 u8 u9:Value} (hi:l[k]? =some (.blk b #[u0,u1,u2,u3,u4,u5,u6,u7,u8,u9] T)):Sf w ((((((((((W.setCell ⟨b,0,none⟩ (.slice none 0 0)).setCell ⟨b,1,none⟩ (.slice none 0 0)).setCell ⟨b,2,none⟩ (.slice none 0 0)).setCell ⟨b,3,none⟩ (.slice none 0 0)).setCell ⟨b,4,none⟩ (.slice none 0 0)).setCell ⟨b,5,none⟩ (.slice none 0 0)).setCell ⟨b,6,none⟩ (.slice none 0 0)).setCell ⟨b,7,none⟩ (.slice none 0 0)).setCell ⟨b,8,none⟩ (.int .i64 0)).setCell ⟨b,9,none⟩ (.slice none 0 0)) (l.set k (.blk b yS T)) v L s:=h.set10 k hi _ _ _ _ _ _ _ _ _ _
theorem Fr.set10 (h:Fr w W l) (k:Nat) {u0 u1 u2 u3 u4 u5 u6 u7 u8 u9:Value} (hi:l[k]? =some (.blk b #[u0,u1,u2,u3,u4,u5,u6,u7,u8,u9] T)) (v0 v1 v2 v3 v4 v5 v6 v7 v8 v9:Value):Fr w ((((((((((W.setCell ⟨b,0,none⟩ v0).setCell ⟨b,1,none⟩ v1).setCell ⟨b,2,none⟩ v2).setCell ⟨b,3,none⟩ v3).setCell ⟨b,4,none⟩ v4).setCell ⟨b,5,none⟩ v5).setCell ⟨b,6,none⟩ v6).setCell ⟨b,7,none⟩ v7).setCell ⟨b,8,none⟩ v8).setCell ⟨b,9,none⟩ v9) (l.set k (.blk b #[v0,v1,v2,v3,v4,v5,v6,v7,v8,v9] T)):=by
 have hh:=h.has _ (vB hi);exact h.step k hi (((((((((((zo.refl _ _).set yl).set yl).set yl).set yl).set yl).set yl).set yl).set yl).set yl).set yl) ⟨hh.1,by have h9:=((((((((((hh.2.set 0 v0).set 1 v1).set 2 v2).set 3 v3).set 4 v4).set 5 v5).set 6 v6).set 7 v7).set 8 v8).set 9 v9);simpa using h9⟩ λq hq=> .inl hq
theorem Fr.setR (h:Fr w W l) (k:Nat) {u0 u1 u2 u3 u4 u5 u6 u7 u8 u9:Value} (hi:l[k]? =some (.blk b #[u0,u1,u2,u3,u4,u5,u6,u7,u8,u9] T)) (y:zu) (a:Option Addr) (m c:Nat):Fr w ((((((((((W.setCell ⟨b,0,none⟩ (.slice y.pl.a y.pl.n y.pl.c)).setCell ⟨b,1,none⟩ (.slice y.st.a y.st.n y.st.c)).setCell ⟨b,2,none⟩ (.slice y.se.a y.se.n y.se.c)).setCell ⟨b,3,none⟩ (.slice y.on.a y.on.n y.on.c)).setCell ⟨b,4,none⟩ (.slice y.gr.a y.gr.n y.gr.c)).setCell ⟨b,5,none⟩ (.slice y.ba.a y.ba.n y.ba.c)).setCell ⟨b,6,none⟩ (.slice y.ch.a y.ch.n y.ch.c)).setCell ⟨b,7,none⟩ (.slice y.sa.a y.sa.n y.sa.c)).setCell ⟨b,8,none⟩ (.int .i64 y.fl)).setCell ⟨b,9,none⟩ (.slice a m c)) (l.set k (.blk b (rC y a m c) T)):=h.set10 k hi _ _ _ _ _ _ _ _ _ _
theorem Fr.setY (h:Fr w W l) (k:Nat) {u0 u1 u2 u3 u4 u5 u6 u7 u8 u9:Value} (hi:l[k]? =some (.blk b #[u0,u1,u2,u3,u4,u5,u6,u7,u8,u9] T)):Fr w ((((((((((W.setCell ⟨b,0,none⟩ (.slice none 0 0)).setCell ⟨b,1,none⟩ (.slice none 0 0)).setCell ⟨b,2,none⟩ (.slice none 0 0)).setCell ⟨b,3,none⟩ (.slice none 0 0)).setCell ⟨b,4,none⟩ (.slice none 0 0)).setCell ⟨b,5,none⟩ (.slice none 0 0)).setCell ⟨b,6,none⟩ (.slice none 0 0)).setCell ⟨b,7,none⟩ (.slice none 0 0)).setCell ⟨b,8,none⟩ (.int .i64 0)).setCell ⟨b,9,none⟩ (.slice none 0 0)) (l.set k (.blk b yS T)):=h.set10 k hi _ _ _ _ _ _ _ _ _ _
theorem Fr.c10 (F:Fr w W l) (k:Nat) {v0 v1 v2 v3 v4 v5 v6 v7 v8 v9:Value} (hi:l[k]? =some (.blk b #[v0,v1,v2,v3,v4,v5,v6,v7,v8,v9] T)):W.cell? ⟨b,0,none⟩=some v0/\W.frozen? ⟨b,0,none⟩=false/\W.cell? ⟨b,1,none⟩=some v1/\W.frozen? ⟨b,1,none⟩=false/\W.cell? ⟨b,2,none⟩=some v2/\W.frozen? ⟨b,2,none⟩=false/\W.cell? ⟨b,3,none⟩=some v3/\W.frozen? ⟨b,3,none⟩=false/\W.cell? ⟨b,4,none⟩=some v4/\W.frozen? ⟨b,4,none⟩=false/\W.cell? ⟨b,5,none⟩=some v5/\W.frozen? ⟨b,5,none⟩=false/\W.cell? ⟨b,6,none⟩=some v6/\W.frozen? ⟨b,6,none⟩=false/\W.cell? ⟨b,7,none⟩=some v7/\W.frozen? ⟨b,7,none⟩=false/\W.cell? ⟨b,8,none⟩=some v8/\W.frozen? ⟨b,8,none⟩=false/\W.cell? ⟨b,9,none⟩=some v9/\W.frozen? ⟨b,9,none⟩=false:=⟨F.cell k 0 hi rfl,F.fz k 0 hi,F.cell k 1 hi rfl,F.fz k 1 hi,F.cell k 2 hi rfl,F.fz k 2 hi,F.cell k 3 hi rfl,F.fz k 3 hi,F.cell k 4 hi rfl,F.fz k 4 hi,F.cell k 5 hi rfl,F.fz k 5 hi,F.cell k 6 hi rfl,F.fz k 6 hi,F.cell k 7 hi rfl,F.fz k 7 hi,F.cell k 8 hi rfl,F.fz k 8 hi,F.cell k 9 hi rfl,F.fz k 9 hi⟩
end Go.Proofs.YtfclolgfegdfjaaGreat
