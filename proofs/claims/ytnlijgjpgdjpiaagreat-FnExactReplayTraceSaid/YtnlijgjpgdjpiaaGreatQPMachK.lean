/- Part of a proof: MachK2 FitsP Rdy Flt GoAll MachK3 MachK4 Told SfPut RunF. -/
import Derived.Test.YtnlijgjpgdjpiaaGreatQPFr
set_option maxRecDepth 100000
set_option maxHeartbeats 16000000
namespace Go.Proofs.YtnlijgjpgdjpiaaGreat
theorem za8 {α:Type} [BEq α] [LawfulBEq α] {E E' A B:List α} (h:∀e,E'.count e+A.count e=E.count e+B.count e):(E'++A).Perm (E++B):=
 List.perm_iff_count.2 λe=>by rw[List.count_append,List.count_append,h e]
theorem ze1 {α:Type} {E E' R N:List α} (h:(E'++(R++N)).Perm (E++N)):(E'++R).Perm E:=by
 rw[<-xDg] at h;exact(List.perm_append_right_iff N).1 h
theorem zcY {α:Type} {E E' N:List α} {e:α} (h:(E'++N).Perm (E++(N++[e]))):E'.Perm (e::E):=by
 have h2:(E++(N++[e])).Perm ((e::E)++N):=by
  rw[<-xDg];exact List.perm_append_comm.trans (by simp)
 exact(List.perm_append_right_iff N).1 (h.trans h2)
theorem zcA {α:Type} {E E' N:List α} (h:(E'++N).Perm (E++N)):E'.Perm E:=(List.perm_append_right_iff N).1 h
theorem zix:∀(n:Nat) (l:List Int),l.Nodup->(∀t∈l,0<=t/\t<n)->l.length<=n
 |0,l,_,h=>by
  cases l with
  |nil=>simp
  |cons a l=>have:=h a (by simp);omega
 |n+1,l,hn,h=>by
  have ih:=zix n (l.erase (n:Int)) (hn.erase _) (λt ht=>by
   have h1:=h t (List.mem_of_mem_erase ht);have h2:t≠(n:Int):=λe=>by
    rw[e] at ht;exact(List.Nodup.mem_erase_iff hn).1 ht|>.1 rfl
   omega)
  have:= @List.length_erase Int _ _ (n:Int) l;split at this<;>omega
section
variable {p:Pg} {s:StD} {t:Int}
theorem Fits.opv (h:Fits p s) (ht:Turn p s t):zF p (opAt p s t)=true:=by
 have:=ht.rg;have h1:=ht.lt;have:=ht.ge
 unfold opAt zbY;unfold zbY at h1;exact zkd h.prog (by omega) (by omega)
theorem za7 {o:OpD} (ho:zF p o=true):0<=o.on/\o.on<zw p o.kind:=(zcm ho).2.1
theorem zg1 {o:OpD} (ho:zF p o=true):1<=o.kind/\o.kind<=10:=(zcm ho).1
theorem zd7 {o:OpD} (ho:zF p o=true) (hk:o.kind=2\/o.kind=3):1<=o.arg/\o.arg<=p.sems.getD o.on.toNat 0:=by
 have h:=(zcm ho).2.2;unfold zaR at h;rw[if_pos hk] at h;simpa using h
theorem zee {o:OpD} (ho:zF p o=true) (hk:o.kind=1\/o.kind=4\/o.kind=8):0<=o.arg/\o.arg<=99:=by
 have h:=(zcm ho).2.2;unfold zaR at h;rw[if_neg (by omega),if_neg (by omega),if_pos hk] at h;unfold zbS at h;simpa using h
theorem zdB {i:Nat} (hi:i<s.sems.length) {e:Ent} (he:e∈zU (s.sems.getD i zG) i):e∈ents s:=by
 unfold ents;exact xQ1 (.inl (za9.2 ⟨i,hi,he⟩))
theorem zei {i:Nat} (hi:i<s.onces.length) {e:Ent} (he:e∈zN (s.onces.getD i zq) i):e∈ents s:=by
 unfold ents;exact xQ1 (.inr (xQ1 (.inl (za9.2 ⟨i,hi,he⟩))))
theorem zdC {i:Nat} (hi:i<s.groups.length) {e:Ent} (he:e∈zah (s.groups.getD i zQ) i):e∈ents s:=by
 unfold ents;exact xQ1 (.inr (xQ1 (.inr (xQ1 (.inl (za9.2 ⟨i,hi,he⟩))))))
theorem zdz {i:Nat} (hi:i<s.bars.length) {e:Ent} (he:e∈zal (s.bars.getD i zE) i):e∈ents s:=by
 unfold ents;exact xQ1 (.inr (xQ1 (.inr (xQ1 (.inr (xQ1 (.inl (za9.2 ⟨i,hi,he⟩))))))))
theorem zbJ {i:Nat} (hi:i<s.chans.length) {e:Ent} (he:e∈zZ (s.chans.getD i zH) i):e∈ents s:=by
 unfold ents;exact xQ1 (.inr (xQ1 (.inr (xQ1 (.inr (xQ1 (.inr (za9.2 ⟨i,hi,he⟩))))))))
theorem zgV {i:Nat} (hi:i<s.onces.length) {e:Int×Int} (he:e∈zaq (s.onces.getD i zq) i):e∈owns s:=za9.2 ⟨i,hi,he⟩
theorem zc9 (h:Fits p s) (ht:Turn p s t) {l:List Int} (hl:thr6 l) (hin:∀u∈l,u∈eT s):thr6 (l++[t])/\t∉l:=by
 have hnt:t∉l:=λhm=>ht.ne (hin t hm);have hnd:(l++[t]).Nodup:=List.nodup_append.2 ⟨hl.2.2,by simp,λa ha b hb e=>hnt (by rw[xS1 hb] at e;exact e▸ha)⟩;have hp:=(zcn h.prog).2;have hr:∀u∈l++[t],0<=u/\u<(4:Nat):=λu hu=>by
  have:0<=u/\u<p.threads.length:=by
   rcases xP1 hu with hu|hu
   ·exact(h.waits (hin u hu)).1
   ·rw[xS1 hu];exact ht.rg
  omega
 refine⟨⟨?_,λu hu=>by have:=hr u hu;omega,hnd⟩,hnt⟩;have:=zix 4 _ hnd hr;omega
theorem zfo {l k:List Int} (h:thr6 (l++k)):thr6 k:=⟨by have:=h.1;rw[xDh] at this;omega,λt ht=>h.2.1 t (xQ1 (.inr ht)),(List.nodup_append.1 h.2.2).2.1⟩
theorem zb2:thr6 []:=⟨by simp,by simp,by simp⟩
theorem zeD:∀(q:List (Int×Int)) (f:Int),0<=f->(∀w∈q,1<=w.2)->∃P N,q=P++N/\(zP f q).2.1=P.map (·.1)/\(zP f q).2.2=N/\0<=(zP f q).1/\(zP f q).1<=f/\(∀w N',N=w::N'->(zP f q).1<w.2)
 |[],f,hf,_=>⟨[],[],rfl,rfl,rfl,hf,Int.le_refl _,by simp⟩
 |w::q,f,hf,hq=>by
  by_cases hw:w.2<=f
  ·obtain⟨P,N,h1,h2,h3,h4,h5,h6⟩:=zeD q (f-w.2) (by omega) (λx hx=>hq x (List.mem_cons_of_mem _ hx));have e:zP f (w::q)=((zP (f-w.2) q).1,w.1::(zP (f-w.2) q).2.1,(zP (f-w.2) q).2.2):=(by rw[zP,if_pos hw]);rw[e];refine⟨w::P,N,by rw[h1];rfl,by simp[h2],h3,h4,?_,h6⟩;have:=hq w (by simp);show(zP (f-w.2) q).1<=f;omega
  ·have e:zP f (w::q)=(f,[],w::q):=(by rw[zP,if_neg hw]);rw[e];exact⟨[],w::q,rfl,rfl,rfl,hf,Int.le_refl _,λw' N' h=>by rw[<-(List.cons.inj h).1];show f<w.2;omega⟩
theorem Fits.doSem (h:Fits p s) (ht:Turn p s t) (ho:t∉oT s) (hk:(opAt p s t).kind=2):Fits p (doSem p s t (opAt p s t)):=by
 have hv:=h.opv ht;obtain⟨o,eo⟩:∃o,o=opAt p s t:=⟨_,rfl⟩
 rw[<-eo] at hv hk⊢;obtain⟨h0,h1⟩:=za7 hv;rw[show zw p o.kind=p.sems.length by unfold zw;rw[if_neg (by omega),if_pos (.inl hk)]] at h1;have hi:o.on.toNat<s.sems.length:=by rw[h.nse];omega
 obtain⟨x,ex⟩:∃x,x=s.sems.getD o.on.toNat zG:=⟨_,rfl⟩
 obtain⟨ok,hlim⟩:=h.se _ hi;have hc:=zd7 hv (.inl hk);rw[<-ex] at ok hlim;rw[<-hlim] at hc;have hcount:=zfG s o.on (zaH x t o.arg).1 hi;rw[<-ex] at hcount;have hP:=za8 hcount;unfold Go.Proofs.YtnlijgjpgdjpiaaGreat.doSem;rw[<-ex];by_cases hq:x.queue=[]/\o.arg<=x.free
 ·have e:zaH x t o.arg=(⟨x.free-o.arg,x.limit,x.queue⟩,true):=by unfold zaH;rw[if_pos hq]
  rw[e] at hP⊢;have hT:zW p (setSem s o.on ⟨x.free-o.arg,x.limit,x.queue⟩):=h.things.setSem ⟨⟨ok.1,⟨by show 0<=x.free-o.arg;omega,by show x.free-o.arg<=x.limit;have:=ok.2.1;omega⟩,ok.2.2.1,ok.2.2.2.1,λw q hw=>by
   dsimp only at hw;rw[hq.1] at hw;cases hw⟩,hlim⟩
  have:=h.tell (R:=[]) ht ho hT rfl rfl (by rw[List.append_nil];exact zcA hP) rfl;exact this
 ·have e:zaH x t o.arg=(⟨x.free,x.limit,x.queue++[(t,o.arg)]⟩,false):=by unfold zaH;rw[if_neg hq]
  rw[e] at hP⊢;have hin:∀u∈x.queue.map (·.1),u∈eT s:=λu hu=>by
   obtain⟨w,hw,rfl⟩:=xDl.1 hu;refine xDl.2 ⟨(w.1,2,((o.on.toNat:Nat):Int),w.2),zdB hi ?_,rfl⟩;rw[<-ex];exact xDl.2 ⟨w,hw,rfl⟩
  have hth:=zc9 h ht ok.2.2.2.1 hin;have hT:zW p (setSem s o.on ⟨x.free,x.limit,x.queue++[(t,o.arg)]⟩):=h.things.setSem ⟨⟨ok.1,ok.2.1,λw hw=>by
    rcases xP1 hw with hw|hw
    ·exact ok.2.2.1 w hw
    ·rw[xS1 hw];exact hc,by show thr6 (List.map _ (x.queue++[(t,o.arg)]));rw[xDr];exact hth.1,λw q hw=>by
    dsimp only at hw⊢
    cases hxq:x.queue with
    |nil=>
     rw[hxq] at hw;simp only[xDq,List.cons.injEq] at hw;rw[<-hw.1];have:¬o.arg<=x.free:=λhh=>hq ⟨hxq,hh⟩;show x.free<o.arg;omega
    |cons a l=>
     rw[hxq] at hw;simp only[List.cons_append,List.cons.injEq] at hw;exact ok.2.2.2.2 w l (by rw[hxq,hw.1])⟩,hlim⟩
  refine h.wait ht ho hT rfl rfl (zcY (N:=zU x o.on.toNat) ?_) rfl;rw[<-eo];have e2:zU (⟨x.free,x.limit,x.queue++[(t,o.arg)]⟩:SemD) o.on.toNat=zU x o.on.toNat++[want o t]:=by
   unfold zU want;rw[if_pos (.inl hk),hk,xDr];simp only[List.map_cons,List.map_nil];rw[show((o.on.toNat:Nat):Int)=o.on by omega]
  rw[e2] at hP;exact hP
theorem Fits.doRel (h:Fits p s) (ht:Turn p s t) (ho:t∉oT s) (hk:(opAt p s t).kind=3):Fits p (doRel p s t (opAt p s t)):=by
 have hv:=h.opv ht;obtain⟨o,eo⟩:∃o,o=opAt p s t:=⟨_,rfl⟩
 rw[<-eo] at hv hk⊢;obtain⟨h0,h1⟩:=za7 hv;rw[show zw p o.kind=p.sems.length by unfold zw;rw[if_neg (by omega),if_pos (.inr hk)]] at h1;have hi:o.on.toNat<s.sems.length:=by rw[h.nse];omega
 obtain⟨x,ex⟩:∃x,x=s.sems.getD o.on.toNat zG:=⟨_,rfl⟩
 obtain⟨ok,hlim⟩:=h.se _ hi;have hc:=zd7 hv (.inr hk);rw[<-ex] at ok hlim;unfold Go.Proofs.YtnlijgjpgdjpiaaGreat.doRel;rw[<-ex];unfold zbd;by_cases hf:o.arg<=x.limit-x.free
 ·rw[if_pos hf];have hcount:=zfG s o.on ⟨(zP (x.free+o.arg) x.queue).1,x.limit,(zP (x.free+o.arg) x.queue).2.2⟩ hi;rw[<-ex] at hcount;have hP:=za8 hcount;obtain⟨P,N,e1,e2,e3,e4,e5,e6⟩:=zeD x.queue (x.free+o.arg) (by have:=ok.2.1;omega) (λw hw=>(ok.2.2.1 w hw).1);rw[e3] at hP⊢;rw[e2];have hsp:zU x o.on.toNat=(P.map λw=>((w.1,2,((o.on.toNat:Nat):Int),w.2):Ent))++zU (⟨(zP (x.free+o.arg) x.queue).1,x.limit,N⟩:SemD) o.on.toNat:=by
   unfold zU;rw[e1,xDr]
  rw[hsp] at hP;have hT:zW p (setSem s o.on ⟨(zP (x.free+o.arg) x.queue).1,x.limit,N⟩):=h.things.setSem ⟨⟨ok.1,⟨e4,by show(zP (x.free+o.arg) x.queue).1<=x.limit;omega⟩,λw hw=>ok.2.2.1 w (by rw[e1];exact xQ1 (.inr hw)),zfo (l:=P.map (·.1)) (by rw[<-xDr,<-e1];exact ok.2.2.2.1),e6⟩,hlim⟩;have:=h.tell (R:=P.map λw=>((w.1,2,((o.on.toNat:Nat):Int),w.2):Ent)) ht ho hT rfl rfl (ze1 hP) rfl;rw[List.map_map] at this;exact this
 ·rw[if_neg hf];exact h.fail (by omega)
theorem Fits.doOnce (h:Fits p s) (ht:Turn p s t) (hk:(opAt p s t).kind=4):Fits p (doOnce p s t (opAt p s t)):=by
 have hv:=h.opv ht;have hst:=ht.st;obtain⟨o,eo⟩:∃o,o=opAt p s t:=⟨_,rfl⟩
 rw[<-eo] at hv hk hst⊢;obtain⟨h0,h1⟩:=za7 hv;rw[show zw p o.kind=3 by unfold zw;rw[if_neg (by omega),if_neg (by omega),if_pos hk]] at h1;have hi:o.on.toNat<s.onces.length:=by rw[h.non];omega
 obtain⟨x,ex⟩:∃x,x=s.onces.getD o.on.toNat zq:=⟨_,rfl⟩
 have ok:=h.on _ hi;have hva:=zee hv (.inr (.inl hk));rw[<-ex] at ok;have hin:∀u∈x.waits,u∈eT s:=λu hu=>by
  refine xDl.2 ⟨(u,4,((o.on.toNat:Nat):Int),0),zei hi ?_,rfl⟩;rw[<-ex];exact xDl.2 ⟨u,hu,rfl⟩
 have hoi:((o.on.toNat:Nat):Int)=o.on:=by omega
 have hr4:0<=t/\t<6:=by have:=ht.rg;have:=(zcn h.prog).2;omega
 unfold Go.Proofs.YtnlijgjpgdjpiaaGreat.doOnce;rw[<-ex];rcases hst with ⟨s0,hno⟩|⟨s2,-,hown⟩
 ·rw[if_neg (by omega)];have hcE:=zfm s o.on (zbm x t) hi;have hcO:=zfb s o.on (zbm x t) hi;rw[<-ex] at hcE hcO;have hE:=za8 hcE;have hO:=za8 hcO;rcases ok with ⟨k1,k2,k3,k4⟩|⟨k1,k2,k3,k4,k5⟩|⟨k1,k2,k3,k4⟩
  ·rw[if_pos k1];have e:zbm x t=⟨1,t,0,[]⟩:=by unfold zbm;rw[if_pos k1]
   rw[e] at hE hO⊢;have hT:zW p (setOnce s o.on ⟨1,t,0,[]⟩):=h.things.setOnce (.inr (.inl ⟨rfl,hr4,rfl,zb2,by simp⟩));refine h.own ht hno (by rw[<-eo];exact hk) hT rfl rfl ?_ ?_
   ·have e2:zN (⟨1,t,0,[]⟩:zaj) o.on.toNat=zN x o.on.toNat:=by unfold zN;rw[k4]
    rw[e2] at hE;exact zcA hE
   ·have e2:zaq (⟨1,t,0,[]⟩:zaj) o.on.toNat=zaq x o.on.toNat++[(t,o.on)]:=by
     unfold zaq;rw[if_pos rfl,if_neg (by omega),hoi];rfl
    rw[e2] at hO;rw[<-eo];exact zcY hO
  ·rw[if_neg (by omega),if_pos k1];have e:zbm x t=⟨1,x.owner,0,x.waits++[t]⟩:=by unfold zbm;rw[if_neg (by omega),if_pos k1]
   rw[e] at hE hO⊢;have hth:=zc9 h ht k4 hin;have howner:x.owner∈oT s:=by
    refine xDl.2 ⟨(x.owner,((o.on.toNat:Nat):Int)),zgV hi ?_,rfl⟩;rw[<-ex];unfold zaq;rw[if_pos k1];simp
   have hne:x.owner≠t:=λe=>hno (e▸howner);have hT:zW p (setOnce s o.on ⟨1,x.owner,0,x.waits++[t]⟩):=h.things.setOnce (.inr (.inl ⟨rfl,k2,rfl,hth.1,λhm=>by
    rcases xP1 hm with hm|hm
    ·exact k5 hm
    ·exact hne (xS1 hm)⟩))
   have hOo:owns (setOnce s o.on ⟨1,x.owner,0,x.waits++[t]⟩)=owns s:=by
    unfold owns setOnce;simp only[List.length_set];refine zbX λi hi'=> ?_;rw[zaI];by_cases hii:i=o.on.toNat/\o.on.toNat<s.onces.length
    ·rw[if_pos hii,hii.1,<-ex];unfold zaq;rw[if_pos rfl,if_pos k1]
    ·rw[if_neg hii]
   refine h.wait ht hno hT rfl rfl (zcY (N:=zN x o.on.toNat) ?_) hOo;have e2:zN (⟨1,x.owner,0,x.waits++[t]⟩:zaj) o.on.toNat=zN x o.on.toNat++[want o t]:=by
    unfold zN want;rw[if_neg (by omega),hk,xDr,hoi];rfl
   rw[e2] at hE;rw[<-eo];exact hE
  ·rw[if_neg (by omega),if_neg (by omega)];exact h.tell (R:=[]) ht hno h.things rfl rfl (by rw[List.append_nil]) rfl
 ·rw[if_pos s2];have hcE:=zfm s o.on (zcJ t o.arg) hi;have hcO:=zfb s o.on (zcJ t o.arg) hi;rw[<-ex] at hcE hcO;have hE:=za8 hcE;have hO:=za8 hcO;obtain⟨i,hi',hmem⟩:=za9.1 hown;have hx1:(s.onces.getD i zq).state=1/\t=(s.onces.getD i zq).owner/\o.on=i:=by
   unfold zaq at hmem;by_cases hs1:(s.onces.getD i zq).state=1
   ·rw[if_pos hs1] at hmem;have:=xS1 hmem;simp only[Prod.mk.injEq] at this;exact⟨hs1,this.1,this.2⟩
   ·rw[if_neg hs1] at hmem;cases hmem
  have hii:o.on.toNat=i:=by omega
  rw[<-hii,<-ex] at hx1;obtain⟨x1,x2,-⟩:=hx1;have hth:thr6 x.waits:=by
   rcases ok with ⟨k1,k2,k3,k4⟩|⟨k1,k2,k3,k4,k5⟩|⟨k1,k2,k3,k4⟩
   ·rw[k4];exact zb2
   ·exact k4
   ·rw[k4];exact zb2
  have hT:zW p (setOnce s o.on (zcJ t o.arg)):=h.things.setOnce (.inr (.inr ⟨rfl,hr4,hva,rfl⟩));have eN:zN (zcJ t o.arg) o.on.toNat=[]:=rfl;have eM:zaq (zcJ t o.arg) o.on.toNat=[]:=by unfold zaq zcJ;rw[if_neg (by show¬(2:Int)=1;decide)]
  have eQ:zaq x o.on.toNat=[(t,o.on)]:=by unfold zaq;rw[if_pos x1,hoi,<-x2]
  rw[eN,List.append_nil] at hE;rw[eM,eQ,List.append_nil] at hO;have pE:=hE.map (·.1);have pO:=hO.map (·.1);rw[xDr] at pE pO;have nE:=List.nodup_append.1 (pE.nodup_iff.2 h.ne);have nO:=List.nodup_append.1 (pO.nodup_iff.2 h.no);have mR:(zN x o.on.toNat).map (λe:Ent=>e.1)=x.waits:=by
   unfold zN;rw[List.map_map];exact List.map_id' _
  have tO:t∈oT s:=xDl.2 ⟨_,hown,rfl⟩;refine h.go hT rfl rfl hE hO ?_ ?_ ?_ ?_ ?_
  ·exact List.nodup_append.2 ⟨hth.2.2,by simp,λa ha b hb e=>ht.ne (by rw[xS1 hb] at e;exact e▸hin a ha)⟩
  ·intro u hu;rcases xP1 hu with hu|hu
   ·exact⟨(h.waits (hin u hu)).1,(h.waits (hin u hu)).2.1⟩
   ·rw[xS1 hu];exact⟨ht.rg,ht.lt⟩
  ·intro u hu;rcases xP1 hu with hu|hu
   ·refine⟨λhx=>nE.2.2 u hx u (by rw[mR];exact hu) rfl,λhx=> ?_⟩;exact(h.waits (hin u hu)).2.2 (pO.mem_iff.1 (xQ1 (.inl hx)))
   ·rw[xS1 hu];exact⟨λhx=>ht.ne (pE.mem_iff.1 (xQ1 (.inl hx))),λhx=>nO.2.2 t hx t (by simp) rfl⟩
  ·intro e he;refine xQ1 (.inl ?_);rw[<-mR];exact List.mem_map_of_mem he
  ·intro e he;rw[xS1 he];exact xQ1 (.inr (by simp))
end
end Go.Proofs.YtnlijgjpgdjpiaaGreat
namespace Go.Proofs.YtnlijgjpgdjpiaaGreat
open Go.RowKit Go.Sort
theorem zR {p:Pg} (h:zu p=true):p.sems.length<=3/\p.groups.length<=3/\p.barriers.length<=3/\p.rooms.length<=3/\(1<=p.threads.length/\p.threads.length<=4)/\∀i,(p.threads.getD i []).length<=8:=by
 unfold zu zai at h;simp only[Bool.and_eq_true,decide_eq_true_eq,List.all_eq_true] at h;obtain⟨⟨⟨⟨⟨⟨⟨h1,-⟩,⟨h2,-⟩⟩,⟨h3,-⟩⟩,⟨h4,-⟩⟩,h5⟩,h6⟩,h7⟩:=h;refine⟨h1,h2,h3,h4,⟨h5,h6⟩,λi=> ?_⟩;by_cases hi:i<p.threads.length
 ·rw[xDa,xDb hi];exact(h7 _ (List.getElem_mem hi)).1
 ·rw[xDa,List.getElem?_eq_none (by omega)];simp
theorem zbK {p:Pg} {v:PV} {w:World} (h:zu p=true) (hr:RdP w v p):zbB v p:=by
 obtain⟨h1,h2,h3,h4,⟨h5,h6⟩,h7⟩:=zR h;exact⟨by rw[<-hr.ls];omega,by rw[<-hr.lg];omega,by rw[<-hr.lb];omega,by rw[<-hr.lr];omega,by rw[<-hr.lt];omega,λi=>Nat.le_trans (h7 i) (by omega)⟩
theorem zeg {α:Type} {l:List α} {i:Nat} {d:α} (h:¬i<l.length):l.getD i d=d:=by
 rw[xDa,List.getElem?_eq_none (by omega)];rfl
theorem zga {o:zaj} (h:zbW o):o.waits.length<=6:=by
 rcases h with ⟨-,-,-,h⟩|⟨-,-,-,h,-⟩|⟨-,-,-,h⟩
 ·rw[h];simp
 ·exact h.1
 ·rw[h];simp
theorem Fits.sm {p:Pg} {s:StD} (h:Fits p s):SmS s:=by
 obtain⟨h1,h2,h3,h4,⟨h5,h6⟩,h7⟩:=zR h.prog;have np:=h.np;have nst:=h.nst;have nse:=h.nse;have non:=h.non;have ngr:=h.ngr;have nba:=h.nba;have nch:=h.nch;have nsa:=h.nsa;refine⟨⟨by omega,by omega⟩,⟨by omega,by omega⟩,by omega,by omega,by omega,by omega,by omega,by omega,λi=> ?_,λi=> ?_,λi=> ?_,λi=> ?_,λi=> ?_⟩
 ·by_cases hi:i<s.sems.length
  ·have:=(h.se i hi).1.2.2.2.1.1;rw[xDf] at this;omega
  ·rw[zeg hi];simp[zG]
 ·by_cases hi:i<s.onces.length
  ·have:=zga (h.on i hi);omega
  ·rw[zeg hi];simp[zq]
 ·by_cases hi:i<s.groups.length
  ·have:=(h.gr i hi).2.1.1;omega
  ·rw[zeg hi];simp[zQ]
 ·by_cases hi:i<s.bars.length
  ·have:=(h.ba i hi).1.2.2.1.1;omega
  ·rw[zeg hi];simp[zE]
 ·by_cases hi:i<s.chans.length
  ·have h9:=(h.ch i hi).1;have:=h9.2.2.2.2.1.1;rw[xDh,xDf] at this;have h10:=h9.2.1;have h11:=h9.1.2;exact⟨by omega,by omega,by omega⟩
  ·rw[zeg hi];simp[zH]
end Go.Proofs.YtnlijgjpgdjpiaaGreat
namespace Go.Proofs.YtnlijgjpgdjpiaaGreat
def zbH (s:StD) (k:Nat):List Int:=((List.range k).filter λi=>decide (s.status.getD i 0=0\/s.status.getD i 0=2)).map (λi:Nat=>(i:Int))
theorem zdZ (s:StD) (k:Nat):zbH s (k+1)=if s.status.getD k 0=0\/s.status.getD k 0=2 then zbH s k++[(k:Int)] else zbH s k:=by
 unfold zbH;rw[List.range_succ,List.filter_append,xDr];by_cases h:s.status.getD k 0=0\/s.status.getD k 0=2
 ·rw[if_pos h];simp only[List.filter_cons,List.filter_nil];rw[if_pos (by simpa using h)];rfl
 ·rw[if_neg h];simp only[List.filter_cons,List.filter_nil];rw[if_neg (by simpa using h)];simp
theorem zc8 (s:StD) (k:Nat):(zbH s k).length<=k:=by
 unfold zbH;rw[xDf];exact Nat.le_trans (List.length_filter_le _ _) (by simp)
theorem zcl (s:StD):zD s=if s.fault=0 then zbH s s.status.length else []:=rfl
end Go.Proofs.YtnlijgjpgdjpiaaGreat
namespace Go.Proofs.YtnlijgjpgdjpiaaGreat
open Go.RowKit
theorem StO.fault {X:List Nat} {B:Nat} {w:World} {v:StV} {L:StL} {s:StD} (h:StO X B w v L s) (f:Int):StO X B w {v with fl:=f} L (zaW s f):=
 ⟨h.pl,h.npl,h.st,h.nst,h.se,h.nse,h.on,h.non,h.gr,h.ngr,h.ba,h.nba,h.ch,h.nch,h.sa,h.nsa,rfl,h.dps,h.dpa,h.dsa,h.xs,h.inn.to ⟨rfl,rfl,rfl,rfl,rfl⟩⟩
theorem NewB.lower {B B':Nat} {L:StL} (h:NewB B L) (hb:B'<=B):NewB B' L:=
 ⟨λz hz=>(h.se z hz).lower hb,λz hz=>(h.on z hz).lower hb,λz hz=>(h.gr z hz).lower hb,λz hz=>(h.ba z hz).lower hb,λz hz=>⟨(h.ch z hz).1.lower hb,(h.ch z hz).2.1.lower hb,(h.ch z hz).2.2.lower hb⟩⟩
theorem Fits.place_le {p:Pg} {s:StD} (h:Fits p s) (i:Nat):0<=s.places.getD i 0/\s.places.getD i 0<=8:=by
 by_cases hi:i<p.threads.length
 ·have h1:=h.th i hi;unfold thOk at h1;rw[show((i:Nat):Int).toNat=i by simp,zbj] at h1;have:=(zR h.prog).2.2.2.2.2 i;omega
 ·rw[xDa,List.getElem?_eq_none (by rw[h.np];omega)];simp
theorem zaM {w:World} {base size n c g:Nat} {e:TypeId} {xs:List Value} (h:w.ownsRow base e size (.slice (some ⟨g,0,none⟩) n c) n xs) (j:Nat) (hj:j<n*size):∃y,w.cell? ⟨g,j,none⟩=some y:=
 ⟨_,(h.cellAt j hj).trans (xDb (by have:=h.1;omega))⟩
end Go.Proofs.YtnlijgjpgdjpiaaGreat
namespace Go.Proofs.YtnlijgjpgdjpiaaGreat
theorem zaC {p:Pg}:∀(l:List Int) (s:StD) (i:Nat),s.places.getD i 0<=(goAll p s l).places.getD i 0/\(goAll p s l).places.getD i 0<=s.places.getD i 0+l.length
 |[],s,i=>by simp[goAll]
 |t::l,s,i=>by
  have ih:=zaC (p:=p) l (goOn p s t) i;have h1:s.places.getD i 0<=(goOn p s t).places.getD i 0/\(goOn p s t).places.getD i 0<=s.places.getD i 0+1:=by
   show s.places.getD i 0<=(s.places.set t.toNat _).getD i 0/\(s.places.set t.toNat _).getD i 0<=s.places.getD i 0+1;rw[zaI];by_cases h:i=t.toNat/\t.toNat<s.places.length
   ·rw[if_pos h,h.1];omega
   ·rw[if_neg h];omega
  rw[show goAll p s (t::l)=goAll p (goOn p s t) l from rfl,List.length_cons];omega
theorem zc6 (p:Pg) (s:StD) (l m:List Int):goAll p s (l++m)=goAll p (goAll p s l) m:=by unfold goAll;rw[List.foldl_append]
section
variable {p:Pg} {s:StD} {t:Int}
theorem zeX (l:List Int) (k:Int) (i:Int):(l.map λu=>((u,k,i,0):Ent)).map (λe:Ent=>e.1)=l:=by
 rw[List.map_map];exact List.map_id' _
theorem zjG {o:OpD} (ho:zF p o=true) (hk:o.kind=5): -9<=o.arg/\o.arg<=9:=by
 have h:=(zcm ho).2.2;unfold zaR at h;rw[if_neg (by omega),if_pos hk] at h;simpa using h
theorem Fits.doAdd (h:Fits p s) (ht:Turn p s t) (ho:t∉oT s) (hk:(opAt p s t).kind=5):Fits p (doAdd p s t (opAt p s t)):=by
 have hv:=h.opv ht;obtain⟨o,eo⟩:∃o,o=opAt p s t:=⟨_,rfl⟩
 rw[<-eo] at hv hk⊢;obtain⟨h0,h1⟩:=za7 hv;rw[show zw p o.kind=p.groups.length by unfold zw;rw[if_neg (by omega),if_neg (by omega),if_neg (by omega),if_pos (.inl hk)]] at h1;have hi:o.on.toNat<s.groups.length:=by rw[h.ngr];omega
 obtain⟨x,ex⟩:∃x,x=s.groups.getD o.on.toNat zQ:=⟨_,rfl⟩
 have ok:=h.gr _ hi;rw[<-ex] at ok;unfold Go.Proofs.YtnlijgjpgdjpiaaGreat.doAdd;rw[<-ex];unfold zaU;by_cases hr:0<=x.count+o.arg/\x.count+o.arg<=99
 ·rw[if_pos hr];by_cases hz:x.count+o.arg=0
  ·rw[if_pos hz];have hcount:=zeB s o.on ⟨0,[]⟩ hi;rw[<-ex] at hcount;have hP:=za8 hcount;rw[show zah (⟨0,[]⟩:GrpD) o.on.toNat=[] from rfl,List.append_nil] at hP;have hT:zW p (setGrp s o.on ⟨0,[]⟩):=h.things.setGrp ⟨by simp,zb2,λ_=>rfl⟩;have:=h.tell (R:=zah x o.on.toNat) ht ho hT rfl rfl hP rfl;unfold zah at this;rw[zeX] at this;exact this
  ·rw[if_neg hz];have hcount:=zeB s o.on ⟨x.count+o.arg,x.waits⟩ hi;rw[<-ex] at hcount;have hP:=za8 hcount;have hT:zW p (setGrp s o.on ⟨x.count+o.arg,x.waits⟩):=h.things.setGrp ⟨hr,ok.2.1,λe=>absurd e hz⟩;exact h.tell (R:=[]) ht ho hT rfl rfl (by rw[List.append_nil];exact zcA hP) rfl
 ·rw[if_neg hr];exact h.fail (by omega)
theorem Fits.doWait (h:Fits p s) (ht:Turn p s t) (ho:t∉oT s) (hk:(opAt p s t).kind=6):Fits p (doWait p s t (opAt p s t)):=by
 have hv:=h.opv ht;obtain⟨o,eo⟩:∃o,o=opAt p s t:=⟨_,rfl⟩
 rw[<-eo] at hv hk⊢;obtain⟨h0,h1⟩:=za7 hv;rw[show zw p o.kind=p.groups.length by unfold zw;rw[if_neg (by omega),if_neg (by omega),if_neg (by omega),if_pos (.inr hk)]] at h1;have hi:o.on.toNat<s.groups.length:=by rw[h.ngr];omega
 obtain⟨x,ex⟩:∃x,x=s.groups.getD o.on.toNat zQ:=⟨_,rfl⟩
 have ok:=h.gr _ hi;rw[<-ex] at ok;have hcount:=zeB s o.on (zaz x t).1 hi;rw[<-ex] at hcount;have hP:=za8 hcount;unfold Go.Proofs.YtnlijgjpgdjpiaaGreat.doWait;rw[<-ex];by_cases hz:x.count=0
 ·have e:zaz x t=(x,true):=by unfold zaz;rw[if_pos hz]
  rw[e] at hP⊢;have hT:zW p (setGrp s o.on x):=h.things.setGrp ok;exact h.tell (R:=[]) ht ho hT rfl rfl (by rw[List.append_nil];exact zcA hP) rfl
 ·have e:zaz x t=(⟨x.count,x.waits++[t]⟩,false):=by unfold zaz;rw[if_neg hz]
  rw[e] at hP⊢;have hin:∀u∈x.waits,u∈eT s:=λu hu=>by
   refine xDl.2 ⟨(u,6,((o.on.toNat:Nat):Int),0),zdC hi ?_,rfl⟩;rw[<-ex];exact xDl.2 ⟨u,hu,rfl⟩
  have hth:=zc9 h ht ok.2.1 hin;have hT:zW p (setGrp s o.on ⟨x.count,x.waits++[t]⟩):=h.things.setGrp ⟨ok.1,hth.1,λe=>absurd e hz⟩;refine h.wait ht ho hT rfl rfl (zcY (N:=zah x o.on.toNat) ?_) rfl;rw[<-eo];have e2:zah (⟨x.count,x.waits++[t]⟩:GrpD) o.on.toNat=zah x o.on.toNat++[want o t]:=by
   unfold zah want;rw[if_neg (by omega),hk,xDr,show((o.on.toNat:Nat):Int)=o.on by omega];rfl
  rw[e2] at hP;exact hP
theorem Fits.doCome (h:Fits p s) (ht:Turn p s t) (ho:t∉oT s) (hk:(opAt p s t).kind=7) (hrd:∀i,(s.bars.getD i zE).round<9999):Fits p (doCome p s t (opAt p s t)):=by
 have hv:=h.opv ht;obtain⟨o,eo⟩:∃o,o=opAt p s t:=⟨_,rfl⟩
 rw[<-eo] at hv hk⊢;obtain⟨h0,h1⟩:=za7 hv;rw[show zw p o.kind=p.barriers.length by unfold zw;rw[if_neg (by omega),if_neg (by omega),if_neg (by omega),if_neg (by omega),if_pos hk]] at h1;have hi:o.on.toNat<s.bars.length:=by rw[h.nba];omega
 obtain⟨x,ex⟩:∃x,x=s.bars.getD o.on.toNat zE:=⟨_,rfl⟩
 obtain⟨ok,hpar⟩:=h.ba _ hi;have hr:=hrd o.on.toNat
 rw[<-ex] at ok hpar hr;have hcount:=ziD s o.on (zaA x t).1 hi;rw[<-ex] at hcount;have hP:=za8 hcount;unfold Go.Proofs.YtnlijgjpgdjpiaaGreat.doCome;rw[<-ex];have hoi:((o.on.toNat:Nat):Int)=o.on:=by omega
 have hin:∀u∈x.waits,u∈eT s:=λu hu=>by
  refine xDl.2 ⟨(u,7,((o.on.toNat:Nat):Int),0),zdz hi ?_,rfl⟩;rw[<-ex];exact xDl.2 ⟨u,hu,rfl⟩
 have hth:=zc9 h ht ok.2.2.1 hin;by_cases hlt:(x.waits.length:Int)+1<x.parties
 ·have e:zaA x t=(⟨x.parties,x.round,x.waits++[t]⟩,[]):=by unfold zaA;rw[if_pos hlt]
  rw[e] at hP⊢;rw[if_pos rfl];have hT:zW p (setBar s o.on ⟨x.parties,x.round,x.waits++[t]⟩):=h.things.setBar ⟨⟨ok.1,ok.2.1,hth.1,by
   show(((x.waits++[t]).length:Nat):Int)<x.parties;rw[xDh];simpa using hlt⟩,hpar⟩
  refine h.wait ht ho hT rfl rfl (zcY (N:=zal x o.on.toNat) ?_) rfl;rw[<-eo];have e2:zal (⟨x.parties,x.round,x.waits++[t]⟩:BarD) o.on.toNat=zal x o.on.toNat++[want o t]:=by
   unfold zal want;rw[if_neg (by omega),hk,xDr,hoi];rfl
  rw[e2] at hP;exact hP
 ·have e:zaA x t=(⟨x.parties,x.round+1,[]⟩,x.waits++[t]):=by unfold zaA;rw[if_neg hlt]
  rw[e] at hP⊢;rw[if_neg (by simp)];rw[show zal (⟨x.parties,x.round+1,[]⟩:BarD) o.on.toNat=[] from rfl,List.append_nil] at hP;have hT:zW p (setBar s o.on ⟨x.parties,x.round+1,[]⟩):=h.things.setBar ⟨⟨ok.1,⟨by show 0<=x.round+1;have:=ok.2.1.1;omega,by show x.round+1<=9999;omega⟩,zb2,by show((0:Nat):Int)<x.parties;have:=ok.1.1;omega⟩,hpar⟩;have:=h.tell (R:=zal x o.on.toNat) ht ho hT rfl rfl hP rfl;unfold zal at this;rw[zeX] at this;exact this
theorem Fits.doSay (h:Fits p s) (ht:Turn p s t) (ho:t∉oT s) (hk:(opAt p s t).kind=1) (hn:s.said.length<64):Fits p (goOn p (Go.Proofs.YtnlijgjpgdjpiaaGreat.sayIt s (opAt p s t).arg) t):=by
 have hv:=zee (h.opv ht) (.inl hk);exact h.tell (R:=[]) ht ho (h.things.say hv hn) rfl rfl (by rw[List.append_nil];exact List.Perm.refl _) rfl
theorem zem {o:OpD} (hk:8<=o.kind):zw p o.kind=p.rooms.length:=by
 unfold zw;rw[if_neg (by omega),if_neg (by omega),if_neg (by omega),if_neg (by omega),if_neg (by omega)]
theorem Fits.doSend (h:Fits p s) (ht:Turn p s t) (ho:t∉oT s) (hk:(opAt p s t).kind=8) (hn:s.said.length<64):Fits p (doSend p s t (opAt p s t)):=by
 have hv:=h.opv ht;obtain⟨o,eo⟩:∃o,o=opAt p s t:=⟨_,rfl⟩
 rw[<-eo] at hv hk⊢;obtain⟨h0,h1⟩:=za7 hv;rw[zem (by omega)] at h1;have hi:o.on.toNat<s.chans.length:=by rw[h.nch];omega
 have hva:=zee hv (.inr (.inr hk));obtain⟨x,ex⟩:∃x,x=s.chans.getD o.on.toNat zH:=⟨_,rfl⟩
 obtain⟨ok,hroom⟩:=h.ch _ hi;rw[<-ex] at ok hroom;obtain⟨k1,k2,k3,k4,k5,k6,k7⟩:=ok;unfold Go.Proofs.YtnlijgjpgdjpiaaGreat.doSend;rw[<-ex];have hoi:((o.on.toNat:Nat):Int)=o.on:=by omega
 unfold zaO;by_cases hc:x.closed=true
 ·rw[if_pos hc];exact h.fail (by omega)
 ·rw[if_neg hc];have hcl:x.closed=false:=by simpa using hc
  cases hg:x.getters with
  |cons g gs=>
   dsimp only;rw[if_neg (by simp)];have hitems:=(k7 (by rw[hg];simp)).1;have hsnd:x.senders=[]:=by
    cases hs:x.senders with
    |nil=>rfl
    |cons a l=>have:=(k6 (by rw[hs];simp)).2.1;rw[hg] at this;cases this
   have hcount:=zcR s o.on ⟨x.room,x.items,x.senders,gs,x.closed⟩ hi;rw[<-ex] at hcount;have hP:=za8 hcount;have hsp:zZ x o.on.toNat=[((g,9,((o.on.toNat:Nat):Int),0):Ent)]++zZ (⟨x.room,x.items,x.senders,gs,x.closed⟩:ChnD) o.on.toNat:=by
    unfold zZ;rw[hsnd,hg];rfl
   rw[hsp] at hP;rw[hsnd,hg] at k5;have hT:zW p (Go.Proofs.YtnlijgjpgdjpiaaGreat.sayIt (setChn s o.on ⟨x.room,x.items,x.senders,gs,x.closed⟩) o.arg):=(h.things.setChn (x:=⟨x.room,x.items,x.senders,gs,x.closed⟩) ⟨⟨k1,k2,k3,k4,by
    show thr6 (x.senders.map (·.1)++gs);rw[hsnd];exact zfo (l:=[g]) k5,λe=>absurd hsnd e,λ_=>⟨hitems,hcl⟩⟩,hroom⟩).say hva hn
   have:=h.tell (R:=[((g,9,((o.on.toNat:Nat):Int),0):Ent)]) ht ho hT rfl rfl (ze1 hP) rfl;exact this
  |nil=>
   dsimp only;by_cases hr:(x.items.length:Int)<x.room
   ·rw[if_pos hr];dsimp only;rw[if_pos rfl];have hcount:=zcR s o.on ⟨x.room,x.items++[o.arg],x.senders,[],x.closed⟩ hi;rw[<-ex] at hcount;have hP:=za8 hcount;have hsp:zZ (⟨x.room,x.items++[o.arg],x.senders,[],x.closed⟩:ChnD) o.on.toNat=zZ x o.on.toNat:=by unfold zZ;rw[hg]
    rw[hsp] at hP;have hsnd:x.senders=[]:=by
     cases hs:x.senders with
     |nil=>rfl
     |cons a l=>have:=(k6 (by rw[hs];simp)).1;omega
    have hT:zW p (setChn s o.on ⟨x.room,x.items++[o.arg],x.senders,[],x.closed⟩):=h.things.setChn ⟨⟨k1,by
     show(((x.items++[o.arg]).length:Nat):Int)<=x.room;rw[xDh];simp;omega,λv hv=>by
     rcases xP1 hv with hv|hv
     ·exact k3 v hv
     ·rw[xS1 hv];exact hva,k4,by rw[hg] at k5;exact k5,λe=>absurd hsnd e,λe=>absurd rfl e⟩,hroom⟩
    exact h.tell (R:=[]) ht ho hT rfl rfl (by rw[List.append_nil];exact zcA hP) rfl
   ·rw[if_neg hr];dsimp only;rw[if_pos rfl];have hcount:=zcR s o.on ⟨x.room,x.items,x.senders++[(t,o.arg)],[],x.closed⟩ hi;rw[<-ex] at hcount;have hP:=za8 hcount;have hsp:zZ (⟨x.room,x.items,x.senders++[(t,o.arg)],[],x.closed⟩:ChnD) o.on.toNat=zZ x o.on.toNat++[want o t]:=by
     unfold zZ want;rw[hg,if_pos (.inr hk),hk,xDr,hoi];simp
    rw[hsp] at hP;have hin:∀u∈x.senders.map (·.1),u∈eT s:=λu hu=>by
     obtain⟨w,hw,rfl⟩:=xDl.1 hu;refine xDl.2 ⟨(w.1,8,((o.on.toNat:Nat):Int),w.2),zbJ hi ?_,rfl⟩;rw[<-ex];exact xQ1 (.inl (xDl.2 ⟨w,hw,rfl⟩))
    rw[hg,List.append_nil] at k5;have hth:=zc9 h ht k5 hin;have hT:zW p (setChn s o.on ⟨x.room,x.items,x.senders++[(t,o.arg)],[],x.closed⟩):=h.things.setChn ⟨⟨k1,k2,k3,λl hl=>by
     rcases xP1 hl with hl|hl
     ·exact k4 l hl
     ·rw[xS1 hl];exact hva,by
     show thr6 (List.map _ (x.senders++[(t,o.arg)])++[]);rw[List.append_nil,xDr];exact hth.1,λ_=>⟨by show(x.items.length:Int)=x.room;omega,rfl,hcl⟩,λe=>absurd rfl e⟩,hroom⟩
    refine h.wait ht ho hT rfl rfl (zcY (N:=zZ x o.on.toNat) ?_) rfl;rw[<-eo];exact hP
theorem Fits.doGet (h:Fits p s) (ht:Turn p s t) (ho:t∉oT s) (hk:(opAt p s t).kind=9) (hn:s.said.length<64):Fits p (doGet p s t (opAt p s t)):=by
 have hv:=h.opv ht;obtain⟨o,eo⟩:∃o,o=opAt p s t:=⟨_,rfl⟩
 rw[<-eo] at hv hk⊢;obtain⟨h0,h1⟩:=za7 hv;rw[zem (by omega)] at h1;have hi:o.on.toNat<s.chans.length:=by rw[h.nch];omega
 obtain⟨x,ex⟩:∃x,x=s.chans.getD o.on.toNat zH:=⟨_,rfl⟩
 obtain⟨ok,hroom⟩:=h.ch _ hi;rw[<-ex] at ok hroom;obtain⟨k1,k2,k3,k4,k5,k6,k7⟩:=ok;unfold Go.Proofs.YtnlijgjpgdjpiaaGreat.doGet;rw[<-ex];have hoi:((o.on.toNat:Nat):Int)=o.on:=by omega
 have hcount:=zcR s o.on (zar x t).1 hi;rw[<-ex] at hcount;have hP:=za8 hcount
 cases hs:x.senders with
 |cons l ls=>
  obtain⟨f1,f2,f3⟩:=k6 (by rw[hs];simp);have hsp:zZ x o.on.toNat=[((l.1,8,((o.on.toNat:Nat):Int),l.2):Ent)]++ls.map λw=>((w.1,8,((o.on.toNat:Nat):Int),w.2):Ent):=by
   unfold zZ;rw[hs,f2];simp
  have hl2:=k4 l (by rw[hs];simp);have k5':thr6 (ls.map (·.1)++x.getters):=by
   rw[hs] at k5;exact zfo (l:=[l.1]) k5
  have k4':∀w∈ls,0<=w.2/\w.2<=99:=λw hw=>k4 w (by rw[hs];exact List.mem_cons_of_mem _ hw)
  cases hit:x.items with
  |cons y ys=>
   have e:zar x t=(⟨x.room,ys++[l.2],ls,x.getters,x.closed⟩,y,1,[l.1]):=by unfold zar;rw[hs,hit]
   rw[e] at hP⊢;rw[if_neg (show¬(1:Int)=0 by decide),if_pos rfl];have e2:zZ (⟨x.room,ys++[l.2],ls,x.getters,x.closed⟩:ChnD) o.on.toNat=ls.map λw=>((w.1,8,((o.on.toNat:Nat):Int),w.2):Ent):=by unfold zZ;rw[f2];simp
   rw[e2,hsp] at hP;have hlen:(((ys++[l.2]).length:Nat):Int)=x.room:=by rw[hit] at f1;rw[<-f1];simp
   have hT:zW p (Go.Proofs.YtnlijgjpgdjpiaaGreat.sayIt (setChn s o.on ⟨x.room,ys++[l.2],ls,x.getters,x.closed⟩) y):=(h.things.setChn (x:=⟨x.room,ys++[l.2],ls,x.getters,x.closed⟩) ⟨⟨k1,by show(((ys++[l.2]).length:Nat):Int)<=x.room;omega,λv hv=>by
    rcases xP1 hv with hv|hv
    ·exact k3 v (by rw[hit];exact List.mem_cons_of_mem _ hv)
    ·rw[xS1 hv];exact hl2,k4',k5',λ_=>⟨hlen,f2,f3⟩,λe=>absurd f2 e⟩,hroom⟩).say (k3 y (by rw[hit];simp)) hn
   exact h.tell (R:=[((l.1,8,((o.on.toNat:Nat):Int),l.2):Ent)]) ht ho hT rfl rfl (ze1 hP) rfl
  |nil=>
   have e:zar x t=(⟨x.room,[],ls,x.getters,x.closed⟩,l.2,1,[l.1]):=by unfold zar;rw[hs,hit]
   rw[e] at hP⊢;rw[if_neg (show¬(1:Int)=0 by decide),if_pos rfl];have e2:zZ (⟨x.room,[],ls,x.getters,x.closed⟩:ChnD) o.on.toNat=ls.map λw=>((w.1,8,((o.on.toNat:Nat):Int),w.2):Ent):=by unfold zZ;rw[f2];simp
   rw[e2,hsp] at hP;rw[hit] at f1;have hT:zW p (Go.Proofs.YtnlijgjpgdjpiaaGreat.sayIt (setChn s o.on ⟨x.room,[],ls,x.getters,x.closed⟩) l.2):=(h.things.setChn (x:=⟨x.room,[],ls,x.getters,x.closed⟩) ⟨⟨k1,by rw[hit] at k2;exact k2,λv hv=>(by cases hv),k4',k5',λ_=>⟨f1,f2,f3⟩,λe=>absurd f2 e⟩,hroom⟩).say hl2 hn;exact h.tell (R:=[((l.1,8,((o.on.toNat:Nat):Int),l.2):Ent)]) ht ho hT rfl rfl (ze1 hP) rfl
 |nil=>
  rw[hs,List.map_nil,xDq] at k5
  cases hit:x.items with
  |cons y ys=>
   have hg:x.getters=[]:=by
    cases hg:x.getters with
    |nil=>rfl
    |cons a l=>have:=(k7 (by rw[hg];simp)).1;rw[hit] at this;cases this
   have e:zar x t=(⟨x.room,ys,[],x.getters,x.closed⟩,y,1,[]):=by unfold zar;rw[hs,hit]
   rw[e] at hP⊢;rw[if_neg (show¬(1:Int)=0 by decide),if_pos rfl];have e2:zZ (⟨x.room,ys,[],x.getters,x.closed⟩:ChnD) o.on.toNat=zZ x o.on.toNat:=by unfold zZ;rw[hs]
   rw[e2] at hP;have hT:zW p (Go.Proofs.YtnlijgjpgdjpiaaGreat.sayIt (setChn s o.on ⟨x.room,ys,[],x.getters,x.closed⟩) y):=(h.things.setChn (x:=⟨x.room,ys,[],x.getters,x.closed⟩) ⟨⟨k1,by
    show((ys.length:Nat):Int)<=x.room;rw[hit,List.length_cons] at k2;omega,λv hv=>k3 v (by rw[hit];exact List.mem_cons_of_mem _ hv),λl hl=>(by cases hl),by show thr6 ([]++x.getters);exact k5,λe=>absurd rfl e,λe=>absurd hg e⟩,hroom⟩).say (k3 y (by rw[hit];simp)) hn
   exact h.tell (R:=[]) ht ho hT rfl rfl (by rw[List.append_nil];exact zcA hP) rfl
  |nil=>
   by_cases hc:x.closed=true
   ·have e:zar x t=(x,0,2,[]):=by unfold zar;rw[hs,hit];dsimp only;rw[if_pos hc]
    rw[e] at hP⊢;rw[if_neg (show¬(2:Int)=0 by decide),if_neg (show¬(2:Int)=1 by decide)];have hT:zW p (setChn s o.on x):=h.things.setChn ⟨⟨k1,k2,k3,k4,by rw[hs];exact k5,k6,k7⟩,hroom⟩;exact h.tell (R:=[]) ht ho hT rfl rfl (by rw[List.append_nil];exact zcA hP) rfl
   ·have hcl:x.closed=false:=(by simpa using hc);have e:zar x t=(⟨x.room,[],[],x.getters++[t],x.closed⟩,0,0,[]):=by unfold zar;rw[hs,hit];dsimp only;rw[if_neg hc]
    rw[e] at hP⊢;rw[if_pos rfl];have hin:∀u∈x.getters,u∈eT s:=λu hu=>by
     refine xDl.2 ⟨(u,9,((o.on.toNat:Nat):Int),0),zbJ hi ?_,rfl⟩;rw[<-ex];exact xQ1 (.inr (xDl.2 ⟨u,hu,rfl⟩))
    have hth:=zc9 h ht k5 hin;have hT:zW p (setChn s o.on ⟨x.room,[],[],x.getters++[t],x.closed⟩):=h.things.setChn (x:=⟨x.room,[],[],x.getters++[t],x.closed⟩) ⟨⟨k1,by rw[hit] at k2;exact k2,λv hv=>(by cases hv),λl hl=>(by cases hl),by show thr6 ([]++(x.getters++[t]));exact hth.1,λe=>absurd rfl e,λ_=>⟨rfl,hcl⟩⟩,hroom⟩;refine h.wait ht ho hT rfl rfl (zcY (N:=zZ x o.on.toNat) ?_) rfl;rw[<-eo];have e2:zZ (⟨x.room,[],[],x.getters++[t],x.closed⟩:ChnD) o.on.toNat=zZ x o.on.toNat++[want o t]:=by
     unfold zZ want;rw[hs,if_neg (by omega),hk,hoi];simp
    rw[e2] at hP;exact hP
theorem Fits.doClose (h:Fits p s) (ht:Turn p s t) (ho:t∉oT s) (hk:(opAt p s t).kind=10):Fits p (doClose p s t (opAt p s t)):=by
 have hv:=h.opv ht;obtain⟨o,eo⟩:∃o,o=opAt p s t:=⟨_,rfl⟩
 rw[<-eo] at hv hk⊢;obtain⟨h0,h1⟩:=za7 hv;rw[zem (by omega)] at h1;have hi:o.on.toNat<s.chans.length:=by rw[h.nch];omega
 obtain⟨x,ex⟩:∃x,x=s.chans.getD o.on.toNat zH:=⟨_,rfl⟩
 obtain⟨ok,hroom⟩:=h.ch _ hi;rw[<-ex] at ok hroom;obtain⟨k1,k2,k3,k4,k5,k6,k7⟩:=ok;unfold Go.Proofs.YtnlijgjpgdjpiaaGreat.doClose;rw[<-ex];unfold zaS;by_cases hc:x.closed=true\/x.senders≠[]
 ·rw[if_pos hc];exact h.fail (by omega)
 ·rw[if_neg hc];have hsnd:x.senders=[]:=by
   by_cases hs:x.senders=[]
   ·exact hs
   ·exact absurd (.inr hs) hc
  dsimp only;have hcount:=zcR s o.on ⟨x.room,x.items,x.senders,[],true⟩ hi;rw[<-ex] at hcount;have hP:=za8 hcount;have e1:zZ (⟨x.room,x.items,x.senders,[],true⟩:ChnD) o.on.toNat=[]:=by unfold zZ;rw[hsnd];rfl
  have e2:zZ x o.on.toNat=x.getters.map λu=>((u,9,((o.on.toNat:Nat):Int),0):Ent):=by unfold zZ;rw[hsnd];rfl
  rw[e1,e2,List.append_nil] at hP;have hT:zW p (setChn s o.on ⟨x.room,x.items,x.senders,[],true⟩):=h.things.setChn ⟨⟨k1,k2,k3,k4,by
   show thr6 (x.senders.map (·.1)++[]);rw[hsnd];exact zb2,λe=>absurd hsnd e,λe=>absurd rfl e⟩,hroom⟩
  have:=h.tell (R:=x.getters.map λu=>((u,9,((o.on.toNat:Nat):Int),0):Ent)) ht ho hT rfl rfl hP rfl;rw[zeX] at this;exact this
end
theorem zi7:∀(l:List Int) (i:Nat) (x:Int),i<l.length->(l.set i x).sum=l.sum-l.getD i 0+x
 |[],_,_,h=>by simp at h
 |a::l,0,x,_=>by simp;omega
 |a::l,i+1,x,h=>by
  have ih:=zi7 l i x (by simpa using h);simp only[List.set_cons_succ,List.sum_cons,List.getD_cons_succ];omega
theorem zjL:∀(l:List Int) (n:Int),(∀x∈l,x<=n)->l.sum<=n*l.length
 |[],n,_=>by simp
 |a::l,n,h=>by
  have ih:=zjL l n (λx hx=>h x (List.mem_cons_of_mem _ hx));have h1:=h a (by simp);have e:n*((a::l).length:Int)=n*(l.length:Int)+n:=by
   rw[List.length_cons];have:((l.length+1:Nat):Int)=(l.length:Int)+1:=(by omega);rw[this,Int.mul_add,Int.mul_one]
  rw[List.sum_cons,e];omega
section
variable {p:Pg}
theorem zfU (s:StD) (t:Int) (h:t.toNat<s.places.length):(goOn p s t).places.sum=s.places.sum+1:=by
 show(s.places.set t.toNat _).sum=_;rw[zi7 _ _ _ h];omega
theorem zew (s:StD) (t:Int):s.places.sum<=(goOn p s t).places.sum:=by
 by_cases h:t.toNat<s.places.length
 ·rw[zfU s t h];omega
 ·show s.places.sum<=(s.places.set t.toNat _).sum;rw[List.set_eq_of_length_le (by omega)];exact Int.le_refl _
theorem zby:∀(l:List Int) (s:StD),s.places.sum<=(goAll p s l).places.sum
 |[],_=>Int.le_refl _
 |t::l,s=>Int.le_trans (zew s t) (zby l (goOn p s t))
theorem zdu (l:List Int) (s:StD) (t:Int) (h:t.toNat<s.places.length):s.places.sum+1<=(goAll p s (l++[t])).places.sum:=by
 rw[<-zdS,zfU _ _ (by rw[zaB];exact h)];have:=zby (p:=p) l s;omega
structure Run (p:Pg) (s:StD):Prop where
 fits:Fits p s
 said:(s.said.length:Int)<=s.places.sum
 rnd:∀i,(s.bars.getD i zE).round<=s.places.sum
theorem Fits.places8 {s:StD} (h:Fits p s):∀x∈s.places,x<=8:=by
 intro x hx;obtain⟨i,hi,rfl⟩:=List.mem_iff_getElem.1 hx;rw[h.np] at hi;have h1:=h.th i hi;unfold thOk at h1;rw[show((i:Nat):Int).toNat=i by simp,zbj] at h1;have e:s.places.getD i 0=s.places[i]'(by rw[h.np];exact hi):=by rw[xDa,xDb (by rw[h.np];exact hi)];rfl
 rw[e] at h1;have h8:(p.threads.getD i []).length<=8:=by
  have hv:=h.prog;unfold zu at hv;simp only[Bool.and_eq_true,List.all_eq_true,decide_eq_true_eq] at hv;rw[xDa,xDb hi];exact(hv.2 _ (List.getElem_mem hi)).1
 omega
theorem Fits.sum32 {s:StD} (h:Fits p s):s.places.sum<=32:=by
 have h1:=zjL s.places 8 h.places8;have h2:=(zcn h.prog).2;have h3:=h.np;omega
theorem Run.of {s s':StD} (h:Run p s) (hF:Fits p s') (hs:s.places.sum<=s'.places.sum) (h1:s'.said.length<=s.said.length\/(s'.said.length<=s.said.length+1/\s.places.sum+1<=s'.places.sum)) (h2:∀i,(s'.bars.getD i zE).round<=(s.bars.getD i zE).round\/((s'.bars.getD i zE).round<=(s.bars.getD i zE).round+1/\s.places.sum+1<=s'.places.sum)):Run p s':=by
 refine⟨hF,?_,λi=> ?_⟩
 ·have:=h.said;omega
 ·have:=h.rnd i;have:=h2 i;omega
theorem Run.keep {s s':StD} (h:Run p s) (hF:Fits p s') (hs:s.places.sum<=s'.places.sum) (h1:s'.said=s.said) (h2:s'.bars=s.bars):Run p s':=
 h.of hF hs (.inl (by rw[h1];exact Nat.le_refl _)) (λi=> .inl (by rw[h2];exact Int.le_refl _))
theorem Run.spoken {s s':StD} (h:Run p s) (hF:Fits p s') (hs:s.places.sum+1<=s'.places.sum) (h1:s'.said.length<=s.said.length+1) (h2:s'.bars=s.bars):Run p s':=
 h.of hF (by omega) (.inr ⟨h1,hs⟩) (λi=> .inl (by rw[h2];exact Int.le_refl _))
theorem zdE (s:StD) (t:Int) (b:Bool):(zaN p s t b).said=s.said:=by unfold zaN;split<;>rfl
theorem zdy (s:StD) (t:Int) (b:Bool):(zaN p s t b).bars=s.bars:=by unfold zaN;split<;>rfl
theorem zeS (s:StD) (t:Int) (b:Bool):s.places.sum<=(zaN p s t b).places.sum:=by
 unfold zaN;split
 ·exact zew s t
 ·exact Int.le_refl _
theorem Run.step {s:StD} {t:Int} (h:Run p s) (ht:Turn p s t):Run p (zx p s t):=by
 have hF:=h.fits;have hs32:=hF.sum32;have hsaid:s.said.length<64:=by have:=h.said;omega
 have hrd:∀i,(s.bars.getD i zE).round<9999:=λi=>by have:=h.rnd i;omega
 have htl:t.toNat<s.places.length:=by have:=ht.rg;rw[hF.np];omega
 have hk:=zg1 (hF.opv ht);have hno:(opAt p s t).kind≠4->t∉oT s:=λhne=>by
  rcases ht.st with ⟨-,h1⟩|⟨-,h1,-⟩
  ·exact h1
  ·exact absurd h1 hne
 unfold zx;by_cases k1:(opAt p s t).kind=1
 ·rw[if_pos k1];refine h.spoken (hF.doSay ht (hno (by omega)) k1 hsaid) ?_ ?_ rfl
  ·have e:=zfU (p:=p) (sayIt s (opAt p s t).arg) t htl;rw[e];exact Int.le_refl _
  ·show(s.said++[(opAt p s t).arg]).length<=_;rw[xDh];exact Nat.le_refl _
 rw[if_neg k1];by_cases k2:(opAt p s t).kind=2
 ·rw[if_pos k2];exact h.keep (hF.doSem ht (hno (by omega)) k2) (zeS _ _ _) (zdE _ _ _) (zdy _ _ _)
 rw[if_neg k2];by_cases k3:(opAt p s t).kind=3
 ·rw[if_pos k3];have hf:=hF.doRel ht (hno (by omega)) k3;revert hf;unfold doRel
  cases zbd (s.sems.getD (opAt p s t).on.toNat zG) (opAt p s t).arg with
  |none=>exact λhf=>h.keep hf (Int.le_refl _) rfl rfl
  |some x=>exact λhf=>h.keep hf (zby _ _) (zaY _ _) (zaX _ _)
 rw[if_neg k3];by_cases k4:(opAt p s t).kind=4
 ·rw[if_pos k4];have hf:=hF.doOnce ht k4;revert hf;unfold doOnce;split
  ·exact λhf=>h.keep hf (zby _ _) (zaY _ _) (zaX _ _)
  ·split
   ·exact λhf=>h.keep hf (Int.le_refl _) rfl rfl
   ·split
    ·exact λhf=>h.keep hf (Int.le_refl _) rfl rfl
    ·exact λhf=>h.keep hf (zew _ _) rfl rfl
 rw[if_neg k4];by_cases k5:(opAt p s t).kind=5
 ·rw[if_pos k5];have hf:=hF.doAdd ht (hno (by omega)) k5;revert hf;unfold doAdd
  cases zaU (s.groups.getD (opAt p s t).on.toNat zQ) (opAt p s t).arg with
  |none=>exact λhf=>h.keep hf (Int.le_refl _) rfl rfl
  |some x=>exact λhf=>h.keep hf (zby _ _) (zaY _ _) (zaX _ _)
 rw[if_neg k5];by_cases k6:(opAt p s t).kind=6
 ·rw[if_pos k6];exact h.keep (hF.doWait ht (hno (by omega)) k6) (zeS _ _ _) (zdE _ _ _) (zdy _ _ _)
 rw[if_neg k6];by_cases k7:(opAt p s t).kind=7
 ·rw[if_pos k7];have hf:=hF.doCome ht (hno (by omega)) k7 hrd;revert hf;unfold doCome;obtain⟨o,eo⟩:∃o,o=opAt p s t:=⟨_,rfl⟩
  rw[<-eo];have hset:∀(y:BarD) (d:Int),y.round<=(s.bars.getD o.on.toNat zE).round+d->0<=d->∀i,((setBar s o.on y).bars.getD i zE).round<=(s.bars.getD i zE).round+d:=by
   intro y d hy hd i;show((s.bars.set o.on.toNat y).getD i zE).round<=_;rw[zaI];by_cases hi:i=o.on.toNat/\o.on.toNat<s.bars.length
   ·rw[if_pos hi,hi.1];exact hy
   ·rw[if_neg hi];omega
  by_cases hlt:((s.bars.getD o.on.toNat zE).waits.length:Int)+1<(s.bars.getD o.on.toNat zE).parties
  ·have e:zaA (s.bars.getD o.on.toNat zE) t=(⟨(s.bars.getD o.on.toNat zE).parties,(s.bars.getD o.on.toNat zE).round,(s.bars.getD o.on.toNat zE).waits++[t]⟩,[]):=by unfold zaA;rw[if_pos hlt]
   rw[e,if_pos rfl];intro hf;refine h.of hf (Int.le_refl _) (.inl xL1) (λi=> .inl ?_);have:=hset ⟨(s.bars.getD o.on.toNat zE).parties,(s.bars.getD o.on.toNat zE).round,(s.bars.getD o.on.toNat zE).waits++[t]⟩ 0 (by show(s.bars.getD o.on.toNat zE).round<=_;omega) (by omega) i;rw[Int.add_zero] at this;exact this
  ·have e:zaA (s.bars.getD o.on.toNat zE) t=(⟨(s.bars.getD o.on.toNat zE).parties,(s.bars.getD o.on.toNat zE).round+1,[]⟩,(s.bars.getD o.on.toNat zE).waits++[t]):=by unfold zaA;rw[if_neg hlt]
   rw[e,if_neg (by simp)];intro hf;have hsum:s.places.sum+1<=(goAll p (setBar s o.on ⟨(s.bars.getD o.on.toNat zE).parties,(s.bars.getD o.on.toNat zE).round+1,[]⟩) ((s.bars.getD o.on.toNat zE).waits++[t])).places.sum:=zdu (p:=p) (s.bars.getD o.on.toNat zE).waits (setBar s o.on ⟨(s.bars.getD o.on.toNat zE).parties,(s.bars.getD o.on.toNat zE).round+1,[]⟩) t htl;refine h.of hf (Int.le_trans (by omega) hsum) (.inl (by rw[zaY];exact Nat.le_refl _)) (λi=> .inr ⟨?_,hsum⟩);rw[zaX];exact hset ⟨(s.bars.getD o.on.toNat zE).parties,(s.bars.getD o.on.toNat zE).round+1,[]⟩ 1 (Int.le_refl _) (by omega) i
 rw[if_neg k7];by_cases k8:(opAt p s t).kind=8
 ·rw[if_pos k8];have hf:=hF.doSend ht (hno (by omega)) k8 hsaid;revert hf;unfold doSend
  cases hc:zaO (s.chans.getD (opAt p s t).on.toNat zH) t (opAt p s t).arg with
  |none=>exact λhf=>h.keep hf (Int.le_refl _) rfl rfl
  |some x=>
   obtain⟨x,l,b⟩:=x;dsimp only;by_cases hl:l=[]
   ·rw[if_pos hl];intro hf;refine h.keep hf (Int.le_trans (zby (p:=p) l (setChn s (opAt p s t).on x)) (zeS _ _ _)) ?_ ?_
    ·rw[zdE,zaY];rfl
    ·rw[zdy,zaX];rfl
   ·rw[if_neg hl];intro hf;have hb:b=true:=by
     unfold zaO at hc;split at hc
     ·cases hc
     ·split at hc
      ·cases hc;rfl
      ·split at hc
       ·cases hc;exact absurd rfl hl
       ·cases hc;exact absurd rfl hl
    subst hb;refine h.spoken hf ?_ ?_ ?_
    ·unfold zaN;rw[if_pos rfl,zdS];exact zdu _ (sayIt (setChn s (opAt p s t).on x) (opAt p s t).arg) t htl
    ·rw[zdE,zaY];show(s.said++[(opAt p s t).arg]).length<=_;rw[xDh];exact Nat.le_refl _
    ·rw[zdy,zaX];rfl
 rw[if_neg k8];by_cases k9:(opAt p s t).kind=9
 ·rw[if_pos k9];have hf:=hF.doGet ht (hno (by omega)) k9 hsaid;revert hf;unfold doGet;split
  ·exact λhf=>h.keep hf (Int.le_refl _) rfl rfl
  ·split
   ·intro hf;refine h.spoken hf (zdu _ (sayIt _ _) t htl) ?_ ?_
    ·rw[zaY];show(s.said++[_]).length<=_;rw[xDh];exact Nat.le_refl _
    ·rw[zaX];rfl
   ·exact λhf=>h.keep hf (zby _ _) (zaY _ _) (zaX _ _)
 rw[if_neg k9];have hf:=hF.doClose ht (hno (by omega)) (by omega);revert hf;unfold doClose
 cases zaS (s.chans.getD (opAt p s t).on.toNat zH) with
 |none=>exact λhf=>h.keep hf (Int.le_refl _) rfl rfl
 |some x=>exact λhf=>h.keep hf (zby _ _) (zaY _ _) (zaX _ _)
end
theorem zd0 {l:List Int} {lo hi:Int} (h:zai l lo hi=true) {i:Nat} (hi':i<l.length):lo<=l.getD i 0/\l.getD i 0<=hi:=by
 unfold zai at h;simp only[Bool.and_eq_true,List.all_eq_true,decide_eq_true_eq] at h;rw[xDa,xDb hi'];exact h.2 _ (List.getElem_mem hi')
theorem zd5 {α β:Type} (f:α->β) (l:List α) (d:α) (e:β) {i:Nat} (hi:i<l.length):(l.map f).getD i e=f (l.getD i d):=by
 rw[xDa,List.getElem?_map,xDb hi,xDa,xDb hi];rfl
theorem zc0 {α:Type} {f:Nat->List α}:∀{n:Nat},(∀i,i<n->f i=[])->allE f n=[]
 |0,_=>rfl
 |n+1,h=>by rw[allE,zc0 (λi hi=>h i (by omega)),h n (by omega)];rfl
theorem Run.start {p:Pg} (hv:zu p=true):Run p (zae p):=by
 have hv':=hv;unfold zu at hv';simp only[Bool.and_eq_true] at hv';obtain⟨⟨⟨⟨⟨⟨w1,w2⟩,w3⟩,w4⟩,-⟩,-⟩,-⟩:=hv';have gS:∀i,i<p.sems.length->(zae p).sems.getD i zG=⟨p.sems.getD i 0,p.sems.getD i 0,[]⟩:=λi hi=>zd5 (λn:Int=>(⟨n,n,[]⟩:SemD)) p.sems 0 zG hi;have gO:∀i,i<3->(zae p).onces.getD i zq=zq:=λi hi=>by
  show(List.replicate 3 zq).getD i zq=zq;rw[xDa,List.getElem?_replicate];split<;>rfl
 have gG:∀i,i<p.groups.length->(zae p).groups.getD i zQ=⟨p.groups.getD i 0,[]⟩:=λi hi=>zd5 (λn:Int=>(⟨n,[]⟩:GrpD)) p.groups 0 zQ hi;have gB:∀i,i<p.barriers.length->(zae p).bars.getD i zE=⟨p.barriers.getD i 0,0,[]⟩:=λi hi=>zd5 (λn:Int=>(⟨n,0,[]⟩:BarD)) p.barriers 0 zE hi;have gC:∀i,i<p.rooms.length->(zae p).chans.getD i zH=⟨p.rooms.getD i 0,[],[],[],false⟩:=λi hi=>zd5 (λn:Int=>(⟨n,[],[],[],false⟩:ChnD)) p.rooms 0 zH hi;have l1:(zae p).sems.length=p.sems.length:=xDf _;have l2:(zae p).onces.length=3:=List.length_replicate;have l3:(zae p).groups.length=p.groups.length:=xDf _;have l4:(zae p).bars.length=p.barriers.length:=xDf _;have l5:(zae p).chans.length=p.rooms.length:=xDf _;have l6:(zae p).places.length=p.threads.length:=xDf _;have l7:(zae p).status.length=p.threads.length:=xDf _;have eE:ents (zae p)=[]:=by
  unfold ents;rw[zc0 (λi hi=>by rw[gS i (by omega)];rfl),zc0 (λi hi=>by rw[gO i (by omega)];rfl),zc0 (λi hi=>by rw[gG i (by omega)];rfl),zc0 (λi hi=>by rw[gB i (by omega)];rfl),zc0 (λi hi=>by rw[gC i (by omega)];rfl)];rfl
 have eO:owns (zae p)=[]:=by
  unfold owns;exact zc0 (λi hi=>by rw[gO i (by omega)];rfl)
 have eTn:eT (zae p)=[]:=by unfold eT;rw[eE];rfl
 have oTn:oT (zae p)=[]:=by unfold oT;rw[eO];rfl
 have hsum:(zae p).places.sum=0:=by
  show(p.threads.map λ_=>(0:Int)).sum=0;generalize p.threads=l
  induction l with
  |nil=>rfl
  |cons a l ih=>simpa using ih
 refine⟨⟨hv,l6,l7,l1,l2,l3,l4,l5,by show(0:Nat)<=64;omega,⟨by show(0:Int)<=0;omega,by show(0:Int)<=4;omega⟩,λi hi=> ?_,λi hi=> ?_,λi hi=> ?_,λi hi=> ?_,λi hi=> ?_,λv hv=>(by cases hv),by rw[eE];simp,by rw[eO];simp,by rw[eTn];simp,by rw[oTn];simp,λt ht=> ?_⟩,by rw[hsum];exact Int.le_refl _,λi=> ?_⟩
 ·rw[gS i (by omega)];have:=zd0 w1 (i:=i) (by omega);exact⟨⟨this,⟨by show 0<=p.sems.getD i 0;omega,Int.le_refl _⟩,λw hw=>(by cases hw),zb2,λw q h=>(by cases h)⟩,rfl⟩
 ·rw[gO i (by omega)];exact .inl ⟨rfl,rfl,rfl,rfl⟩
 ·rw[gG i (by omega)];have:=zd0 w2 (i:=i) (by omega);exact⟨⟨this.1,by show p.groups.getD i 0<=99;omega⟩,zb2,λ_=>rfl⟩
 ·rw[gB i (by omega)];have:=zd0 w3 (i:=i) (by omega);exact⟨⟨this,⟨Int.le_refl _,by show(0:Int)<=9999;omega⟩,zb2,by show((0:Nat):Int)<p.barriers.getD i 0;omega⟩,rfl⟩
 ·rw[gC i (by omega)];have:=zd0 w4 (i:=i) (by omega);exact⟨⟨this,this.1,λv hv=>(by cases hv),λl hl=>(by cases hl),zb2,λe=>absurd rfl e,λe=>absurd rfl e⟩,rfl⟩
 ·unfold thOk;rw[eTn,oTn];have e1:(zae p).places.getD ((t:Nat):Int).toNat 0=0:=by
   rw[show((t:Nat):Int).toNat=t by simp];exact zd5 (λ_:List OpD=>(0:Int)) p.threads [] 0 ht
  have e2:(zae p).status.getD ((t:Nat):Int).toNat 0=if (p.threads.getD t []).length=0 then 3 else 0:=by
   rw[show((t:Nat):Int).toNat=t by simp];exact zd5 (λl:List OpD=>if l.length=0 then (3:Int) else 0) p.threads [] 0 ht
  rw[e1,e2,zbj];refine⟨Int.le_refl _,by omega,?_⟩;by_cases h0:(p.threads.getD t []).length=0
  ·rw[if_pos h0,h0];exact .inl ⟨rfl,rfl,by simp,by simp⟩
  ·rw[if_neg h0];exact .inr ⟨by omega,.inl ⟨rfl,by simp,by simp⟩⟩
 ·rw[hsum];by_cases hi:i<p.barriers.length
  ·rw[gB i hi];exact Int.le_refl _
  ·rw[xDa,List.getElem?_eq_none (by omega)];exact Int.le_refl _
end Go.Proofs.YtnlijgjpgdjpiaaGreat
namespace Go.Proofs.YtnlijgjpgdjpiaaGreat
open Go.RowKit
def Told (p:Pg) (s:StD) (l:List Int):Prop:=l.length<=8/\∀z∈l,0<=z/\z<p.threads.length/\z<s.places.length
theorem zdG {w W0 W:World} {k:List It} {v:StV} {L:StL} {s:StD} (h:Sf w W0 k v L s) {u:SlV} {l:List Int} {E:TypeId} (ho:W.ownsRow W0.heap.size E 1 u.val u.n (ints l)) (hE:E∉zeF:=by decide):SlR v.blks W u (ints l) l.length:=by
 have h1:=h.apart (SlN.of_owns (w0:=W0) (w:=W) ho xL1 hE);have h2:u.n=l.length:=by have:=ho.1;simp only[ints,xDf] at this;omega
 exact⟨h2,h1.rd,h1.far.imp id (λh b hb hm=>h b hb (xQ1 (.inr hm))),h1.cap⟩
theorem SlR.drew {S:List Nat} {w:World} {s:SlV} {cs:List Value} {k:Nat} (h:SlR S w s cs k):SlR S w.drew s cs k:=h.below xB1.drew
variable {p:Pg} {s:StD}
theorem Fits.told {l:List Int} (h:Fits p s) (hm:∀z∈l,z∈eT s) (hl:l.length<=6):Told p s l:=
 ⟨by omega,λz hz=>by have:=(h.waits (hm z hz)).1;have:=h.np;omega⟩
theorem zb4:Told p s []:=⟨by simp,by simp⟩
theorem ziu (h:Fits p s) {i:Nat} (hi:i<s.sems.length) {m:Int} (hm:0<=m) {y:SemD} {l:List Int} (e:zbd (s.sems.getD i zG) m=some (y,l)):Told p s l:=by
 have ok:=(h.se i hi).1;unfold zbd at e;split at e
 ·obtain⟨P,N,e1,e2,-⟩:=zeD (s.sems.getD i zG).queue ((s.sems.getD i zG).free+m) (by have:=ok.2.1;omega) (λw hw=>(ok.2.2.1 w hw).1);obtain rfl:l=P.map (·.1):=by rw[<-e2];exact(Prod.mk.inj (Option.some.inj e)).2.symm
  have h6:(s.sems.getD i zG).queue.length<=6:=by simpa using ok.2.2.2.1.1
  refine h.told (λz hz=> ?_) (by rw[xDf];rw[e1,xDh] at h6;omega);obtain⟨y,hy,rfl⟩:=xDl.1 hz;exact xDl.2 ⟨(y.1,2,(i:Int),y.2),zdB hi (xDl.2 ⟨y,by rw[e1];exact xQ1 (.inl hy),rfl⟩),rfl⟩
 ·cases e
theorem zg7 (h:Fits p s) {i:Nat} (hi:i<s.onces.length):Told p s (s.onces.getD i zq).waits:=
 h.told (λz hz=>xDl.2 ⟨(z,4,(i:Int),0),zei hi (xDl.2 ⟨z,hz,rfl⟩),rfl⟩) (zga (h.on i hi))
theorem zjJ (h:Fits p s) {i:Nat} (hi:i<s.groups.length):Told p s (s.groups.getD i zQ).waits:=
 h.told (λz hz=>xDl.2 ⟨(z,6,(i:Int),0),zdC hi (xDl.2 ⟨z,hz,rfl⟩),rfl⟩) (h.gr i hi).2.1.1
theorem zit (h:Fits p s) {i:Nat} (hi:i<s.groups.length) {m:Int} {y:GrpD} {l:List Int} (e:zaU (s.groups.getD i zQ) m=some (y,l)):Told p s l:=by
 have h1:=zjJ h hi;unfold zaU at e;split at e
 ·split at e
  ·obtain rfl:=(Prod.mk.inj (Option.some.inj e)).2;exact h1
  ·obtain rfl:=(Prod.mk.inj (Option.some.inj e)).2;exact zb4
 ·cases e
theorem zhU (h:Fits p s) {i:Nat} (hi:i<s.bars.length) {t:Int} (ht:0<=t/\t<p.threads.length/\t<s.places.length) {y:BarD} {l:List Int} (e:zaA (s.bars.getD i zE) t=(y,l)):Told p s l:=by
 have h1:Told p s (s.bars.getD i zE).waits:=h.told (λz hz=>xDl.2 ⟨(z,7,(i:Int),0),zdz hi (xDl.2 ⟨z,hz,rfl⟩),rfl⟩) (h.ba i hi).1.2.2.1.1;have h6:=(h.ba i hi).1.2.2.1.1;unfold zaA at e;split at e
 ·obtain rfl:=(Prod.mk.inj e).2;exact zb4
 ·obtain rfl:=(Prod.mk.inj e).2;refine⟨by rw[xDh];show _+1<=8;omega,λz hz=> ?_⟩;rcases xP1 hz with hz|hz
  ·exact h1.2 z hz
  ·obtain rfl:=xS1 hz;exact ht
theorem zhe (h:Fits p s) {i:Nat} (hi:i<s.chans.length):Told p s (s.chans.getD i zH).getters:=
 h.told (λz hz=>xDl.2 ⟨(z,9,(i:Int),0),zbJ hi (xQ1 (.inr (xDl.2 ⟨z,hz,rfl⟩))),rfl⟩) (by have:=(h.ch i hi).1.2.2.2.2.1.1;rw[xDh] at this;omega)
theorem zdK {i:Nat} (hi:i<s.chans.length):∀z∈(s.chans.getD i zH).senders,z.1∈eT s:=λz hz=>
 xDl.2 ⟨(z.1,8,(i:Int),z.2),zbJ hi (xQ1 (.inl (xDl.2 ⟨z,hz,rfl⟩))),rfl⟩
theorem zhc (h:Fits p s) {i:Nat} (hi:i<s.chans.length) {t v:Int} {y:ChnD} {l:List Int} {b:Bool} (e:zaO (s.chans.getD i zH) t v=some (y,l,b)):Told p s l/\(l=[]\/∃g,l=[g]/\b=true):=by
 have h1:=zhe h hi;unfold zaO at e;split at e
 ·cases e
 ·split at e
  ·next g gs eg=>
   obtain rfl:[g]=l:=(Prod.mk.inj (Prod.mk.inj (Option.some.inj e)).2).1;exact⟨⟨by simp,λz hz=>h1.2 z (by rw[eg,xS1 hz];exact List.mem_cons_self)⟩,.inr ⟨g,rfl,(Prod.mk.inj (Prod.mk.inj (Option.some.inj e)).2).2.symm⟩⟩
  ·split at e
   ·obtain rfl:=(Prod.mk.inj (Prod.mk.inj (Option.some.inj e)).2).1;exact⟨zb4,.inl rfl⟩
   ·obtain rfl:=(Prod.mk.inj (Prod.mk.inj (Option.some.inj e)).2).1;exact⟨zb4,.inl rfl⟩
theorem zh6 (h:Fits p s) {i:Nat} (hi:i<s.chans.length) {t v how:Int} {y:ChnD} {l:List Int} (e:zar (s.chans.getD i zH) t=(y,v,how,l)):Told p s l/\(how=0->l=[])/\(how=0\/how=1\/how=2):=by
 have h1:=zdK hi;have one:∀z,(z:Int×Int)∈(s.chans.getD i zH).senders->Told p s [z.1]:=λz hz=>h.told (λa ha=>by rw[xS1 ha];exact h1 z hz) (by simp);unfold zar at e;split at e
 ·next l1 ls es=>
  split at e
  ·obtain⟨-,e1⟩:=Prod.mk.inj e;obtain⟨-,e2⟩:=Prod.mk.inj e1;obtain⟨rfl,rfl⟩:=Prod.mk.inj e2;exact⟨one l1 (by rw[es];exact List.mem_cons_self),by omega,by omega⟩
  ·obtain⟨-,e1⟩:=Prod.mk.inj e;obtain⟨-,e2⟩:=Prod.mk.inj e1;obtain⟨rfl,rfl⟩:=Prod.mk.inj e2;exact⟨one l1 (by rw[es];exact List.mem_cons_self),by omega,by omega⟩
 ·split at e
  ·obtain⟨-,e1⟩:=Prod.mk.inj e;obtain⟨-,e2⟩:=Prod.mk.inj e1;obtain⟨rfl,rfl⟩:=Prod.mk.inj e2;exact⟨zb4,λ_=>rfl,by omega⟩
  ·split at e
   ·obtain⟨-,e1⟩:=Prod.mk.inj e;obtain⟨-,e2⟩:=Prod.mk.inj e1;obtain⟨rfl,rfl⟩:=Prod.mk.inj e2;exact⟨zb4,λ_=>rfl,by omega⟩
   ·obtain⟨-,e1⟩:=Prod.mk.inj e;obtain⟨-,e2⟩:=Prod.mk.inj e1;obtain⟨rfl,rfl⟩:=Prod.mk.inj e2;exact⟨zb4,λ_=>rfl,by omega⟩
theorem zgH (h:Fits p s) {i:Nat} (hi:i<s.chans.length) {y:ChnD} {l:List Int} (e:zaS (s.chans.getD i zH)=some (y,l)):Told p s l:=by
 unfold zaS at e;split at e
 ·cases e
 ·obtain rfl:=(Prod.mk.inj (Option.some.inj e)).2;exact zhe h hi
theorem ze9 (s:StD) (t:Int) (b:Bool) (i:Nat):s.places.getD i 0<=(zaN p s t b).places.getD i 0:=by
 unfold zaN;split
 ·exact(zaC [t] s i).1
 ·exact Int.le_refl _
theorem le8 {s1 s2:StD} (h:Fits p s2) (h0:∀i,0<=s.places.getD i 0) (h1:∀i,s.places.getD i 0<=s1.places.getD i 0) (h2:∀i,s1.places.getD i 0<=s2.places.getD i 0):∀i,0<=s1.places.getD i 0/\s1.places.getD i 0<=8:=λi=>by
 have:=h.place_le i;have:=h0 i;have:=h1 i;have:=h2 i;omega
theorem zhp:∀(l:List Int) (s:StD) (v:Int),sayIt (goAll p s l) v=goAll p (sayIt s v) l
 |[],_,_=>rfl
 |t::l,s,v=>zhp l (goOn p s t) v
theorem zjF {i:Nat} {t:Int} (h:(t,(i:Int))∈owns s):i<s.onces.length/\(s.onces.getD i zq).state=1/\(s.onces.getD i zq).owner=t:=by
 obtain⟨k,hk,hm⟩:=za9.1 h;unfold zaq at hm;split at hm
 ·next hs=>
  obtain⟨e1,e2⟩:=Prod.mk.inj (xS1 hm);obtain rfl:i=k:=by omega
  exact⟨hk,hs,e1.symm⟩
 ·cases hm
theorem zhk {i:Nat} (hi:i<s.onces.length) {t:Int} (hn:t∉eT s) (ho:t∉oT s):(s.onces.getD i zq).state=1->t≠(s.onces.getD i zq).owner/\t∉(s.onces.getD i zq).waits:=λh1=>
 ⟨λe=>ho (xDl.2 ⟨(t,(i:Int)),zgV hi (by unfold zaq;rw[if_pos h1,e];exact List.mem_singleton.2 rfl),rfl⟩),λhm=>hn (xDl.2 ⟨(t,4,(i:Int),0),zei hi (xDl.2 ⟨t,hm,rfl⟩),rfl⟩)⟩
theorem zj4 {α:Type} (l:List α) (i:Nat) (d:α):l.set i (l.getD i d)=l:=by
 apply List.ext_getElem?;intro k;rw[List.getElem?_set];split
 ·next e=>
  subst e;split
  ·next hi=>rw[xDa,xDb hi];rfl
  ·next hi=>rw[List.getElem?_eq_none (by omega)]
 ·rfl
theorem zfk (s:StD) (i:Nat):setOnce s (i:Int) (s.onces.getD i zq)=s:=by
 unfold setOnce;rw[show((i:Nat):Int).toNat=i from rfl,zj4]
theorem Sf.putf_se {w W:World} {l:List It} {v:StV} {L:StL} {s:StD} (h:Sf w W l v L s) {i:Nat} (hi:i<s.sems.length) {x:SemD} {q:SlV} (hq:semR (zv l++v.blks) W x q):∃g:Nat,v.se.a=some ⟨g,0,none⟩/\g∈v.blks/\(i:Int)<(v.se.n:Int)/\(0:Int)<=(i:Int)/\Sf w (((W.setCell ⟨g,i*3,none⟩ (.int .i64 x.free)).setCell ⟨g,i*3+1,none⟩ (.int .i64 x.limit)).setCell ⟨g,i*3+2,none⟩ (q.val)) l v {L with se:=L.se.set i (x,q)} {s with sems:=s.sems.set i x}/\zi [g] W (((W.setCell ⟨g,i*3,none⟩ (.int .i64 x.free)).setCell ⟨g,i*3+1,none⟩ (.int .i64 x.limit)).setCell ⟨g,i*3+2,none⟩ (q.val))/\W.frozen? ⟨g,i*3,none⟩=false/\(∃y,W.cell? ⟨g,i*3,none⟩=some y)/\W.frozen? ⟨g,i*3+1,none⟩=false/\(∃y,W.cell? ⟨g,i*3+1,none⟩=some y)/\W.frozen? ⟨g,i*3+2,none⟩=false/\(∃y,W.cell? ⟨g,i*3+2,none⟩=some y):=by
 obtain⟨g,eg,-,-⟩:=zaf h.st.se (by rw[h.st.nse];omega);have own:=h.st.se;rw[show v.se.val= .slice (some ⟨g,0,none⟩) v.se.n v.se.c by rw[<-eg]] at own;have hP:=h.st.put_se eg i hi (x:=x) (q:=q) hq;have hm:g∈v.blks:=StV.mem_se (by rw[eg];rfl);have hn:=h.st.nse;exact⟨g,eg,hm,by omega,by omega,h.upd (hP.2.mono (λk hk=>by obtain rfl:=xS1 hk;exact hm)) hP.1,hP.2,own.frozenAt _,zaM own _ (by omega),own.frozenAt _,zaM own _ (by omega),own.frozenAt _,zaM own _ (by omega)⟩
theorem Sf.putf_on {w W:World} {l:List It} {v:StV} {L:StL} {s:StD} (h:Sf w W l v L s) {i:Nat} (hi:i<s.onces.length) {x:zaj} {q:SlV} (hq:zda (zv l++v.blks) W x q):∃g:Nat,v.on.a=some ⟨g,0,none⟩/\g∈v.blks/\(i:Int)<(v.on.n:Int)/\(0:Int)<=(i:Int)/\Sf w ((((W.setCell ⟨g,i*4,none⟩ (.int .i64 x.state)).setCell ⟨g,i*4+1,none⟩ (.int .i64 x.owner)).setCell ⟨g,i*4+2,none⟩ (.int .i64 x.value)).setCell ⟨g,i*4+3,none⟩ (q.val)) l v {L with on:=L.on.set i (x,q)} {s with onces:=s.onces.set i x}/\zi [g] W ((((W.setCell ⟨g,i*4,none⟩ (.int .i64 x.state)).setCell ⟨g,i*4+1,none⟩ (.int .i64 x.owner)).setCell ⟨g,i*4+2,none⟩ (.int .i64 x.value)).setCell ⟨g,i*4+3,none⟩ (q.val))/\W.frozen? ⟨g,i*4,none⟩=false/\(∃y,W.cell? ⟨g,i*4,none⟩=some y)/\W.frozen? ⟨g,i*4+1,none⟩=false/\(∃y,W.cell? ⟨g,i*4+1,none⟩=some y)/\W.frozen? ⟨g,i*4+2,none⟩=false/\(∃y,W.cell? ⟨g,i*4+2,none⟩=some y)/\W.frozen? ⟨g,i*4+3,none⟩=false/\(∃y,W.cell? ⟨g,i*4+3,none⟩=some y):=by
 obtain⟨g,eg,-,-⟩:=zaf h.st.on (by rw[h.st.non];omega);have own:=h.st.on;rw[show v.on.val= .slice (some ⟨g,0,none⟩) v.on.n v.on.c by rw[<-eg]] at own;have hP:=h.st.put_on eg i hi (x:=x) (q:=q) hq;have hm:g∈v.blks:=StV.mem_on (by rw[eg];rfl);have hn:=h.st.non;exact⟨g,eg,hm,by omega,by omega,h.upd (hP.2.mono (λk hk=>by obtain rfl:=xS1 hk;exact hm)) hP.1,hP.2,own.frozenAt _,zaM own _ (by omega),own.frozenAt _,zaM own _ (by omega),own.frozenAt _,zaM own _ (by omega),own.frozenAt _,zaM own _ (by omega)⟩
theorem Sf.putf_gr {w W:World} {l:List It} {v:StV} {L:StL} {s:StD} (h:Sf w W l v L s) {i:Nat} (hi:i<s.groups.length) {x:GrpD} {q:SlV} (hq:grpR (zv l++v.blks) W x q):∃g:Nat,v.gr.a=some ⟨g,0,none⟩/\g∈v.blks/\(i:Int)<(v.gr.n:Int)/\(0:Int)<=(i:Int)/\Sf w ((W.setCell ⟨g,i*2,none⟩ (.int .i64 x.count)).setCell ⟨g,i*2+1,none⟩ (q.val)) l v {L with gr:=L.gr.set i (x,q)} {s with groups:=s.groups.set i x}/\zi [g] W ((W.setCell ⟨g,i*2,none⟩ (.int .i64 x.count)).setCell ⟨g,i*2+1,none⟩ (q.val))/\W.frozen? ⟨g,i*2,none⟩=false/\(∃y,W.cell? ⟨g,i*2,none⟩=some y)/\W.frozen? ⟨g,i*2+1,none⟩=false/\(∃y,W.cell? ⟨g,i*2+1,none⟩=some y):=by
 obtain⟨g,eg,-,-⟩:=zaf h.st.gr (by rw[h.st.ngr];omega);have own:=h.st.gr;rw[show v.gr.val= .slice (some ⟨g,0,none⟩) v.gr.n v.gr.c by rw[<-eg]] at own;have hP:=h.st.put_gr eg i hi (x:=x) (q:=q) hq;have hm:g∈v.blks:=StV.mem_gr (by rw[eg];rfl);have hn:=h.st.ngr;exact⟨g,eg,hm,by omega,by omega,h.upd (hP.2.mono (λk hk=>by obtain rfl:=xS1 hk;exact hm)) hP.1,hP.2,own.frozenAt _,zaM own _ (by omega),own.frozenAt _,zaM own _ (by omega)⟩
theorem Sf.putf_ba {w W:World} {l:List It} {v:StV} {L:StL} {s:StD} (h:Sf w W l v L s) {i:Nat} (hi:i<s.bars.length) {x:BarD} {q:SlV} (hq:barR (zv l++v.blks) W x q):∃g:Nat,v.ba.a=some ⟨g,0,none⟩/\g∈v.blks/\(i:Int)<(v.ba.n:Int)/\(0:Int)<=(i:Int)/\Sf w (((W.setCell ⟨g,i*3,none⟩ (.int .i64 x.parties)).setCell ⟨g,i*3+1,none⟩ (.int .i64 x.round)).setCell ⟨g,i*3+2,none⟩ (q.val)) l v {L with ba:=L.ba.set i (x,q)} {s with bars:=s.bars.set i x}/\zi [g] W (((W.setCell ⟨g,i*3,none⟩ (.int .i64 x.parties)).setCell ⟨g,i*3+1,none⟩ (.int .i64 x.round)).setCell ⟨g,i*3+2,none⟩ (q.val))/\W.frozen? ⟨g,i*3,none⟩=false/\(∃y,W.cell? ⟨g,i*3,none⟩=some y)/\W.frozen? ⟨g,i*3+1,none⟩=false/\(∃y,W.cell? ⟨g,i*3+1,none⟩=some y)/\W.frozen? ⟨g,i*3+2,none⟩=false/\(∃y,W.cell? ⟨g,i*3+2,none⟩=some y):=by
 obtain⟨g,eg,-,-⟩:=zaf h.st.ba (by rw[h.st.nba];omega);have own:=h.st.ba;rw[show v.ba.val= .slice (some ⟨g,0,none⟩) v.ba.n v.ba.c by rw[<-eg]] at own;have hP:=h.st.put_ba eg i hi (x:=x) (q:=q) hq;have hm:g∈v.blks:=StV.mem_ba (by rw[eg];rfl);have hn:=h.st.nba;exact⟨g,eg,hm,by omega,by omega,h.upd (hP.2.mono (λk hk=>by obtain rfl:=xS1 hk;exact hm)) hP.1,hP.2,own.frozenAt _,zaM own _ (by omega),own.frozenAt _,zaM own _ (by omega),own.frozenAt _,zaM own _ (by omega)⟩
theorem Sf.putf_ch {w W:World} {l:List It} {v:StV} {L:StL} {s:StD} (h:Sf w W l v L s) {i:Nat} (hi:i<s.chans.length) {x:ChnD} {q:SlV×SlV×SlV} (hq:chnR (zv l++v.blks) W x q):∃g:Nat,v.ch.a=some ⟨g,0,none⟩/\g∈v.blks/\(i:Int)<(v.ch.n:Int)/\(0:Int)<=(i:Int)/\Sf w (((((W.setCell ⟨g,i*5,none⟩ (.int .i64 x.room)).setCell ⟨g,i*5+1,none⟩ (q.1.val)).setCell ⟨g,i*5+2,none⟩ (q.2.1.val)).setCell ⟨g,i*5+3,none⟩ (q.2.2.val)).setCell ⟨g,i*5+4,none⟩ (.bool x.closed)) l v {L with ch:=L.ch.set i (x,q)} {s with chans:=s.chans.set i x}/\zi [g] W (((((W.setCell ⟨g,i*5,none⟩ (.int .i64 x.room)).setCell ⟨g,i*5+1,none⟩ (q.1.val)).setCell ⟨g,i*5+2,none⟩ (q.2.1.val)).setCell ⟨g,i*5+3,none⟩ (q.2.2.val)).setCell ⟨g,i*5+4,none⟩ (.bool x.closed))/\W.frozen? ⟨g,i*5,none⟩=false/\(∃y,W.cell? ⟨g,i*5,none⟩=some y)/\W.frozen? ⟨g,i*5+1,none⟩=false/\(∃y,W.cell? ⟨g,i*5+1,none⟩=some y)/\W.frozen? ⟨g,i*5+2,none⟩=false/\(∃y,W.cell? ⟨g,i*5+2,none⟩=some y)/\W.frozen? ⟨g,i*5+3,none⟩=false/\(∃y,W.cell? ⟨g,i*5+3,none⟩=some y)/\W.frozen? ⟨g,i*5+4,none⟩=false/\(∃y,W.cell? ⟨g,i*5+4,none⟩=some y):=by
 obtain⟨g,eg,-,-⟩:=zaf h.st.ch (by rw[h.st.nch];omega);have own:=h.st.ch;rw[show v.ch.val= .slice (some ⟨g,0,none⟩) v.ch.n v.ch.c by rw[<-eg]] at own;have hP:=h.st.put_ch eg i hi (x:=x) (q:=q) hq;have hm:g∈v.blks:=StV.mem_ch (by rw[eg];rfl);have hn:=h.st.nch;exact⟨g,eg,hm,by omega,by omega,h.upd (hP.2.mono (λk hk=>by obtain rfl:=xS1 hk;exact hm)) hP.1,hP.2,own.frozenAt _,zaM own _ (by omega),own.frozenAt _,zaM own _ (by omega),own.frozenAt _,zaM own _ (by omega),own.frozenAt _,zaM own _ (by omega),own.frozenAt _,zaM own _ (by omega)⟩
def zbb (p:Pg) (ch:StD->List Int->Option Int):Nat->StD->List Int->Option (StD×List Int)
 |0,_,_=>none
 |n+1,s,tr=>match ch s tr with
  |none=>some (s,tr)
  |some t=>if t∈zD s then zbb p ch n (zx p s t) (tr++[t]) else none
theorem zfg {p:Pg} {ch:StD->List Int->Option Int} {n:Nat} {s:StD} {tr:List Int} (h:ch s tr=none):zbb p ch (n+1) s tr=some (s,tr):=by simp only[zbb,h]
theorem zeW {p:Pg} {ch:StD->List Int->Option Int} {n:Nat} {s:StD} {tr:List Int} {t:Int} (h:ch s tr=some t) (hr:t∈zD s):zbb p ch (n+1) s tr=zbb p ch n (zx p s t) (tr++[t]):=by simp only[zbb,h,if_pos hr]
theorem zj7 {p:Pg} {ch:StD->List Int->Option Int} {n:Nat} {s:StD} {tr:List Int} {t:Int} (h:ch s tr=some t) (hr:t∉zD s):zbb p ch (n+1) s tr=none:=by simp only[zbb,h,if_neg hr]
theorem zgb {P:Program} {o:Oper} {ρ:Operand->Value} {w:World} {post:Value->World->Prop} (s x:Operand) (t:TypeId)
  (ho:o.op= .call {callee:= .builtin .append,args:= #[s,x],argTypes:= #[t,t]}) {B:Nat} {e:TypeId} {z:Value} {size bytes:Nat} (ht:P.underlying t=some (.slice e)) (hinfo:(P.info? e).map (λi=>(i.zero,i.size,i.bytes))=some (some z,size,bytes))
  (hzs:z.cells.size=size) (hsz:0<size) {a:Option Addr} {n c:Nat} {xs:List Value} (hs:ρ s= .slice a n c) (hown:w.ownsRow B e size (.slice a n c) n xs)
  {a2:Option Addr} {m c2:Nat} {news:List Value} (hx:ρ x= .slice a2 m c2) (hl:news.length=m*size) (hsrc:Rd w a2 news) (h1:∀u∈news,u.oneCell'=true) (hbytes:(n+m)*bytes<=140737488355328) (hby:0<bytes) (hbase:B<=w.heap.size)
  (h:∀a' c' w',w'.ownsRow B e size (.slice a' (n+m) c') (n+m) (xs++news)->w.grownBy w' (ze a)->(∀k,ze a'=some k->ze a=some k\/w.heap.size<=k)->post (.slice a' (n+m) c') w'):zau P o ρ w post:=by
 obtain⟨a',c',w',hr,h2,h3,h4⟩:=zdN (P:=P) (c2:=c2) t o.type ht hinfo hzs hsz hown hl hsrc h1 hbytes hby hbase;refine zh (u:= .slice a' (n+m) c') (w':=w') ?_ (h a' c' w' h2 h3 h4);unfold execOp;simp only[ho,resolve,invoke,builtin,Sem.run_bind,Sem.run_pure,Result.andThen_ok,List.map_toArray,List.map_cons,List.map_nil,hs,hx,hr]
theorem StO.newer {X:List Nat} {B:Nat} {w w':World} {v:StV} {L:StL} {s:StD} (h:StO [] B w v L s) (hb:xW w w') (hX:∀k∈X,w.heap.size<=k/\k<w'.heap.size):StO X B w' v L s:=
 have g:=h.below hb
 ⟨g.pl,g.npl,g.st,g.nst,g.se,g.nse,g.on,g.non,g.gr,g.ngr,g.ba,g.nba,g.ch,g.nch,g.sa,g.nsa,g.fl,g.dps,g.dpa,g.dsa,λk hk=>⟨(hX k hk).2,λhm=>by have:=(h.from k hm).2;have:=(hX k hk).1;omega⟩,
  h.inn.wide (zi.of_below hb) λb hm=>by
   rcases xP1 hm with hm|hm
   ·exact .inr (hX b hm).1
   ·exact .inl hm⟩
theorem zjt {l:List It} {k:Nat} {i':It}:∀q∈zv (l.set k i'),q∈zv l\/q∈i'.foot:=λq hq=>by
 obtain⟨i,hi,hqi⟩:=List.mem_flatMap.1 hq;rcases List.mem_or_eq_of_mem_set hi with hi|rfl
 ·exact .inl (List.mem_flatMap.2 ⟨i,hi,hqi⟩)
 ·exact .inr hqi
theorem Sf.appT {w W W':World} {l:List It} {v:StV} {L:StL} {s:StD} (h:Sf w W l v L s) (k:Nat) {a a':Option Addr} {n c n' c' sz:Nat} {E:TypeId} {cs cs':List Value} (hi:l[k]? =some (.row a n c E sz cs)) (T:zi (ze a).toList W W') (h':W'.ownsRow w.heap.size E sz (.slice a' n' c') n' cs') (hn:∀q,ze a'=some q->ze a=some q\/W.heap.size<=q):Sf w W' (l.set k (.row a' n' c' E sz cs')) v L s:=by
 have hX:∀q∈zv (l.set k (.row a' n' c' E sz cs')),q∈zv l\/W.heap.size<=q:=λq hq=>by
  rcases zjt q hq with h1|h1
  ·exact .inl h1
  ·rcases hn q (by simpa[It.foot] using h1) with h2|h2
   ·exact .inl (zc5 hi q (by simp[It.foot,h2]))
   ·exact .inr h2
 have F:=h.fr.step (i':= .row a' n' c' E sz cs') k hi T h' λq hq=>(hn q (by simpa[It.foot] using hq)).imp (λh=>by simp[It.foot,h]) id;have hTT:zi (zv l) W W':=T.mono (zc5 hi);have g:=h.st.other hTT;refine⟨F,g.pl,g.npl,g.st,g.nst,g.se,g.nse,g.on,g.non,g.gr,g.ngr,g.ba,g.nba,g.ch,g.nch,g.sa,g.nsa,g.fl,g.dps,g.dpa,g.dsa,λq hq=>⟨(F.inside q hq).2,λhm=> ?_⟩,?_⟩
 ·rcases hX q hq with h1|h1
  ·exact(h.st.xs q h1).2 hm
  ·have:=(h.st.from q hm).2;omega
 ·refine h.st.inn.wide (hTT.mono λq hq=>xQ1 (.inl hq)) λb hb=> ?_;rcases xP1 hb with hb|hb
  ·exact(hX b hb).imp (λh=>xQ1 (.inl h)) id
  ·exact .inl (xQ1 (.inr hb))
theorem Sf.gainR {w W W':World} {l:List It} {v:StV} {L:StL} {s:StD} {a:Option Addr} {n c sz:Nat} {E:TypeId} {cs:List Value} (F:Fr w W l) (hb:xW W W') (ho:W'.ownsRow W.heap.size E sz (.slice a n c) n cs) (hs:StO (ze a).toList W.heap.size W' v L s) (hn:NewB W.heap.size L):Sf w W' (.row a n c E sz cs::l) v L s:=by
 have hB:∀k∈zv l,k<W.heap.size:=λk hk=>(F.inside k hk).2;have hX:∀k∈zv l,k<W'.heap.size/\k∉v.blks:=λk hk=>⟨Nat.lt_of_lt_of_le (hB k hk) hb.size,λhm=>by have:=(hs.from k hm).1;have:=hB k hk;omega⟩
 have hin:StIn (zv l++((ze a).toList++v.blks)) W' L s:=
  ⟨⟨hs.inn.se.e,λx hx=>(hs.inn.se.r x hx).aside (hn.se x hx) hB⟩,⟨hs.inn.on.e,λx hx=>(hs.inn.on.r x hx).aside (hn.on x hx) hB⟩,⟨hs.inn.gr.e,λx hx=>(hs.inn.gr.r x hx).aside (hn.gr x hx) hB⟩,⟨hs.inn.ba.e,λx hx=>(hs.inn.ba.r x hx).aside (hn.ba x hx) hB⟩,⟨hs.inn.ch.e,λx hx=>⟨(hs.inn.ch.r x hx).1.aside (hn.ch x hx).1 hB,(hs.inn.ch.r x hx).2.1.aside (hn.ch x hx).2.1 hB,(hs.inn.ch.r x hx).2.2.aside (hn.ch x hx).2.2 hB⟩⟩⟩
 refine⟨F.row hb ho,(StO.lower ⟨hs.pl,hs.npl,hs.st,hs.nst,hs.se,hs.nse,hs.on,hs.non,hs.gr,hs.ngr,hs.ba,hs.nba,hs.ch,hs.nch,hs.sa,hs.nsa,hs.fl,hs.dps,hs.dpa,hs.dsa,λk hk=> ?_,?_⟩ F.bel.size)⟩
 ·rcases xP1 (show k∈(ze a).toList++zv l from hk) with h1|h1
  ·exact hs.xs k h1
  ·exact hX k h1
 ·exact hin.map λx cs k hx=>hx.wide (zi.refl _ _) λb hm=>by
   left;rcases xP1 hm with h1|h1
   ·rcases xP1 (show b∈(ze a).toList++zv l from h1) with h2|h2
    ·exact xQ1 (.inr (xQ1 (.inl h2)))
    ·exact xQ1 (.inl h2)
   ·exact xQ1 (.inr (xQ1 (.inr h1)))
theorem Sf.set10 {w W:World} {l:List It} {v:StV} {L:StL} {s:StD} (h:Sf w W l v L s) (k:Nat) {b:Nat} {u0 u1 u2 u3 u4 u5 u6 u7 u8 u9:Value} {T:TypeId} (hi:l[k]? =some (.blk b #[u0,u1,u2,u3,u4,u5,u6,u7,u8,u9] T)) (v0 v1 v2 v3 v4 v5 v6 v7 v8 v9:Value):Sf w ((((((((((W.setCell ⟨b,0,none⟩ v0).setCell ⟨b,1,none⟩ v1).setCell ⟨b,2,none⟩ v2).setCell ⟨b,3,none⟩ v3).setCell ⟨b,4,none⟩ v4).setCell ⟨b,5,none⟩ v5).setCell ⟨b,6,none⟩ v6).setCell ⟨b,7,none⟩ v7).setCell ⟨b,8,none⟩ v8).setCell ⟨b,9,none⟩ v9) (l.set k (.blk b #[v0,v1,v2,v3,v4,v5,v6,v7,v8,v9] T)) v L s:=by
 have hh:=h.fr.has _ (xDo hi);exact h.step k hi (((((((((((zi.refl _ _).set xS2).set xS2).set xS2).set xS2).set xS2).set xS2).set xS2).set xS2).set xS2).set xS2) ⟨hh.1,by have h9:=((((((((((hh.2.set 0 v0).set 1 v1).set 2 v2).set 3 v3).set 4 v4).set 5 v5).set 6 v6).set 7 v7).set 8 v8).set 9 v9);simpa using h9⟩ rfl
theorem Fr.set10 {w W:World} {l:List It} (h:Fr w W l) (k:Nat) {b:Nat} {u0 u1 u2 u3 u4 u5 u6 u7 u8 u9:Value} {T:TypeId} (hi:l[k]? =some (.blk b #[u0,u1,u2,u3,u4,u5,u6,u7,u8,u9] T)) (v0 v1 v2 v3 v4 v5 v6 v7 v8 v9:Value):Fr w ((((((((((W.setCell ⟨b,0,none⟩ v0).setCell ⟨b,1,none⟩ v1).setCell ⟨b,2,none⟩ v2).setCell ⟨b,3,none⟩ v3).setCell ⟨b,4,none⟩ v4).setCell ⟨b,5,none⟩ v5).setCell ⟨b,6,none⟩ v6).setCell ⟨b,7,none⟩ v7).setCell ⟨b,8,none⟩ v8).setCell ⟨b,9,none⟩ v9) (l.set k (.blk b #[v0,v1,v2,v3,v4,v5,v6,v7,v8,v9] T)):=by
 have hh:=h.has _ (xDo hi);exact h.step k hi (((((((((((zi.refl _ _).set xS2).set xS2).set xS2).set xS2).set xS2).set xS2).set xS2).set xS2).set xS2).set xS2) ⟨hh.1,by have h9:=((((((((((hh.2.set 0 v0).set 1 v1).set 2 v2).set 3 v3).set 4 v4).set 5 v5).set 6 v6).set 7 v7).set 8 v8).set 9 v9);simpa using h9⟩ λq hq=> .inl hq
theorem Fr.setR {w W:World} {l:List It} (h:Fr w W l) (k:Nat) {b:Nat} {u0 u1 u2 u3 u4 u5 u6 u7 u8 u9:Value} {T:TypeId} (hi:l[k]? =some (.blk b #[u0,u1,u2,u3,u4,u5,u6,u7,u8,u9] T)) (y:StV) (a:Option Addr) (m c:Nat):Fr w ((((((((((W.setCell ⟨b,0,none⟩ (.slice y.pl.a y.pl.n y.pl.c)).setCell ⟨b,1,none⟩ (.slice y.st.a y.st.n y.st.c)).setCell ⟨b,2,none⟩ (.slice y.se.a y.se.n y.se.c)).setCell ⟨b,3,none⟩ (.slice y.on.a y.on.n y.on.c)).setCell ⟨b,4,none⟩ (.slice y.gr.a y.gr.n y.gr.c)).setCell ⟨b,5,none⟩ (.slice y.ba.a y.ba.n y.ba.c)).setCell ⟨b,6,none⟩ (.slice y.ch.a y.ch.n y.ch.c)).setCell ⟨b,7,none⟩ (.slice y.sa.a y.sa.n y.sa.c)).setCell ⟨b,8,none⟩ (.int .i64 y.fl)).setCell ⟨b,9,none⟩ (.slice a m c)) (l.set k (.blk b (rC y a m c) T)):=h.set10 k hi _ _ _ _ _ _ _ _ _ _
theorem Fr.setY {w W:World} {l:List It} (h:Fr w W l) (k:Nat) {b:Nat} {u0 u1 u2 u3 u4 u5 u6 u7 u8 u9:Value} {T:TypeId} (hi:l[k]? =some (.blk b #[u0,u1,u2,u3,u4,u5,u6,u7,u8,u9] T)):Fr w ((((((((((W.setCell ⟨b,0,none⟩ (.slice none 0 0)).setCell ⟨b,1,none⟩ (.slice none 0 0)).setCell ⟨b,2,none⟩ (.slice none 0 0)).setCell ⟨b,3,none⟩ (.slice none 0 0)).setCell ⟨b,4,none⟩ (.slice none 0 0)).setCell ⟨b,5,none⟩ (.slice none 0 0)).setCell ⟨b,6,none⟩ (.slice none 0 0)).setCell ⟨b,7,none⟩ (.slice none 0 0)).setCell ⟨b,8,none⟩ (.int .i64 0)).setCell ⟨b,9,none⟩ (.slice none 0 0)) (l.set k (.blk b z10 T)):=h.set10 k hi _ _ _ _ _ _ _ _ _ _
theorem Fr.c10 {w W:World} {l:List It} (F:Fr w W l) (k:Nat) {b:Nat} {v0 v1 v2 v3 v4 v5 v6 v7 v8 v9:Value} {T:TypeId} (hi:l[k]? =some (.blk b #[v0,v1,v2,v3,v4,v5,v6,v7,v8,v9] T)):W.cell? ⟨b,0,none⟩=some v0/\W.frozen? ⟨b,0,none⟩=false/\W.cell? ⟨b,1,none⟩=some v1/\W.frozen? ⟨b,1,none⟩=false/\W.cell? ⟨b,2,none⟩=some v2/\W.frozen? ⟨b,2,none⟩=false/\W.cell? ⟨b,3,none⟩=some v3/\W.frozen? ⟨b,3,none⟩=false/\W.cell? ⟨b,4,none⟩=some v4/\W.frozen? ⟨b,4,none⟩=false/\W.cell? ⟨b,5,none⟩=some v5/\W.frozen? ⟨b,5,none⟩=false/\W.cell? ⟨b,6,none⟩=some v6/\W.frozen? ⟨b,6,none⟩=false/\W.cell? ⟨b,7,none⟩=some v7/\W.frozen? ⟨b,7,none⟩=false/\W.cell? ⟨b,8,none⟩=some v8/\W.frozen? ⟨b,8,none⟩=false/\W.cell? ⟨b,9,none⟩=some v9/\W.frozen? ⟨b,9,none⟩=false:=⟨F.cell k 0 hi rfl,F.fz k 0 hi,F.cell k 1 hi rfl,F.fz k 1 hi,F.cell k 2 hi rfl,F.fz k 2 hi,F.cell k 3 hi rfl,F.fz k 3 hi,F.cell k 4 hi rfl,F.fz k 4 hi,F.cell k 5 hi rfl,F.fz k 5 hi,F.cell k 6 hi rfl,F.fz k 6 hi,F.cell k 7 hi rfl,F.fz k 7 hi,F.cell k 8 hi rfl,F.fz k 8 hi,F.cell k 9 hi rfl,F.fz k 9 hi⟩
end Go.Proofs.YtnlijgjpgdjpiaaGreat
