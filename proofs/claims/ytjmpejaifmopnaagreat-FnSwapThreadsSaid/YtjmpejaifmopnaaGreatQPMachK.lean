/- Part of a proof: MachK2 MachK3 MachK4 FitsP Flt RunF GoAll Told RunLaws Rdy. -/
import Derived.Test.YtjmpejaifmopnaaGreatQPFr
set_option maxRecDepth 100000
set_option maxHeartbeats 16000000
namespace Go.Proofs.YtjmpejaifmopnaaGreat
theorem perm_set {α:Type} [BEq α] [LawfulBEq α] {E E' A B:List α} (h:∀e,E'.count e+A.count e=E.count e+B.count e):(E'++A).Perm (E++B):=
 List.perm_iff_count.2 fun e=>by rw[List.count_append,List.count_append,h e]
theorem perm_cut {α:Type} {E E' R N:List α} (h:(E'++(R++N)).Perm (E++N)):(E'++R).Perm E:=by
 rw[←List.append_assoc] at h
 exact(List.perm_append_right_iff N).1 h
theorem perm_add {α:Type} {E E' N:List α} {e:α} (h:(E'++N).Perm (E++(N++[e]))):E'.Perm (e::E):=by
 have h2:(E++(N++[e])).Perm ((e::E)++N):=by
  rw[←List.append_assoc]
  exact List.perm_append_comm.trans (by simp)
 exact(List.perm_append_right_iff N).1 (h.trans h2)
theorem perm_same {α:Type} {E E' N:List α} (h:(E'++N).Perm (E++N)):E'.Perm E:=(List.perm_append_right_iff N).1 h
theorem nodup_le:∀(n:Nat) (l:List Int),l.Nodup→(∀t∈l,0≤t∧t<n)→l.length≤n
 |0,l,_,h=>by
  cases l with
  |nil=>simp
  |cons a l=>have:=h a (by simp);omega
 |n+1,l,hn,h=>by
  have ih:=nodup_le n (l.erase (n:Int)) (hn.erase _) (fun t ht=>by
   have h1:=h t (List.mem_of_mem_erase ht)
   have h2:t≠(n:Int):=fun e=>by
    rw[e] at ht
    exact(List.Nodup.mem_erase_iff hn).1 ht|>.1 rfl
   omega)
  have:= @List.length_erase Int _ _ (n:Int) l
  split at this<;>omega
section
variable {p:Pg} {s:StD} {t:Int}
theorem Fits.opv (h:Fits p s) (ht:Turn p s t):opValid p (opAt p s t)=true:=by
 have:=ht.rg;have h1:=ht.lt;have:=ht.ge
 unfold opAt opsOf
 unfold opsOf at h1
 exact valid_op h.prog (by omega) (by omega)
theorem op_on {o:OpD} (ho:opValid p o=true):0≤o.on∧o.on<shared p o.kind:=(opValid_facts ho).2.1
theorem op_kind {o:OpD} (ho:opValid p o=true):1≤o.kind∧o.kind≤10:=(opValid_facts ho).1
theorem op_perm {o:OpD} (ho:opValid p o=true) (hk:o.kind=2∨o.kind=3):1≤o.arg∧o.arg≤p.sems.getD o.on.toNat 0:=by
 have h:=(opValid_facts ho).2.2
 unfold argOk at h
 rw[if_pos hk] at h
 simpa using h
theorem op_val {o:OpD} (ho:opValid p o=true) (hk:o.kind=1∨o.kind=4∨o.kind=8):0≤o.arg∧o.arg≤99:=by
 have h:=(opValid_facts ho).2.2
 unfold argOk at h
 rw[if_neg (by omega),if_neg (by omega),if_pos hk] at h
 unfold isVal at h
 simpa using h
theorem in_ents_sem {i:Nat} (hi:i<s.sems.length) {e:Ent} (he:e∈semEn (s.sems.getD i noSem) i):e∈ents s:=by
 unfold ents
 exact xQ1 (.inl (mem_allE.2 ⟨i,hi,he⟩))
theorem in_ents_once {i:Nat} (hi:i<s.onces.length) {e:Ent} (he:e∈onceEn (s.onces.getD i noOnce) i):e∈ents s:=by
 unfold ents
 exact xQ1 (.inr (xQ1 (.inl (mem_allE.2 ⟨i,hi,he⟩))))
theorem in_ents_grp {i:Nat} (hi:i<s.groups.length) {e:Ent} (he:e∈grpEn (s.groups.getD i noGrp) i):e∈ents s:=by
 unfold ents
 exact xQ1 (.inr (xQ1 (.inr (xQ1 (.inl (mem_allE.2 ⟨i,hi,he⟩))))))
theorem in_ents_bar {i:Nat} (hi:i<s.bars.length) {e:Ent} (he:e∈barEn (s.bars.getD i noBar) i):e∈ents s:=by
 unfold ents
 exact xQ1 (.inr (xQ1 (.inr (xQ1 (.inr (xQ1 (.inl (mem_allE.2 ⟨i,hi,he⟩))))))))
theorem in_ents_chn {i:Nat} (hi:i<s.chans.length) {e:Ent} (he:e∈chnEn (s.chans.getD i noChn) i):e∈ents s:=by
 unfold ents
 exact xQ1 (.inr (xQ1 (.inr (xQ1 (.inr (xQ1 (.inr (mem_allE.2 ⟨i,hi,he⟩))))))))
theorem in_owns {i:Nat} (hi:i<s.onces.length) {e:Int×Int} (he:e∈ownEn (s.onces.getD i noOnce) i):e∈owns s:=mem_allE.2 ⟨i,hi,he⟩
theorem thr6_more (h:Fits p s) (ht:Turn p s t) {l:List Int} (hl:thr6 l) (hin:∀u∈l,u∈eT s):thr6 (l++[t])∧t∉l:=by
 have hnt:t∉l:=fun hm=>ht.ne (hin t hm)
 have hnd:(l++[t]).Nodup:=List.nodup_append.2 ⟨hl.2.2,by simp,fun a ha b hb e=>hnt (by rw[xS1 hb] at e;exact e▸ha)⟩
 have hp:=(valid_threads h.prog).2
 have hr:∀u∈l++[t],0≤u∧u<(4:Nat):=fun u hu=>by
  have:0≤u∧u<p.threads.length:=by
   rcases xP1 hu with hu|hu
   ·exact(h.waits (hin u hu)).1
   ·rw[xS1 hu];exact ht.rg
  omega
 refine⟨⟨?_,fun u hu=>by have:=hr u hu;omega,hnd⟩,hnt⟩
 have:=nodup_le 4 _ hnd hr
 omega
theorem thr6_less {l k:List Int} (h:thr6 (l++k)):thr6 k:=⟨by have:=h.1;rw[List.length_append] at this;omega,fun t ht=>h.2.1 t (xQ1 (.inr ht)),(List.nodup_append.1 h.2.2).2.1⟩
theorem thr6_nil:thr6 []:=⟨by simp,by simp,by simp⟩
theorem serve_split:∀(q:List (Int×Int)) (f:Int),0≤f→(∀w∈q,1≤w.2)→∃P N,q=P++N∧(serve f q).2.1=P.map (·.1)∧(serve f q).2.2=N∧0≤(serve f q).1∧(serve f q).1≤f∧(∀w N',N=w::N'→(serve f q).1<w.2)
 |[],f,hf,_=>⟨[],[],rfl,rfl,rfl,hf,Int.le_refl _,by simp⟩
 |w::q,f,hf,hq=>by
  by_cases hw:w.2≤f
  ·obtain⟨P,N,h1,h2,h3,h4,h5,h6⟩:=serve_split q (f-w.2) (by omega) (fun x hx=>hq x (List.mem_cons_of_mem _ hx))
   have e:serve f (w::q)=((serve (f-w.2) q).1,w.1::(serve (f-w.2) q).2.1,(serve (f-w.2) q).2.2):=by rw[serve,if_pos hw]
   rw[e]
   refine⟨w::P,N,by rw[h1];rfl,by simp[h2],h3,h4,?_,h6⟩
   have:=hq w (by simp)
   show(serve (f-w.2) q).1≤f
   omega
  ·have e:serve f (w::q)=(f,[],w::q):=by rw[serve,if_neg hw]
   rw[e]
   exact⟨[],w::q,rfl,rfl,rfl,hf,Int.le_refl _,fun w' N' h=>by rw[←(List.cons.inj h).1];show f<w.2;omega⟩
theorem Fits.doSem (h:Fits p s) (ht:Turn p s t) (ho:t∉oT s) (hk:(opAt p s t).kind=2):Fits p (doSem p s t (opAt p s t)):=by
 have hv:=h.opv ht
 obtain⟨o,eo⟩:∃o,o=opAt p s t:=⟨_,rfl⟩
 rw[←eo] at hv hk⊢
 obtain⟨h0,h1⟩:=op_on hv
 rw[show shared p o.kind=p.sems.length by unfold shared;rw[if_neg (by omega),if_pos (.inl hk)]] at h1
 have hi:o.on.toNat<s.sems.length:=by rw[h.nse];omega
 obtain⟨x,ex⟩:∃x,x=s.sems.getD o.on.toNat noSem:=⟨_,rfl⟩
 obtain⟨ok,hlim⟩:=h.se _ hi
 have hc:=op_perm hv (.inl hk)
 rw[←ex] at ok hlim
 rw[←hlim] at hc
 have hcount:=ents_setSem s o.on (semAcq x t o.arg).1 hi
 rw[←ex] at hcount
 have hP:=perm_set hcount
 unfold Go.Proofs.YtjmpejaifmopnaaGreat.doSem
 rw[←ex]
 by_cases hq:x.queue=[]∧o.arg≤x.free
 ·have e:semAcq x t o.arg=(⟨x.free-o.arg,x.limit,x.queue⟩,true):=by unfold semAcq;rw[if_pos hq]
  rw[e] at hP⊢
  have hT:Things p (setSem s o.on ⟨x.free-o.arg,x.limit,x.queue⟩):=h.things.setSem ⟨⟨ok.1,⟨by show 0≤x.free-o.arg;omega,by show x.free-o.arg≤x.limit;have:=ok.2.1;omega⟩,ok.2.2.1,ok.2.2.2.1,fun w q hw=>by
   dsimp only at hw;rw[hq.1] at hw;cases hw⟩,hlim⟩
  have:=h.tell (R:=[]) ht ho hT rfl rfl (by rw[List.append_nil];exact perm_same hP) rfl
  exact this
 ·have e:semAcq x t o.arg=(⟨x.free,x.limit,x.queue++[(t,o.arg)]⟩,false):=by unfold semAcq;rw[if_neg hq]
  rw[e] at hP⊢
  have hin:∀u∈x.queue.map (·.1),u∈eT s:=fun u hu=>by
   obtain⟨w,hw,rfl⟩:=List.mem_map.1 hu
   refine List.mem_map.2 ⟨(w.1,2,((o.on.toNat:Nat):Int),w.2),in_ents_sem hi ?_,rfl⟩
   rw[←ex];exact List.mem_map.2 ⟨w,hw,rfl⟩
  have hth:=thr6_more h ht ok.2.2.2.1 hin
  have hT:Things p (setSem s o.on ⟨x.free,x.limit,x.queue++[(t,o.arg)]⟩):=h.things.setSem ⟨⟨ok.1,ok.2.1,fun w hw=>by
    rcases xP1 hw with hw|hw
    ·exact ok.2.2.1 w hw
    ·rw[xS1 hw];exact hc,by show thr6 (List.map _ (x.queue++[(t,o.arg)]));rw[List.map_append];exact hth.1,fun w q hw=>by
    dsimp only at hw⊢
    cases hxq:x.queue with
    |nil=>
     rw[hxq] at hw
     simp only[List.nil_append,List.cons.injEq] at hw
     rw[←hw.1]
     have:¬o.arg≤x.free:=fun hh=>hq ⟨hxq,hh⟩
     show x.free<o.arg
     omega
    |cons a l=>
     rw[hxq] at hw
     simp only[List.cons_append,List.cons.injEq] at hw
     exact ok.2.2.2.2 w l (by rw[hxq,hw.1])⟩,hlim⟩
  refine h.wait ht ho hT rfl rfl (perm_add (N:=semEn x o.on.toNat) ?_) rfl
  rw[←eo]
  have e2:semEn (⟨x.free,x.limit,x.queue++[(t,o.arg)]⟩:SemD) o.on.toNat=semEn x o.on.toNat++[want o t]:=by
   unfold semEn want
   rw[if_pos (.inl hk),hk,List.map_append]
   simp only[List.map_cons,List.map_nil]
   rw[show((o.on.toNat:Nat):Int)=o.on by omega]
  rw[e2] at hP
  exact hP
theorem Fits.doRel (h:Fits p s) (ht:Turn p s t) (ho:t∉oT s) (hk:(opAt p s t).kind=3):Fits p (doRel p s t (opAt p s t)):=by
 have hv:=h.opv ht
 obtain⟨o,eo⟩:∃o,o=opAt p s t:=⟨_,rfl⟩
 rw[←eo] at hv hk⊢
 obtain⟨h0,h1⟩:=op_on hv
 rw[show shared p o.kind=p.sems.length by unfold shared;rw[if_neg (by omega),if_pos (.inr hk)]] at h1
 have hi:o.on.toNat<s.sems.length:=by rw[h.nse];omega
 obtain⟨x,ex⟩:∃x,x=s.sems.getD o.on.toNat noSem:=⟨_,rfl⟩
 obtain⟨ok,hlim⟩:=h.se _ hi
 have hc:=op_perm hv (.inr hk)
 rw[←ex] at ok hlim
 unfold Go.Proofs.YtjmpejaifmopnaaGreat.doRel
 rw[←ex]
 unfold semRel
 by_cases hf:o.arg≤x.limit-x.free
 ·rw[if_pos hf]
  have hcount:=ents_setSem s o.on ⟨(serve (x.free+o.arg) x.queue).1,x.limit,(serve (x.free+o.arg) x.queue).2.2⟩ hi
  rw[←ex] at hcount
  have hP:=perm_set hcount
  obtain⟨P,N,e1,e2,e3,e4,e5,e6⟩:=serve_split x.queue (x.free+o.arg) (by have:=ok.2.1;omega) (fun w hw=>(ok.2.2.1 w hw).1)
  rw[e3] at hP⊢
  rw[e2]
  have hsp:semEn x o.on.toNat=(P.map fun w=>((w.1,2,((o.on.toNat:Nat):Int),w.2):Ent))++semEn (⟨(serve (x.free+o.arg) x.queue).1,x.limit,N⟩:SemD) o.on.toNat:=by
   unfold semEn
   rw[e1,List.map_append]
  rw[hsp] at hP
  have hT:Things p (setSem s o.on ⟨(serve (x.free+o.arg) x.queue).1,x.limit,N⟩):=h.things.setSem ⟨⟨ok.1,⟨e4,by show(serve (x.free+o.arg) x.queue).1≤x.limit;omega⟩,fun w hw=>ok.2.2.1 w (by rw[e1];exact xQ1 (.inr hw)),thr6_less (l:=P.map (·.1)) (by rw[←List.map_append,←e1];exact ok.2.2.2.1),e6⟩,hlim⟩
  have:=h.tell (R:=P.map fun w=>((w.1,2,((o.on.toNat:Nat):Int),w.2):Ent)) ht ho hT rfl rfl (perm_cut hP) rfl
  rw[List.map_map] at this
  exact this
 ·rw[if_neg hf]
  exact h.fail (by omega)
theorem Fits.doOnce (h:Fits p s) (ht:Turn p s t) (hk:(opAt p s t).kind=4):Fits p (doOnce p s t (opAt p s t)):=by
 have hv:=h.opv ht
 have hst:=ht.st
 obtain⟨o,eo⟩:∃o,o=opAt p s t:=⟨_,rfl⟩
 rw[←eo] at hv hk hst⊢
 obtain⟨h0,h1⟩:=op_on hv
 rw[show shared p o.kind=3 by unfold shared;rw[if_neg (by omega),if_neg (by omega),if_pos hk]] at h1
 have hi:o.on.toNat<s.onces.length:=by rw[h.non];omega
 obtain⟨x,ex⟩:∃x,x=s.onces.getD o.on.toNat noOnce:=⟨_,rfl⟩
 have ok:=h.on _ hi
 have hva:=op_val hv (.inr (.inl hk))
 rw[←ex] at ok
 have hin:∀u∈x.waits,u∈eT s:=fun u hu=>by
  refine List.mem_map.2 ⟨(u,4,((o.on.toNat:Nat):Int),0),in_ents_once hi ?_,rfl⟩
  rw[←ex];exact List.mem_map.2 ⟨u,hu,rfl⟩
 have hoi:((o.on.toNat:Nat):Int)=o.on:=by omega
 have hr4:0≤t∧t<6:=by have:=ht.rg;have:=(valid_threads h.prog).2;omega
 unfold Go.Proofs.YtjmpejaifmopnaaGreat.doOnce
 rw[←ex]
 rcases hst with ⟨s0,hno⟩|⟨s2,-,hown⟩
 ·rw[if_neg (by omega)]
  have hcE:=ents_setOnce s o.on (onceEnter x t) hi
  have hcO:=owns_setOnce s o.on (onceEnter x t) hi
  rw[←ex] at hcE hcO
  have hE:=perm_set hcE
  have hO:=perm_set hcO
  rcases ok with ⟨k1,k2,k3,k4⟩|⟨k1,k2,k3,k4,k5⟩|⟨k1,k2,k3,k4⟩
  ·rw[if_pos k1]
   have e:onceEnter x t=⟨1,t,0,[]⟩:=by unfold onceEnter;rw[if_pos k1]
   rw[e] at hE hO⊢
   have hT:Things p (setOnce s o.on ⟨1,t,0,[]⟩):=h.things.setOnce (.inr (.inl ⟨rfl,hr4,rfl,thr6_nil,by simp⟩))
   refine h.own ht hno (by rw[←eo];exact hk) hT rfl rfl ?_ ?_
   ·have e2:onceEn (⟨1,t,0,[]⟩:OnceD) o.on.toNat=onceEn x o.on.toNat:=by unfold onceEn;rw[k4]
    rw[e2] at hE
    exact perm_same hE
   ·have e2:ownEn (⟨1,t,0,[]⟩:OnceD) o.on.toNat=ownEn x o.on.toNat++[(t,o.on)]:=by
     unfold ownEn
     rw[if_pos rfl,if_neg (by omega),hoi]
     rfl
    rw[e2] at hO
    rw[←eo]
    exact perm_add hO
  ·rw[if_neg (by omega),if_pos k1]
   have e:onceEnter x t=⟨1,x.owner,0,x.waits++[t]⟩:=by unfold onceEnter;rw[if_neg (by omega),if_pos k1]
   rw[e] at hE hO⊢
   have hth:=thr6_more h ht k4 hin
   have howner:x.owner∈oT s:=by
    refine List.mem_map.2 ⟨(x.owner,((o.on.toNat:Nat):Int)),in_owns hi ?_,rfl⟩
    rw[←ex];unfold ownEn;rw[if_pos k1];simp
   have hne:x.owner≠t:=fun e=>hno (e▸howner)
   have hT:Things p (setOnce s o.on ⟨1,x.owner,0,x.waits++[t]⟩):=h.things.setOnce (.inr (.inl ⟨rfl,k2,rfl,hth.1,fun hm=>by
    rcases xP1 hm with hm|hm
    ·exact k5 hm
    ·exact hne (xS1 hm)⟩))
   have hOo:owns (setOnce s o.on ⟨1,x.owner,0,x.waits++[t]⟩)=owns s:=by
    unfold owns setOnce
    simp only[List.length_set]
    refine allE_congr fun i hi'=> ?_
    rw[getD_set]
    by_cases hii:i=o.on.toNat∧o.on.toNat<s.onces.length
    ·rw[if_pos hii,hii.1,←ex]
     unfold ownEn
     rw[if_pos rfl,if_pos k1]
    ·rw[if_neg hii]
   refine h.wait ht hno hT rfl rfl (perm_add (N:=onceEn x o.on.toNat) ?_) hOo
   have e2:onceEn (⟨1,x.owner,0,x.waits++[t]⟩:OnceD) o.on.toNat=onceEn x o.on.toNat++[want o t]:=by
    unfold onceEn want
    rw[if_neg (by omega),hk,List.map_append,hoi]
    rfl
   rw[e2] at hE
   rw[←eo]
   exact hE
  ·rw[if_neg (by omega),if_neg (by omega)]
   exact h.tell (R:=[]) ht hno h.things rfl rfl (by rw[List.append_nil]) rfl
 ·rw[if_pos s2]
  have hcE:=ents_setOnce s o.on (onceEnd t o.arg) hi
  have hcO:=owns_setOnce s o.on (onceEnd t o.arg) hi
  rw[←ex] at hcE hcO
  have hE:=perm_set hcE
  have hO:=perm_set hcO
  obtain⟨i,hi',hmem⟩:=mem_allE.1 hown
  have hx1:(s.onces.getD i noOnce).state=1∧t=(s.onces.getD i noOnce).owner∧o.on=i:=by
   unfold ownEn at hmem
   by_cases hs1:(s.onces.getD i noOnce).state=1
   ·rw[if_pos hs1] at hmem
    have:=xS1 hmem
    simp only[Prod.mk.injEq] at this
    exact⟨hs1,this.1,this.2⟩
   ·rw[if_neg hs1] at hmem;cases hmem
  have hii:o.on.toNat=i:=by omega
  rw[←hii,←ex] at hx1
  obtain⟨x1,x2,-⟩:=hx1
  have hth:thr6 x.waits:=by
   rcases ok with ⟨k1,k2,k3,k4⟩|⟨k1,k2,k3,k4,k5⟩|⟨k1,k2,k3,k4⟩
   ·rw[k4];exact thr6_nil
   ·exact k4
   ·rw[k4];exact thr6_nil
  have hT:Things p (setOnce s o.on (onceEnd t o.arg)):=h.things.setOnce (.inr (.inr ⟨rfl,hr4,hva,rfl⟩))
  have eN:onceEn (onceEnd t o.arg) o.on.toNat=[]:=rfl
  have eM:ownEn (onceEnd t o.arg) o.on.toNat=[]:=by unfold ownEn onceEnd;rw[if_neg (by show¬(2:Int)=1;decide)]
  have eQ:ownEn x o.on.toNat=[(t,o.on)]:=by unfold ownEn;rw[if_pos x1,hoi,←x2]
  rw[eN,List.append_nil] at hE
  rw[eM,eQ,List.append_nil] at hO
  have pE:=hE.map (·.1)
  have pO:=hO.map (·.1)
  rw[List.map_append] at pE pO
  have nE:=List.nodup_append.1 (pE.nodup_iff.2 h.ne)
  have nO:=List.nodup_append.1 (pO.nodup_iff.2 h.no)
  have mR:(onceEn x o.on.toNat).map (fun e:Ent=>e.1)=x.waits:=by
   unfold onceEn
   rw[List.map_map]
   exact List.map_id' _
  have tO:t∈oT s:=List.mem_map.2 ⟨_,hown,rfl⟩
  refine h.go hT rfl rfl hE hO ?_ ?_ ?_ ?_ ?_
  ·exact List.nodup_append.2 ⟨hth.2.2,by simp,fun a ha b hb e=>ht.ne (by rw[xS1 hb] at e;exact e▸hin a ha)⟩
  ·intro u hu
   rcases xP1 hu with hu|hu
   ·exact⟨(h.waits (hin u hu)).1,(h.waits (hin u hu)).2.1⟩
   ·rw[xS1 hu];exact⟨ht.rg,ht.lt⟩
  ·intro u hu
   rcases xP1 hu with hu|hu
   ·refine⟨fun hx=>nE.2.2 u hx u (by rw[mR];exact hu) rfl,fun hx=> ?_⟩
    exact(h.waits (hin u hu)).2.2 (pO.mem_iff.1 (xQ1 (.inl hx)))
   ·rw[xS1 hu]
    exact⟨fun hx=>ht.ne (pE.mem_iff.1 (xQ1 (.inl hx))),fun hx=>nO.2.2 t hx t (by simp) rfl⟩
  ·intro e he
   refine xQ1 (.inl ?_)
   rw[←mR]
   exact List.mem_map_of_mem he
  ·intro e he
   rw[xS1 he]
   exact xQ1 (.inr (by simp))
end
section
variable {p:Pg} {s:StD} {t:Int}
theorem map_fst_en (l:List Int) (k:Int) (i:Int):(l.map fun u=>((u,k,i,0):Ent)).map (fun e:Ent=>e.1)=l:=by
 rw[List.map_map];exact List.map_id' _
theorem op_add {o:OpD} (ho:opValid p o=true) (hk:o.kind=5): -9≤o.arg∧o.arg≤9:=by
 have h:=(opValid_facts ho).2.2
 unfold argOk at h
 rw[if_neg (by omega),if_pos hk] at h
 simpa using h
theorem Fits.doAdd (h:Fits p s) (ht:Turn p s t) (ho:t∉oT s) (hk:(opAt p s t).kind=5):Fits p (doAdd p s t (opAt p s t)):=by
 have hv:=h.opv ht
 obtain⟨o,eo⟩:∃o,o=opAt p s t:=⟨_,rfl⟩
 rw[←eo] at hv hk⊢
 obtain⟨h0,h1⟩:=op_on hv
 rw[show shared p o.kind=p.groups.length by unfold shared;rw[if_neg (by omega),if_neg (by omega),if_neg (by omega),if_pos (.inl hk)]] at h1
 have hi:o.on.toNat<s.groups.length:=by rw[h.ngr];omega
 obtain⟨x,ex⟩:∃x,x=s.groups.getD o.on.toNat noGrp:=⟨_,rfl⟩
 have ok:=h.gr _ hi
 rw[←ex] at ok
 unfold Go.Proofs.YtjmpejaifmopnaaGreat.doAdd
 rw[←ex]
 unfold grpAdd
 by_cases hr:0≤x.count+o.arg∧x.count+o.arg≤99
 ·rw[if_pos hr]
  by_cases hz:x.count+o.arg=0
  ·rw[if_pos hz]
   have hcount:=ents_setGrp s o.on ⟨0,[]⟩ hi
   rw[←ex] at hcount
   have hP:=perm_set hcount
   rw[show grpEn (⟨0,[]⟩:GrpD) o.on.toNat=[] from rfl,List.append_nil] at hP
   have hT:Things p (setGrp s o.on ⟨0,[]⟩):=h.things.setGrp ⟨by simp,thr6_nil,fun _=>rfl⟩
   have:=h.tell (R:=grpEn x o.on.toNat) ht ho hT rfl rfl hP rfl
   unfold grpEn at this
   rw[map_fst_en] at this
   exact this
  ·rw[if_neg hz]
   have hcount:=ents_setGrp s o.on ⟨x.count+o.arg,x.waits⟩ hi
   rw[←ex] at hcount
   have hP:=perm_set hcount
   have hT:Things p (setGrp s o.on ⟨x.count+o.arg,x.waits⟩):=h.things.setGrp ⟨hr,ok.2.1,fun e=>absurd e hz⟩
   exact h.tell (R:=[]) ht ho hT rfl rfl (by rw[List.append_nil];exact perm_same hP) rfl
 ·rw[if_neg hr]
  exact h.fail (by omega)
theorem Fits.doWait (h:Fits p s) (ht:Turn p s t) (ho:t∉oT s) (hk:(opAt p s t).kind=6):Fits p (doWait p s t (opAt p s t)):=by
 have hv:=h.opv ht
 obtain⟨o,eo⟩:∃o,o=opAt p s t:=⟨_,rfl⟩
 rw[←eo] at hv hk⊢
 obtain⟨h0,h1⟩:=op_on hv
 rw[show shared p o.kind=p.groups.length by unfold shared;rw[if_neg (by omega),if_neg (by omega),if_neg (by omega),if_pos (.inr hk)]] at h1
 have hi:o.on.toNat<s.groups.length:=by rw[h.ngr];omega
 obtain⟨x,ex⟩:∃x,x=s.groups.getD o.on.toNat noGrp:=⟨_,rfl⟩
 have ok:=h.gr _ hi
 rw[←ex] at ok
 have hcount:=ents_setGrp s o.on (grpWait x t).1 hi
 rw[←ex] at hcount
 have hP:=perm_set hcount
 unfold Go.Proofs.YtjmpejaifmopnaaGreat.doWait
 rw[←ex]
 by_cases hz:x.count=0
 ·have e:grpWait x t=(x,true):=by unfold grpWait;rw[if_pos hz]
  rw[e] at hP⊢
  have hT:Things p (setGrp s o.on x):=h.things.setGrp ok
  exact h.tell (R:=[]) ht ho hT rfl rfl (by rw[List.append_nil];exact perm_same hP) rfl
 ·have e:grpWait x t=(⟨x.count,x.waits++[t]⟩,false):=by unfold grpWait;rw[if_neg hz]
  rw[e] at hP⊢
  have hin:∀u∈x.waits,u∈eT s:=fun u hu=>by
   refine List.mem_map.2 ⟨(u,6,((o.on.toNat:Nat):Int),0),in_ents_grp hi ?_,rfl⟩
   rw[←ex];exact List.mem_map.2 ⟨u,hu,rfl⟩
  have hth:=thr6_more h ht ok.2.1 hin
  have hT:Things p (setGrp s o.on ⟨x.count,x.waits++[t]⟩):=h.things.setGrp ⟨ok.1,hth.1,fun e=>absurd e hz⟩
  refine h.wait ht ho hT rfl rfl (perm_add (N:=grpEn x o.on.toNat) ?_) rfl
  rw[←eo]
  have e2:grpEn (⟨x.count,x.waits++[t]⟩:GrpD) o.on.toNat=grpEn x o.on.toNat++[want o t]:=by
   unfold grpEn want
   rw[if_neg (by omega),hk,List.map_append,show((o.on.toNat:Nat):Int)=o.on by omega]
   rfl
  rw[e2] at hP
  exact hP
theorem Fits.doCome (h:Fits p s) (ht:Turn p s t) (ho:t∉oT s) (hk:(opAt p s t).kind=7) (hrd:∀i,(s.bars.getD i noBar).round<9999):Fits p (doCome p s t (opAt p s t)):=by
 have hv:=h.opv ht
 obtain⟨o,eo⟩:∃o,o=opAt p s t:=⟨_,rfl⟩
 rw[←eo] at hv hk⊢
 obtain⟨h0,h1⟩:=op_on hv
 rw[show shared p o.kind=p.barriers.length by unfold shared;rw[if_neg (by omega),if_neg (by omega),if_neg (by omega),if_neg (by omega),if_pos hk]] at h1
 have hi:o.on.toNat<s.bars.length:=by rw[h.nba];omega
 obtain⟨x,ex⟩:∃x,x=s.bars.getD o.on.toNat noBar:=⟨_,rfl⟩
 obtain⟨ok,hpar⟩:=h.ba _ hi
 have hr:=hrd o.on.toNat
 rw[←ex] at ok hpar hr
 have hcount:=ents_setBar s o.on (barCome x t).1 hi
 rw[←ex] at hcount
 have hP:=perm_set hcount
 unfold Go.Proofs.YtjmpejaifmopnaaGreat.doCome
 rw[←ex]
 have hoi:((o.on.toNat:Nat):Int)=o.on:=by omega
 have hin:∀u∈x.waits,u∈eT s:=fun u hu=>by
  refine List.mem_map.2 ⟨(u,7,((o.on.toNat:Nat):Int),0),in_ents_bar hi ?_,rfl⟩
  rw[←ex];exact List.mem_map.2 ⟨u,hu,rfl⟩
 have hth:=thr6_more h ht ok.2.2.1 hin
 by_cases hlt:(x.waits.length:Int)+1<x.parties
 ·have e:barCome x t=(⟨x.parties,x.round,x.waits++[t]⟩,[]):=by unfold barCome;rw[if_pos hlt]
  rw[e] at hP⊢
  rw[if_pos rfl]
  have hT:Things p (setBar s o.on ⟨x.parties,x.round,x.waits++[t]⟩):=h.things.setBar ⟨⟨ok.1,ok.2.1,hth.1,by
   show(((x.waits++[t]).length:Nat):Int)<x.parties
   rw[List.length_append];simpa using hlt⟩,hpar⟩
  refine h.wait ht ho hT rfl rfl (perm_add (N:=barEn x o.on.toNat) ?_) rfl
  rw[←eo]
  have e2:barEn (⟨x.parties,x.round,x.waits++[t]⟩:BarD) o.on.toNat=barEn x o.on.toNat++[want o t]:=by
   unfold barEn want
   rw[if_neg (by omega),hk,List.map_append,hoi]
   rfl
  rw[e2] at hP
  exact hP
 ·have e:barCome x t=(⟨x.parties,x.round+1,[]⟩,x.waits++[t]):=by unfold barCome;rw[if_neg hlt]
  rw[e] at hP⊢
  rw[if_neg (by simp)]
  rw[show barEn (⟨x.parties,x.round+1,[]⟩:BarD) o.on.toNat=[] from rfl,List.append_nil] at hP
  have hT:Things p (setBar s o.on ⟨x.parties,x.round+1,[]⟩):=h.things.setBar ⟨⟨ok.1,⟨by show 0≤x.round+1;have:=ok.2.1.1;omega,by show x.round+1≤9999;omega⟩,thr6_nil,by show((0:Nat):Int)<x.parties;have:=ok.1.1;omega⟩,hpar⟩
  have:=h.tell (R:=barEn x o.on.toNat) ht ho hT rfl rfl hP rfl
  unfold barEn at this
  rw[map_fst_en] at this
  exact this
theorem Fits.doSay (h:Fits p s) (ht:Turn p s t) (ho:t∉oT s) (hk:(opAt p s t).kind=1) (hn:s.said.length<64):Fits p (goOn p (Go.Proofs.YtjmpejaifmopnaaGreat.sayIt s (opAt p s t).arg) t):=by
 have hv:=op_val (h.opv ht) (.inl hk)
 exact h.tell (R:=[]) ht ho (h.things.say hv hn) rfl rfl (by rw[List.append_nil];exact List.Perm.refl _) rfl
theorem shared_ch {o:OpD} (hk:8≤o.kind):shared p o.kind=p.rooms.length:=by
 unfold shared
 rw[if_neg (by omega),if_neg (by omega),if_neg (by omega),if_neg (by omega),if_neg (by omega)]
theorem Fits.doSend (h:Fits p s) (ht:Turn p s t) (ho:t∉oT s) (hk:(opAt p s t).kind=8) (hn:s.said.length<64):Fits p (doSend p s t (opAt p s t)):=by
 have hv:=h.opv ht
 obtain⟨o,eo⟩:∃o,o=opAt p s t:=⟨_,rfl⟩
 rw[←eo] at hv hk⊢
 obtain⟨h0,h1⟩:=op_on hv
 rw[shared_ch (by omega)] at h1
 have hi:o.on.toNat<s.chans.length:=by rw[h.nch];omega
 have hva:=op_val hv (.inr (.inr hk))
 obtain⟨x,ex⟩:∃x,x=s.chans.getD o.on.toNat noChn:=⟨_,rfl⟩
 obtain⟨ok,hroom⟩:=h.ch _ hi
 rw[←ex] at ok hroom
 obtain⟨k1,k2,k3,k4,k5,k6,k7⟩:=ok
 unfold Go.Proofs.YtjmpejaifmopnaaGreat.doSend
 rw[←ex]
 have hoi:((o.on.toNat:Nat):Int)=o.on:=by omega
 unfold chnSend
 by_cases hc:x.closed=true
 ·rw[if_pos hc]
  exact h.fail (by omega)
 ·rw[if_neg hc]
  have hcl:x.closed=false:=by simpa using hc
  cases hg:x.getters with
  |cons g gs=>
   dsimp only
   rw[if_neg (by simp)]
   have hitems:=(k7 (by rw[hg];simp)).1
   have hsnd:x.senders=[]:=by
    cases hs:x.senders with
    |nil=>rfl
    |cons a l=>have:=(k6 (by rw[hs];simp)).2.1;rw[hg] at this;cases this
   have hcount:=ents_setChn s o.on ⟨x.room,x.items,x.senders,gs,x.closed⟩ hi
   rw[←ex] at hcount
   have hP:=perm_set hcount
   have hsp:chnEn x o.on.toNat=[((g,9,((o.on.toNat:Nat):Int),0):Ent)]++chnEn (⟨x.room,x.items,x.senders,gs,x.closed⟩:ChnD) o.on.toNat:=by
    unfold chnEn
    rw[hsnd,hg]
    rfl
   rw[hsp] at hP
   rw[hsnd,hg] at k5
   have hT:Things p (Go.Proofs.YtjmpejaifmopnaaGreat.sayIt (setChn s o.on ⟨x.room,x.items,x.senders,gs,x.closed⟩) o.arg):=(h.things.setChn (x:=⟨x.room,x.items,x.senders,gs,x.closed⟩) ⟨⟨k1,k2,k3,k4,by
    show thr6 (x.senders.map (·.1)++gs)
    rw[hsnd]
    exact thr6_less (l:=[g]) k5,fun e=>absurd hsnd e,fun _=>⟨hitems,hcl⟩⟩,hroom⟩).say hva hn
   have:=h.tell (R:=[((g,9,((o.on.toNat:Nat):Int),0):Ent)]) ht ho hT rfl rfl (perm_cut hP) rfl
   exact this
  |nil=>
   dsimp only
   by_cases hr:(x.items.length:Int)<x.room
   ·rw[if_pos hr]
    dsimp only
    rw[if_pos rfl]
    have hcount:=ents_setChn s o.on ⟨x.room,x.items++[o.arg],x.senders,[],x.closed⟩ hi
    rw[←ex] at hcount
    have hP:=perm_set hcount
    have hsp:chnEn (⟨x.room,x.items++[o.arg],x.senders,[],x.closed⟩:ChnD) o.on.toNat=chnEn x o.on.toNat:=by unfold chnEn;rw[hg]
    rw[hsp] at hP
    have hsnd:x.senders=[]:=by
     cases hs:x.senders with
     |nil=>rfl
     |cons a l=>have:=(k6 (by rw[hs];simp)).1;omega
    have hT:Things p (setChn s o.on ⟨x.room,x.items++[o.arg],x.senders,[],x.closed⟩):=h.things.setChn ⟨⟨k1,by
     show(((x.items++[o.arg]).length:Nat):Int)≤x.room
     rw[List.length_append];simp;omega,fun v hv=>by
     rcases xP1 hv with hv|hv
     ·exact k3 v hv
     ·rw[xS1 hv];exact hva,k4,by rw[hg] at k5;exact k5,fun e=>absurd hsnd e,fun e=>absurd rfl e⟩,hroom⟩
    exact h.tell (R:=[]) ht ho hT rfl rfl (by rw[List.append_nil];exact perm_same hP) rfl
   ·rw[if_neg hr]
    dsimp only
    rw[if_pos rfl]
    have hcount:=ents_setChn s o.on ⟨x.room,x.items,x.senders++[(t,o.arg)],[],x.closed⟩ hi
    rw[←ex] at hcount
    have hP:=perm_set hcount
    have hsp:chnEn (⟨x.room,x.items,x.senders++[(t,o.arg)],[],x.closed⟩:ChnD) o.on.toNat=chnEn x o.on.toNat++[want o t]:=by
     unfold chnEn want
     rw[hg,if_pos (.inr hk),hk,List.map_append,hoi]
     simp
    rw[hsp] at hP
    have hin:∀u∈x.senders.map (·.1),u∈eT s:=fun u hu=>by
     obtain⟨w,hw,rfl⟩:=List.mem_map.1 hu
     refine List.mem_map.2 ⟨(w.1,8,((o.on.toNat:Nat):Int),w.2),in_ents_chn hi ?_,rfl⟩
     rw[←ex]
     exact xQ1 (.inl (List.mem_map.2 ⟨w,hw,rfl⟩))
    rw[hg,List.append_nil] at k5
    have hth:=thr6_more h ht k5 hin
    have hT:Things p (setChn s o.on ⟨x.room,x.items,x.senders++[(t,o.arg)],[],x.closed⟩):=h.things.setChn ⟨⟨k1,k2,k3,fun l hl=>by
     rcases xP1 hl with hl|hl
     ·exact k4 l hl
     ·rw[xS1 hl];exact hva,by
     show thr6 (List.map _ (x.senders++[(t,o.arg)])++[])
     rw[List.append_nil,List.map_append];exact hth.1,fun _=>⟨by show(x.items.length:Int)=x.room;omega,rfl,hcl⟩,fun e=>absurd rfl e⟩,hroom⟩
    refine h.wait ht ho hT rfl rfl (perm_add (N:=chnEn x o.on.toNat) ?_) rfl
    rw[←eo]
    exact hP
theorem Fits.doGet (h:Fits p s) (ht:Turn p s t) (ho:t∉oT s) (hk:(opAt p s t).kind=9) (hn:s.said.length<64):Fits p (doGet p s t (opAt p s t)):=by
 have hv:=h.opv ht
 obtain⟨o,eo⟩:∃o,o=opAt p s t:=⟨_,rfl⟩
 rw[←eo] at hv hk⊢
 obtain⟨h0,h1⟩:=op_on hv
 rw[shared_ch (by omega)] at h1
 have hi:o.on.toNat<s.chans.length:=by rw[h.nch];omega
 obtain⟨x,ex⟩:∃x,x=s.chans.getD o.on.toNat noChn:=⟨_,rfl⟩
 obtain⟨ok,hroom⟩:=h.ch _ hi
 rw[←ex] at ok hroom
 obtain⟨k1,k2,k3,k4,k5,k6,k7⟩:=ok
 unfold Go.Proofs.YtjmpejaifmopnaaGreat.doGet
 rw[←ex]
 have hoi:((o.on.toNat:Nat):Int)=o.on:=by omega
 have hcount:=ents_setChn s o.on (chnGet x t).1 hi
 rw[←ex] at hcount
 have hP:=perm_set hcount
 cases hs:x.senders with
 |cons l ls=>
  obtain⟨f1,f2,f3⟩:=k6 (by rw[hs];simp)
  have hsp:chnEn x o.on.toNat=[((l.1,8,((o.on.toNat:Nat):Int),l.2):Ent)]++ls.map fun w=>((w.1,8,((o.on.toNat:Nat):Int),w.2):Ent):=by
   unfold chnEn
   rw[hs,f2]
   simp
  have hl2:=k4 l (by rw[hs];simp)
  have k5':thr6 (ls.map (·.1)++x.getters):=by
   rw[hs] at k5
   exact thr6_less (l:=[l.1]) k5
  have k4':∀w∈ls,0≤w.2∧w.2≤99:=fun w hw=>k4 w (by rw[hs];exact List.mem_cons_of_mem _ hw)
  cases hit:x.items with
  |cons y ys=>
   have e:chnGet x t=(⟨x.room,ys++[l.2],ls,x.getters,x.closed⟩,y,1,[l.1]):=by unfold chnGet;rw[hs,hit]
   rw[e] at hP⊢
   rw[if_neg (show¬(1:Int)=0 by decide),if_pos rfl]
   have e2:chnEn (⟨x.room,ys++[l.2],ls,x.getters,x.closed⟩:ChnD) o.on.toNat=ls.map fun w=>((w.1,8,((o.on.toNat:Nat):Int),w.2):Ent):=by unfold chnEn;rw[f2];simp
   rw[e2,hsp] at hP
   have hlen:(((ys++[l.2]).length:Nat):Int)=x.room:=by rw[hit] at f1;rw[←f1];simp
   have hT:Things p (Go.Proofs.YtjmpejaifmopnaaGreat.sayIt (setChn s o.on ⟨x.room,ys++[l.2],ls,x.getters,x.closed⟩) y):=(h.things.setChn (x:=⟨x.room,ys++[l.2],ls,x.getters,x.closed⟩) ⟨⟨k1,by show(((ys++[l.2]).length:Nat):Int)≤x.room;omega,fun v hv=>by
    rcases xP1 hv with hv|hv
    ·exact k3 v (by rw[hit];exact List.mem_cons_of_mem _ hv)
    ·rw[xS1 hv];exact hl2,k4',k5',fun _=>⟨hlen,f2,f3⟩,fun e=>absurd f2 e⟩,hroom⟩).say (k3 y (by rw[hit];simp)) hn
   exact h.tell (R:=[((l.1,8,((o.on.toNat:Nat):Int),l.2):Ent)]) ht ho hT rfl rfl (perm_cut hP) rfl
  |nil=>
   have e:chnGet x t=(⟨x.room,[],ls,x.getters,x.closed⟩,l.2,1,[l.1]):=by unfold chnGet;rw[hs,hit]
   rw[e] at hP⊢
   rw[if_neg (show¬(1:Int)=0 by decide),if_pos rfl]
   have e2:chnEn (⟨x.room,[],ls,x.getters,x.closed⟩:ChnD) o.on.toNat=ls.map fun w=>((w.1,8,((o.on.toNat:Nat):Int),w.2):Ent):=by unfold chnEn;rw[f2];simp
   rw[e2,hsp] at hP
   rw[hit] at f1
   have hT:Things p (Go.Proofs.YtjmpejaifmopnaaGreat.sayIt (setChn s o.on ⟨x.room,[],ls,x.getters,x.closed⟩) l.2):=(h.things.setChn (x:=⟨x.room,[],ls,x.getters,x.closed⟩) ⟨⟨k1,by rw[hit] at k2;exact k2,fun v hv=>(by cases hv),k4',k5',fun _=>⟨f1,f2,f3⟩,fun e=>absurd f2 e⟩,hroom⟩).say hl2 hn
   exact h.tell (R:=[((l.1,8,((o.on.toNat:Nat):Int),l.2):Ent)]) ht ho hT rfl rfl (perm_cut hP) rfl
 |nil=>
  rw[hs,List.map_nil,List.nil_append] at k5
  cases hit:x.items with
  |cons y ys=>
   have hg:x.getters=[]:=by
    cases hg:x.getters with
    |nil=>rfl
    |cons a l=>have:=(k7 (by rw[hg];simp)).1;rw[hit] at this;cases this
   have e:chnGet x t=(⟨x.room,ys,[],x.getters,x.closed⟩,y,1,[]):=by unfold chnGet;rw[hs,hit]
   rw[e] at hP⊢
   rw[if_neg (show¬(1:Int)=0 by decide),if_pos rfl]
   have e2:chnEn (⟨x.room,ys,[],x.getters,x.closed⟩:ChnD) o.on.toNat=chnEn x o.on.toNat:=by unfold chnEn;rw[hs]
   rw[e2] at hP
   have hT:Things p (Go.Proofs.YtjmpejaifmopnaaGreat.sayIt (setChn s o.on ⟨x.room,ys,[],x.getters,x.closed⟩) y):=(h.things.setChn (x:=⟨x.room,ys,[],x.getters,x.closed⟩) ⟨⟨k1,by
    show((ys.length:Nat):Int)≤x.room
    rw[hit,List.length_cons] at k2;omega,fun v hv=>k3 v (by rw[hit];exact List.mem_cons_of_mem _ hv),fun l hl=>(by cases hl),by show thr6 ([]++x.getters);exact k5,fun e=>absurd rfl e,fun e=>absurd hg e⟩,hroom⟩).say (k3 y (by rw[hit];simp)) hn
   exact h.tell (R:=[]) ht ho hT rfl rfl (by rw[List.append_nil];exact perm_same hP) rfl
  |nil=>
   by_cases hc:x.closed=true
   ·have e:chnGet x t=(x,0,2,[]):=by unfold chnGet;rw[hs,hit];dsimp only;rw[if_pos hc]
    rw[e] at hP⊢
    rw[if_neg (show¬(2:Int)=0 by decide),if_neg (show¬(2:Int)=1 by decide)]
    have hT:Things p (setChn s o.on x):=h.things.setChn ⟨⟨k1,k2,k3,k4,by rw[hs];exact k5,k6,k7⟩,hroom⟩
    exact h.tell (R:=[]) ht ho hT rfl rfl (by rw[List.append_nil];exact perm_same hP) rfl
   ·have hcl:x.closed=false:=by simpa using hc
    have e:chnGet x t=(⟨x.room,[],[],x.getters++[t],x.closed⟩,0,0,[]):=by unfold chnGet;rw[hs,hit];dsimp only;rw[if_neg hc]
    rw[e] at hP⊢
    rw[if_pos rfl]
    have hin:∀u∈x.getters,u∈eT s:=fun u hu=>by
     refine List.mem_map.2 ⟨(u,9,((o.on.toNat:Nat):Int),0),in_ents_chn hi ?_,rfl⟩
     rw[←ex]
     exact xQ1 (.inr (List.mem_map.2 ⟨u,hu,rfl⟩))
    have hth:=thr6_more h ht k5 hin
    have hT:Things p (setChn s o.on ⟨x.room,[],[],x.getters++[t],x.closed⟩):=h.things.setChn (x:=⟨x.room,[],[],x.getters++[t],x.closed⟩) ⟨⟨k1,by rw[hit] at k2;exact k2,fun v hv=>(by cases hv),fun l hl=>(by cases hl),by show thr6 ([]++(x.getters++[t]));exact hth.1,fun e=>absurd rfl e,fun _=>⟨rfl,hcl⟩⟩,hroom⟩
    refine h.wait ht ho hT rfl rfl (perm_add (N:=chnEn x o.on.toNat) ?_) rfl
    rw[←eo]
    have e2:chnEn (⟨x.room,[],[],x.getters++[t],x.closed⟩:ChnD) o.on.toNat=chnEn x o.on.toNat++[want o t]:=by
     unfold chnEn want
     rw[hs,if_neg (by omega),hk,hoi]
     simp
    rw[e2] at hP
    exact hP
theorem Fits.doClose (h:Fits p s) (ht:Turn p s t) (ho:t∉oT s) (hk:(opAt p s t).kind=10):Fits p (doClose p s t (opAt p s t)):=by
 have hv:=h.opv ht
 obtain⟨o,eo⟩:∃o,o=opAt p s t:=⟨_,rfl⟩
 rw[←eo] at hv hk⊢
 obtain⟨h0,h1⟩:=op_on hv
 rw[shared_ch (by omega)] at h1
 have hi:o.on.toNat<s.chans.length:=by rw[h.nch];omega
 obtain⟨x,ex⟩:∃x,x=s.chans.getD o.on.toNat noChn:=⟨_,rfl⟩
 obtain⟨ok,hroom⟩:=h.ch _ hi
 rw[←ex] at ok hroom
 obtain⟨k1,k2,k3,k4,k5,k6,k7⟩:=ok
 unfold Go.Proofs.YtjmpejaifmopnaaGreat.doClose
 rw[←ex]
 unfold chnClose
 by_cases hc:x.closed=true∨x.senders≠[]
 ·rw[if_pos hc]
  exact h.fail (by omega)
 ·rw[if_neg hc]
  have hsnd:x.senders=[]:=by
   by_cases hs:x.senders=[]
   ·exact hs
   ·exact absurd (.inr hs) hc
  dsimp only
  have hcount:=ents_setChn s o.on ⟨x.room,x.items,x.senders,[],true⟩ hi
  rw[←ex] at hcount
  have hP:=perm_set hcount
  have e1:chnEn (⟨x.room,x.items,x.senders,[],true⟩:ChnD) o.on.toNat=[]:=by unfold chnEn;rw[hsnd];rfl
  have e2:chnEn x o.on.toNat=x.getters.map fun u=>((u,9,((o.on.toNat:Nat):Int),0):Ent):=by unfold chnEn;rw[hsnd];rfl
  rw[e1,e2,List.append_nil] at hP
  have hT:Things p (setChn s o.on ⟨x.room,x.items,x.senders,[],true⟩):=h.things.setChn ⟨⟨k1,k2,k3,k4,by
   show thr6 (x.senders.map (·.1)++[])
   rw[hsnd];exact thr6_nil,fun e=>absurd hsnd e,fun e=>absurd rfl e⟩,hroom⟩
  have:=h.tell (R:=x.getters.map fun u=>((u,9,((o.on.toNat:Nat):Int),0):Ent)) ht ho hT rfl rfl hP rfl
  rw[map_fst_en] at this
  exact this
end
theorem sum_set:∀(l:List Int) (i:Nat) (x:Int),i<l.length→(l.set i x).sum=l.sum-l.getD i 0+x
 |[],_,_,h=>by simp at h
 |a::l,0,x,_=>by simp;omega
 |a::l,i+1,x,h=>by
  have ih:=sum_set l i x (by simpa using h)
  simp only[List.set_cons_succ,List.sum_cons,List.getD_cons_succ]
  omega
theorem sum_le:∀(l:List Int) (n:Int),(∀x∈l,x≤n)→l.sum≤n*l.length
 |[],n,_=>by simp
 |a::l,n,h=>by
  have ih:=sum_le l n (fun x hx=>h x (List.mem_cons_of_mem _ hx))
  have h1:=h a (by simp)
  have e:n*((a::l).length:Int)=n*(l.length:Int)+n:=by
   rw[List.length_cons]
   have:((l.length+1:Nat):Int)=(l.length:Int)+1:=by omega
   rw[this,Int.mul_add,Int.mul_one]
  rw[List.sum_cons,e]
  omega
section
variable {p:Pg}
theorem goOn_sum (s:StD) (t:Int) (h:t.toNat<s.places.length):(goOn p s t).places.sum=s.places.sum+1:=by
 show(s.places.set t.toNat _).sum=_
 rw[sum_set _ _ _ h];omega
theorem goOn_sum_ge (s:StD) (t:Int):s.places.sum≤(goOn p s t).places.sum:=by
 by_cases h:t.toNat<s.places.length
 ·rw[goOn_sum s t h];omega
 ·show s.places.sum≤(s.places.set t.toNat _).sum
  rw[List.set_eq_of_length_le (by omega)]
  exact Int.le_refl _
theorem goAll_sum_ge:∀(l:List Int) (s:StD),s.places.sum≤(goAll p s l).places.sum
 |[],_=>Int.le_refl _
 |t::l,s=>Int.le_trans (goOn_sum_ge s t) (goAll_sum_ge l (goOn p s t))
theorem goAll_snoc_sum (l:List Int) (s:StD) (t:Int) (h:t.toNat<s.places.length):s.places.sum+1≤(goAll p s (l++[t])).places.sum:=by
 rw[←goAll_snoc,goOn_sum _ _ (by rw[goAll_np];exact h)]
 have:=goAll_sum_ge (p:=p) l s
 omega
structure Run (p:Pg) (s:StD):Prop where
 fits:Fits p s
 said:(s.said.length:Int)≤s.places.sum
 rnd:∀i,(s.bars.getD i noBar).round≤s.places.sum
theorem Fits.places8 {s:StD} (h:Fits p s):∀x∈s.places,x≤8:=by
 intro x hx
 obtain⟨i,hi,rfl⟩:=List.mem_iff_getElem.1 hx
 rw[h.np] at hi
 have h1:=h.th i hi
 unfold thOk at h1
 rw[show((i:Nat):Int).toNat=i by simp,opsOf_nat] at h1
 have e:s.places.getD i 0=s.places[i]'(by rw[h.np];exact hi):=by rw[List.getD_eq_getElem?_getD,List.getElem?_eq_getElem (by rw[h.np];exact hi)];rfl
 rw[e] at h1
 have h8:(p.threads.getD i []).length≤8:=by
  have hv:=h.prog
  unfold progValid at hv
  simp only[Bool.and_eq_true,List.all_eq_true,decide_eq_true_eq] at hv
  rw[List.getD_eq_getElem?_getD,List.getElem?_eq_getElem hi]
  exact(hv.2 _ (List.getElem_mem hi)).1
 omega
theorem Fits.sum32 {s:StD} (h:Fits p s):s.places.sum≤32:=by
 have h1:=sum_le s.places 8 h.places8
 have h2:=(valid_threads h.prog).2
 have h3:=h.np
 omega
theorem Run.of {s s':StD} (h:Run p s) (hF:Fits p s') (hs:s.places.sum≤s'.places.sum) (h1:s'.said.length≤s.said.length∨(s'.said.length≤s.said.length+1∧s.places.sum+1≤s'.places.sum)) (h2:∀i,(s'.bars.getD i noBar).round≤(s.bars.getD i noBar).round∨((s'.bars.getD i noBar).round≤(s.bars.getD i noBar).round+1∧s.places.sum+1≤s'.places.sum)):Run p s':=by
 refine⟨hF,?_,fun i=> ?_⟩
 ·have:=h.said;omega
 ·have:=h.rnd i;have:=h2 i;omega
theorem Run.keep {s s':StD} (h:Run p s) (hF:Fits p s') (hs:s.places.sum≤s'.places.sum) (h1:s'.said=s.said) (h2:s'.bars=s.bars):Run p s':=
 h.of hF hs (.inl (by rw[h1];exact Nat.le_refl _)) (fun i=> .inl (by rw[h2];exact Int.le_refl _))
theorem Run.spoken {s s':StD} (h:Run p s) (hF:Fits p s') (hs:s.places.sum+1≤s'.places.sum) (h1:s'.said.length≤s.said.length+1) (h2:s'.bars=s.bars):Run p s':=
 h.of hF (by omega) (.inr ⟨h1,hs⟩) (fun i=> .inl (by rw[h2];exact Int.le_refl _))
theorem either_said (s:StD) (t:Int) (b:Bool):(either p s t b).said=s.said:=by unfold either;split<;>rfl
theorem either_bars (s:StD) (t:Int) (b:Bool):(either p s t b).bars=s.bars:=by unfold either;split<;>rfl
theorem either_sum (s:StD) (t:Int) (b:Bool):s.places.sum≤(either p s t b).places.sum:=by
 unfold either
 split
 ·exact goOn_sum_ge s t
 ·exact Int.le_refl _
theorem Run.step {s:StD} {t:Int} (h:Run p s) (ht:Turn p s t):Run p (stepD p s t):=by
 have hF:=h.fits
 have hs32:=hF.sum32
 have hsaid:s.said.length<64:=by have:=h.said;omega
 have hrd:∀i,(s.bars.getD i noBar).round<9999:=fun i=>by have:=h.rnd i;omega
 have htl:t.toNat<s.places.length:=by have:=ht.rg;rw[hF.np];omega
 have hk:=op_kind (hF.opv ht)
 have hno:(opAt p s t).kind≠4→t∉oT s:=fun hne=>by
  rcases ht.st with ⟨-,h1⟩|⟨-,h1,-⟩
  ·exact h1
  ·exact absurd h1 hne
 unfold stepD
 by_cases k1:(opAt p s t).kind=1
 ·rw[if_pos k1]
  refine h.spoken (hF.doSay ht (hno (by omega)) k1 hsaid) ?_ ?_ rfl
  ·have e:=goOn_sum (p:=p) (sayIt s (opAt p s t).arg) t htl
   rw[e]
   exact Int.le_refl _
  ·show(s.said++[(opAt p s t).arg]).length≤_
   rw[List.length_append];exact Nat.le_refl _
 rw[if_neg k1]
 by_cases k2:(opAt p s t).kind=2
 ·rw[if_pos k2]
  exact h.keep (hF.doSem ht (hno (by omega)) k2) (either_sum _ _ _) (either_said _ _ _) (either_bars _ _ _)
 rw[if_neg k2]
 by_cases k3:(opAt p s t).kind=3
 ·rw[if_pos k3]
  have hf:=hF.doRel ht (hno (by omega)) k3
  revert hf
  unfold doRel
  cases semRel (s.sems.getD (opAt p s t).on.toNat noSem) (opAt p s t).arg with
  |none=>exact fun hf=>h.keep hf (Int.le_refl _) rfl rfl
  |some x=>exact fun hf=>h.keep hf (goAll_sum_ge _ _) (goAll_said _ _) (goAll_bars _ _)
 rw[if_neg k3]
 by_cases k4:(opAt p s t).kind=4
 ·rw[if_pos k4]
  have hf:=hF.doOnce ht k4
  revert hf
  unfold doOnce
  split
  ·exact fun hf=>h.keep hf (goAll_sum_ge _ _) (goAll_said _ _) (goAll_bars _ _)
  ·split
   ·exact fun hf=>h.keep hf (Int.le_refl _) rfl rfl
   ·split
    ·exact fun hf=>h.keep hf (Int.le_refl _) rfl rfl
    ·exact fun hf=>h.keep hf (goOn_sum_ge _ _) rfl rfl
 rw[if_neg k4]
 by_cases k5:(opAt p s t).kind=5
 ·rw[if_pos k5]
  have hf:=hF.doAdd ht (hno (by omega)) k5
  revert hf
  unfold doAdd
  cases grpAdd (s.groups.getD (opAt p s t).on.toNat noGrp) (opAt p s t).arg with
  |none=>exact fun hf=>h.keep hf (Int.le_refl _) rfl rfl
  |some x=>exact fun hf=>h.keep hf (goAll_sum_ge _ _) (goAll_said _ _) (goAll_bars _ _)
 rw[if_neg k5]
 by_cases k6:(opAt p s t).kind=6
 ·rw[if_pos k6]
  exact h.keep (hF.doWait ht (hno (by omega)) k6) (either_sum _ _ _) (either_said _ _ _) (either_bars _ _ _)
 rw[if_neg k6]
 by_cases k7:(opAt p s t).kind=7
 ·rw[if_pos k7]
  have hf:=hF.doCome ht (hno (by omega)) k7 hrd
  revert hf
  unfold doCome
  obtain⟨o,eo⟩:∃o,o=opAt p s t:=⟨_,rfl⟩
  rw[←eo]
  have hset:∀(y:BarD) (d:Int),y.round≤(s.bars.getD o.on.toNat noBar).round+d→0≤d→∀i,((setBar s o.on y).bars.getD i noBar).round≤(s.bars.getD i noBar).round+d:=by
   intro y d hy hd i
   show((s.bars.set o.on.toNat y).getD i noBar).round≤_
   rw[getD_set]
   by_cases hi:i=o.on.toNat∧o.on.toNat<s.bars.length
   ·rw[if_pos hi,hi.1];exact hy
   ·rw[if_neg hi];omega
  by_cases hlt:((s.bars.getD o.on.toNat noBar).waits.length:Int)+1<(s.bars.getD o.on.toNat noBar).parties
  ·have e:barCome (s.bars.getD o.on.toNat noBar) t=(⟨(s.bars.getD o.on.toNat noBar).parties,(s.bars.getD o.on.toNat noBar).round,(s.bars.getD o.on.toNat noBar).waits++[t]⟩,[]):=by unfold barCome;rw[if_pos hlt]
   rw[e,if_pos rfl]
   intro hf
   refine h.of hf (Int.le_refl _) (.inl xL1) (fun i=> .inl ?_)
   have:=hset ⟨(s.bars.getD o.on.toNat noBar).parties,(s.bars.getD o.on.toNat noBar).round,(s.bars.getD o.on.toNat noBar).waits++[t]⟩ 0 (by show(s.bars.getD o.on.toNat noBar).round≤_;omega) (by omega) i
   rw[Int.add_zero] at this
   exact this
  ·have e:barCome (s.bars.getD o.on.toNat noBar) t=(⟨(s.bars.getD o.on.toNat noBar).parties,(s.bars.getD o.on.toNat noBar).round+1,[]⟩,(s.bars.getD o.on.toNat noBar).waits++[t]):=by unfold barCome;rw[if_neg hlt]
   rw[e,if_neg (by simp)]
   intro hf
   have hsum:s.places.sum+1≤(goAll p (setBar s o.on ⟨(s.bars.getD o.on.toNat noBar).parties,(s.bars.getD o.on.toNat noBar).round+1,[]⟩) ((s.bars.getD o.on.toNat noBar).waits++[t])).places.sum:=goAll_snoc_sum (p:=p) (s.bars.getD o.on.toNat noBar).waits (setBar s o.on ⟨(s.bars.getD o.on.toNat noBar).parties,(s.bars.getD o.on.toNat noBar).round+1,[]⟩) t htl
   refine h.of hf (Int.le_trans (by omega) hsum) (.inl (by rw[goAll_said];exact Nat.le_refl _)) (fun i=> .inr ⟨?_,hsum⟩)
   rw[goAll_bars]
   exact hset ⟨(s.bars.getD o.on.toNat noBar).parties,(s.bars.getD o.on.toNat noBar).round+1,[]⟩ 1 (Int.le_refl _) (by omega) i
 rw[if_neg k7]
 by_cases k8:(opAt p s t).kind=8
 ·rw[if_pos k8]
  have hf:=hF.doSend ht (hno (by omega)) k8 hsaid
  revert hf
  unfold doSend
  cases hc:chnSend (s.chans.getD (opAt p s t).on.toNat noChn) t (opAt p s t).arg with
  |none=>exact fun hf=>h.keep hf (Int.le_refl _) rfl rfl
  |some x=>
   obtain⟨x,l,b⟩:=x
   dsimp only
   by_cases hl:l=[]
   ·rw[if_pos hl]
    intro hf
    refine h.keep hf (Int.le_trans (goAll_sum_ge (p:=p) l (setChn s (opAt p s t).on x)) (either_sum _ _ _)) ?_ ?_
    ·rw[either_said,goAll_said];rfl
    ·rw[either_bars,goAll_bars];rfl
   ·rw[if_neg hl]
    intro hf
    have hb:b=true:=by
     unfold chnSend at hc
     split at hc
     ·cases hc
     ·split at hc
      ·cases hc;rfl
      ·split at hc
       ·cases hc;exact absurd rfl hl
       ·cases hc;exact absurd rfl hl
    subst hb
    refine h.spoken hf ?_ ?_ ?_
    ·unfold either
     rw[if_pos rfl,goAll_snoc]
     exact goAll_snoc_sum _ (sayIt (setChn s (opAt p s t).on x) (opAt p s t).arg) t htl
    ·rw[either_said,goAll_said]
     show(s.said++[(opAt p s t).arg]).length≤_
     rw[List.length_append];exact Nat.le_refl _
    ·rw[either_bars,goAll_bars];rfl
 rw[if_neg k8]
 by_cases k9:(opAt p s t).kind=9
 ·rw[if_pos k9]
  have hf:=hF.doGet ht (hno (by omega)) k9 hsaid
  revert hf
  unfold doGet
  split
  ·exact fun hf=>h.keep hf (Int.le_refl _) rfl rfl
  ·split
   ·intro hf
    refine h.spoken hf (goAll_snoc_sum _ (sayIt _ _) t htl) ?_ ?_
    ·rw[goAll_said]
     show(s.said++[_]).length≤_
     rw[List.length_append];exact Nat.le_refl _
    ·rw[goAll_bars];rfl
   ·exact fun hf=>h.keep hf (goAll_sum_ge _ _) (goAll_said _ _) (goAll_bars _ _)
 rw[if_neg k9]
 have hf:=hF.doClose ht (hno (by omega)) (by omega)
 revert hf
 unfold doClose
 cases chnClose (s.chans.getD (opAt p s t).on.toNat noChn) with
 |none=>exact fun hf=>h.keep hf (Int.le_refl _) rfl rfl
 |some x=>exact fun hf=>h.keep hf (goAll_sum_ge _ _) (goAll_said _ _) (goAll_bars _ _)
end
theorem within_get {l:List Int} {lo hi:Int} (h:within l lo hi=true) {i:Nat} (hi':i<l.length):lo≤l.getD i 0∧l.getD i 0≤hi:=by
 unfold within at h
 simp only[Bool.and_eq_true,List.all_eq_true,decide_eq_true_eq] at h
 rw[List.getD_eq_getElem?_getD,List.getElem?_eq_getElem hi']
 exact h.2 _ (List.getElem_mem hi')
theorem map_get {α β:Type} (f:α→β) (l:List α) (d:α) (e:β) {i:Nat} (hi:i<l.length):(l.map f).getD i e=f (l.getD i d):=by
 rw[List.getD_eq_getElem?_getD,List.getElem?_map,List.getElem?_eq_getElem hi,List.getD_eq_getElem?_getD,List.getElem?_eq_getElem hi]
 rfl
theorem allE_nil {α:Type} {f:Nat→List α}:∀{n:Nat},(∀i,i<n→f i=[])→allE f n=[]
 |0,_=>rfl
 |n+1,h=>by rw[allE,allE_nil (fun i hi=>h i (by omega)),h n (by omega)];rfl
theorem Run.start {p:Pg} (hv:progValid p=true):Run p (startOf p):=by
 have hv':=hv
 unfold progValid at hv'
 simp only[Bool.and_eq_true] at hv'
 obtain⟨⟨⟨⟨⟨⟨w1,w2⟩,w3⟩,w4⟩,-⟩,-⟩,-⟩:=hv'
 have gS:∀i,i<p.sems.length→(startOf p).sems.getD i noSem=⟨p.sems.getD i 0,p.sems.getD i 0,[]⟩:=fun i hi=>map_get (fun n:Int=>(⟨n,n,[]⟩:SemD)) p.sems 0 noSem hi
 have gO:∀i,i<3→(startOf p).onces.getD i noOnce=noOnce:=fun i hi=>by
  show(List.replicate 3 noOnce).getD i noOnce=noOnce
  rw[List.getD_eq_getElem?_getD,List.getElem?_replicate]
  split<;>rfl
 have gG:∀i,i<p.groups.length→(startOf p).groups.getD i noGrp=⟨p.groups.getD i 0,[]⟩:=fun i hi=>map_get (fun n:Int=>(⟨n,[]⟩:GrpD)) p.groups 0 noGrp hi
 have gB:∀i,i<p.barriers.length→(startOf p).bars.getD i noBar=⟨p.barriers.getD i 0,0,[]⟩:=fun i hi=>map_get (fun n:Int=>(⟨n,0,[]⟩:BarD)) p.barriers 0 noBar hi
 have gC:∀i,i<p.rooms.length→(startOf p).chans.getD i noChn=⟨p.rooms.getD i 0,[],[],[],false⟩:=fun i hi=>map_get (fun n:Int=>(⟨n,[],[],[],false⟩:ChnD)) p.rooms 0 noChn hi
 have l1:(startOf p).sems.length=p.sems.length:=List.length_map _
 have l2:(startOf p).onces.length=3:=List.length_replicate
 have l3:(startOf p).groups.length=p.groups.length:=List.length_map _
 have l4:(startOf p).bars.length=p.barriers.length:=List.length_map _
 have l5:(startOf p).chans.length=p.rooms.length:=List.length_map _
 have l6:(startOf p).places.length=p.threads.length:=List.length_map _
 have l7:(startOf p).status.length=p.threads.length:=List.length_map _
 have eE:ents (startOf p)=[]:=by
  unfold ents
  rw[allE_nil (fun i hi=>by rw[gS i (by omega)];rfl),allE_nil (fun i hi=>by rw[gO i (by omega)];rfl),allE_nil (fun i hi=>by rw[gG i (by omega)];rfl),allE_nil (fun i hi=>by rw[gB i (by omega)];rfl),allE_nil (fun i hi=>by rw[gC i (by omega)];rfl)]
  rfl
 have eO:owns (startOf p)=[]:=by
  unfold owns
  exact allE_nil (fun i hi=>by rw[gO i (by omega)];rfl)
 have eTn:eT (startOf p)=[]:=by unfold eT;rw[eE];rfl
 have oTn:oT (startOf p)=[]:=by unfold oT;rw[eO];rfl
 have hsum:(startOf p).places.sum=0:=by
  show(p.threads.map fun _=>(0:Int)).sum=0
  generalize p.threads=l
  induction l with
  |nil=>rfl
  |cons a l ih=>simpa using ih
 refine⟨⟨hv,l6,l7,l1,l2,l3,l4,l5,by show(0:Nat)≤64;omega,⟨by show(0:Int)≤0;omega,by show(0:Int)≤4;omega⟩,fun i hi=> ?_,fun i hi=> ?_,fun i hi=> ?_,fun i hi=> ?_,fun i hi=> ?_,fun v hv=>(by cases hv),by rw[eE];simp,by rw[eO];simp,by rw[eTn];simp,by rw[oTn];simp,fun t ht=> ?_⟩,by rw[hsum];exact Int.le_refl _,fun i=> ?_⟩
 ·rw[gS i (by omega)]
  have:=within_get w1 (i:=i) (by omega)
  exact⟨⟨this,⟨by show 0≤p.sems.getD i 0;omega,Int.le_refl _⟩,fun w hw=>(by cases hw),thr6_nil,fun w q h=>(by cases h)⟩,rfl⟩
 ·rw[gO i (by omega)]
  exact .inl ⟨rfl,rfl,rfl,rfl⟩
 ·rw[gG i (by omega)]
  have:=within_get w2 (i:=i) (by omega)
  exact⟨⟨this.1,by show p.groups.getD i 0≤99;omega⟩,thr6_nil,fun _=>rfl⟩
 ·rw[gB i (by omega)]
  have:=within_get w3 (i:=i) (by omega)
  exact⟨⟨this,⟨Int.le_refl _,by show(0:Int)≤9999;omega⟩,thr6_nil,by show((0:Nat):Int)<p.barriers.getD i 0;omega⟩,rfl⟩
 ·rw[gC i (by omega)]
  have:=within_get w4 (i:=i) (by omega)
  exact⟨⟨this,this.1,fun v hv=>(by cases hv),fun l hl=>(by cases hl),thr6_nil,fun e=>absurd rfl e,fun e=>absurd rfl e⟩,rfl⟩
 ·unfold thOk
  rw[eTn,oTn]
  have e1:(startOf p).places.getD ((t:Nat):Int).toNat 0=0:=by
   rw[show((t:Nat):Int).toNat=t by simp]
   exact map_get (fun _:List OpD=>(0:Int)) p.threads [] 0 ht
  have e2:(startOf p).status.getD ((t:Nat):Int).toNat 0=if (p.threads.getD t []).length=0 then 3 else 0:=by
   rw[show((t:Nat):Int).toNat=t by simp]
   exact map_get (fun l:List OpD=>if l.length=0 then (3:Int) else 0) p.threads [] 0 ht
  rw[e1,e2,opsOf_nat]
  refine⟨Int.le_refl _,by omega,?_⟩
  by_cases h0:(p.threads.getD t []).length=0
  ·rw[if_pos h0,h0]
   exact .inl ⟨rfl,rfl,by simp,by simp⟩
  ·rw[if_neg h0]
   exact .inr ⟨by omega,.inl ⟨rfl,by simp,by simp⟩⟩
 ·rw[hsum]
  by_cases hi:i<p.barriers.length
  ·rw[gB i hi];exact Int.le_refl _
  ·rw[List.getD_eq_getElem?_getD,List.getElem?_eq_none (by omega)]
   exact Int.le_refl _
end Go.Proofs.YtjmpejaifmopnaaGreat
namespace Go.Proofs.YtjmpejaifmopnaaGreat
open Go.RowKit Go.Sort
theorem valid_small {p:Pg} (h:progValid p=true):p.sems.length≤3∧p.groups.length≤3∧p.barriers.length≤3∧p.rooms.length≤3∧(1≤p.threads.length∧p.threads.length≤4)∧∀i,(p.threads.getD i []).length≤8:=by
 unfold progValid within at h
 simp only[Bool.and_eq_true,decide_eq_true_eq,List.all_eq_true] at h
 obtain⟨⟨⟨⟨⟨⟨⟨h1,-⟩,⟨h2,-⟩⟩,⟨h3,-⟩⟩,⟨h4,-⟩⟩,h5⟩,h6⟩,h7⟩:=h
 refine⟨h1,h2,h3,h4,⟨h5,h6⟩,fun i=> ?_⟩
 by_cases hi:i<p.threads.length
 ·rw[List.getD_eq_getElem?_getD,List.getElem?_eq_getElem hi]
  exact(h7 _ (List.getElem_mem hi)).1
 ·rw[List.getD_eq_getElem?_getD,List.getElem?_eq_none (by omega)]
  simp
theorem valid_Small {p:Pg} {v:PV} {w:World} (h:progValid p=true) (hr:RdP w v p):Small v p:=by
 obtain⟨h1,h2,h3,h4,⟨h5,h6⟩,h7⟩:=valid_small h
 exact⟨by rw[←hr.ls];omega,by rw[←hr.lg];omega,by rw[←hr.lb];omega,by rw[←hr.lr];omega,by rw[←hr.lt];omega,fun i=>Nat.le_trans (h7 i) (by omega)⟩
theorem getD_out {α:Type} {l:List α} {i:Nat} {d:α} (h:¬i<l.length):l.getD i d=d:=by
 rw[List.getD_eq_getElem?_getD,List.getElem?_eq_none (by omega)];rfl
theorem onceOk_len {o:OnceD} (h:onceOk o):o.waits.length≤6:=by
 rcases h with ⟨-,-,-,h⟩|⟨-,-,-,h,-⟩|⟨-,-,-,h⟩
 ·rw[h];simp
 ·exact h.1
 ·rw[h];simp
theorem Fits.sm {p:Pg} {s:StD} (h:Fits p s):SmS s:=by
 obtain⟨h1,h2,h3,h4,⟨h5,h6⟩,h7⟩:=valid_small h.prog
 have np:=h.np
 have nst:=h.nst
 have nse:=h.nse
 have non:=h.non
 have ngr:=h.ngr
 have nba:=h.nba
 have nch:=h.nch
 have nsa:=h.nsa
 refine⟨⟨by omega,by omega⟩,⟨by omega,by omega⟩,by omega,by omega,by omega,by omega,by omega,by omega,fun i=> ?_,fun i=> ?_,fun i=> ?_,fun i=> ?_,fun i=> ?_⟩
 ·by_cases hi:i<s.sems.length
  ·have:=(h.se i hi).1.2.2.2.1.1
   rw[List.length_map] at this;omega
  ·rw[getD_out hi];simp[noSem]
 ·by_cases hi:i<s.onces.length
  ·have:=onceOk_len (h.on i hi);omega
  ·rw[getD_out hi];simp[noOnce]
 ·by_cases hi:i<s.groups.length
  ·have:=(h.gr i hi).2.1.1;omega
  ·rw[getD_out hi];simp[noGrp]
 ·by_cases hi:i<s.bars.length
  ·have:=(h.ba i hi).1.2.2.1.1;omega
  ·rw[getD_out hi];simp[noBar]
 ·by_cases hi:i<s.chans.length
  ·have h9:=(h.ch i hi).1
   have:=h9.2.2.2.2.1.1
   rw[List.length_append,List.length_map] at this
   have h10:=h9.2.1
   have h11:=h9.1.2
   exact⟨by omega,by omega,by omega⟩
  ·rw[getD_out hi];simp[noChn]
end Go.Proofs.YtjmpejaifmopnaaGreat
namespace Go.Proofs.YtjmpejaifmopnaaGreat
open Go.RowKit
theorem StO.fault {X:List Nat} {B:Nat} {w:World} {v:StV} {L:StL} {s:StD} (h:StO X B w v L s) (f:Int):StO X B w {v with fl:=f} L (faultIt s f):=
 ⟨h.pl,h.npl,h.st,h.nst,h.se,h.nse,h.on,h.non,h.gr,h.ngr,h.ba,h.nba,h.ch,h.nch,h.sa,h.nsa,rfl,h.dps,h.dpa,h.dsa,h.xs,h.inn.to ⟨rfl,rfl,rfl,rfl,rfl⟩⟩
theorem NewB.lower {B B':Nat} {L:StL} (h:NewB B L) (hb:B'≤B):NewB B' L:=
 ⟨fun z hz=>(h.se z hz).lower hb,fun z hz=>(h.on z hz).lower hb,fun z hz=>(h.gr z hz).lower hb,fun z hz=>(h.ba z hz).lower hb,fun z hz=>⟨(h.ch z hz).1.lower hb,(h.ch z hz).2.1.lower hb,(h.ch z hz).2.2.lower hb⟩⟩
theorem Fits.place_le {p:Pg} {s:StD} (h:Fits p s) (i:Nat):0≤s.places.getD i 0∧s.places.getD i 0≤8:=by
 by_cases hi:i<p.threads.length
 ·have h1:=h.th i hi
  unfold thOk at h1
  rw[show((i:Nat):Int).toNat=i by simp,opsOf_nat] at h1
  have:=(valid_small h.prog).2.2.2.2.2 i
  omega
 ·rw[List.getD_eq_getElem?_getD,List.getElem?_eq_none (by rw[h.np];omega)]
  simp
theorem owns_some {w:World} {base size n c g:Nat} {e:TypeId} {xs:List Value} (h:w.ownsRow base e size (.slice (some ⟨g,0,none⟩) n c) n xs) (j:Nat) (hj:j<n*size):∃y,w.cell? ⟨g,j,none⟩=some y:=
 ⟨_,(h.cellAt j hj).trans (List.getElem?_eq_getElem (by have:=h.1;omega))⟩
def walkD (p:Pg) (ch:StD→List Int→Option Int):Nat→StD→List Int→Option (StD×List Int)
 |0,_,_=>none
 |n+1,s,tr=>match ch s tr with
  |none=>some (s,tr)
  |some t=>if t∈readyOf s then walkD p ch n (stepD p s t) (tr++[t]) else none
theorem walkD_end {p:Pg} {ch:StD→List Int→Option Int} {n:Nat} {s:StD} {tr:List Int} (h:ch s tr=none):walkD p ch (n+1) s tr=some (s,tr):=by simp only[walkD,h]
theorem walkD_step {p:Pg} {ch:StD→List Int→Option Int} {n:Nat} {s:StD} {tr:List Int} {t:Int} (h:ch s tr=some t) (hr:t∈readyOf s):walkD p ch (n+1) s tr=walkD p ch n (stepD p s t) (tr++[t]):=by simp only[walkD,h,if_pos hr]
theorem walkD_no {p:Pg} {ch:StD→List Int→Option Int} {n:Nat} {s:StD} {tr:List Int} {t:Int} (h:ch s tr=some t) (hr:t∉readyOf s):walkD p ch (n+1) s tr=none:=by simp only[walkD,h,if_neg hr]
theorem gives_append_hn {P:Program} {o:Oper} {ρ:Operand→Value} {w:World} {post:Value→World→Prop} (s x:Operand) (t:TypeId)
  (ho:o.op= .call {callee:= .builtin .append,args:= #[s,x],argTypes:= #[t,t]}) {B:Nat} {e:TypeId} {z:Value} {size bytes:Nat} (ht:P.underlying t=some (.slice e)) (hinfo:(P.info? e).map (fun i=>(i.zero,i.size,i.bytes))=some (some z,size,bytes))
  (hzs:z.cells.size=size) (hsz:0<size) {a:Option Addr} {n c:Nat} {xs:List Value} (hs:ρ s= .slice a n c) (hown:w.ownsRow B e size (.slice a n c) n xs)
  {a2:Option Addr} {m c2:Nat} {news:List Value} (hx:ρ x= .slice a2 m c2) (hl:news.length=m*size) (hsrc:Rd w a2 news) (h1:∀u∈news,u.oneCell'=true) (hbytes:(n+m)*bytes≤140737488355328) (hby:0<bytes) (hbase:B≤w.heap.size)
  (h:∀a' c' w',w'.ownsRow B e size (.slice a' (n+m) c') (n+m) (xs++news)→w.grownBy w' (rowOf a)→(∀k,rowOf a'=some k→rowOf a=some k∨w.heap.size≤k)→post (.slice a' (n+m) c') w'):gives P o ρ w post:=by
 obtain⟨a',c',w',hr,h2,h3,h4⟩:=run_append_hn (P:=P) (c2:=c2) t o.type ht hinfo hzs hsz hown hl hsrc h1 hbytes hby hbase
 refine gives_val (u:= .slice a' (n+m) c') (w':=w') ?_ (h a' c' w' h2 h3 h4)
 unfold execOp
 simp only[ho,resolve,invoke,builtin,Sem.run_bind,Sem.run_pure,Result.andThen_ok,List.map_toArray,List.map_cons,List.map_nil,hs,hx,hr]
theorem StO.newer {X:List Nat} {B:Nat} {w w':World} {v:StV} {L:StL} {s:StD} (h:StO [] B w v L s) (hb:Below w.heap.size w w') (hX:∀k∈X,w.heap.size≤k∧k<w'.heap.size):StO X B w' v L s:=
 have g:=h.below hb
 ⟨g.pl,g.npl,g.st,g.nst,g.se,g.nse,g.on,g.non,g.gr,g.ngr,g.ba,g.nba,g.ch,g.nch,g.sa,g.nsa,g.fl,g.dps,g.dpa,g.dsa,fun k hk=>⟨(hX k hk).2,fun hm=>by have:=(h.from k hm).2;have:=(hX k hk).1;omega⟩,
  h.inn.wide (Touch.of_below hb) fun b hm=>by
   rcases xP1 hm with hm|hm
   ·exact .inr (hX b hm).1
   ·exact .inl hm⟩
theorem foots_set' {l:List It} {k:Nat} {i':It}:∀q∈foots (l.set k i'),q∈foots l∨q∈i'.foot:=fun q hq=>by
 obtain⟨i,hi,hqi⟩:=List.mem_flatMap.1 hq
 rcases List.mem_or_eq_of_mem_set hi with hi|rfl
 ·exact .inl (List.mem_flatMap.2 ⟨i,hi,hqi⟩)
 ·exact .inr hqi
theorem Sf.appT {w W W':World} {l:List It} {v:StV} {L:StL} {s:StD} (h:Sf w W l v L s) (k:Nat) {a a':Option Addr} {n c n' c' sz:Nat} {E:TypeId} {cs cs':List Value} (hi:l[k]? =some (.row a n c E sz cs)) (T:Touch (rowOf a).toList W W') (h':W'.ownsRow w.heap.size E sz (.slice a' n' c') n' cs') (hn:∀q,rowOf a'=some q→rowOf a=some q∨W.heap.size≤q):Sf w W' (l.set k (.row a' n' c' E sz cs')) v L s:=by
 have hX:∀q∈foots (l.set k (.row a' n' c' E sz cs')),q∈foots l∨W.heap.size≤q:=fun q hq=>by
  rcases foots_set' q hq with h1|h1
  ·exact .inl h1
  ·rcases hn q (by simpa[It.foot] using h1) with h2|h2
   ·exact .inl (foot_in hi q (by simp[It.foot,h2]))
   ·exact .inr h2
 have F:=h.fr.step (i':= .row a' n' c' E sz cs') k hi T h' fun q hq=>(hn q (by simpa[It.foot] using hq)).imp (fun h=>by simp[It.foot,h]) id
 have hTT:Touch (foots l) W W':=T.mono (foot_in hi)
 have g:=h.st.other hTT
 refine⟨F,g.pl,g.npl,g.st,g.nst,g.se,g.nse,g.on,g.non,g.gr,g.ngr,g.ba,g.nba,g.ch,g.nch,g.sa,g.nsa,g.fl,g.dps,g.dpa,g.dsa,fun q hq=>⟨(F.inside q hq).2,fun hm=> ?_⟩,?_⟩
 ·rcases hX q hq with h1|h1
  ·exact(h.st.xs q h1).2 hm
  ·have:=(h.st.from q hm).2;omega
 ·refine h.st.inn.wide (hTT.mono fun q hq=>xQ1 (.inl hq)) fun b hb=> ?_
  rcases xP1 hb with hb|hb
  ·exact(hX b hb).imp (fun h=>xQ1 (.inl h)) id
  ·exact .inl (xQ1 (.inr hb))
theorem Sf.gainR {w W W':World} {l:List It} {v:StV} {L:StL} {s:StD} {a:Option Addr} {n c sz:Nat} {E:TypeId} {cs:List Value} (F:Fr w W l) (hb:Below W.heap.size W W') (ho:W'.ownsRow W.heap.size E sz (.slice a n c) n cs) (hs:StO (rowOf a).toList W.heap.size W' v L s) (hn:NewB W.heap.size L):Sf w W' (.row a n c E sz cs::l) v L s:=by
 have hB:∀k∈foots l,k<W.heap.size:=fun k hk=>(F.inside k hk).2
 have hX:∀k∈foots l,k<W'.heap.size∧k∉v.blks:=fun k hk=>⟨Nat.lt_of_lt_of_le (hB k hk) hb.size,fun hm=>by have:=(hs.from k hm).1;have:=hB k hk;omega⟩
 have hin:StIn (foots l++((rowOf a).toList++v.blks)) W' L s:=
  ⟨⟨hs.inn.se.e,fun x hx=>(hs.inn.se.r x hx).aside (hn.se x hx) hB⟩,⟨hs.inn.on.e,fun x hx=>(hs.inn.on.r x hx).aside (hn.on x hx) hB⟩,⟨hs.inn.gr.e,fun x hx=>(hs.inn.gr.r x hx).aside (hn.gr x hx) hB⟩,⟨hs.inn.ba.e,fun x hx=>(hs.inn.ba.r x hx).aside (hn.ba x hx) hB⟩,⟨hs.inn.ch.e,fun x hx=>⟨(hs.inn.ch.r x hx).1.aside (hn.ch x hx).1 hB,(hs.inn.ch.r x hx).2.1.aside (hn.ch x hx).2.1 hB,(hs.inn.ch.r x hx).2.2.aside (hn.ch x hx).2.2 hB⟩⟩⟩
 refine⟨F.row hb ho,(StO.lower ⟨hs.pl,hs.npl,hs.st,hs.nst,hs.se,hs.nse,hs.on,hs.non,hs.gr,hs.ngr,hs.ba,hs.nba,hs.ch,hs.nch,hs.sa,hs.nsa,hs.fl,hs.dps,hs.dpa,hs.dsa,fun k hk=> ?_,?_⟩ F.bel.size)⟩
 ·rcases xP1 (show k∈(rowOf a).toList++foots l from hk) with h1|h1
  ·exact hs.xs k h1
  ·exact hX k h1
 ·exact hin.map fun x cs k hx=>hx.wide (Touch.refl _ _) fun b hm=>by
   left
   rcases xP1 hm with h1|h1
   ·rcases xP1 (show b∈(rowOf a).toList++foots l from h1) with h2|h2
    ·exact xQ1 (.inr (xQ1 (.inl h2)))
    ·exact xQ1 (.inl h2)
   ·exact xQ1 (.inr (xQ1 (.inr h1)))
theorem Sf.set10 {w W:World} {l:List It} {v:StV} {L:StL} {s:StD} (h:Sf w W l v L s) (k:Nat) {b:Nat} {u0 u1 u2 u3 u4 u5 u6 u7 u8 u9:Value} {T:TypeId} (hi:l[k]? =some (.blk b #[u0,u1,u2,u3,u4,u5,u6,u7,u8,u9] T)) (v0 v1 v2 v3 v4 v5 v6 v7 v8 v9:Value):Sf w ((((((((((W.setCell ⟨b,0,none⟩ v0).setCell ⟨b,1,none⟩ v1).setCell ⟨b,2,none⟩ v2).setCell ⟨b,3,none⟩ v3).setCell ⟨b,4,none⟩ v4).setCell ⟨b,5,none⟩ v5).setCell ⟨b,6,none⟩ v6).setCell ⟨b,7,none⟩ v7).setCell ⟨b,8,none⟩ v8).setCell ⟨b,9,none⟩ v9) (l.set k (.blk b #[v0,v1,v2,v3,v4,v5,v6,v7,v8,v9] T)) v L s:=by
 have hh:=h.fr.has _ (List.mem_of_getElem? hi)
 exact h.step k hi (((((((((((Touch.refl _ _).set (List.mem_singleton.2 rfl)).set (List.mem_singleton.2 rfl)).set (List.mem_singleton.2 rfl)).set (List.mem_singleton.2 rfl)).set (List.mem_singleton.2 rfl)).set (List.mem_singleton.2 rfl)).set (List.mem_singleton.2 rfl)).set (List.mem_singleton.2 rfl)).set (List.mem_singleton.2 rfl)).set (List.mem_singleton.2 rfl)) ⟨hh.1,by have h9:=((((((((((hh.2.set 0 v0).set 1 v1).set 2 v2).set 3 v3).set 4 v4).set 5 v5).set 6 v6).set 7 v7).set 8 v8).set 9 v9);simpa using h9⟩ rfl
theorem Fr.set10 {w W:World} {l:List It} (h:Fr w W l) (k:Nat) {b:Nat} {u0 u1 u2 u3 u4 u5 u6 u7 u8 u9:Value} {T:TypeId} (hi:l[k]? =some (.blk b #[u0,u1,u2,u3,u4,u5,u6,u7,u8,u9] T)) (v0 v1 v2 v3 v4 v5 v6 v7 v8 v9:Value):Fr w ((((((((((W.setCell ⟨b,0,none⟩ v0).setCell ⟨b,1,none⟩ v1).setCell ⟨b,2,none⟩ v2).setCell ⟨b,3,none⟩ v3).setCell ⟨b,4,none⟩ v4).setCell ⟨b,5,none⟩ v5).setCell ⟨b,6,none⟩ v6).setCell ⟨b,7,none⟩ v7).setCell ⟨b,8,none⟩ v8).setCell ⟨b,9,none⟩ v9) (l.set k (.blk b #[v0,v1,v2,v3,v4,v5,v6,v7,v8,v9] T)):=by
 have hh:=h.has _ (List.mem_of_getElem? hi)
 exact h.step k hi (((((((((((Touch.refl _ _).set (List.mem_singleton.2 rfl)).set (List.mem_singleton.2 rfl)).set (List.mem_singleton.2 rfl)).set (List.mem_singleton.2 rfl)).set (List.mem_singleton.2 rfl)).set (List.mem_singleton.2 rfl)).set (List.mem_singleton.2 rfl)).set (List.mem_singleton.2 rfl)).set (List.mem_singleton.2 rfl)).set (List.mem_singleton.2 rfl)) ⟨hh.1,by have h9:=((((((((((hh.2.set 0 v0).set 1 v1).set 2 v2).set 3 v3).set 4 v4).set 5 v5).set 6 v6).set 7 v7).set 8 v8).set 9 v9);simpa using h9⟩ fun q hq=> .inl hq
theorem Fr.c10 {w W:World} {l:List It} (F:Fr w W l) (k:Nat) {b:Nat} {v0 v1 v2 v3 v4 v5 v6 v7 v8 v9:Value} {T:TypeId} (hi:l[k]? =some (.blk b #[v0,v1,v2,v3,v4,v5,v6,v7,v8,v9] T)):W.cell? ⟨b,0,none⟩=some v0∧W.frozen? ⟨b,0,none⟩=false∧W.cell? ⟨b,1,none⟩=some v1∧W.frozen? ⟨b,1,none⟩=false∧W.cell? ⟨b,2,none⟩=some v2∧W.frozen? ⟨b,2,none⟩=false∧W.cell? ⟨b,3,none⟩=some v3∧W.frozen? ⟨b,3,none⟩=false∧W.cell? ⟨b,4,none⟩=some v4∧W.frozen? ⟨b,4,none⟩=false∧W.cell? ⟨b,5,none⟩=some v5∧W.frozen? ⟨b,5,none⟩=false∧W.cell? ⟨b,6,none⟩=some v6∧W.frozen? ⟨b,6,none⟩=false∧W.cell? ⟨b,7,none⟩=some v7∧W.frozen? ⟨b,7,none⟩=false∧W.cell? ⟨b,8,none⟩=some v8∧W.frozen? ⟨b,8,none⟩=false∧W.cell? ⟨b,9,none⟩=some v9∧W.frozen? ⟨b,9,none⟩=false:=⟨F.cell k 0 hi rfl,F.fz k 0 hi,F.cell k 1 hi rfl,F.fz k 1 hi,F.cell k 2 hi rfl,F.fz k 2 hi,F.cell k 3 hi rfl,F.fz k 3 hi,F.cell k 4 hi rfl,F.fz k 4 hi,F.cell k 5 hi rfl,F.fz k 5 hi,F.cell k 6 hi rfl,F.fz k 6 hi,F.cell k 7 hi rfl,F.fz k 7 hi,F.cell k 8 hi rfl,F.fz k 8 hi,F.cell k 9 hi rfl,F.fz k 9 hi⟩
end Go.Proofs.YtjmpejaifmopnaaGreat
namespace Go.Proofs.YtjmpejaifmopnaaGreat
theorem goAll_bound {p:Pg}:∀(l:List Int) (s:StD) (i:Nat),s.places.getD i 0≤(goAll p s l).places.getD i 0∧(goAll p s l).places.getD i 0≤s.places.getD i 0+l.length
 |[],s,i=>by simp[goAll]
 |t::l,s,i=>by
  have ih:=goAll_bound (p:=p) l (goOn p s t) i
  have h1:s.places.getD i 0≤(goOn p s t).places.getD i 0∧(goOn p s t).places.getD i 0≤s.places.getD i 0+1:=by
   show s.places.getD i 0≤(s.places.set t.toNat _).getD i 0∧(s.places.set t.toNat _).getD i 0≤s.places.getD i 0+1
   rw[getD_set]
   by_cases h:i=t.toNat∧t.toNat<s.places.length
   ·rw[if_pos h,h.1];omega
   ·rw[if_neg h];omega
  rw[show goAll p s (t::l)=goAll p (goOn p s t) l from rfl,List.length_cons]
  omega
theorem goAll_app (p:Pg) (s:StD) (l m:List Int):goAll p s (l++m)=goAll p (goAll p s l) m:=by unfold goAll;rw[List.foldl_append]
end Go.Proofs.YtjmpejaifmopnaaGreat
namespace Go.Proofs.YtjmpejaifmopnaaGreat
open Go.RowKit
def Told (p:Pg) (s:StD) (l:List Int):Prop:=l.length≤8∧∀z∈l,0≤z∧z<p.threads.length∧z<s.places.length
theorem told_r {w W0 W:World} {k:List It} {v:StV} {L:StL} {s:StD} (h:Sf w W0 k v L s) {u:SlV} {l:List Int} {E:TypeId} (ho:W.ownsRow W0.heap.size E 1 u.val u.n (ints l)) (hE:E∉structT:=by decide):SlR v.blks W u (ints l) l.length:=by
 have h1:=h.apart (SlN.of_owns (w0:=W0) (w:=W) ho xL1 hE)
 have h2:u.n=l.length:=by have:=ho.1;simp only[ints,List.length_map] at this;omega
 exact⟨h2,h1.rd,h1.far.imp id (fun h b hb hm=>h b hb (xQ1 (.inr hm))),h1.cap⟩
theorem SlR.drew {S:List Nat} {w:World} {s:SlV} {cs:List Value} {k:Nat} (h:SlR S w s cs k):SlR S w.drew s cs k:=h.below xB1.drew
variable {p:Pg} {s:StD}
theorem Fits.told {l:List Int} (h:Fits p s) (hm:∀z∈l,z∈eT s) (hl:l.length≤6):Told p s l:=
 ⟨by omega,fun z hz=>by have:=(h.waits (hm z hz)).1;have:=h.np;omega⟩
theorem told_nil:Told p s []:=⟨by simp,by simp⟩
theorem told_sem (h:Fits p s) {i:Nat} (hi:i<s.sems.length) {m:Int} (hm:0≤m) {y:SemD} {l:List Int} (e:semRel (s.sems.getD i noSem) m=some (y,l)):Told p s l:=by
 have ok:=(h.se i hi).1
 unfold semRel at e
 split at e
 ·obtain⟨P,N,e1,e2,-⟩:=serve_split (s.sems.getD i noSem).queue ((s.sems.getD i noSem).free+m) (by have:=ok.2.1;omega) (fun w hw=>(ok.2.2.1 w hw).1)
  obtain rfl:l=P.map (·.1):=by rw[←e2];exact(Prod.mk.inj (Option.some.inj e)).2.symm
  have h6:(s.sems.getD i noSem).queue.length≤6:=by simpa using ok.2.2.2.1.1
  refine h.told (fun z hz=> ?_) (by rw[List.length_map];rw[e1,List.length_append] at h6;omega)
  obtain⟨y,hy,rfl⟩:=List.mem_map.1 hz
  exact List.mem_map.2 ⟨(y.1,2,(i:Int),y.2),in_ents_sem hi (List.mem_map.2 ⟨y,by rw[e1];exact xQ1 (.inl hy),rfl⟩),rfl⟩
 ·cases e
theorem told_once (h:Fits p s) {i:Nat} (hi:i<s.onces.length):Told p s (s.onces.getD i noOnce).waits:=
 h.told (fun z hz=>List.mem_map.2 ⟨(z,4,(i:Int),0),in_ents_once hi (List.mem_map.2 ⟨z,hz,rfl⟩),rfl⟩) (onceOk_len (h.on i hi))
theorem told_grp0 (h:Fits p s) {i:Nat} (hi:i<s.groups.length):Told p s (s.groups.getD i noGrp).waits:=
 h.told (fun z hz=>List.mem_map.2 ⟨(z,6,(i:Int),0),in_ents_grp hi (List.mem_map.2 ⟨z,hz,rfl⟩),rfl⟩) (h.gr i hi).2.1.1
theorem told_grp (h:Fits p s) {i:Nat} (hi:i<s.groups.length) {m:Int} {y:GrpD} {l:List Int} (e:grpAdd (s.groups.getD i noGrp) m=some (y,l)):Told p s l:=by
 have h1:=told_grp0 h hi
 unfold grpAdd at e
 split at e
 ·split at e
  ·obtain rfl:=(Prod.mk.inj (Option.some.inj e)).2
   exact h1
  ·obtain rfl:=(Prod.mk.inj (Option.some.inj e)).2
   exact told_nil
 ·cases e
theorem told_bar (h:Fits p s) {i:Nat} (hi:i<s.bars.length) {t:Int} (ht:0≤t∧t<p.threads.length∧t<s.places.length) {y:BarD} {l:List Int} (e:barCome (s.bars.getD i noBar) t=(y,l)):Told p s l:=by
 have h1:Told p s (s.bars.getD i noBar).waits:=h.told (fun z hz=>List.mem_map.2 ⟨(z,7,(i:Int),0),in_ents_bar hi (List.mem_map.2 ⟨z,hz,rfl⟩),rfl⟩) (h.ba i hi).1.2.2.1.1
 have h6:=(h.ba i hi).1.2.2.1.1
 unfold barCome at e
 split at e
 ·obtain rfl:=(Prod.mk.inj e).2
  exact told_nil
 ·obtain rfl:=(Prod.mk.inj e).2
  refine⟨by rw[List.length_append];show _+1≤8;omega,fun z hz=> ?_⟩
  rcases xP1 hz with hz|hz
  ·exact h1.2 z hz
  ·obtain rfl:=xS1 hz
   exact ht
theorem told_get0 (h:Fits p s) {i:Nat} (hi:i<s.chans.length):Told p s (s.chans.getD i noChn).getters:=
 h.told (fun z hz=>List.mem_map.2 ⟨(z,9,(i:Int),0),in_ents_chn hi (xQ1 (.inr (List.mem_map.2 ⟨z,hz,rfl⟩))),rfl⟩) (by have:=(h.ch i hi).1.2.2.2.2.1.1;rw[List.length_append] at this;omega)
theorem told_snd0 {i:Nat} (hi:i<s.chans.length):∀z∈(s.chans.getD i noChn).senders,z.1∈eT s:=fun z hz=>
 List.mem_map.2 ⟨(z.1,8,(i:Int),z.2),in_ents_chn hi (xQ1 (.inl (List.mem_map.2 ⟨z,hz,rfl⟩))),rfl⟩
theorem told_send (h:Fits p s) {i:Nat} (hi:i<s.chans.length) {t v:Int} {y:ChnD} {l:List Int} {b:Bool} (e:chnSend (s.chans.getD i noChn) t v=some (y,l,b)):Told p s l∧(l=[]∨∃g,l=[g]∧b=true):=by
 have h1:=told_get0 h hi
 unfold chnSend at e
 split at e
 ·cases e
 ·split at e
  ·next g gs eg=>
   obtain rfl:[g]=l:=(Prod.mk.inj (Prod.mk.inj (Option.some.inj e)).2).1
   exact⟨⟨by simp,fun z hz=>h1.2 z (by rw[eg,xS1 hz];exact List.mem_cons_self)⟩,.inr ⟨g,rfl,(Prod.mk.inj (Prod.mk.inj (Option.some.inj e)).2).2.symm⟩⟩
  ·split at e
   ·obtain rfl:=(Prod.mk.inj (Prod.mk.inj (Option.some.inj e)).2).1
    exact⟨told_nil,.inl rfl⟩
   ·obtain rfl:=(Prod.mk.inj (Prod.mk.inj (Option.some.inj e)).2).1
    exact⟨told_nil,.inl rfl⟩
theorem told_get (h:Fits p s) {i:Nat} (hi:i<s.chans.length) {t v how:Int} {y:ChnD} {l:List Int} (e:chnGet (s.chans.getD i noChn) t=(y,v,how,l)):Told p s l∧(how=0→l=[])∧(how=0∨how=1∨how=2):=by
 have h1:=told_snd0 hi
 have one:∀z,(z:Int×Int)∈(s.chans.getD i noChn).senders→Told p s [z.1]:=fun z hz=>h.told (fun a ha=>by rw[xS1 ha];exact h1 z hz) (by simp)
 unfold chnGet at e
 split at e
 ·next l1 ls es=>
  split at e
  ·obtain⟨-,e1⟩:=Prod.mk.inj e
   obtain⟨-,e2⟩:=Prod.mk.inj e1
   obtain⟨rfl,rfl⟩:=Prod.mk.inj e2
   exact⟨one l1 (by rw[es];exact List.mem_cons_self),by omega,by omega⟩
  ·obtain⟨-,e1⟩:=Prod.mk.inj e
   obtain⟨-,e2⟩:=Prod.mk.inj e1
   obtain⟨rfl,rfl⟩:=Prod.mk.inj e2
   exact⟨one l1 (by rw[es];exact List.mem_cons_self),by omega,by omega⟩
 ·split at e
  ·obtain⟨-,e1⟩:=Prod.mk.inj e
   obtain⟨-,e2⟩:=Prod.mk.inj e1
   obtain⟨rfl,rfl⟩:=Prod.mk.inj e2
   exact⟨told_nil,fun _=>rfl,by omega⟩
  ·split at e
   ·obtain⟨-,e1⟩:=Prod.mk.inj e
    obtain⟨-,e2⟩:=Prod.mk.inj e1
    obtain⟨rfl,rfl⟩:=Prod.mk.inj e2
    exact⟨told_nil,fun _=>rfl,by omega⟩
   ·obtain⟨-,e1⟩:=Prod.mk.inj e
    obtain⟨-,e2⟩:=Prod.mk.inj e1
    obtain⟨rfl,rfl⟩:=Prod.mk.inj e2
    exact⟨told_nil,fun _=>rfl,by omega⟩
theorem told_close (h:Fits p s) {i:Nat} (hi:i<s.chans.length) {y:ChnD} {l:List Int} (e:chnClose (s.chans.getD i noChn)=some (y,l)):Told p s l:=by
 unfold chnClose at e
 split at e
 ·cases e
 ·obtain rfl:=(Prod.mk.inj (Option.some.inj e)).2
  exact told_get0 h hi
theorem either_ge (s:StD) (t:Int) (b:Bool) (i:Nat):s.places.getD i 0≤(either p s t b).places.getD i 0:=by
 unfold either
 split
 ·exact(goAll_bound [t] s i).1
 ·exact Int.le_refl _
theorem le8 {s1 s2:StD} (h:Fits p s2) (h0:∀i,0≤s.places.getD i 0) (h1:∀i,s.places.getD i 0≤s1.places.getD i 0) (h2:∀i,s1.places.getD i 0≤s2.places.getD i 0):∀i,0≤s1.places.getD i 0∧s1.places.getD i 0≤8:=fun i=>by
 have:=h.place_le i
 have:=h0 i
 have:=h1 i
 have:=h2 i
 omega
theorem goAll_say:∀(l:List Int) (s:StD) (v:Int),sayIt (goAll p s l) v=goAll p (sayIt s v) l
 |[],_,_=>rfl
 |t::l,s,v=>goAll_say l (goOn p s t) v
theorem own_at {i:Nat} {t:Int} (h:(t,(i:Int))∈owns s):i<s.onces.length∧(s.onces.getD i noOnce).state=1∧(s.onces.getD i noOnce).owner=t:=by
 obtain⟨k,hk,hm⟩:=mem_allE.1 h
 unfold ownEn at hm
 split at hm
 ·next hs=>
  obtain⟨e1,e2⟩:=Prod.mk.inj (xS1 hm)
  obtain rfl:i=k:=by omega
  exact⟨hk,hs,e1.symm⟩
 ·cases hm
theorem once_free {i:Nat} (hi:i<s.onces.length) {t:Int} (hn:t∉eT s) (ho:t∉oT s):(s.onces.getD i noOnce).state=1→t≠(s.onces.getD i noOnce).owner∧t∉(s.onces.getD i noOnce).waits:=fun h1=>
 ⟨fun e=>ho (List.mem_map.2 ⟨(t,(i:Int)),in_owns hi (by unfold ownEn;rw[if_pos h1,e];exact List.mem_singleton.2 rfl),rfl⟩),fun hm=>hn (List.mem_map.2 ⟨(t,4,(i:Int),0),in_ents_once hi (List.mem_map.2 ⟨t,hm,rfl⟩),rfl⟩)⟩
theorem set_self {α:Type} (l:List α) (i:Nat) (d:α):l.set i (l.getD i d)=l:=by
 apply List.ext_getElem?
 intro k
 rw[List.getElem?_set]
 split
 ·next e=>
  subst e
  split
  ·next hi=>rw[List.getD_eq_getElem?_getD,List.getElem?_eq_getElem hi];rfl
  ·next hi=>rw[List.getElem?_eq_none (by omega)]
 ·rfl
theorem setOnce_self (s:StD) (i:Nat):setOnce s (i:Int) (s.onces.getD i noOnce)=s:=by
 unfold setOnce
 rw[show((i:Nat):Int).toNat=i from rfl,set_self]
variable {p:Pg} {s:StD} {t:Int}
theorem walkD_some {ch:StD→List Int→Option Int} (hch:∀s tr t,ch s tr=some t→t∈readyOf s) (h100:∀s tr,100≤tr.length→ch s tr=none):∀(n:Nat) (s:StD) (tr:List Int),n+tr.length=101→tr.length≤100→∃r,walkD p ch n s tr=some r
 |0,s,tr,h1,h2=>by omega
 |n+1,s,tr,h1,h2=>by
  cases e:ch s tr with
  |none=>exact⟨_,walkD_end e⟩
  |some t=>
   rw[walkD_step e (hch s tr t e)]
   have hl:(tr++[t]).length=tr.length+1:=by rw[List.length_append];rfl
   refine walkD_some hch h100 n _ _ (by rw[hl];omega) ?_
   rw[hl]
   refine Nat.lt_of_not_le fun h3=> ?_
   rw[h100 s tr h3] at e
   cases e
end Go.Proofs.YtjmpejaifmopnaaGreat
namespace Go.Proofs.YtjmpejaifmopnaaGreat
def rdyTo (s:StD) (k:Nat):List Int:=((List.range k).filter fun i=>decide (s.status.getD i 0=0∨s.status.getD i 0=2)).map (fun i:Nat=>(i:Int))
theorem rdyTo_succ (s:StD) (k:Nat):rdyTo s (k+1)=if s.status.getD k 0=0∨s.status.getD k 0=2 then rdyTo s k++[(k:Int)] else rdyTo s k:=by
 unfold rdyTo
 rw[List.range_succ,List.filter_append,List.map_append]
 by_cases h:s.status.getD k 0=0∨s.status.getD k 0=2
 ·rw[if_pos h]
  simp only[List.filter_cons,List.filter_nil]
  rw[if_pos (by simpa using h)]
  rfl
 ·rw[if_neg h]
  simp only[List.filter_cons,List.filter_nil]
  rw[if_neg (by simpa using h)]
  simp
theorem rdyTo_len (s:StD) (k:Nat):(rdyTo s k).length≤k:=by
 unfold rdyTo
 rw[List.length_map]
 exact Nat.le_trans (List.length_filter_le _ _) (by simp)
theorem ready_eq (s:StD):readyOf s=if s.fault=0 then rdyTo s s.status.length else []:=rfl
end Go.Proofs.YtjmpejaifmopnaaGreat
