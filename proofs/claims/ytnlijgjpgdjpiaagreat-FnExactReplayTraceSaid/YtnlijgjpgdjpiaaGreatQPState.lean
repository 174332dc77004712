/- Part of a proof: Mach MachP MachK MachR MState MPut AppHn MTail. -/
import Derived.Test.YtnlijgjpgdjpiaaGreatQPB
set_option maxRecDepth 100000
set_option maxHeartbeats 16000000
namespace Go.Proofs.YtnlijgjpgdjpiaaGreat
structure SemD where
 free:Int
 limit:Int
 queue:List (Int×Int)
structure zaj where
 state:Int
 owner:Int
 value:Int
 waits:List Int
structure GrpD where
 count:Int
 waits:List Int
structure BarD where
 parties:Int
 round:Int
 waits:List Int
structure ChnD where
 room:Int
 items:List Int
 senders:List (Int×Int)
 getters:List Int
 closed:Bool
structure StD where
 places:List Int
 status:List Int
 sems:List SemD
 onces:List zaj
 groups:List GrpD
 bars:List BarD
 chans:List ChnD
 said:List Int
 fault:Int
def zG:SemD:=⟨0,0,[]⟩
def zq:zaj:=⟨0,0,0,[]⟩
def zQ:GrpD:=⟨0,[]⟩
def zE:BarD:=⟨0,0,[]⟩
def zH:ChnD:=⟨0,[],[],[],false⟩
def thr6 (l:List Int):Prop:=l.length<=6/\(∀t∈l,0<=t/\t<6)/\l.Nodup
def zdg (s:SemD):Prop:=(1<=s.limit/\s.limit<=9)/\(0<=s.free/\s.free<=s.limit)/\(∀w∈s.queue,1<=w.2/\w.2<=s.limit)/\thr6 (s.queue.map (·.1))/\(∀w q,s.queue=w::q->s.free<w.2)
def zbW (o:zaj):Prop:=
 (o.state=0/\o.owner=0/\o.value=0/\o.waits=[])\/(o.state=1/\(0<=o.owner/\o.owner<6)/\o.value=0/\thr6 o.waits/\o.owner∉o.waits)\/(o.state=2/\(0<=o.owner/\o.owner<6)/\(0<=o.value/\o.value<=99)/\o.waits=[])
def zdf (g:GrpD):Prop:=(0<=g.count/\g.count<=99)/\thr6 g.waits/\(g.count=0->g.waits=[])
def zdU (b:BarD):Prop:=(1<=b.parties/\b.parties<=6)/\(0<=b.round/\b.round<=9999)/\thr6 b.waits/\(b.waits.length:Int)<b.parties
def zce (c:ChnD):Prop:=(0<=c.room/\c.room<=4)/\(c.items.length:Int)<=c.room/\(∀v∈c.items,0<=v/\v<=99)/\(∀l∈c.senders,0<=l.2/\l.2<=99)/\thr6 (c.senders.map (·.1)++c.getters)/\
 (c.senders≠[]->(c.items.length:Int)=c.room/\c.getters=[]/\c.closed=false)/\(c.getters≠[]->c.items=[]/\c.closed=false)
def zaH (s:SemD) (t c:Int):SemD×Bool:=if s.queue=[]/\c<=s.free then (⟨s.free-c,s.limit,s.queue⟩,true) else (⟨s.free,s.limit,s.queue++[(t,c)]⟩,false)
def zP (f:Int):List (Int×Int)->Int×List Int×List (Int×Int)
 |[]=>(f,[],[])
 |w::q=>if w.2<=f then ((zP (f-w.2) q).1,w.1::(zP (f-w.2) q).2.1,(zP (f-w.2) q).2.2) else (f,[],w::q)
def zbd (s:SemD) (c:Int):Option (SemD×List Int):=if c<=s.limit-s.free then some (⟨(zP (s.free+c) s.queue).1,s.limit,(zP (s.free+c) s.queue).2.2⟩,(zP (s.free+c) s.queue).2.1) else none
def zbm (o:zaj) (t:Int):zaj:=if o.state=0 then ⟨1,t,0,[]⟩ else if o.state=1 then ⟨1,o.owner,0,o.waits++[t]⟩ else o
def zcJ (t v:Int):zaj:=⟨2,t,v,[]⟩
def zaU (g:GrpD) (n:Int):Option (GrpD×List Int):=if 0<=g.count+n/\g.count+n<=99 then (if g.count+n=0 then some (⟨0,[]⟩,g.waits) else some (⟨g.count+n,g.waits⟩,[])) else none
def zaz (g:GrpD) (t:Int):GrpD×Bool:=if g.count=0 then (g,true) else (⟨g.count,g.waits++[t]⟩,false)
def zaA (b:BarD) (t:Int):BarD×List Int:=if (b.waits.length:Int)+1<b.parties then (⟨b.parties,b.round,b.waits++[t]⟩,[]) else (⟨b.parties,b.round+1,[]⟩,b.waits++[t])
def zaO (c:ChnD) (t v:Int):Option (ChnD×List Int×Bool):=
 if c.closed=true then none else match c.getters with
 |g::gs=>some (⟨c.room,c.items,c.senders,gs,c.closed⟩,[g],true)
 |[]=>if (c.items.length:Int)<c.room then some (⟨c.room,c.items++[v],c.senders,c.getters,c.closed⟩,[],true) else some (⟨c.room,c.items,c.senders++[(t,v)],c.getters,c.closed⟩,[],false)
def zar (c:ChnD) (t:Int):ChnD×Int×Int×List Int:=
 match c.senders with
 |l::ls=>(match c.items with
  |x::xs=>(⟨c.room,xs++[l.2],ls,c.getters,c.closed⟩,x,1,[l.1])
  |[]=>(⟨c.room,[],ls,c.getters,c.closed⟩,l.2,1,[l.1]))
 |[]=>(match c.items with
  |x::xs=>(⟨c.room,xs,[],c.getters,c.closed⟩,x,1,[])
  |[]=>if c.closed=true then (c,0,2,[]) else (⟨c.room,[],[],c.getters++[t],c.closed⟩,0,0,[]))
def zaS (c:ChnD):Option (ChnD×List Int):=if c.closed=true\/c.senders≠[] then none else some (⟨c.room,c.items,c.senders,[],true⟩,c.getters)
def zbY (p:Pg) (t:Int):List OpD:=p.threads.getD t.toNat []
def rest (p:Pg) (t at_:Int):Int:=if at_=(zbY p t).length then 3 else 0
def goOn (p:Pg) (s:StD) (t:Int):StD:={s with places:=s.places.set t.toNat (s.places.getD t.toNat 0+1),status:=s.status.set t.toNat (rest p t (s.places.getD t.toNat 0+1))}
def goAll (p:Pg) (s:StD) (l:List Int):StD:=l.foldl (goOn p) s
def zX (s:StD) (t v:Int):StD:={s with status:=s.status.set t.toNat v}
def sayIt (s:StD) (v:Int):StD:={s with said:=s.said++[v]}
def zaW (s:StD) (f:Int):StD:={s with fault:=f}
def opAt (p:Pg) (s:StD) (t:Int):OpD:=(zbY p t).getD (s.places.getD t.toNat 0).toNat noOp
def setSem (s:StD) (i:Int) (x:SemD):StD:={s with sems:=s.sems.set i.toNat x}
def setOnce (s:StD) (i:Int) (x:zaj):StD:={s with onces:=s.onces.set i.toNat x}
def setGrp (s:StD) (i:Int) (x:GrpD):StD:={s with groups:=s.groups.set i.toNat x}
def setBar (s:StD) (i:Int) (x:BarD):StD:={s with bars:=s.bars.set i.toNat x}
def setChn (s:StD) (i:Int) (x:ChnD):StD:={s with chans:=s.chans.set i.toNat x}
def zaN (p:Pg) (s:StD) (t:Int) (b:Bool):StD:=if b=true then goOn p s t else zX s t 1
def doSem (p:Pg) (s:StD) (t:Int) (o:OpD):StD:=zaN p (setSem s o.on (zaH (s.sems.getD o.on.toNat zG) t o.arg).1) t (zaH (s.sems.getD o.on.toNat zG) t o.arg).2
def doRel (p:Pg) (s:StD) (t:Int) (o:OpD):StD:=match zbd (s.sems.getD o.on.toNat zG) o.arg with
 |none=>zaW s 1
 |some (x,l)=>goAll p (setSem s o.on x) (l++[t])
def doOnce (p:Pg) (s:StD) (t:Int) (o:OpD):StD:=
 if s.status.getD t.toNat 0=2 then goAll p (setOnce s o.on (zcJ t o.arg)) ((s.onces.getD o.on.toNat zq).waits++[t])
 else if (s.onces.getD o.on.toNat zq).state=0 then zX (setOnce s o.on (zbm (s.onces.getD o.on.toNat zq) t)) t 2
 else if (s.onces.getD o.on.toNat zq).state=1 then zX (setOnce s o.on (zbm (s.onces.getD o.on.toNat zq) t)) t 1
 else goOn p s t
def doAdd (p:Pg) (s:StD) (t:Int) (o:OpD):StD:=match zaU (s.groups.getD o.on.toNat zQ) o.arg with
 |none=>zaW s 2
 |some (x,l)=>goAll p (setGrp s o.on x) (l++[t])
def doWait (p:Pg) (s:StD) (t:Int) (o:OpD):StD:=zaN p (setGrp s o.on (zaz (s.groups.getD o.on.toNat zQ) t).1) t (zaz (s.groups.getD o.on.toNat zQ) t).2
def doCome (p:Pg) (s:StD) (t:Int) (o:OpD):StD:=
 if (zaA (s.bars.getD o.on.toNat zE) t).2=[] then zX (setBar s o.on (zaA (s.bars.getD o.on.toNat zE) t).1) t 1
 else goAll p (setBar s o.on (zaA (s.bars.getD o.on.toNat zE) t).1) (zaA (s.bars.getD o.on.toNat zE) t).2
def doSend (p:Pg) (s:StD) (t:Int) (o:OpD):StD:=match zaO (s.chans.getD o.on.toNat zH) t o.arg with
 |none=>zaW s 3
 |some (x,l,b)=>zaN p (goAll p (if l=[] then setChn s o.on x else sayIt (setChn s o.on x) o.arg) l) t b
def doGet (p:Pg) (s:StD) (t:Int) (o:OpD):StD:=
 if (zar (s.chans.getD o.on.toNat zH) t).2.2.1=0 then zX (setChn s o.on (zar (s.chans.getD o.on.toNat zH) t).1) t 1
 else goAll p (if (zar (s.chans.getD o.on.toNat zH) t).2.2.1=1 then sayIt (setChn s o.on (zar (s.chans.getD o.on.toNat zH) t).1) (zar (s.chans.getD o.on.toNat zH) t).2.1 else setChn s o.on (zar (s.chans.getD o.on.toNat zH) t).1) ((zar (s.chans.getD o.on.toNat zH) t).2.2.2++[t])
def doClose (p:Pg) (s:StD) (t:Int) (o:OpD):StD:=match zaS (s.chans.getD o.on.toNat zH) with
 |none=>zaW s 4
 |some (x,l)=>goAll p (setChn s o.on x) (l++[t])
def zx (p:Pg) (s:StD) (t:Int):StD:=
 if (opAt p s t).kind=1 then goOn p (sayIt s (opAt p s t).arg) t
 else if (opAt p s t).kind=2 then doSem p s t (opAt p s t)
 else if (opAt p s t).kind=3 then doRel p s t (opAt p s t)
 else if (opAt p s t).kind=4 then doOnce p s t (opAt p s t)
 else if (opAt p s t).kind=5 then doAdd p s t (opAt p s t)
 else if (opAt p s t).kind=6 then doWait p s t (opAt p s t)
 else if (opAt p s t).kind=7 then doCome p s t (opAt p s t)
 else if (opAt p s t).kind=8 then doSend p s t (opAt p s t)
 else if (opAt p s t).kind=9 then doGet p s t (opAt p s t)
 else doClose p s t (opAt p s t)
abbrev Ent:=Int×Int×Int×Int
def zU (x:SemD) (i:Nat):List Ent:=x.queue.map λw=>(w.1,2,(i:Int),w.2)
def zN (x:zaj) (i:Nat):List Ent:=x.waits.map λt=>(t,4,(i:Int),0)
def zah (x:GrpD) (i:Nat):List Ent:=x.waits.map λt=>(t,6,(i:Int),0)
def zal (x:BarD) (i:Nat):List Ent:=x.waits.map λt=>(t,7,(i:Int),0)
def zZ (x:ChnD) (i:Nat):List Ent:=(x.senders.map λw=>(w.1,8,(i:Int),w.2))++x.getters.map λt=>(t,9,(i:Int),0)
def allE {α:Type} (f:Nat->List α):Nat->List α
 |0=>[]
 |n+1=>allE f n++f n
def ents (s:StD):List Ent:=allE (λi=>zU (s.sems.getD i zG) i) s.sems.length++(allE (λi=>zN (s.onces.getD i zq) i) s.onces.length++(allE (λi=>zah (s.groups.getD i zQ) i) s.groups.length++(allE (λi=>zal (s.bars.getD i zE) i) s.bars.length++allE (λi=>zZ (s.chans.getD i zH) i) s.chans.length)))
def zaq (x:zaj) (i:Nat):List (Int×Int):=if x.state=1 then [(x.owner,(i:Int))] else []
def owns (s:StD):List (Int×Int):=allE (λi=>zaq (s.onces.getD i zq) i) s.onces.length
def eT (s:StD):List Int:=(ents s).map (·.1)
def oT (s:StD):List Int:=(owns s).map (·.1)
def want (o:OpD) (t:Int):Ent:=(t,o.kind,o.on,if o.kind=2\/o.kind=8 then o.arg else 0)
def thOk (p:Pg) (s:StD) (t:Int):Prop:=
 0<=s.places.getD t.toNat 0/\s.places.getD t.toNat 0<=(zbY p t).length/\
 ((s.places.getD t.toNat 0=(zbY p t).length/\s.status.getD t.toNat 0=3/\t∉eT s/\t∉oT s)\/
 (s.places.getD t.toNat 0<(zbY p t).length/\
  ((s.status.getD t.toNat 0=0/\t∉eT s/\t∉oT s)\/(s.status.getD t.toNat 0=1/\want (opAt p s t) t∈ents s/\t∉oT s)\/(s.status.getD t.toNat 0=2/\t∉eT s/\(opAt p s t).kind=4/\(t,(opAt p s t).on)∈owns s))))
structure Fits (p:Pg) (s:StD):Prop where
 prog:zu p=true
 np:s.places.length=p.threads.length
 nst:s.status.length=p.threads.length
 nse:s.sems.length=p.sems.length
 non:s.onces.length=3
 ngr:s.groups.length=p.groups.length
 nba:s.bars.length=p.barriers.length
 nch:s.chans.length=p.rooms.length
 nsa:s.said.length<=64
 flt:0<=s.fault/\s.fault<=4
 se:∀i,i<s.sems.length->zdg (s.sems.getD i zG)/\(s.sems.getD i zG).limit=p.sems.getD i 0
 on:∀i,i<s.onces.length->zbW (s.onces.getD i zq)
 gr:∀i,i<s.groups.length->zdf (s.groups.getD i zQ)
 ba:∀i,i<s.bars.length->zdU (s.bars.getD i zE)/\(s.bars.getD i zE).parties=p.barriers.getD i 0
 ch:∀i,i<s.chans.length->zce (s.chans.getD i zH)/\(s.chans.getD i zH).room=p.rooms.getD i 0
 sa:∀v∈s.said,0<=v/\v<=99
 we:∀e∈ents s,0<=e.1/\e.1<p.threads.length
 oe:∀e∈owns s,0<=e.1/\e.1<p.threads.length
 ne:(eT s).Nodup
 no:(oT s).Nodup
 th:∀t:Nat,t<p.threads.length->thOk p s t
def zD (s:StD):List Int:=if s.fault=0 then ((List.range s.status.length).filter λi=>decide (s.status.getD i 0=0\/s.status.getD i 0=2)).map (λi:Nat=>(i:Int)) else []
def zae (p:Pg):StD:=⟨p.threads.map λ_=>0,p.threads.map λt=>if t.length=0 then 3 else 0,p.sems.map λn=>⟨n,n,[]⟩,List.replicate 3 zq,p.groups.map λn=>⟨n,[]⟩,p.barriers.map λn=>⟨n,0,[]⟩,p.rooms.map λn=>⟨n,[],[],[],false⟩,[],0⟩
theorem zaI {α:Type} (l:List α) (i j:Nat) (x d:α):(l.set j x).getD i d=if i=j/\j<l.length then x else l.getD i d:=by
 simp only[xDa,List.getElem?_set];by_cases h:j=i
 ·subst h;by_cases hl:j<l.length
  ·simp[hl]
  ·simp[hl]
 ·rw[if_neg h,if_neg (λe=>h e.1.symm)]
section
variable {α:Type}
theorem za9 {f:Nat->List α} {e:α}:∀{n},e∈allE f n↔∃i,i<n/\e∈f i
 |0=>by simp[allE]
 |n+1=>by
  rw[allE,List.mem_append,za9];constructor
  ·rintro(⟨i,hi,h⟩|h)
   ·exact⟨i,by omega,h⟩
   ·exact⟨n,by omega,h⟩
  ·rintro⟨i,hi,h⟩;by_cases hin:i<n
   ·exact .inl ⟨i,hin,h⟩
   ·obtain rfl:i=n:=by omega
    exact .inr h
theorem zbX {f g:Nat->List α}:∀{n},(∀i,i<n->f i=g i)->allE f n=allE g n
 |0,_=>rfl
 |n+1,h=>by rw[allE,allE,zbX (λi hi=>h i (by omega)),h n (by omega)]
theorem zck [BEq α] {f g:Nat->List α} (e:α):∀{n j},j<n->(∀i,i<n->i≠j->f i=g i)->(allE f n).count e+(g j).count e=(allE g n).count e+(f j).count e
 |0,_,h,_=>by omega
 |n+1,j,hj,h=>by
  rw[allE,allE,List.count_append,List.count_append];by_cases hjn:j=n
  ·subst hjn;rw[zbX (λi hi=>h i (by omega) (by omega))];omega
  ·have:=zck e (n:=n) (j:=j) (by omega) (λi hi hij=>h i (by omega) hij);rw[h n (by omega) (λe=>hjn e.symm)];omega
end
theorem zfG (s:StD) (i:Int) (x:SemD) (hi:i.toNat<s.sems.length) (e:Ent):(ents (setSem s i x)).count e+(zU (s.sems.getD i.toNat zG) i.toNat).count e=(ents s).count e+(zU x i.toNat).count e:=by
 have e1:(s.sems.set i.toNat x).getD i.toNat zG=x:=by rw[zaI,if_pos ⟨rfl,hi⟩]
 have h0:=zck e (f:=λk=>zU ((s.sems.set i.toNat x).getD k zG) k) (g:=λk=>zU (s.sems.getD k zG) k) hi (λk hk hkj=>by simp only[zaI,if_neg (λc=>hkj c.1:¬(k=i.toNat/\i.toNat<s.sems.length))]);simp only[e1] at h0;unfold ents setSem;simp only[List.count_append,List.length_set];omega
theorem zfm (s:StD) (i:Int) (x:zaj) (hi:i.toNat<s.onces.length) (e:Ent):(ents (setOnce s i x)).count e+(zN (s.onces.getD i.toNat zq) i.toNat).count e=(ents s).count e+(zN x i.toNat).count e:=by
 have e1:(s.onces.set i.toNat x).getD i.toNat zq=x:=by rw[zaI,if_pos ⟨rfl,hi⟩]
 have h0:=zck e (f:=λk=>zN ((s.onces.set i.toNat x).getD k zq) k) (g:=λk=>zN (s.onces.getD k zq) k) hi (λk hk hkj=>by simp only[zaI,if_neg (λc=>hkj c.1:¬(k=i.toNat/\i.toNat<s.onces.length))]);simp only[e1] at h0;unfold ents setOnce;simp only[List.count_append,List.length_set];omega
theorem zeB (s:StD) (i:Int) (x:GrpD) (hi:i.toNat<s.groups.length) (e:Ent):(ents (setGrp s i x)).count e+(zah (s.groups.getD i.toNat zQ) i.toNat).count e=(ents s).count e+(zah x i.toNat).count e:=by
 have e1:(s.groups.set i.toNat x).getD i.toNat zQ=x:=by rw[zaI,if_pos ⟨rfl,hi⟩]
 have h0:=zck e (f:=λk=>zah ((s.groups.set i.toNat x).getD k zQ) k) (g:=λk=>zah (s.groups.getD k zQ) k) hi (λk hk hkj=>by simp only[zaI,if_neg (λc=>hkj c.1:¬(k=i.toNat/\i.toNat<s.groups.length))]);simp only[e1] at h0;unfold ents setGrp;simp only[List.count_append,List.length_set];omega
theorem ziD (s:StD) (i:Int) (x:BarD) (hi:i.toNat<s.bars.length) (e:Ent):(ents (setBar s i x)).count e+(zal (s.bars.getD i.toNat zE) i.toNat).count e=(ents s).count e+(zal x i.toNat).count e:=by
 have e1:(s.bars.set i.toNat x).getD i.toNat zE=x:=by rw[zaI,if_pos ⟨rfl,hi⟩]
 have h0:=zck e (f:=λk=>zal ((s.bars.set i.toNat x).getD k zE) k) (g:=λk=>zal (s.bars.getD k zE) k) hi (λk hk hkj=>by simp only[zaI,if_neg (λc=>hkj c.1:¬(k=i.toNat/\i.toNat<s.bars.length))]);simp only[e1] at h0;unfold ents setBar;simp only[List.count_append,List.length_set];omega
theorem zcR (s:StD) (i:Int) (x:ChnD) (hi:i.toNat<s.chans.length) (e:Ent):(ents (setChn s i x)).count e+(zZ (s.chans.getD i.toNat zH) i.toNat).count e=(ents s).count e+(zZ x i.toNat).count e:=by
 have e1:(s.chans.set i.toNat x).getD i.toNat zH=x:=by rw[zaI,if_pos ⟨rfl,hi⟩]
 have h0:=zck e (f:=λk=>zZ ((s.chans.set i.toNat x).getD k zH) k) (g:=λk=>zZ (s.chans.getD k zH) k) hi (λk hk hkj=>by simp only[zaI,if_neg (λc=>hkj c.1:¬(k=i.toNat/\i.toNat<s.chans.length))]);simp only[e1] at h0;unfold ents setChn;simp only[List.count_append,List.length_set];omega
theorem zfb (s:StD) (i:Int) (x:zaj) (hi:i.toNat<s.onces.length) (e:Int×Int):(owns (setOnce s i x)).count e+(zaq (s.onces.getD i.toNat zq) i.toNat).count e=(owns s).count e+(zaq x i.toNat).count e:=by
 have e1:(s.onces.set i.toNat x).getD i.toNat zq=x:=by rw[zaI,if_pos ⟨rfl,hi⟩]
 have h0:=zck e (f:=λk=>zaq ((s.onces.set i.toNat x).getD k zq) k) (g:=λk=>zaq (s.onces.getD k zq) k) hi (λk hk hkj=>by simp only[zaI,if_neg (λc=>hkj c.1:¬(k=i.toNat/\i.toNat<s.onces.length))]);simp only[e1] at h0;unfold owns setOnce;simp only[List.length_set];omega
section
variable {p:Pg}
theorem zdV:∀(l:List Int) (s:StD),(goAll p s l).sems=s.sems
 |[],_=>rfl
 |t::l,s=>zdV l (goOn p s t)
theorem zcP:∀(l:List Int) (s:StD),(goAll p s l).onces=s.onces
 |[],_=>rfl
 |t::l,s=>zcP l (goOn p s t)
theorem zdi:∀(l:List Int) (s:StD),(goAll p s l).groups=s.groups
 |[],_=>rfl
 |t::l,s=>zdi l (goOn p s t)
theorem zaX:∀(l:List Int) (s:StD),(goAll p s l).bars=s.bars
 |[],_=>rfl
 |t::l,s=>zaX l (goOn p s t)
theorem zdF:∀(l:List Int) (s:StD),(goAll p s l).chans=s.chans
 |[],_=>rfl
 |t::l,s=>zdF l (goOn p s t)
theorem zaY:∀(l:List Int) (s:StD),(goAll p s l).said=s.said
 |[],_=>rfl
 |t::l,s=>zaY l (goOn p s t)
theorem zfH:∀(l:List Int) (s:StD),(goAll p s l).fault=s.fault
 |[],_=>rfl
 |t::l,s=>zfH l (goOn p s t)
theorem zaB:∀(l:List Int) (s:StD),(goAll p s l).places.length=s.places.length
 |[],_=>rfl
 |t::l,s=>by
  have h:=zaB l (goOn p s t);rw[show goAll p s (t::l)=goAll p (goOn p s t) l from rfl,h];simp[goOn]
theorem zbn:∀(l:List Int) (s:StD),(goAll p s l).status.length=s.status.length
 |[],_=>rfl
 |t::l,s=>by
  have h:=zbn l (goOn p s t);rw[show goAll p s (t::l)=goAll p (goOn p s t) l from rfl,h];simp[goOn]
theorem zdS (l:List Int) (s:StD) (t:Int):goOn p (goAll p s l) t=goAll p s (l++[t]):=by
 simp[goAll,List.foldl_append]
theorem zjq (l:List Int) (s:StD):ents (goAll p s l)=ents s:=by
 unfold ents;rw[zdV,zcP,zdi,zaX,zdF]
theorem zjo (l:List Int) (s:StD):owns (goAll p s l)=owns s:=by
 unfold owns;rw[zcP]
theorem zhj:∀{l:List Int} {s:StD},l.Nodup->(∀u∈l,0<=u/\u.toNat<s.places.length/\u.toNat<s.status.length)->∀t:Int,0<=t->
  (goAll p s l).places.getD t.toNat 0=(if t∈l then s.places.getD t.toNat 0+1 else s.places.getD t.toNat 0)/\
  (goAll p s l).status.getD t.toNat 0=(if t∈l then rest p t (s.places.getD t.toNat 0+1) else s.status.getD t.toNat 0)
 |[],_,_,_,t,_=>by simp[goAll]
 |u::l,s,hn,hb,t,ht=>by
  obtain⟨hu0,hu1,hu2⟩:=hb u (by simp);obtain⟨hnu,hnl⟩:=List.nodup_cons.1 hn;have ih:=zhj (l:=l) (s:=goOn p s u) hnl (λx hx=>by
   have:=hb x (List.mem_cons_of_mem _ hx);simpa[goOn] using this) t ht
  rw[show goAll p s (u::l)=goAll p (goOn p s u) l from rfl,ih.1,ih.2];have e1:(goOn p s u).places.getD t.toNat 0=if u.toNat=t.toNat then s.places.getD u.toNat 0+1 else s.places.getD t.toNat 0:=by
   show(s.places.set u.toNat _).getD t.toNat 0=_;rw[zaI];by_cases h:u.toNat=t.toNat
   ·rw[if_pos ⟨h.symm,hu1⟩,if_pos h]
   ·rw[if_neg (λc=>h c.1.symm),if_neg h]
  have e2:(goOn p s u).status.getD t.toNat 0=if u.toNat=t.toNat then rest p u (s.places.getD u.toNat 0+1) else s.status.getD t.toNat 0:=by
   show(s.status.set u.toNat _).getD t.toNat 0=_;rw[zaI];by_cases h:u.toNat=t.toNat
   ·rw[if_pos ⟨h.symm,hu2⟩,if_pos h]
   ·rw[if_neg (λc=>h c.1.symm),if_neg h]
  rw[e1,e2];by_cases htu:t=u
  ·subst htu;rw[if_neg hnu,if_neg hnu,if_pos rfl,if_pos rfl,if_pos (by simp),if_pos (by simp)];exact⟨rfl,rfl⟩
  ·have hne:¬u.toNat=t.toNat:=λe=>htu (by omega);rw[if_neg hne,if_neg hne];by_cases hl:t∈l
   ·rw[if_pos hl,if_pos hl,if_pos (List.mem_cons_of_mem _ hl),if_pos (List.mem_cons_of_mem _ hl)];exact⟨rfl,rfl⟩
   ·have hl':t∉u::l:=λh=>by
     rcases List.mem_cons.1 h with h|h
     ·exact htu h
     ·exact hl h
    rw[if_neg hl,if_neg hl,if_neg hl',if_neg hl'];exact⟨rfl,rfl⟩
structure zW (p:Pg) (s:StD):Prop where
 nse:s.sems.length=p.sems.length
 non:s.onces.length=3
 ngr:s.groups.length=p.groups.length
 nba:s.bars.length=p.barriers.length
 nch:s.chans.length=p.rooms.length
 nsa:s.said.length<=64
 flt:0<=s.fault/\s.fault<=4
 se:∀i,i<s.sems.length->zdg (s.sems.getD i zG)/\(s.sems.getD i zG).limit=p.sems.getD i 0
 on:∀i,i<s.onces.length->zbW (s.onces.getD i zq)
 gr:∀i,i<s.groups.length->zdf (s.groups.getD i zQ)
 ba:∀i,i<s.bars.length->zdU (s.bars.getD i zE)/\(s.bars.getD i zE).parties=p.barriers.getD i 0
 ch:∀i,i<s.chans.length->zce (s.chans.getD i zH)/\(s.chans.getD i zH).room=p.rooms.getD i 0
 sa:∀v∈s.said,0<=v/\v<=99
theorem Fits.things {s:StD} (h:Fits p s):zW p s:=⟨h.nse,h.non,h.ngr,h.nba,h.nch,h.nsa,h.flt,h.se,h.on,h.gr,h.ba,h.ch,h.sa⟩
theorem zW.goAll {s:StD} (h:zW p s) (l:List Int):zW p (goAll p s l):=by
 refine⟨?_,?_,?_,?_,?_,?_,?_,?_,?_,?_,?_,?_,?_⟩
 ·rw[zdV];exact h.nse
 ·rw[zcP];exact h.non
 ·rw[zdi];exact h.ngr
 ·rw[zaX];exact h.nba
 ·rw[zdF];exact h.nch
 ·rw[zaY];exact h.nsa
 ·rw[zfH];exact h.flt
 ·rw[zdV];exact h.se
 ·rw[zcP];exact h.on
 ·rw[zdi];exact h.gr
 ·rw[zaX];exact h.ba
 ·rw[zdF];exact h.ch
 ·rw[zaY];exact h.sa
theorem zW.stat {s:StD} (h:zW p s) (t v:Int):zW p (zX s t v):=⟨h.nse,h.non,h.ngr,h.nba,h.nch,h.nsa,h.flt,h.se,h.on,h.gr,h.ba,h.ch,h.sa⟩
theorem zeM {α:Type} {P:Nat->α->Prop} {l:List α} {d:α} (h:∀i,i<l.length->P i (l.getD i d)) {j:Nat} {x:α} (hx:P j x):∀i,i<(l.set j x).length->P i ((l.set j x).getD i d):=by
 intro i hi;rw[List.length_set] at hi;rw[zaI];by_cases e:i=j/\j<l.length
 ·rw[if_pos e,e.1];exact hx
 ·rw[if_neg e];exact h i hi
theorem zW.setSem {s:StD} (h:zW p s) {i:Int} {x:SemD} (hx:zdg x/\x.limit=p.sems.getD i.toNat 0):zW p (setSem s i x):=
 ⟨by rw[<-h.nse];exact List.length_set,h.non,h.ngr,h.nba,h.nch,h.nsa,h.flt,zeM (P:=λi x=>zdg x/\x.limit=p.sems.getD i 0) h.se hx,h.on,h.gr,h.ba,h.ch,h.sa⟩
theorem zW.setOnce {s:StD} (h:zW p s) {i:Int} {x:zaj} (hx:zbW x):zW p (setOnce s i x):=
 ⟨h.nse,by rw[<-h.non];exact List.length_set,h.ngr,h.nba,h.nch,h.nsa,h.flt,h.se,zeM (P:=λ_ x=>zbW x) h.on hx,h.gr,h.ba,h.ch,h.sa⟩
theorem zW.setGrp {s:StD} (h:zW p s) {i:Int} {x:GrpD} (hx:zdf x):zW p (setGrp s i x):=
 ⟨h.nse,h.non,by rw[<-h.ngr];exact List.length_set,h.nba,h.nch,h.nsa,h.flt,h.se,h.on,zeM (P:=λ_ x=>zdf x) h.gr hx,h.ba,h.ch,h.sa⟩
theorem zW.setBar {s:StD} (h:zW p s) {i:Int} {x:BarD} (hx:zdU x/\x.parties=p.barriers.getD i.toNat 0):zW p (setBar s i x):=
 ⟨h.nse,h.non,h.ngr,by rw[<-h.nba];exact List.length_set,h.nch,h.nsa,h.flt,h.se,h.on,h.gr,zeM (P:=λi x=>zdU x/\x.parties=p.barriers.getD i 0) h.ba hx,h.ch,h.sa⟩
theorem zW.setChn {s:StD} (h:zW p s) {i:Int} {x:ChnD} (hx:zce x/\x.room=p.rooms.getD i.toNat 0):zW p (setChn s i x):=
 ⟨h.nse,h.non,h.ngr,h.nba,by rw[<-h.nch];exact List.length_set,h.nsa,h.flt,h.se,h.on,h.gr,h.ba,zeM (P:=λi x=>zce x/\x.room=p.rooms.getD i 0) h.ch hx,h.sa⟩
theorem zW.say {s:StD} (h:zW p s) {v:Int} (hv:0<=v/\v<=99) (hn:s.said.length<64):zW p (sayIt s v):=
 ⟨h.nse,h.non,h.ngr,h.nba,h.nch,by show(s.said++[v]).length<=64;rw[xDh];exact hn,h.flt,h.se,h.on,h.gr,h.ba,h.ch,λx hx=>by
  rcases xP1 hx with hx|hx
  ·exact h.sa x hx
  ·rw[xS1 hx];exact hv⟩
theorem zbj (p:Pg) (t:Nat):zbY p (t:Int)=p.threads.getD t []:=rfl
theorem Fits.waits {s:StD} (h:Fits p s) {u:Int} (hu:u∈eT s):(0<=u/\u<p.threads.length)/\s.places.getD u.toNat 0<(zbY p u).length/\u∉oT s:=by
 obtain⟨e,he,rfl⟩:=xDl.1 hu;obtain⟨h0,h1⟩:=h.we e he;refine⟨⟨h0,h1⟩,?_⟩;have ht:=h.th e.1.toNat (by omega)
 rw[show((e.1.toNat:Nat):Int)=e.1 by omega] at ht;obtain⟨-,-,⟨-,-,hn,-⟩|⟨hp,⟨-,hn,-⟩|⟨-,-,ho⟩|⟨-,hn,-⟩⟩⟩:=ht
 ·exact absurd hu hn
 ·exact absurd hu hn
 ·exact⟨hp,ho⟩
 ·exact absurd hu hn
theorem Fits.go {s s':StD} {l:List Int} {R:List Ent} {O:List (Int×Int)} (h:Fits p s) (hT:zW p s') (hp:s'.places=s.places) (hs:s'.status=s.status)
  (hE:(ents s'++R).Perm (ents s)) (hO:(owns s'++O).Perm (owns s)) (hn:l.Nodup) (hr:∀u∈l,(0<=u/\u<p.threads.length)/\s.places.getD u.toNat 0<(zbY p u).length)
  (hR:∀u∈l,u∉eT s'/\u∉oT s') (hRl:∀e∈R,e.1∈l) (hOl:∀e∈O,e.1∈l):Fits p (goAll p s' l):=by
 have hb:∀u∈l,0<=u/\u.toNat<s'.places.length/\u.toNat<s'.status.length:=λu hu=>by
  have h1:=(hr u hu).1;rw[hp,hs,h.np,h.nst];omega
 have hg:=zhj (p:=p) hn hb;have eE:=zjq (p:=p) l s';have eO:=zjo (p:=p) l s';have mE:∀e,e∈ents s↔e∈ents s'\/e∈R:=λe=>by rw[<-hE.mem_iff,List.mem_append]
 have mO:∀e,e∈owns s↔e∈owns s'\/e∈O:=λe=>by rw[<-hO.mem_iff,List.mem_append]
 have pE:=hE.map (·.1);have pO:=hO.map (·.1);rw[xDr] at pE pO;have g:=hT.goAll (p:=p) l;refine⟨h.prog,by rw[zaB,hp];exact h.np,by rw[zbn,hs];exact h.nst,g.nse,g.non,g.ngr,g.nba,g.nch,g.nsa,g.flt,g.se,g.on,g.gr,g.ba,g.ch,g.sa,?_,?_,?_,?_,?_⟩
 ·intro e he;rw[eE] at he;exact h.we e ((mE e).2 (.inl he))
 ·intro e he;rw[eO] at he;exact h.oe e ((mO e).2 (.inl he))
 ·unfold eT;rw[eE];exact(List.nodup_append.1 (pE.nodup_iff.2 h.ne)).1
 ·unfold oT;rw[eO];exact(List.nodup_append.1 (pO.nodup_iff.2 h.no)).1
 ·intro t ht;have h1:=h.th t ht;obtain⟨g1,g2⟩:=hg (t:Int) (by omega);rw[hp] at g1 g2;rw[hs] at g2;have c1:eT (goAll p s' l)=eT s':=by unfold eT;rw[eE]
  have c2:oT (goAll p s' l)=oT s':=by unfold oT;rw[eO]
  unfold thOk at h1⊢;rw[g1,g2,c1,c2,eE,eO];by_cases hm:(t:Int)∈l
  ·rw[if_pos hm,if_pos hm];have r1:=(hr _ hm).2;obtain⟨n1,n2⟩:=hR _ hm;refine⟨by omega,by omega,?_⟩;by_cases he:s.places.getD (t:Int).toNat 0+1=((zbY p t).length:Int)
   ·exact .inl ⟨he,by unfold rest;rw[if_pos he],n1,n2⟩
   ·exact .inr ⟨by omega,.inl ⟨by unfold rest;rw[if_neg he],n1,n2⟩⟩
  ·rw[if_neg hm,if_neg hm];have n1:(t:Int)∉eT s->(t:Int)∉eT s':=λhq hq'=>by
    obtain⟨e,he,hx⟩:=xDl.1 hq';exact hq (xDl.2 ⟨e,(mE e).2 (.inl he),hx⟩)
   have n2:(t:Int)∉oT s->(t:Int)∉oT s':=λhq hq'=>by
    obtain⟨e,he,hx⟩:=xDl.1 hq';exact hq (xDl.2 ⟨e,(mO e).2 (.inl he),hx⟩)
   have eA:opAt p (goAll p s' l) t=opAt p s t:=by
    unfold opAt;rw[g1,if_neg hm]
   rw[eA];refine⟨h1.1,h1.2.1,?_⟩;rcases h1.2.2 with ⟨a,b,c,d⟩|⟨a,⟨b,c,d⟩|⟨b,c,d⟩|⟨b,c,d,e⟩⟩
   ·exact .inl ⟨a,b,n1 c,n2 d⟩
   ·exact .inr ⟨a,.inl ⟨b,n1 c,n2 d⟩⟩
   ·refine .inr ⟨a,.inr (.inl ⟨b,?_,n2 d⟩)⟩;rcases(mE _).1 c with c|c
    ·exact c
    ·exact absurd (hRl _ c) hm
   ·refine .inr ⟨a,.inr (.inr ⟨b,n1 c,d,?_⟩)⟩;rcases(mO _).1 e with e|e
    ·exact e
    ·exact absurd (hOl _ e) hm
structure Turn (p:Pg) (s:StD) (t:Int):Prop where
 rg:0<=t/\t<p.threads.length
 lt:s.places.getD t.toNat 0<(zbY p t).length
 ge:0<=s.places.getD t.toNat 0
 ne:t∉eT s
 st:(s.status.getD t.toNat 0=0/\t∉oT s)\/(s.status.getD t.toNat 0=2/\(opAt p s t).kind=4/\(t,(opAt p s t).on)∈owns s)
theorem mem_ready {s:StD} {t:Int} (h:t∈zD s):s.fault=0/\∃i:Nat,t=i/\i<s.status.length/\(s.status.getD i 0=0\/s.status.getD i 0=2):=by
 unfold zD at h;by_cases hf:s.fault=0
 ·rw[if_pos hf] at h;obtain⟨i,hi,rfl⟩:=xDl.1 h;obtain⟨h1,h2⟩:=List.mem_filter.1 hi;exact⟨hf,i,rfl,List.mem_range.1 h1,by simpa using h2⟩
 ·rw[if_neg hf] at h
  cases h
theorem Fits.turn {s:StD} (h:Fits p s) {t:Int} (ht:t∈zD s):Turn p s t:=by
 obtain⟨-,i,rfl,hi,hs⟩:=mem_ready ht;rw[h.nst] at hi;obtain⟨h0,h1,h2⟩:=h.th i hi;have e:((i:Nat):Int).toNat=i:=by simp
 rw[e] at h0 h1 h2;rcases h2 with ⟨a,b,c,d⟩|⟨a,⟨b,c,d⟩|⟨b,c,d⟩|⟨b,c,d,f⟩⟩
 ·rw[b] at hs;omega
 ·exact⟨by omega,by rw[e];exact a,by rw[e];exact h0,c,.inl ⟨by rw[e];exact b,d⟩⟩
 ·rw[b] at hs;omega
 ·exact⟨by omega,by rw[e];exact a,by rw[e];exact h0,c,.inr ⟨by rw[e];exact b,d,f⟩⟩
theorem Fits.tell {s s':StD} {R:List Ent} {t:Int} (h:Fits p s) (ht:Turn p s t) (ho:t∉oT s) (hT:zW p s') (hp:s'.places=s.places) (hs:s'.status=s.status) (hE:(ents s'++R).Perm (ents s)) (hO:owns s'=owns s):Fits p (goAll p s' (R.map (·.1)++[t])):=by
 have pE:=hE.map (·.1);rw[xDr] at pE;obtain⟨-,n2,n3⟩:=List.nodup_append.1 (pE.nodup_iff.2 h.ne);have inE:∀u∈R.map (·.1),u∈eT s:=λu hu=>pE.mem_iff.1 (xQ1 (.inr hu));have eO:oT s'=oT s:=by unfold oT;rw[hO]
 refine h.go hT hp hs hE (O:=[]) (by rw[hO,List.append_nil]) ?_ ?_ ?_ ?_ (by simp)
 ·rw[List.nodup_append];refine⟨n2,by simp,λa ha b hb e=> ?_⟩;rw[xS1 hb] at e;exact ht.ne (e▸inE a ha)
 ·intro u hu;rcases xP1 hu with hu|hu
  ·have:=h.waits (inE u hu);exact⟨this.1,this.2.1⟩
  ·rw[xS1 hu];exact⟨ht.rg,ht.lt⟩
 ·intro u hu;rw[eO];rcases xP1 hu with hu|hu
  ·exact⟨λhx=>n3 u hx u hu rfl,(h.waits (inE u hu)).2.2⟩
  ·rw[xS1 hu];exact⟨λhx=>ht.ne (pE.mem_iff.1 (xQ1 (.inl hx))),ho⟩
 ·intro e he;exact xQ1 (.inl (List.mem_map_of_mem he))
theorem zfF (s:StD) (t v:Int) (u:Nat) (hl:t.toNat<s.status.length):(zX s t v).status.getD u 0=if t.toNat=u then v else s.status.getD u 0:=by
 show(s.status.set t.toNat v).getD u 0=_;rw[zaI];by_cases h:t.toNat=u
 ·rw[if_pos ⟨h.symm,hl⟩,if_pos h]
 ·rw[if_neg (λc=>h c.1.symm),if_neg h]
theorem Fits.wait {s s':StD} {t:Int} (h:Fits p s) (ht:Turn p s t) (ho:t∉oT s) (hT:zW p s') (hp:s'.places=s.places) (hs:s'.status=s.status) (hE:(ents s').Perm (want (opAt p s t) t::ents s)) (hO:owns s'=owns s):Fits p (zX s' t 1):=by
 have pE:=hE.map (·.1);have mE:∀e,e∈ents s'↔e=want (opAt p s t) t\/e∈ents s:=λe=>by rw[hE.mem_iff,List.mem_cons]
 have g:=hT.stat t 1;have hl:t.toNat<s'.status.length:=by rw[hs,h.nst];have:=ht.rg;omega
 have eO:oT s'=oT s:=by unfold oT;rw[hO]
 refine⟨h.prog,by show s'.places.length=_;rw[hp];exact h.np,by show(s'.status.set _ _).length=_;rw[List.length_set,hs];exact h.nst,g.nse,g.non,g.ngr,g.nba,g.nch,g.nsa,g.flt,g.se,g.on,g.gr,g.ba,g.ch,g.sa,?_,?_,?_,?_,?_⟩
 ·intro e he;rcases(mE e).1 he with rfl|he
  ·exact ht.rg
  ·exact h.we e he
 ·intro e he;exact h.oe e (by rw[<-hO];exact he)
 ·show(eT s').Nodup;refine pE.nodup_iff.2 (List.nodup_cons.2 ⟨ht.ne,h.ne⟩)
 ·show(oT s').Nodup;rw[eO];exact h.no
 ·intro u hu;have h1:=h.th u hu;have gs:=zfF s' t 1 u hl;rw[hs] at gs;unfold thOk at h1⊢;rw[show((u:Nat):Int).toNat=u by simp] at h1⊢;have c1:∀x,x∈eT (zX s' t 1)↔x=t\/x∈eT s:=λx=>by
   show x∈eT s'↔_;rw[show eT s'=(ents s').map (·.1) from rfl,pE.mem_iff];exact List.mem_cons
  have c2:oT (zX s' t 1)=oT s:=eO;have c3:opAt p (zX s' t 1) u=opAt p s u:=by
   unfold opAt;rw[show(zX s' t 1).places=s'.places from rfl,hp]
  rw[show(zX s' t 1).places=s.places from hp,gs,c2,c3,show ents (zX s' t 1)=ents s' from rfl,show owns (zX s' t 1)=owns s from hO];refine⟨h1.1,h1.2.1,?_⟩;by_cases htu:t.toNat=u
  ·have htu':t=(u:Int):=by have:=ht.rg;omega
   subst htu;rw[if_pos rfl];refine .inr ⟨by rw[<-htu'];exact ht.lt,.inr (.inl ⟨rfl,?_,by rw[<-htu'];exact ho⟩)⟩;rw[<-htu'];exact(mE _).2 (.inl rfl)
  ·rw[if_neg htu];have hne:((u:Nat):Int)≠t:=λe=>htu (by omega);have n1:(u:Int)∉eT s->(u:Int)∉eT (zX s' t 1):=λhq hq'=>by
    rcases(c1 _).1 hq' with hx|hx
    ·exact hne hx
    ·exact hq hx
   rcases h1.2.2 with ⟨a,b,c,d⟩|⟨a,⟨b,c,d⟩|⟨b,c,d⟩|⟨b,c,d,e⟩⟩
   ·exact .inl ⟨a,b,n1 c,d⟩
   ·exact .inr ⟨a,.inl ⟨b,n1 c,d⟩⟩
   ·exact .inr ⟨a,.inr (.inl ⟨b,(mE _).2 (.inr c),d⟩)⟩
   ·exact .inr ⟨a,.inr (.inr ⟨b,n1 c,d,e⟩)⟩
theorem Fits.own {s s':StD} {t:Int} (h:Fits p s) (ht:Turn p s t) (ho:t∉oT s) (hk:(opAt p s t).kind=4) (hT:zW p s') (hp:s'.places=s.places) (hs:s'.status=s.status) (hE:(ents s').Perm (ents s)) (hO:(owns s').Perm ((t,(opAt p s t).on)::owns s)):Fits p (zX s' t 2):=by
 have pO:=hO.map (·.1);have pE:=hE.map (·.1);have mE:∀e,e∈ents s'↔e∈ents s:=λe=>hE.mem_iff;have mO:∀e,e∈owns s'↔e=(t,(opAt p s t).on)\/e∈owns s:=λe=>by rw[hO.mem_iff,List.mem_cons]
 have g:=hT.stat t 2;have hl:t.toNat<s'.status.length:=by rw[hs,h.nst];have:=ht.rg;omega
 refine⟨h.prog,by show s'.places.length=_;rw[hp];exact h.np,by show(s'.status.set _ _).length=_;rw[List.length_set,hs];exact h.nst,g.nse,g.non,g.ngr,g.nba,g.nch,g.nsa,g.flt,g.se,g.on,g.gr,g.ba,g.ch,g.sa,?_,?_,?_,?_,?_⟩
 ·intro e he;exact h.we e ((mE e).1 he)
 ·intro e he;rcases(mO e).1 he with rfl|he
  ·exact ht.rg
  ·exact h.oe e he
 ·show(eT s').Nodup;exact pE.nodup_iff.2 h.ne
 ·show(oT s').Nodup;exact pO.nodup_iff.2 (List.nodup_cons.2 ⟨ho,h.no⟩)
 ·intro u hu;have h1:=h.th u hu;have gs:=zfF s' t 2 u hl;rw[hs] at gs;unfold thOk at h1⊢;rw[show((u:Nat):Int).toNat=u by simp] at h1⊢;have c1:∀x,x∈eT (zX s' t 2)↔x∈eT s:=λx=>pE.mem_iff;have c2:∀x,x∈oT (zX s' t 2)↔x=t\/x∈oT s:=λx=>by
   show x∈oT s'↔_;rw[show oT s'=(owns s').map (·.1) from rfl,pO.mem_iff];exact List.mem_cons
  have c3:opAt p (zX s' t 2) u=opAt p s u:=by
   unfold opAt;rw[show(zX s' t 2).places=s'.places from rfl,hp]
  rw[show(zX s' t 2).places=s.places from hp,gs,c3,show ents (zX s' t 2)=ents s' from rfl,show owns (zX s' t 2)=owns s' from rfl,c1,c2];refine⟨h1.1,h1.2.1,?_⟩;by_cases htu:t.toNat=u
  ·have htu':t=(u:Int):=by have:=ht.rg;omega
   subst htu;rw[if_pos rfl];refine .inr ⟨by rw[<-htu'];exact ht.lt,.inr (.inr ⟨rfl,by rw[<-htu'];exact ht.ne,by rw[<-htu'];exact hk,?_⟩)⟩;rw[<-htu'];exact(mO _).2 (.inl rfl)
  ·rw[if_neg htu];have hne:((u:Nat):Int)≠t:=λe=>htu (by omega);have n2:(u:Int)∉oT s->¬((u:Int)=t\/(u:Int)∈oT s):=λhq hq'=>by
    rcases hq' with hx|hx
    ·exact hne hx
    ·exact hq hx
   rcases h1.2.2 with ⟨a,b,c,d⟩|⟨a,⟨b,c,d⟩|⟨b,c,d⟩|⟨b,c,d,e⟩⟩
   ·exact .inl ⟨a,b,c,n2 d⟩
   ·exact .inr ⟨a,.inl ⟨b,c,n2 d⟩⟩
   ·exact .inr ⟨a,.inr (.inl ⟨b,(mE _).2 c,n2 d⟩)⟩
   ·exact .inr ⟨a,.inr (.inr ⟨b,c,d,(mO _).2 (.inr e)⟩)⟩
theorem Fits.fail {s:StD} (h:Fits p s) {f:Int} (hf:0<=f/\f<=4):Fits p (zaW s f):=
 ⟨h.prog,h.np,h.nst,h.nse,h.non,h.ngr,h.nba,h.nch,h.nsa,hf,h.se,h.on,h.gr,h.ba,h.ch,h.sa,h.we,h.oe,h.ne,h.no,h.th⟩
end
end Go.Proofs.YtnlijgjpgdjpiaaGreat
namespace Go.Proofs.YtnlijgjpgdjpiaaGreat
open Go.RowKit
structure SlV where
 a:Option Addr
 n:Nat
 c:Nat
abbrev SlV.val (s:SlV):Value:= .slice s.a s.n s.c
def nilV:SlV:=⟨none,0,0⟩
structure SlR (S:List Nat) (w:World) (s:SlV) (cs:List Value) (k:Nat):Prop where
 len:s.n=k
 rd:Rd w s.a cs
 far:cs=[]\/∀b,ze s.a=some b->b∉S
 cap:s.n<=s.c
theorem SlR.touch {S T:List Nat} {w w':World} {s:SlV} {cs:List Value} {k:Nat} (h:SlR S w s cs k) (t:zi T w w') (hT:∀b∈T,b∈S):SlR S w' s cs k:=by
 refine⟨h.len,?_,h.far,h.cap⟩;rcases h.rd with h0|⟨b,o,e,hc⟩
 ·exact .inl h0
 ·rcases h.far with h0|hf
  ·exact .inl h0
  ·exact .inr ⟨b,o,e,λj hj=>zB t (hc j hj) (λhb=>hf b (by rw[e];rfl) (hT b hb))⟩
theorem SlR.below {S:List Nat} {w w':World} {s:SlV} {cs:List Value} {k:Nat} (h:SlR S w s cs k) (hb:xW w w'):SlR S w' s cs k:=⟨h.len,h.rd.below hb,h.far,h.cap⟩
theorem SlR.free {S:List Nat} {w:World} {s:SlV} {cs:List Value} {k:Nat} (h:SlR S w s cs k):SlR [] w s cs k:=⟨h.len,h.rd,.inr (λ_ _=>by simp),h.cap⟩
theorem SlR.nil (S:List Nat) (w:World):SlR S w nilV [] 0:=⟨rfl,.inl rfl,.inl rfl,Nat.le_refl _⟩
def zeF:List TypeId:=[74,78,80,82,87,33,40]
structure SlN (w w':World) (s:SlV) (cs:List Value) (k:Nat):Prop where
 len:s.n=k
 rd:Rd w' s.a cs
 new:cs=[]\/∀b,ze s.a=some b->w.heap.size<=b
 cap:s.n<=s.c
 ty:cs=[]\/∀b,ze s.a=some b->∃cur T fr,w'.heap[b]? =some (.cells cur T fr)/\T∉zeF
theorem SlN.r {w w':World} {s:SlV} {cs:List Value} {k:Nat} (h:SlN w w' s cs k) {S:List Nat} (hS:∀b∈S,b<w.heap.size):SlR S w' s cs k:=
 ⟨h.len,h.rd,h.new.imp id (λh b hb hm=>by have:=h b hb;have:=hS b hm;omega),h.cap⟩
theorem SlN.below {w w' w2:World} {s:SlV} {cs:List Value} {k:Nat} (h:SlN w w' s cs k) (hb:xW w' w2):SlN w w2 s cs k:=⟨h.len,h.rd.below hb,h.new,h.cap,h.ty.imp id (λh b hb'=>by
 obtain⟨cur,T,fr,e,ht⟩:=h b hb';exact⟨cur,T,fr,(hb.block b (Array.getElem?_eq_some_iff.1 e).1).trans e,ht⟩)⟩
theorem SlN.touch {S:List Nat} {w w' w2:World} {s:SlV} {cs:List Value} {k:Nat} (h:SlN w w' s cs k) (t:zi S w' w2) (hS:∀b∈S,b<w.heap.size):SlN w w2 s cs k:=by
 refine⟨h.len,?_,h.new,h.cap,?_⟩
 ·rcases h.rd with h0|⟨b,o,e,hc⟩
  ·exact .inl h0
  ·rcases h.new with h0|hf
   ·exact .inl h0
   ·exact .inr ⟨b,o,e,λj hj=>zB t (hc j hj) (λhb=>by have h1:=hf b (by rw[e];rfl);have h2:=hS b hb;omega)⟩
 ·rcases h.ty with h0|ht
  ·exact .inl h0
  ·rcases h.new with h0|hf
   ·exact .inl h0
   ·refine .inr λb hb=> ?_;obtain⟨cur,T,fr,e,hT⟩:=ht b hb;exact⟨cur,T,fr,(t.block b (Array.getElem?_eq_some_iff.1 e).1 (λhm=>by have h1:=hf b hb;have h2:=hS b hm;omega)).trans e,hT⟩
theorem SlN.mono {w0 w w':World} {s:SlV} {cs:List Value} {k:Nat} (h:SlN w w' s cs k) (hb:w0.heap.size<=w.heap.size):SlN w0 w' s cs k:=⟨h.len,h.rd,h.new.imp id (λh b hb'=>by have:=h b hb';omega),h.cap,h.ty⟩
theorem zbU {w:World} {B:Nat} {e:TypeId} {sz n c:Nat} {a:Option Addr} {cs:List Value} (h:w.ownsRow B e sz (.slice a n c) n cs):∀b,ze a=some b->∃cur fr,w.heap[b]? =some (.cells cur e fr):=by
 intro b hb;rcases h.2 with ⟨h1,h0⟩|⟨g,cap,cur,h1,_,hg,_⟩
 ·simp only[Value.slice.injEq] at h1;rw[h1.1] at hb;cases hb
 ·simp only[Value.slice.injEq,true_and] at h1;obtain⟨rfl,rfl⟩:=h1;obtain rfl:g=b:=by simpa[ze] using hb
  exact⟨_,_,hg⟩
theorem SlN.of_owns {w0 w:World} {B:Nat} {e:TypeId} {sz n c:Nat} {a:Option Addr} {cs:List Value} (h:w.ownsRow B e sz (.slice a n c) n cs) (hB:w0.heap.size<=B) (he:e∉zeF:=by decide):SlN w0 w ⟨a,n,c⟩ cs n:=
 ⟨rfl,Rd.of_owns h,.inr (λb hb=>by have:=(zp h b hb).1;omega),(zbe h).1,.inr λb hb=>by
  obtain⟨cur,fr,e1⟩:=zbU h b hb;exact⟨cur,e,fr,e1,he⟩⟩
theorem SlN.nil (w w':World):SlN w w' nilV [] 0:=⟨rfl,.inl rfl,.inl rfl,Nat.le_refl _,.inl rfl⟩
def pair (x:Int×Int):List Value:=[.int .i64 x.1,.int .i64 x.2]
theorem zeY (x:Int×Int):(pair x).length=2:=rfl
abbrev zt (l:List (Int×Int)):List Value:=l.flatMap pair
theorem Rd.pair {w:World} {a:Option Addr} {l:List (Int×Int)} (h:Rd w a (zt l)) (hne:0<l.length):
  ∃b o,a=some ⟨b,o,none⟩/\∀j,j<l.length->w.cell? ⟨b,o+j*2,none⟩=some (.int .i64 (l.getD j (0,0)).1)/\w.cell? ⟨b,o+j*2+1,none⟩=some (.int .i64 (l.getD j (0,0)).2):=by
 obtain⟨b,o,e,hc⟩:=h.flat zeY (0,0) hne (by decide);exact⟨b,o,e,λj hj=>⟨by simpa[Go.Proofs.YtnlijgjpgdjpiaaGreat.pair] using hc j hj 0 (by decide),by simpa[Go.Proofs.YtnlijgjpgdjpiaaGreat.pair] using hc j hj 1 (by decide)⟩⟩
abbrev semV (x:SemD) (s:SlV):Value:= .agg #[.int .i64 x.free,.int .i64 x.limit,s.val]
abbrev zhM (x:zaj) (s:SlV):Value:= .agg #[.int .i64 x.state,.int .i64 x.owner,.int .i64 x.value,s.val]
abbrev grpV (x:GrpD) (s:SlV):Value:= .agg #[.int .i64 x.count,s.val]
abbrev barV (x:BarD) (s:SlV):Value:= .agg #[.int .i64 x.parties,.int .i64 x.round,s.val]
abbrev chnV (x:ChnD) (i s g:SlV):Value:= .agg #[.int .i64 x.room,i.val,s.val,g.val,.bool x.closed]
structure StV where
 pl:SlV
 st:SlV
 se:SlV
 on:SlV
 gr:SlV
 ba:SlV
 ch:SlV
 sa:SlV
 fl:Int
abbrev svC (v:StV):Array Value:= #[.slice v.pl.a v.pl.n v.pl.c,.slice v.st.a v.st.n v.st.c,.slice v.se.a v.se.n v.se.c,.slice v.on.a v.on.n v.on.c,.slice v.gr.a v.gr.n v.gr.c,.slice v.ba.a v.ba.n v.ba.c,.slice v.ch.a v.ch.n v.ch.c,.slice v.sa.a v.sa.n v.sa.c,.int .i64 v.fl]
abbrev rC (v:StV) (a:Option Addr) (n c:Nat):Array Value:= #[.slice v.pl.a v.pl.n v.pl.c,.slice v.st.a v.st.n v.st.c,.slice v.se.a v.se.n v.se.c,.slice v.on.a v.on.n v.on.c,.slice v.gr.a v.gr.n v.gr.c,.slice v.ba.a v.ba.n v.ba.c,.slice v.ch.a v.ch.n v.ch.c,.slice v.sa.a v.sa.n v.sa.c,.int .i64 v.fl,.slice a n c]
abbrev zC:Array Value:= #[.slice none 0 0,.slice none 0 0,.slice none 0 0,.slice none 0 0,.slice none 0 0,.slice none 0 0,.slice none 0 0,.slice none 0 0,.int .i64 0]
abbrev z10:Array Value:= #[.slice none 0 0,.slice none 0 0,.slice none 0 0,.slice none 0 0,.slice none 0 0,.slice none 0 0,.slice none 0 0,.slice none 0 0,.int .i64 0,.slice none 0 0]
abbrev StV.val (v:StV):Value:= .agg #[v.pl.val,v.st.val,v.se.val,v.on.val,v.gr.val,v.ba.val,v.ch.val,v.sa.val,.int .i64 v.fl]
structure StL where
 se:List (SemD×SlV)
 on:List (zaj×SlV)
 gr:List (GrpD×SlV)
 ba:List (BarD×SlV)
 ch:List (ChnD×SlV×SlV×SlV)
def semC (x:SemD×SlV):List Value:=[.int .i64 x.1.free,.int .i64 x.1.limit,x.2.val]
def zbo (x:zaj×SlV):List Value:=[.int .i64 x.1.state,.int .i64 x.1.owner,.int .i64 x.1.value,x.2.val]
def grpC (x:GrpD×SlV):List Value:=[.int .i64 x.1.count,x.2.val]
def barC (x:BarD×SlV):List Value:=[.int .i64 x.1.parties,.int .i64 x.1.round,x.2.val]
def chnC (x:ChnD×SlV×SlV×SlV):List Value:=[.int .i64 x.1.room,x.2.1.val,x.2.2.1.val,x.2.2.2.val,.bool x.1.closed]
theorem zhS (x:SemD×SlV):(semC x).length=3:=rfl
theorem zhn (x:zaj×SlV):(zbo x).length=4:=rfl
theorem ziA (x:GrpD×SlV):(grpC x).length=2:=rfl
theorem zh2 (x:BarD×SlV):(barC x).length=3:=rfl
theorem zic (x:ChnD×SlV×SlV×SlV):(chnC x).length=5:=rfl
abbrev zcQ:SemD×SlV:=(zG,nilV)
abbrev zcp:zaj×SlV:=(zq,nilV)
abbrev zcV:GrpD×SlV:=(zQ,nilV)
abbrev zcU:BarD×SlV:=(zE,nilV)
abbrev zcT:ChnD×SlV×SlV×SlV:=(zH,nilV,nilV,nilV)
structure InL {α β:Type} (R:World->α->β->Prop) (w:World) (L:List (α×β)) (xs:List α):Prop where
 e:L.map (·.1)=xs
 r:∀x∈L,R w x.1 x.2
section
variable {α β:Type} {R R':World->α->β->Prop} {w w':World} {L:List (α×β)} {xs:List α}
theorem InL.mono (h:InL R w L xs) (hm:∀x s,R w x s->R' w' x s):InL R' w' L xs:=⟨h.e,λx hx=>hm _ _ (h.r x hx)⟩
theorem InL.len (h:InL R w L xs):L.length=xs.length:=by rw[<-h.e,xDf]
theorem InL.fst (h:InL R w L xs) (d:α) (s:β) (i:Nat):(L.getD i (d,s)).1=xs.getD i d:=by
 rw[<-h.e];simp only[xDa,List.getElem?_map]
 cases L[i]? <;>rfl
theorem InL.at (h:InL R w L xs) (d:α) (s:β) {i:Nat} (hi:i<xs.length):R w (xs.getD i d) (L.getD i (d,s)).2:=by
 rw[<-h.fst d s i];refine h.r _ ?_;rw[<-h.len] at hi;rw[xDa,xDb hi];exact List.getElem_mem hi
theorem InL.set (h:InL R w L xs) (i:Nat) {x:α} {s:β} (hx:R w x s):InL R w (L.set i (x,s)) (xs.set i x):=by
 refine⟨by rw[List.map_set,h.e],λy hy=> ?_⟩;rcases List.mem_or_eq_of_mem_set hy with hy|rfl
 ·exact h.r y hy
 ·exact hx
theorem InL.snoc (h:InL R w L xs) {x:α} {s:β} (hx:R w x s):InL R w (L++[(x,s)]) (xs++[x]):=by
 refine⟨by rw[xDr,h.e];rfl,λy hy=> ?_⟩;rcases xP1 hy with hy|hy
 ·exact h.r y hy
 ·obtain rfl:=xS1 hy;exact hx
theorem InL.nil:InL R w [] []:=⟨rfl,by simp⟩
end
def semR (S:List Nat) (w:World) (x:SemD) (s:SlV):Prop:=SlR S w s (zt x.queue) x.queue.length
def zda (S:List Nat) (w:World) (x:zaj) (s:SlV):Prop:=SlR S w s (ints x.waits) x.waits.length
def grpR (S:List Nat) (w:World) (x:GrpD) (s:SlV):Prop:=SlR S w s (ints x.waits) x.waits.length
def barR (S:List Nat) (w:World) (x:BarD) (s:SlV):Prop:=SlR S w s (ints x.waits) x.waits.length
def chnR (S:List Nat) (w:World) (x:ChnD) (s:SlV×SlV×SlV):Prop:=SlR S w s.1 (ints x.items) x.items.length/\SlR S w s.2.1 (zt x.senders) x.senders.length/\SlR S w s.2.2 (ints x.getters) x.getters.length
structure StIn (S:List Nat) (w:World) (L:StL) (s:StD):Prop where
 se:InL (semR S) w L.se s.sems
 on:InL (zda S) w L.on s.onces
 gr:InL (grpR S) w L.gr s.groups
 ba:InL (barR S) w L.ba s.bars
 ch:InL (chnR S) w L.ch s.chans
theorem StIn.map {S S':List Nat} {w w':World} {L:StL} {s:StD} (h:StIn S w L s) (hm:∀(x:SlV) (cs:List Value) (k:Nat),SlR S w x cs k->SlR S' w' x cs k):StIn S' w' L s:=
 ⟨h.se.mono λ_ _=>hm _ _ _,h.on.mono λ_ _=>hm _ _ _,h.gr.mono λ_ _=>hm _ _ _,h.ba.mono λ_ _=>hm _ _ _,h.ch.mono λ_ _ hx=>⟨hm _ _ _ hx.1,hm _ _ _ hx.2.1,hm _ _ _ hx.2.2⟩⟩
theorem StIn.to {S:List Nat} {w:World} {L:StL} {s s':StD} (h:StIn S w L s) (e:s'.sems=s.sems/\s'.onces=s.onces/\s'.groups=s.groups/\s'.bars=s.bars/\s'.chans=s.chans):StIn S w L s':=
 ⟨by rw[e.1];exact h.se,by rw[e.2.1];exact h.on,by rw[e.2.2.1];exact h.gr,by rw[e.2.2.2.1];exact h.ba,by rw[e.2.2.2.2];exact h.ch⟩
theorem SlR.wider {S S':List Nat} {w:World} {s:SlV} {cs:List Value} {k:Nat} (h:SlR S w s cs k) (hs:cs=[]\/∀b,ze s.a=some b->b<w.heap.size->b∈S'->b∈S):SlR S' w s cs k:=by
 refine⟨h.len,h.rd,?_,h.cap⟩;rcases h.far with h0|hf
 ·exact .inl h0
 ·rcases hs with h0|hs
  ·exact .inl h0
  ·rcases h.rd with h0|⟨b,o,e,hc⟩
   ·exact .inl h0
   ·by_cases hn:cs=[]
    ·exact .inl hn
    ·refine .inr λb' hb' hm=>hf b' hb' (hs b' hb' ?_ hm);rw[e] at hb';obtain rfl:b=b':=by simpa[ze] using hb'
     have:=hc 0 (List.length_pos_iff.2 hn);unfold World.cell? at this;rcases Nat.lt_or_ge b w.heap.size with hl|hl
     ·exact hl
     ·rw[Array.getElem?_eq_none hl] at this;simp at this
structure StR (w:World) (v:StV) (L:StL) (s:StD):Prop where
 pl:SlR [] w v.pl (ints s.places) s.places.length
 st:SlR [] w v.st (ints s.status) s.status.length
 se:SlR [] w v.se (L.se.flatMap semC) s.sems.length
 on:SlR [] w v.on (L.on.flatMap zbo) s.onces.length
 gr:SlR [] w v.gr (L.gr.flatMap grpC) s.groups.length
 ba:SlR [] w v.ba (L.ba.flatMap barC) s.bars.length
 ch:SlR [] w v.ch (L.ch.flatMap chnC) s.chans.length
 sa:SlR [] w v.sa (ints s.said) s.said.length
 fl:v.fl=s.fault
 inn:StIn [] w L s
theorem StR.below {w w':World} {v:StV} {L:StL} {s:StD} (h:StR w v L s) (hb:xW w w'):StR w' v L s:=
 ⟨h.pl.below hb,h.st.below hb,h.se.below hb,h.on.below hb,h.gr.below hb,h.ba.below hb,h.ch.below hb,h.sa.below hb,h.fl,h.inn.map λ_ _ _ hx=>hx.below hb⟩
def StV.blks (v:StV):List Nat:=[v.pl.a,v.st.a,v.se.a,v.on.a,v.gr.a,v.ba.a,v.ch.a,v.sa.a].filterMap ze
structure StO (X:List Nat) (B:Nat) (w:World) (v:StV) (L:StL) (s:StD):Prop where
 pl:w.ownsRow B 3 1 v.pl.val v.pl.n (ints s.places)
 npl:v.pl.n=s.places.length
 st:w.ownsRow B 3 1 v.st.val v.st.n (ints s.status)
 nst:v.st.n=s.status.length
 se:w.ownsRow B 74 3 v.se.val v.se.n (L.se.flatMap semC)
 nse:v.se.n=s.sems.length
 on:w.ownsRow B 78 4 v.on.val v.on.n (L.on.flatMap zbo)
 non:v.on.n=s.onces.length
 gr:w.ownsRow B 80 2 v.gr.val v.gr.n (L.gr.flatMap grpC)
 ngr:v.gr.n=s.groups.length
 ba:w.ownsRow B 82 3 v.ba.val v.ba.n (L.ba.flatMap barC)
 nba:v.ba.n=s.bars.length
 ch:w.ownsRow B 87 5 v.ch.val v.ch.n (L.ch.flatMap chnC)
 nch:v.ch.n=s.chans.length
 sa:w.ownsRow B 3 1 v.sa.val v.sa.n (ints s.said)
 nsa:v.sa.n=s.said.length
 fl:v.fl=s.fault
 dps:∀k,ze v.pl.a=some k->ze v.st.a≠some k
 dpa:∀k,ze v.pl.a=some k->ze v.sa.a≠some k
 dsa:∀k,ze v.st.a=some k->ze v.sa.a≠some k
 xs:∀k∈X,k<w.heap.size/\k∉v.blks
 inn:StIn (X++v.blks) w L s
theorem SlR.of_owns {w:World} {B:Nat} {e:TypeId} {sz:Nat} {s:SlV} {cs:List Value} {k:Nat} (h:w.ownsRow B e sz s.val s.n cs) (hk:s.n=k):SlR [] w s cs k:=
 ⟨hk,Rd.of_owns h,.inr (by simp),(zbe h).1⟩
theorem StO.rd {X:List Nat} {B:Nat} {w:World} {v:StV} {L:StL} {s:StD} (h:StO X B w v L s):StR w v L s:=
 ⟨SlR.of_owns h.pl h.npl,SlR.of_owns h.st h.nst,SlR.of_owns h.se h.nse,SlR.of_owns h.on h.non,SlR.of_owns h.gr h.ngr,SlR.of_owns h.ba h.nba,SlR.of_owns h.ch h.nch,SlR.of_owns h.sa h.nsa,h.fl,h.inn.map λ_ _ _ hx=>hx.free⟩
theorem StO.below {X:List Nat} {B:Nat} {w w':World} {v:StV} {L:StL} {s:StD} (h:StO X B w v L s) (hb:xW w w'):StO X B w' v L s:=
 ⟨zf h.pl hb,h.npl,zf h.st hb,h.nst,zf h.se hb,h.nse,zf h.on hb,h.non,zf h.gr hb,h.ngr,zf h.ba hb,h.nba,zf h.ch hb,h.nch,zf h.sa hb,h.nsa,h.fl,h.dps,h.dpa,h.dsa,λk hk=>⟨Nat.lt_of_lt_of_le (h.xs k hk).1 hb.size,(h.xs k hk).2⟩,h.inn.map λ_ _ _ hx=>hx.below hb⟩
theorem StO.lower {X:List Nat} {B B':Nat} {w:World} {v:StV} {L:StL} {s:StD} (h:StO X B w v L s) (hb:B'<=B):StO X B' w v L s:=
 ⟨zl h.pl hb,h.npl,zl h.st hb,h.nst,zl h.se hb,h.nse,zl h.on hb,h.non,zl h.gr hb,h.ngr,zl h.ba hb,h.nba,zl h.ch hb,h.nch,zl h.sa hb,h.nsa,h.fl,h.dps,h.dpa,h.dsa,h.xs,h.inn⟩
theorem StO.from {X:List Nat} {B:Nat} {w:World} {v:StV} {L:StL} {s:StD} (h:StO X B w v L s):∀k∈v.blks,B<=k/\k<w.heap.size:=by
 intro k hk;unfold StV.blks at hk;obtain⟨x,hx,hxk⟩:=xDc.1 hk;simp only[List.mem_cons,xDm,or_false] at hx;rcases hx with rfl|rfl|rfl|rfl|rfl|rfl|rfl|rfl
 ·exact zp h.pl k hxk
 ·exact zp h.st k hxk
 ·exact zp h.se k hxk
 ·exact zp h.on k hxk
 ·exact zp h.gr k hxk
 ·exact zp h.ba k hxk
 ·exact zp h.ch k hxk
 ·exact zp h.sa k hxk
theorem StV.mem_pl {v:StV} {k:Nat} (h:ze v.pl.a=some k):k∈v.blks:=xDc.2 ⟨v.pl.a,by simp,h⟩
theorem StV.mem_st {v:StV} {k:Nat} (h:ze v.st.a=some k):k∈v.blks:=xDc.2 ⟨v.st.a,by simp,h⟩
theorem StV.mem_se {v:StV} {k:Nat} (h:ze v.se.a=some k):k∈v.blks:=xDc.2 ⟨v.se.a,by simp,h⟩
theorem StV.mem_on {v:StV} {k:Nat} (h:ze v.on.a=some k):k∈v.blks:=xDc.2 ⟨v.on.a,by simp,h⟩
theorem StV.mem_gr {v:StV} {k:Nat} (h:ze v.gr.a=some k):k∈v.blks:=xDc.2 ⟨v.gr.a,by simp,h⟩
theorem StV.mem_ba {v:StV} {k:Nat} (h:ze v.ba.a=some k):k∈v.blks:=xDc.2 ⟨v.ba.a,by simp,h⟩
theorem StV.mem_ch {v:StV} {k:Nat} (h:ze v.ch.a=some k):k∈v.blks:=xDc.2 ⟨v.ch.a,by simp,h⟩
theorem StV.mem_sa {v:StV} {k:Nat} (h:ze v.sa.a=some k):k∈v.blks:=xDc.2 ⟨v.sa.a,by simp,h⟩
theorem Xs.size {X:List Nat} {w w':World} {b:List Nat} (h:∀k∈X,k<w.heap.size/\k∉b) (hs:w.heap.size<=w'.heap.size):∀k∈X,k<w'.heap.size/\k∉b:=λk hk=>⟨Nat.lt_of_lt_of_le (h k hk).1 hs,(h k hk).2⟩
theorem StO.set_pl {X:List Nat} {B g:Nat} {w w':World} {v:StV} {L:StL} {s:StD} (h:StO X B w v L s) (hg:ze v.pl.a=some g) (T:zi [g] w w') {ps:List Int} (hl:v.pl.n=ps.length) (ho:w'.ownsRow B 3 1 v.pl.val v.pl.n (ints ps)):StO X B w' v L {s with places:=ps}:=
 ⟨ho,hl,zj h.st T (λq hq hm=>by obtain rfl:=xS1 hm;exact h.dps _ hg hq),h.nst,zj h.se T (λq hq hm=>by obtain rfl:=xS1 hm;exact zm h.pl h.se (by decide) _ hg hq),h.nse,zj h.on T (λq hq hm=>by obtain rfl:=xS1 hm;exact zm h.pl h.on (by decide) _ hg hq),h.non,zj h.gr T (λq hq hm=>by obtain rfl:=xS1 hm;exact zm h.pl h.gr (by decide) _ hg hq),h.ngr,zj h.ba T (λq hq hm=>by obtain rfl:=xS1 hm;exact zm h.pl h.ba (by decide) _ hg hq),h.nba,zj h.ch T (λq hq hm=>by obtain rfl:=xS1 hm;exact zm h.pl h.ch (by decide) _ hg hq),h.nch,zj h.sa T (λq hq hm=>by obtain rfl:=xS1 hm;exact h.dpa _ hg hq),h.nsa,h.fl,h.dps,h.dpa,h.dsa,Xs.size h.xs T.size,(h.inn.map λ_ _ _ hx=>hx.touch T (λb hb=>by obtain rfl:=xS1 hb;exact xQ1 (.inr (StV.mem_pl hg)))).to ⟨rfl,rfl,rfl,rfl,rfl⟩⟩
theorem StO.set_st {X:List Nat} {B g:Nat} {w w':World} {v:StV} {L:StL} {s:StD} (h:StO X B w v L s) (hg:ze v.st.a=some g) (T:zi [g] w w') {ps:List Int} (hl:v.st.n=ps.length) (ho:w'.ownsRow B 3 1 v.st.val v.st.n (ints ps)):StO X B w' v L {s with status:=ps}:=
 ⟨zj h.pl T (λq hq hm=>by obtain rfl:=xS1 hm;exact h.dps _ hq hg),h.npl,ho,hl,zj h.se T (λq hq hm=>by obtain rfl:=xS1 hm;exact zm h.st h.se (by decide) _ hg hq),h.nse,zj h.on T (λq hq hm=>by obtain rfl:=xS1 hm;exact zm h.st h.on (by decide) _ hg hq),h.non,zj h.gr T (λq hq hm=>by obtain rfl:=xS1 hm;exact zm h.st h.gr (by decide) _ hg hq),h.ngr,zj h.ba T (λq hq hm=>by obtain rfl:=xS1 hm;exact zm h.st h.ba (by decide) _ hg hq),h.nba,zj h.ch T (λq hq hm=>by obtain rfl:=xS1 hm;exact zm h.st h.ch (by decide) _ hg hq),h.nch,zj h.sa T (λq hq hm=>by obtain rfl:=xS1 hm;exact h.dsa _ hg hq),h.nsa,h.fl,h.dps,h.dpa,h.dsa,Xs.size h.xs T.size,(h.inn.map λ_ _ _ hx=>hx.touch T (λb hb=>by obtain rfl:=xS1 hb;exact xQ1 (.inr (StV.mem_st hg)))).to ⟨rfl,rfl,rfl,rfl,rfl⟩⟩
theorem StO.set_se {X:List Nat} {B g:Nat} {w w':World} {v:StV} {L:StL} {s:StD} (h:StO X B w v L s) (hg:ze v.se.a=some g) (T:zi [g] w w') (i:Nat) {x:SemD} {q:SlV} (hx:semR (X++v.blks) w' x q) (ho:w'.ownsRow B 74 3 v.se.val v.se.n ((L.se.set i (x,q)).flatMap semC)):StO X B w' v {L with se:=L.se.set i (x,q)} {s with sems:=s.sems.set i x}:=by
 have hT:∀b∈[g],b∈X++v.blks:=λb hb=>by obtain rfl:=xS1 hb;exact xQ1 (.inr (StV.mem_se hg))
 exact⟨zj h.pl T (λq hq hm=>by obtain rfl:=xS1 hm;exact zm h.se h.pl (by decide) _ hg hq),h.npl,zj h.st T (λq hq hm=>by obtain rfl:=xS1 hm;exact zm h.se h.st (by decide) _ hg hq),h.nst,ho,by rw[List.length_set];exact h.nse,zj h.on T (λq hq hm=>by obtain rfl:=xS1 hm;exact zm h.se h.on (by decide) _ hg hq),h.non,zj h.gr T (λq hq hm=>by obtain rfl:=xS1 hm;exact zm h.se h.gr (by decide) _ hg hq),h.ngr,zj h.ba T (λq hq hm=>by obtain rfl:=xS1 hm;exact zm h.se h.ba (by decide) _ hg hq),h.nba,zj h.ch T (λq hq hm=>by obtain rfl:=xS1 hm;exact zm h.se h.ch (by decide) _ hg hq),h.nch,zj h.sa T (λq hq hm=>by obtain rfl:=xS1 hm;exact zm h.se h.sa (by decide) _ hg hq),h.nsa,h.fl,h.dps,h.dpa,h.dsa,Xs.size h.xs T.size,⟨(h.inn.se.mono λ_ _ hx=>hx.touch T hT).set i hx,h.inn.on.mono λ_ _ hx=>hx.touch T hT,h.inn.gr.mono λ_ _ hx=>hx.touch T hT,h.inn.ba.mono λ_ _ hx=>hx.touch T hT,h.inn.ch.mono λ_ _ hx=>⟨hx.1.touch T hT,hx.2.1.touch T hT,hx.2.2.touch T hT⟩⟩⟩
theorem StO.set_on {X:List Nat} {B g:Nat} {w w':World} {v:StV} {L:StL} {s:StD} (h:StO X B w v L s) (hg:ze v.on.a=some g) (T:zi [g] w w') (i:Nat) {x:zaj} {q:SlV} (hx:zda (X++v.blks) w' x q) (ho:w'.ownsRow B 78 4 v.on.val v.on.n ((L.on.set i (x,q)).flatMap zbo)):StO X B w' v {L with on:=L.on.set i (x,q)} {s with onces:=s.onces.set i x}:=by
 have hT:∀b∈[g],b∈X++v.blks:=λb hb=>by obtain rfl:=xS1 hb;exact xQ1 (.inr (StV.mem_on hg))
 exact⟨zj h.pl T (λq hq hm=>by obtain rfl:=xS1 hm;exact zm h.on h.pl (by decide) _ hg hq),h.npl,zj h.st T (λq hq hm=>by obtain rfl:=xS1 hm;exact zm h.on h.st (by decide) _ hg hq),h.nst,zj h.se T (λq hq hm=>by obtain rfl:=xS1 hm;exact zm h.on h.se (by decide) _ hg hq),h.nse,ho,by rw[List.length_set];exact h.non,zj h.gr T (λq hq hm=>by obtain rfl:=xS1 hm;exact zm h.on h.gr (by decide) _ hg hq),h.ngr,zj h.ba T (λq hq hm=>by obtain rfl:=xS1 hm;exact zm h.on h.ba (by decide) _ hg hq),h.nba,zj h.ch T (λq hq hm=>by obtain rfl:=xS1 hm;exact zm h.on h.ch (by decide) _ hg hq),h.nch,zj h.sa T (λq hq hm=>by obtain rfl:=xS1 hm;exact zm h.on h.sa (by decide) _ hg hq),h.nsa,h.fl,h.dps,h.dpa,h.dsa,Xs.size h.xs T.size,⟨h.inn.se.mono λ_ _ hx=>hx.touch T hT,(h.inn.on.mono λ_ _ hx=>hx.touch T hT).set i hx,h.inn.gr.mono λ_ _ hx=>hx.touch T hT,h.inn.ba.mono λ_ _ hx=>hx.touch T hT,h.inn.ch.mono λ_ _ hx=>⟨hx.1.touch T hT,hx.2.1.touch T hT,hx.2.2.touch T hT⟩⟩⟩
theorem StO.set_gr {X:List Nat} {B g:Nat} {w w':World} {v:StV} {L:StL} {s:StD} (h:StO X B w v L s) (hg:ze v.gr.a=some g) (T:zi [g] w w') (i:Nat) {x:GrpD} {q:SlV} (hx:grpR (X++v.blks) w' x q) (ho:w'.ownsRow B 80 2 v.gr.val v.gr.n ((L.gr.set i (x,q)).flatMap grpC)):StO X B w' v {L with gr:=L.gr.set i (x,q)} {s with groups:=s.groups.set i x}:=by
 have hT:∀b∈[g],b∈X++v.blks:=λb hb=>by obtain rfl:=xS1 hb;exact xQ1 (.inr (StV.mem_gr hg))
 exact⟨zj h.pl T (λq hq hm=>by obtain rfl:=xS1 hm;exact zm h.gr h.pl (by decide) _ hg hq),h.npl,zj h.st T (λq hq hm=>by obtain rfl:=xS1 hm;exact zm h.gr h.st (by decide) _ hg hq),h.nst,zj h.se T (λq hq hm=>by obtain rfl:=xS1 hm;exact zm h.gr h.se (by decide) _ hg hq),h.nse,zj h.on T (λq hq hm=>by obtain rfl:=xS1 hm;exact zm h.gr h.on (by decide) _ hg hq),h.non,ho,by rw[List.length_set];exact h.ngr,zj h.ba T (λq hq hm=>by obtain rfl:=xS1 hm;exact zm h.gr h.ba (by decide) _ hg hq),h.nba,zj h.ch T (λq hq hm=>by obtain rfl:=xS1 hm;exact zm h.gr h.ch (by decide) _ hg hq),h.nch,zj h.sa T (λq hq hm=>by obtain rfl:=xS1 hm;exact zm h.gr h.sa (by decide) _ hg hq),h.nsa,h.fl,h.dps,h.dpa,h.dsa,Xs.size h.xs T.size,⟨h.inn.se.mono λ_ _ hx=>hx.touch T hT,h.inn.on.mono λ_ _ hx=>hx.touch T hT,(h.inn.gr.mono λ_ _ hx=>hx.touch T hT).set i hx,h.inn.ba.mono λ_ _ hx=>hx.touch T hT,h.inn.ch.mono λ_ _ hx=>⟨hx.1.touch T hT,hx.2.1.touch T hT,hx.2.2.touch T hT⟩⟩⟩
theorem StO.set_ba {X:List Nat} {B g:Nat} {w w':World} {v:StV} {L:StL} {s:StD} (h:StO X B w v L s) (hg:ze v.ba.a=some g) (T:zi [g] w w') (i:Nat) {x:BarD} {q:SlV} (hx:barR (X++v.blks) w' x q) (ho:w'.ownsRow B 82 3 v.ba.val v.ba.n ((L.ba.set i (x,q)).flatMap barC)):StO X B w' v {L with ba:=L.ba.set i (x,q)} {s with bars:=s.bars.set i x}:=by
 have hT:∀b∈[g],b∈X++v.blks:=λb hb=>by obtain rfl:=xS1 hb;exact xQ1 (.inr (StV.mem_ba hg))
 exact⟨zj h.pl T (λq hq hm=>by obtain rfl:=xS1 hm;exact zm h.ba h.pl (by decide) _ hg hq),h.npl,zj h.st T (λq hq hm=>by obtain rfl:=xS1 hm;exact zm h.ba h.st (by decide) _ hg hq),h.nst,zj h.se T (λq hq hm=>by obtain rfl:=xS1 hm;exact zm h.ba h.se (by decide) _ hg hq),h.nse,zj h.on T (λq hq hm=>by obtain rfl:=xS1 hm;exact zm h.ba h.on (by decide) _ hg hq),h.non,zj h.gr T (λq hq hm=>by obtain rfl:=xS1 hm;exact zm h.ba h.gr (by decide) _ hg hq),h.ngr,ho,by rw[List.length_set];exact h.nba,zj h.ch T (λq hq hm=>by obtain rfl:=xS1 hm;exact zm h.ba h.ch (by decide) _ hg hq),h.nch,zj h.sa T (λq hq hm=>by obtain rfl:=xS1 hm;exact zm h.ba h.sa (by decide) _ hg hq),h.nsa,h.fl,h.dps,h.dpa,h.dsa,Xs.size h.xs T.size,⟨h.inn.se.mono λ_ _ hx=>hx.touch T hT,h.inn.on.mono λ_ _ hx=>hx.touch T hT,h.inn.gr.mono λ_ _ hx=>hx.touch T hT,(h.inn.ba.mono λ_ _ hx=>hx.touch T hT).set i hx,h.inn.ch.mono λ_ _ hx=>⟨hx.1.touch T hT,hx.2.1.touch T hT,hx.2.2.touch T hT⟩⟩⟩
theorem StO.set_ch {X:List Nat} {B g:Nat} {w w':World} {v:StV} {L:StL} {s:StD} (h:StO X B w v L s) (hg:ze v.ch.a=some g) (T:zi [g] w w') (i:Nat) {x:ChnD} {q:SlV×SlV×SlV} (hx:chnR (X++v.blks) w' x q) (ho:w'.ownsRow B 87 5 v.ch.val v.ch.n ((L.ch.set i (x,q)).flatMap chnC)):StO X B w' v {L with ch:=L.ch.set i (x,q)} {s with chans:=s.chans.set i x}:=by
 have hT:∀b∈[g],b∈X++v.blks:=λb hb=>by obtain rfl:=xS1 hb;exact xQ1 (.inr (StV.mem_ch hg))
 exact⟨zj h.pl T (λq hq hm=>by obtain rfl:=xS1 hm;exact zm h.ch h.pl (by decide) _ hg hq),h.npl,zj h.st T (λq hq hm=>by obtain rfl:=xS1 hm;exact zm h.ch h.st (by decide) _ hg hq),h.nst,zj h.se T (λq hq hm=>by obtain rfl:=xS1 hm;exact zm h.ch h.se (by decide) _ hg hq),h.nse,zj h.on T (λq hq hm=>by obtain rfl:=xS1 hm;exact zm h.ch h.on (by decide) _ hg hq),h.non,zj h.gr T (λq hq hm=>by obtain rfl:=xS1 hm;exact zm h.ch h.gr (by decide) _ hg hq),h.ngr,zj h.ba T (λq hq hm=>by obtain rfl:=xS1 hm;exact zm h.ch h.ba (by decide) _ hg hq),h.nba,ho,by rw[List.length_set];exact h.nch,zj h.sa T (λq hq hm=>by obtain rfl:=xS1 hm;exact zm h.ch h.sa (by decide) _ hg hq),h.nsa,h.fl,h.dps,h.dpa,h.dsa,Xs.size h.xs T.size,⟨h.inn.se.mono λ_ _ hx=>hx.touch T hT,h.inn.on.mono λ_ _ hx=>hx.touch T hT,h.inn.gr.mono λ_ _ hx=>hx.touch T hT,h.inn.ba.mono λ_ _ hx=>hx.touch T hT,(h.inn.ch.mono λ_ _ hx=>⟨hx.1.touch T hT,hx.2.1.touch T hT,hx.2.2.touch T hT⟩).set i hx⟩⟩
theorem SlR.wide {S S':List Nat} {w w':World} {q:SlV} {cs:List Value} {k:Nat} (hx:SlR S w q cs k) (T:zi S w w') (hb:∀b∈S',b∈S\/w.heap.size<=b):SlR S' w' q cs k:=by
 refine SlR.wider (S:=S) (hx.touch T (λ_ h=>h)) ?_;rcases hx.rd with h0|⟨b,o,e,hc⟩
 ·exact .inl h0
 ·by_cases he:cs=[]
  ·exact .inl he
  ·refine .inr λb' hb' _ hm=> ?_;have hbl:b'<w.heap.size:=by
    rw[e] at hb';obtain rfl:b=b':=by simpa[ze] using hb'
    have:=hc 0 (List.length_pos_iff.2 he);unfold World.cell? at this;rcases Nat.lt_or_ge b w.heap.size with hl|hl
    ·exact hl
    ·rw[Array.getElem?_eq_none hl] at this;simp at this
   rcases hb b' hm with h1|h1
   ·exact h1
   ·omega
theorem StIn.wide {S S':List Nat} {w w':World} {L:StL} {s:StD} (h:StIn S w L s) (T:zi S w w') (hb:∀b∈S',b∈S\/w.heap.size<=b):StIn S' w' L s:=h.map λ_ _ _ hx=>hx.wide T hb
theorem StO.say {X:List Nat} {B:Nat} {w w':World} {v:StV} {L:StL} {s:StD} (h:StO X B w v L s) {s8:SlV} (G:w.grownBy w' (ze v.sa.a)) (hn:∀k,ze s8.a=some k->ze v.sa.a=some k\/w.heap.size<=k) {ps:List Int} (hl:s8.n=ps.length) (ho:w'.ownsRow B 3 1 s8.val s8.n (ints ps)):StO X B w' {v with sa:=s8} L {s with said:=ps}:=by
 have hB0:∀b∈StV.blks {v with sa:=s8},b∈v.blks\/w.heap.size<=b:=by
  intro b hm;unfold StV.blks at hm⊢;obtain⟨y,hy,hyk⟩:=xDc.1 hm;simp only[List.mem_cons,xDm,or_false] at hy;rcases hy with rfl|rfl|rfl|rfl|rfl|rfl|rfl|rfl
  ·exact .inl (xDc.2 ⟨_,by simp,hyk⟩)
  ·exact .inl (xDc.2 ⟨_,by simp,hyk⟩)
  ·exact .inl (xDc.2 ⟨_,by simp,hyk⟩)
  ·exact .inl (xDc.2 ⟨_,by simp,hyk⟩)
  ·exact .inl (xDc.2 ⟨_,by simp,hyk⟩)
  ·exact .inl (xDc.2 ⟨_,by simp,hyk⟩)
  ·exact .inl (xDc.2 ⟨_,by simp,hyk⟩)
  ·rcases hn b hyk with h1|h1
   ·exact .inl (xDc.2 ⟨v.sa.a,by simp,h1⟩)
   ·exact .inr h1
 have hB:∀b∈X++StV.blks {v with sa:=s8},b∈X++v.blks\/w.heap.size<=b:=by
  intro b hm;rcases xP1 hm with hm|hm
  ·exact .inl (xQ1 (.inl hm))
  ·exact(hB0 b hm).imp (λh=>xQ1 (.inr h)) id
 have hT:zi (X++v.blks) w w':=zi.of_grown G λk hk=>xQ1 (.inr (StV.mem_sa hk));have hX:∀k∈X,k<w'.heap.size/\k∉StV.blks {v with sa:=s8}:=λk hk=>⟨Nat.lt_of_lt_of_le (h.xs k hk).1 G.size,λhm=>by
  rcases hB0 k hm with h1|h1
  ·exact(h.xs k hk).2 h1
  ·have:=(h.xs k hk).1;omega⟩
 refine⟨zo h.pl G (λk hk hq=>h.dpa _ hk hq),h.npl,zo h.st G (λk hk hq=>h.dsa _ hk hq),h.nst,zo h.se G (λk hk hq=>zm h.se h.sa (by decide) _ hk hq),h.nse,zo h.on G (λk hk hq=>zm h.on h.sa (by decide) _ hk hq),h.non,zo h.gr G (λk hk hq=>zm h.gr h.sa (by decide) _ hk hq),h.ngr,zo h.ba G (λk hk hq=>zm h.ba h.sa (by decide) _ hk hq),h.nba,zo h.ch G (λk hk hq=>zm h.ch h.sa (by decide) _ hk hq),h.nch,ho,hl,h.fl,h.dps,?_,?_,hX,(h.inn.wide hT hB).to ⟨rfl,rfl,rfl,rfl,rfl⟩⟩
 ·intro k hk hq;rcases hn k hq with h1|h1
  ·exact h.dpa k hk h1
  ·have:=(zp h.pl k hk).2;omega
 ·intro k hk hq;rcases hn k hq with h1|h1
  ·exact h.dsa k hk h1
  ·have:=(zp h.st k hk).2;omega
theorem StO.push_se {X:List Nat} {B:Nat} {w w':World} {v:StV} {L:StL} {s:StD} (h:StO X B w v L s) {r:SlV} (G:w.grownBy w' (ze v.se.a)) (hn:∀k,ze r.a=some k->ze v.se.a=some k\/w.heap.size<=k) {x:SemD} {q:SlV} (hx:semR (X++v.blks) w x q) (hl:r.n=s.sems.length+1) (ho:w'.ownsRow B 74 3 r.val r.n ((L.se++[(x,q)]).flatMap semC)):StO X B w' {v with se:=r} {L with se:=L.se++[(x,q)]} {s with sems:=s.sems++[x]}:=by
 have hB0:∀b∈StV.blks {v with se:=r},b∈v.blks\/w.heap.size<=b:=by
  intro b hm;unfold StV.blks at hm⊢;obtain⟨y,hy,hyk⟩:=xDc.1 hm;simp only[List.mem_cons,xDm,or_false] at hy;rcases hy with rfl|rfl|rfl|rfl|rfl|rfl|rfl|rfl
  ·exact .inl (xDc.2 ⟨_,by simp,hyk⟩)
  ·exact .inl (xDc.2 ⟨_,by simp,hyk⟩)
  ·rcases hn b hyk with h1|h1
   ·exact .inl (xDc.2 ⟨v.se.a,by simp,h1⟩)
   ·exact .inr h1
  ·exact .inl (xDc.2 ⟨_,by simp,hyk⟩)
  ·exact .inl (xDc.2 ⟨_,by simp,hyk⟩)
  ·exact .inl (xDc.2 ⟨_,by simp,hyk⟩)
  ·exact .inl (xDc.2 ⟨_,by simp,hyk⟩)
  ·exact .inl (xDc.2 ⟨_,by simp,hyk⟩)
 have hB:∀b∈X++StV.blks {v with se:=r},b∈X++v.blks\/w.heap.size<=b:=by
  intro b hm;rcases xP1 hm with hm|hm
  ·exact .inl (xQ1 (.inl hm))
  ·exact(hB0 b hm).imp (λh=>xQ1 (.inr h)) id
 have hT:zi (X++v.blks) w w':=zi.of_grown G λk hk=>xQ1 (.inr (StV.mem_se hk));have hX:∀k∈X,k<w'.heap.size/\k∉StV.blks {v with se:=r}:=λk hk=>⟨Nat.lt_of_lt_of_le (h.xs k hk).1 G.size,λhm=>by
  rcases hB0 k hm with h1|h1
  ·exact(h.xs k hk).2 h1
  ·have:=(h.xs k hk).1;omega⟩
 have hI:=h.inn.wide hT hB;exact⟨zo h.pl G (λk hk hq=>zm h.pl h.se (by decide) _ hk hq),h.npl,zo h.st G (λk hk hq=>zm h.st h.se (by decide) _ hk hq),h.nst,ho,by rw[hl,xDh];rfl,zo h.on G (λk hk hq=>zm h.on h.se (by decide) _ hk hq),h.non,zo h.gr G (λk hk hq=>zm h.gr h.se (by decide) _ hk hq),h.ngr,zo h.ba G (λk hk hq=>zm h.ba h.se (by decide) _ hk hq),h.nba,zo h.ch G (λk hk hq=>zm h.ch h.se (by decide) _ hk hq),h.nch,zo h.sa G (λk hk hq=>zm h.sa h.se (by decide) _ hk hq),h.nsa,h.fl,h.dps,h.dpa,h.dsa,hX,⟨hI.se.snoc (hx.wide hT hB),hI.on,hI.gr,hI.ba,hI.ch⟩⟩
theorem StO.push_on {X:List Nat} {B:Nat} {w w':World} {v:StV} {L:StL} {s:StD} (h:StO X B w v L s) {r:SlV} (G:w.grownBy w' (ze v.on.a)) (hn:∀k,ze r.a=some k->ze v.on.a=some k\/w.heap.size<=k) {x:zaj} {q:SlV} (hx:zda (X++v.blks) w x q) (hl:r.n=s.onces.length+1) (ho:w'.ownsRow B 78 4 r.val r.n ((L.on++[(x,q)]).flatMap zbo)):StO X B w' {v with on:=r} {L with on:=L.on++[(x,q)]} {s with onces:=s.onces++[x]}:=by
 have hB0:∀b∈StV.blks {v with on:=r},b∈v.blks\/w.heap.size<=b:=by
  intro b hm;unfold StV.blks at hm⊢;obtain⟨y,hy,hyk⟩:=xDc.1 hm;simp only[List.mem_cons,xDm,or_false] at hy;rcases hy with rfl|rfl|rfl|rfl|rfl|rfl|rfl|rfl
  ·exact .inl (xDc.2 ⟨_,by simp,hyk⟩)
  ·exact .inl (xDc.2 ⟨_,by simp,hyk⟩)
  ·exact .inl (xDc.2 ⟨_,by simp,hyk⟩)
  ·rcases hn b hyk with h1|h1
   ·exact .inl (xDc.2 ⟨v.on.a,by simp,h1⟩)
   ·exact .inr h1
  ·exact .inl (xDc.2 ⟨_,by simp,hyk⟩)
  ·exact .inl (xDc.2 ⟨_,by simp,hyk⟩)
  ·exact .inl (xDc.2 ⟨_,by simp,hyk⟩)
  ·exact .inl (xDc.2 ⟨_,by simp,hyk⟩)
 have hB:∀b∈X++StV.blks {v with on:=r},b∈X++v.blks\/w.heap.size<=b:=by
  intro b hm;rcases xP1 hm with hm|hm
  ·exact .inl (xQ1 (.inl hm))
  ·exact(hB0 b hm).imp (λh=>xQ1 (.inr h)) id
 have hT:zi (X++v.blks) w w':=zi.of_grown G λk hk=>xQ1 (.inr (StV.mem_on hk));have hX:∀k∈X,k<w'.heap.size/\k∉StV.blks {v with on:=r}:=λk hk=>⟨Nat.lt_of_lt_of_le (h.xs k hk).1 G.size,λhm=>by
  rcases hB0 k hm with h1|h1
  ·exact(h.xs k hk).2 h1
  ·have:=(h.xs k hk).1;omega⟩
 have hI:=h.inn.wide hT hB;exact⟨zo h.pl G (λk hk hq=>zm h.pl h.on (by decide) _ hk hq),h.npl,zo h.st G (λk hk hq=>zm h.st h.on (by decide) _ hk hq),h.nst,zo h.se G (λk hk hq=>zm h.se h.on (by decide) _ hk hq),h.nse,ho,by rw[hl,xDh];rfl,zo h.gr G (λk hk hq=>zm h.gr h.on (by decide) _ hk hq),h.ngr,zo h.ba G (λk hk hq=>zm h.ba h.on (by decide) _ hk hq),h.nba,zo h.ch G (λk hk hq=>zm h.ch h.on (by decide) _ hk hq),h.nch,zo h.sa G (λk hk hq=>zm h.sa h.on (by decide) _ hk hq),h.nsa,h.fl,h.dps,h.dpa,h.dsa,hX,⟨hI.se,hI.on.snoc (hx.wide hT hB),hI.gr,hI.ba,hI.ch⟩⟩
theorem StO.push_gr {X:List Nat} {B:Nat} {w w':World} {v:StV} {L:StL} {s:StD} (h:StO X B w v L s) {r:SlV} (G:w.grownBy w' (ze v.gr.a)) (hn:∀k,ze r.a=some k->ze v.gr.a=some k\/w.heap.size<=k) {x:GrpD} {q:SlV} (hx:grpR (X++v.blks) w x q) (hl:r.n=s.groups.length+1) (ho:w'.ownsRow B 80 2 r.val r.n ((L.gr++[(x,q)]).flatMap grpC)):StO X B w' {v with gr:=r} {L with gr:=L.gr++[(x,q)]} {s with groups:=s.groups++[x]}:=by
 have hB0:∀b∈StV.blks {v with gr:=r},b∈v.blks\/w.heap.size<=b:=by
  intro b hm;unfold StV.blks at hm⊢;obtain⟨y,hy,hyk⟩:=xDc.1 hm;simp only[List.mem_cons,xDm,or_false] at hy;rcases hy with rfl|rfl|rfl|rfl|rfl|rfl|rfl|rfl
  ·exact .inl (xDc.2 ⟨_,by simp,hyk⟩)
  ·exact .inl (xDc.2 ⟨_,by simp,hyk⟩)
  ·exact .inl (xDc.2 ⟨_,by simp,hyk⟩)
  ·exact .inl (xDc.2 ⟨_,by simp,hyk⟩)
  ·rcases hn b hyk with h1|h1
   ·exact .inl (xDc.2 ⟨v.gr.a,by simp,h1⟩)
   ·exact .inr h1
  ·exact .inl (xDc.2 ⟨_,by simp,hyk⟩)
  ·exact .inl (xDc.2 ⟨_,by simp,hyk⟩)
  ·exact .inl (xDc.2 ⟨_,by simp,hyk⟩)
 have hB:∀b∈X++StV.blks {v with gr:=r},b∈X++v.blks\/w.heap.size<=b:=by
  intro b hm;rcases xP1 hm with hm|hm
  ·exact .inl (xQ1 (.inl hm))
  ·exact(hB0 b hm).imp (λh=>xQ1 (.inr h)) id
 have hT:zi (X++v.blks) w w':=zi.of_grown G λk hk=>xQ1 (.inr (StV.mem_gr hk));have hX:∀k∈X,k<w'.heap.size/\k∉StV.blks {v with gr:=r}:=λk hk=>⟨Nat.lt_of_lt_of_le (h.xs k hk).1 G.size,λhm=>by
  rcases hB0 k hm with h1|h1
  ·exact(h.xs k hk).2 h1
  ·have:=(h.xs k hk).1;omega⟩
 have hI:=h.inn.wide hT hB;exact⟨zo h.pl G (λk hk hq=>zm h.pl h.gr (by decide) _ hk hq),h.npl,zo h.st G (λk hk hq=>zm h.st h.gr (by decide) _ hk hq),h.nst,zo h.se G (λk hk hq=>zm h.se h.gr (by decide) _ hk hq),h.nse,zo h.on G (λk hk hq=>zm h.on h.gr (by decide) _ hk hq),h.non,ho,by rw[hl,xDh];rfl,zo h.ba G (λk hk hq=>zm h.ba h.gr (by decide) _ hk hq),h.nba,zo h.ch G (λk hk hq=>zm h.ch h.gr (by decide) _ hk hq),h.nch,zo h.sa G (λk hk hq=>zm h.sa h.gr (by decide) _ hk hq),h.nsa,h.fl,h.dps,h.dpa,h.dsa,hX,⟨hI.se,hI.on,hI.gr.snoc (hx.wide hT hB),hI.ba,hI.ch⟩⟩
theorem StO.push_ba {X:List Nat} {B:Nat} {w w':World} {v:StV} {L:StL} {s:StD} (h:StO X B w v L s) {r:SlV} (G:w.grownBy w' (ze v.ba.a)) (hn:∀k,ze r.a=some k->ze v.ba.a=some k\/w.heap.size<=k) {x:BarD} {q:SlV} (hx:barR (X++v.blks) w x q) (hl:r.n=s.bars.length+1) (ho:w'.ownsRow B 82 3 r.val r.n ((L.ba++[(x,q)]).flatMap barC)):StO X B w' {v with ba:=r} {L with ba:=L.ba++[(x,q)]} {s with bars:=s.bars++[x]}:=by
 have hB0:∀b∈StV.blks {v with ba:=r},b∈v.blks\/w.heap.size<=b:=by
  intro b hm;unfold StV.blks at hm⊢;obtain⟨y,hy,hyk⟩:=xDc.1 hm;simp only[List.mem_cons,xDm,or_false] at hy;rcases hy with rfl|rfl|rfl|rfl|rfl|rfl|rfl|rfl
  ·exact .inl (xDc.2 ⟨_,by simp,hyk⟩)
  ·exact .inl (xDc.2 ⟨_,by simp,hyk⟩)
  ·exact .inl (xDc.2 ⟨_,by simp,hyk⟩)
  ·exact .inl (xDc.2 ⟨_,by simp,hyk⟩)
  ·exact .inl (xDc.2 ⟨_,by simp,hyk⟩)
  ·rcases hn b hyk with h1|h1
   ·exact .inl (xDc.2 ⟨v.ba.a,by simp,h1⟩)
   ·exact .inr h1
  ·exact .inl (xDc.2 ⟨_,by simp,hyk⟩)
  ·exact .inl (xDc.2 ⟨_,by simp,hyk⟩)
 have hB:∀b∈X++StV.blks {v with ba:=r},b∈X++v.blks\/w.heap.size<=b:=by
  intro b hm;rcases xP1 hm with hm|hm
  ·exact .inl (xQ1 (.inl hm))
  ·exact(hB0 b hm).imp (λh=>xQ1 (.inr h)) id
 have hT:zi (X++v.blks) w w':=zi.of_grown G λk hk=>xQ1 (.inr (StV.mem_ba hk));have hX:∀k∈X,k<w'.heap.size/\k∉StV.blks {v with ba:=r}:=λk hk=>⟨Nat.lt_of_lt_of_le (h.xs k hk).1 G.size,λhm=>by
  rcases hB0 k hm with h1|h1
  ·exact(h.xs k hk).2 h1
  ·have:=(h.xs k hk).1;omega⟩
 have hI:=h.inn.wide hT hB;exact⟨zo h.pl G (λk hk hq=>zm h.pl h.ba (by decide) _ hk hq),h.npl,zo h.st G (λk hk hq=>zm h.st h.ba (by decide) _ hk hq),h.nst,zo h.se G (λk hk hq=>zm h.se h.ba (by decide) _ hk hq),h.nse,zo h.on G (λk hk hq=>zm h.on h.ba (by decide) _ hk hq),h.non,zo h.gr G (λk hk hq=>zm h.gr h.ba (by decide) _ hk hq),h.ngr,ho,by rw[hl,xDh];rfl,zo h.ch G (λk hk hq=>zm h.ch h.ba (by decide) _ hk hq),h.nch,zo h.sa G (λk hk hq=>zm h.sa h.ba (by decide) _ hk hq),h.nsa,h.fl,h.dps,h.dpa,h.dsa,hX,⟨hI.se,hI.on,hI.gr,hI.ba.snoc (hx.wide hT hB),hI.ch⟩⟩
theorem StO.push_ch {X:List Nat} {B:Nat} {w w':World} {v:StV} {L:StL} {s:StD} (h:StO X B w v L s) {r:SlV} (G:w.grownBy w' (ze v.ch.a)) (hn:∀k,ze r.a=some k->ze v.ch.a=some k\/w.heap.size<=k) {x:ChnD} {q:SlV×SlV×SlV} (hx:chnR (X++v.blks) w x q) (hl:r.n=s.chans.length+1) (ho:w'.ownsRow B 87 5 r.val r.n ((L.ch++[(x,q)]).flatMap chnC)):StO X B w' {v with ch:=r} {L with ch:=L.ch++[(x,q)]} {s with chans:=s.chans++[x]}:=by
 have hB0:∀b∈StV.blks {v with ch:=r},b∈v.blks\/w.heap.size<=b:=by
  intro b hm;unfold StV.blks at hm⊢;obtain⟨y,hy,hyk⟩:=xDc.1 hm;simp only[List.mem_cons,xDm,or_false] at hy;rcases hy with rfl|rfl|rfl|rfl|rfl|rfl|rfl|rfl
  ·exact .inl (xDc.2 ⟨_,by simp,hyk⟩)
  ·exact .inl (xDc.2 ⟨_,by simp,hyk⟩)
  ·exact .inl (xDc.2 ⟨_,by simp,hyk⟩)
  ·exact .inl (xDc.2 ⟨_,by simp,hyk⟩)
  ·exact .inl (xDc.2 ⟨_,by simp,hyk⟩)
  ·exact .inl (xDc.2 ⟨_,by simp,hyk⟩)
  ·rcases hn b hyk with h1|h1
   ·exact .inl (xDc.2 ⟨v.ch.a,by simp,h1⟩)
   ·exact .inr h1
  ·exact .inl (xDc.2 ⟨_,by simp,hyk⟩)
 have hB:∀b∈X++StV.blks {v with ch:=r},b∈X++v.blks\/w.heap.size<=b:=by
  intro b hm;rcases xP1 hm with hm|hm
  ·exact .inl (xQ1 (.inl hm))
  ·exact(hB0 b hm).imp (λh=>xQ1 (.inr h)) id
 have hT:zi (X++v.blks) w w':=zi.of_grown G λk hk=>xQ1 (.inr (StV.mem_ch hk));have hX:∀k∈X,k<w'.heap.size/\k∉StV.blks {v with ch:=r}:=λk hk=>⟨Nat.lt_of_lt_of_le (h.xs k hk).1 G.size,λhm=>by
  rcases hB0 k hm with h1|h1
  ·exact(h.xs k hk).2 h1
  ·have:=(h.xs k hk).1;omega⟩
 have hI:=h.inn.wide hT hB;exact⟨zo h.pl G (λk hk hq=>zm h.pl h.ch (by decide) _ hk hq),h.npl,zo h.st G (λk hk hq=>zm h.st h.ch (by decide) _ hk hq),h.nst,zo h.se G (λk hk hq=>zm h.se h.ch (by decide) _ hk hq),h.nse,zo h.on G (λk hk hq=>zm h.on h.ch (by decide) _ hk hq),h.non,zo h.gr G (λk hk hq=>zm h.gr h.ch (by decide) _ hk hq),h.ngr,zo h.ba G (λk hk hq=>zm h.ba h.ch (by decide) _ hk hq),h.nba,ho,by rw[hl,xDh];rfl,zo h.sa G (λk hk hq=>zm h.sa h.ch (by decide) _ hk hq),h.nsa,h.fl,h.dps,h.dpa,h.dsa,hX,⟨hI.se,hI.on,hI.gr,hI.ba,hI.ch.snoc (⟨hx.1.wide hT hB,hx.2.1.wide hT hB,hx.2.2.wide hT hB⟩)⟩⟩
theorem StO.other {X:List Nat} {B:Nat} {w w':World} {v:StV} {L:StL} {s:StD} (h:StO X B w v L s) (T:zi X w w'):StO X B w' v L s:=
 ⟨zj h.pl T (λq hq hm=>(h.xs q hm).2 (StV.mem_pl hq)),h.npl,zj h.st T (λq hq hm=>(h.xs q hm).2 (StV.mem_st hq)),h.nst,zj h.se T (λq hq hm=>(h.xs q hm).2 (StV.mem_se hq)),h.nse,zj h.on T (λq hq hm=>(h.xs q hm).2 (StV.mem_on hq)),h.non,zj h.gr T (λq hq hm=>(h.xs q hm).2 (StV.mem_gr hq)),h.ngr,zj h.ba T (λq hq hm=>(h.xs q hm).2 (StV.mem_ba hq)),h.nba,zj h.ch T (λq hq hm=>(h.xs q hm).2 (StV.mem_ch hq)),h.nch,zj h.sa T (λq hq hm=>(h.xs q hm).2 (StV.mem_sa hq)),h.nsa,h.fl,h.dps,h.dpa,h.dsa,Xs.size h.xs T.size,h.inn.map λ_ _ _ hx=>hx.touch T λ_ hb=>xQ1 (.inl hb)⟩
theorem StO.sub {X X':List Nat} {B:Nat} {w:World} {v:StV} {L:StL} {s:StD} (h:StO X B w v L s) (hs:∀k∈X',k∈X):StO X' B w v L s:=
 ⟨h.pl,h.npl,h.st,h.nst,h.se,h.nse,h.on,h.non,h.gr,h.ngr,h.ba,h.nba,h.ch,h.nch,h.sa,h.nsa,h.fl,h.dps,h.dpa,h.dsa,λk hk=>h.xs k (hs k hk),h.inn.map λ_ _ _ hx=>hx.wide (zi.refl _ _) λb hb=>by
  rcases xP1 hb with hb|hb
  ·exact .inl (xQ1 (.inl (hs b hb)))
  ·exact .inl (xQ1 (.inr hb))⟩
theorem StO.box {X:List Nat} {B:Nat} {w w':World} {v:StV} {L:StL} {s:StD} (h:StO X B w v L s) (hb:xW w w') {k:Nat} (hk:w.heap.size<=k) (hk':k<w'.heap.size):StO (k::X) B w' v L s:=by
 have h':=h.below hb;refine⟨h'.pl,h'.npl,h'.st,h'.nst,h'.se,h'.nse,h'.on,h'.non,h'.gr,h'.ngr,h'.ba,h'.nba,h'.ch,h'.nch,h'.sa,h'.nsa,h'.fl,h'.dps,h'.dpa,h'.dsa,λq hq=> ?_,h.inn.map λ_ _ _ hx=>hx.wide (zi.of_below hb) λb hm=> ?_⟩
 ·rcases List.mem_cons.1 hq with rfl|hq
  ·exact⟨hk',λhm=>by have:=(h.from _ hm).2;omega⟩
  ·exact h'.xs q hq
 ·rcases xP1 hm with hm|hm
  ·rcases List.mem_cons.1 hm with rfl|hm
   ·exact .inr hk
   ·exact .inl (xQ1 (.inl hm))
  ·exact .inl (xQ1 (.inr hm))
theorem zec {α:Type} {f:α->List Value} {sz:Nat} (hf:∀x,(f x).length=sz) (l:List α) (i:Nat) (x:α) (hi:i<l.length):puts (l.flatMap f) (i*sz) (f x)=(l.set i x).flatMap f:=by
 have e2:((l.take i).flatMap f).length=i*sz:=by rw[zc2 hf];simp[Nat.min_eq_left (Nat.le_of_lt hi)]
 have e1:l=l.take i++l[i]::l.drop (i+1):=by rw[<-List.drop_eq_getElem_cons hi,List.take_append_drop]
 have e3:l.set i x=l.take i++x::l.drop (i+1):=by rw[List.set_eq_take_append_cons_drop,if_pos hi]
 rw[e3];have:=zfZ (f x) ((l.take i).flatMap f) (f l[i]) ((l.drop (i+1)).flatMap f) (by rw[hf,hf]);rw[e2] at this
 conv=>lhs;rw[e1]
 simp only[List.flatMap_append,List.flatMap_cons] at this⊢;rw[<-xDg,this,xDg]
def zdH (w:World) (g:Nat):Nat->List Value->World
 |_,[]=>w
 |i,v::vs=>zdH (w.setCell ⟨g,i,none⟩ v) g (i+1) vs
theorem zcq {B:Nat} {e:TypeId} {sz n c g:Nat}:∀(vs:List Value) (i:Nat) {w:World} {cs:List Value},w.ownsRow B e sz (.slice (some ⟨g,0,none⟩) n c) n cs->(zdH w g i vs).ownsRow B e sz (.slice (some ⟨g,0,none⟩) n c) n (puts cs i vs)
 |[],_,_,_,h=>h
 |v::vs,i,_,_,h=>zcq vs (i+1) (zak h i v rfl).1
theorem zb7 {g:Nat}:∀(vs:List Value) (i:Nat) (w:World),zi [g] w (zdH w g i vs)
 |[],_,w=>zi.refl _ w
 |v::vs,i,w=>((zi.refl [g] w).set (by simp)).trans (zb7 vs (i+1) (w.setCell ⟨g,i,none⟩ v))
theorem StO.put_se {X:List Nat} {B g:Nat} {w:World} {v:StV} {L:StL} {s:StD} (h:StO X B w v L s) (hg:v.se.a=some ⟨g,0,none⟩) (i:Nat) (hi:i<s.sems.length) {x:SemD} {q:SlV} (hx:semR (X++v.blks) w x q):
  StO X B (((w.setCell ⟨g,i*3,none⟩ (.int .i64 x.free)).setCell ⟨g,i*3+1,none⟩ (.int .i64 x.limit)).setCell ⟨g,i*3+2,none⟩ (q.val)) v {L with se:=L.se.set i (x,q)} {s with sems:=s.sems.set i x}/\zi [g] w (((w.setCell ⟨g,i*3,none⟩ (.int .i64 x.free)).setCell ⟨g,i*3+1,none⟩ (.int .i64 x.limit)).setCell ⟨g,i*3+2,none⟩ (q.val)):=by
 have e:(((w.setCell ⟨g,i*3,none⟩ (.int .i64 x.free)).setCell ⟨g,i*3+1,none⟩ (.int .i64 x.limit)).setCell ⟨g,i*3+2,none⟩ (q.val))=zdH w g (i*3) (semC (x,q)):=rfl;rw[e];have T:=zb7 (g:=g) (semC (x,q)) (i*3) w;have hm:∀b∈[g],b∈X++v.blks:=λb hb=>by
  obtain rfl:=xS1 hb;exact xQ1 (.inr (StV.mem_se (by rw[hg];rfl)))
 have hlen:v.se.n=s.sems.length:=h.nse;have hll:i<L.se.length:=by rw[h.inn.se.len];exact hi
 have own:=h.se;rw[show v.se.val= .slice (some ⟨g,0,none⟩) v.se.n v.se.c by rw[<-hg]] at own;have own2:=zcq (semC (x,q)) (i*3) own;rw[zec zhS L.se i (x,q) hll] at own2;rw[show(.slice (some ⟨g,0,none⟩) v.se.n v.se.c:Value)=v.se.val by rw[<-hg]] at own2;exact⟨h.set_se (by rw[hg];rfl) T i (SlR.touch hx T hm) own2,T⟩
theorem StO.put_on {X:List Nat} {B g:Nat} {w:World} {v:StV} {L:StL} {s:StD} (h:StO X B w v L s) (hg:v.on.a=some ⟨g,0,none⟩) (i:Nat) (hi:i<s.onces.length) {x:zaj} {q:SlV} (hx:zda (X++v.blks) w x q):
  StO X B ((((w.setCell ⟨g,i*4,none⟩ (.int .i64 x.state)).setCell ⟨g,i*4+1,none⟩ (.int .i64 x.owner)).setCell ⟨g,i*4+2,none⟩ (.int .i64 x.value)).setCell ⟨g,i*4+3,none⟩ (q.val)) v {L with on:=L.on.set i (x,q)} {s with onces:=s.onces.set i x}/\zi [g] w ((((w.setCell ⟨g,i*4,none⟩ (.int .i64 x.state)).setCell ⟨g,i*4+1,none⟩ (.int .i64 x.owner)).setCell ⟨g,i*4+2,none⟩ (.int .i64 x.value)).setCell ⟨g,i*4+3,none⟩ (q.val)):=by
 have e:((((w.setCell ⟨g,i*4,none⟩ (.int .i64 x.state)).setCell ⟨g,i*4+1,none⟩ (.int .i64 x.owner)).setCell ⟨g,i*4+2,none⟩ (.int .i64 x.value)).setCell ⟨g,i*4+3,none⟩ (q.val))=zdH w g (i*4) (zbo (x,q)):=rfl;rw[e];have T:=zb7 (g:=g) (zbo (x,q)) (i*4) w;have hm:∀b∈[g],b∈X++v.blks:=λb hb=>by
  obtain rfl:=xS1 hb;exact xQ1 (.inr (StV.mem_on (by rw[hg];rfl)))
 have hlen:v.on.n=s.onces.length:=h.non;have hll:i<L.on.length:=by rw[h.inn.on.len];exact hi
 have own:=h.on;rw[show v.on.val= .slice (some ⟨g,0,none⟩) v.on.n v.on.c by rw[<-hg]] at own;have own2:=zcq (zbo (x,q)) (i*4) own;rw[zec zhn L.on i (x,q) hll] at own2;rw[show(.slice (some ⟨g,0,none⟩) v.on.n v.on.c:Value)=v.on.val by rw[<-hg]] at own2;exact⟨h.set_on (by rw[hg];rfl) T i (SlR.touch hx T hm) own2,T⟩
theorem StO.put_gr {X:List Nat} {B g:Nat} {w:World} {v:StV} {L:StL} {s:StD} (h:StO X B w v L s) (hg:v.gr.a=some ⟨g,0,none⟩) (i:Nat) (hi:i<s.groups.length) {x:GrpD} {q:SlV} (hx:grpR (X++v.blks) w x q):
  StO X B ((w.setCell ⟨g,i*2,none⟩ (.int .i64 x.count)).setCell ⟨g,i*2+1,none⟩ (q.val)) v {L with gr:=L.gr.set i (x,q)} {s with groups:=s.groups.set i x}/\zi [g] w ((w.setCell ⟨g,i*2,none⟩ (.int .i64 x.count)).setCell ⟨g,i*2+1,none⟩ (q.val)):=by
 have e:((w.setCell ⟨g,i*2,none⟩ (.int .i64 x.count)).setCell ⟨g,i*2+1,none⟩ (q.val))=zdH w g (i*2) (grpC (x,q)):=rfl;rw[e];have T:=zb7 (g:=g) (grpC (x,q)) (i*2) w;have hm:∀b∈[g],b∈X++v.blks:=λb hb=>by
  obtain rfl:=xS1 hb;exact xQ1 (.inr (StV.mem_gr (by rw[hg];rfl)))
 have hlen:v.gr.n=s.groups.length:=h.ngr;have hll:i<L.gr.length:=by rw[h.inn.gr.len];exact hi
 have own:=h.gr;rw[show v.gr.val= .slice (some ⟨g,0,none⟩) v.gr.n v.gr.c by rw[<-hg]] at own;have own2:=zcq (grpC (x,q)) (i*2) own;rw[zec ziA L.gr i (x,q) hll] at own2;rw[show(.slice (some ⟨g,0,none⟩) v.gr.n v.gr.c:Value)=v.gr.val by rw[<-hg]] at own2;exact⟨h.set_gr (by rw[hg];rfl) T i (SlR.touch hx T hm) own2,T⟩
theorem StO.put_ba {X:List Nat} {B g:Nat} {w:World} {v:StV} {L:StL} {s:StD} (h:StO X B w v L s) (hg:v.ba.a=some ⟨g,0,none⟩) (i:Nat) (hi:i<s.bars.length) {x:BarD} {q:SlV} (hx:barR (X++v.blks) w x q):
  StO X B (((w.setCell ⟨g,i*3,none⟩ (.int .i64 x.parties)).setCell ⟨g,i*3+1,none⟩ (.int .i64 x.round)).setCell ⟨g,i*3+2,none⟩ (q.val)) v {L with ba:=L.ba.set i (x,q)} {s with bars:=s.bars.set i x}/\zi [g] w (((w.setCell ⟨g,i*3,none⟩ (.int .i64 x.parties)).setCell ⟨g,i*3+1,none⟩ (.int .i64 x.round)).setCell ⟨g,i*3+2,none⟩ (q.val)):=by
 have e:(((w.setCell ⟨g,i*3,none⟩ (.int .i64 x.parties)).setCell ⟨g,i*3+1,none⟩ (.int .i64 x.round)).setCell ⟨g,i*3+2,none⟩ (q.val))=zdH w g (i*3) (barC (x,q)):=rfl;rw[e];have T:=zb7 (g:=g) (barC (x,q)) (i*3) w;have hm:∀b∈[g],b∈X++v.blks:=λb hb=>by
  obtain rfl:=xS1 hb;exact xQ1 (.inr (StV.mem_ba (by rw[hg];rfl)))
 have hlen:v.ba.n=s.bars.length:=h.nba;have hll:i<L.ba.length:=by rw[h.inn.ba.len];exact hi
 have own:=h.ba;rw[show v.ba.val= .slice (some ⟨g,0,none⟩) v.ba.n v.ba.c by rw[<-hg]] at own;have own2:=zcq (barC (x,q)) (i*3) own;rw[zec zh2 L.ba i (x,q) hll] at own2;rw[show(.slice (some ⟨g,0,none⟩) v.ba.n v.ba.c:Value)=v.ba.val by rw[<-hg]] at own2;exact⟨h.set_ba (by rw[hg];rfl) T i (SlR.touch hx T hm) own2,T⟩
theorem StO.put_ch {X:List Nat} {B g:Nat} {w:World} {v:StV} {L:StL} {s:StD} (h:StO X B w v L s) (hg:v.ch.a=some ⟨g,0,none⟩) (i:Nat) (hi:i<s.chans.length) {x:ChnD} {q:SlV×SlV×SlV} (hx:chnR (X++v.blks) w x q):
  StO X B (((((w.setCell ⟨g,i*5,none⟩ (.int .i64 x.room)).setCell ⟨g,i*5+1,none⟩ (q.1.val)).setCell ⟨g,i*5+2,none⟩ (q.2.1.val)).setCell ⟨g,i*5+3,none⟩ (q.2.2.val)).setCell ⟨g,i*5+4,none⟩ (.bool x.closed)) v {L with ch:=L.ch.set i (x,q)} {s with chans:=s.chans.set i x}/\zi [g] w (((((w.setCell ⟨g,i*5,none⟩ (.int .i64 x.room)).setCell ⟨g,i*5+1,none⟩ (q.1.val)).setCell ⟨g,i*5+2,none⟩ (q.2.1.val)).setCell ⟨g,i*5+3,none⟩ (q.2.2.val)).setCell ⟨g,i*5+4,none⟩ (.bool x.closed)):=by
 have e:(((((w.setCell ⟨g,i*5,none⟩ (.int .i64 x.room)).setCell ⟨g,i*5+1,none⟩ (q.1.val)).setCell ⟨g,i*5+2,none⟩ (q.2.1.val)).setCell ⟨g,i*5+3,none⟩ (q.2.2.val)).setCell ⟨g,i*5+4,none⟩ (.bool x.closed))=zdH w g (i*5) (chnC (x,q)):=rfl;rw[e];have T:=zb7 (g:=g) (chnC (x,q)) (i*5) w;have hm:∀b∈[g],b∈X++v.blks:=λb hb=>by
  obtain rfl:=xS1 hb;exact xQ1 (.inr (StV.mem_ch (by rw[hg];rfl)))
 have hlen:v.ch.n=s.chans.length:=h.nch;have hll:i<L.ch.length:=by rw[h.inn.ch.len];exact hi
 have own:=h.ch;rw[show v.ch.val= .slice (some ⟨g,0,none⟩) v.ch.n v.ch.c by rw[<-hg]] at own;have own2:=zcq (chnC (x,q)) (i*5) own;rw[zec zic L.ch i (x,q) hll] at own2;rw[show(.slice (some ⟨g,0,none⟩) v.ch.n v.ch.c:Value)=v.ch.val by rw[<-hg]] at own2;exact⟨h.set_ch (by rw[hg];rfl) T i (⟨hx.1.touch T hm,hx.2.1.touch T hm,hx.2.2.touch T hm⟩) own2,T⟩
theorem StO.stat {X:List Nat} {B g:Nat} {w:World} {v:StV} {L:StL} {s:StD} (h:StO X B w v L s) (hg:v.st.a=some ⟨g,0,none⟩) (t y:Int):StO X B (w.setCell ⟨g,t.toNat,none⟩ (.int .i64 y)) v L (zX s t y)/\zi [g] w (w.setCell ⟨g,t.toNat,none⟩ (.int .i64 y)):=by
 have T:zi [g] w (w.setCell ⟨g,t.toNat,none⟩ (.int .i64 y)):=(zi.refl [g] w).set (by simp);have own:=h.st;rw[show v.st.val= .slice (some ⟨g,0,none⟩) v.st.n v.st.c by rw[<-hg]] at own;have R:=(zak own t.toNat (.int .i64 y) (cs':=ints (s.status.set t.toNat y)) (by simp[ints,List.map_set])).1;rw[show(.slice (some ⟨g,0,none⟩) v.st.n v.st.c:Value)=v.st.val by rw[<-hg]] at R;exact⟨h.set_st (by rw[hg];rfl) T (by rw[List.length_set];exact h.nst) R,T⟩
theorem StO.boxAll {X A:List Nat} {B:Nat} {w w':World} {v:StV} {L:StL} {s:StD} (h:StO X B w v L s) (hb:xW w w') (hA:∀k∈A,w.heap.size<=k/\k<w'.heap.size):StO (A++X) B w' v L s:=by
 have h':=h.below hb;refine⟨h'.pl,h'.npl,h'.st,h'.nst,h'.se,h'.nse,h'.on,h'.non,h'.gr,h'.ngr,h'.ba,h'.nba,h'.ch,h'.nch,h'.sa,h'.nsa,h'.fl,h'.dps,h'.dpa,h'.dsa,λq hq=> ?_,h.inn.map λ_ _ _ hx=>hx.wide (zi.of_below hb) λb hm=> ?_⟩
 ·rcases xP1 hq with hq|hq
  ·exact⟨(hA q hq).2,λhm=>by have:=(h.from _ hm).2;have:=(hA q hq).1;omega⟩
  ·exact h'.xs q hq
 ·rcases xP1 hm with hm|hm
  ·rcases xP1 hm with hm|hm
   ·exact .inr (hA b hm).1
   ·exact .inl (xQ1 (.inl hm))
  ·exact .inl (xQ1 (.inr hm))
theorem zdN {P:Program} {w:World} (t ty:TypeId) {B:Nat} {e:TypeId} {z:Value} {size bytes:Nat} (ht:P.underlying t=some (.slice e)) (hinfo:(P.info? e).map (λi=>(i.zero,i.size,i.bytes))=some (some z,size,bytes))
  (hzs:z.cells.size=size) (hsz:0<size) {a:Option Addr} {n c:Nat} {xs:List Value} (hown:w.ownsRow B e size (.slice a n c) n xs)
  {a2:Option Addr} {m c2:Nat} {news:List Value} (hl:news.length=m*size) (hsrc:Rd w a2 news) (h1:∀u∈news,u.oneCell'=true) (hbytes:(n+m)*bytes<=140737488355328) (hby:0<bytes) (hbase:B<=w.heap.size):
  ∃a' c' w',(Builtin.append_ #[t,t] ty #[.slice a n c,.slice a2 m c2]).run P w= .ok (.slice a' (n+m) c') w'/\w'.ownsRow B e size (.slice a' (n+m) c') (n+m) (xs++news)/\w.grownBy w' (ze a)/\(∀k,ze a'=some k->ze a=some k\/w.heap.size<=k):=by
 obtain⟨i,hi,hz0,hz1,hz2⟩:=info_parts hinfo;have h63:n+m<=maxLen:=by
  have:=Nat.le_trans (Nat.le_mul_of_pos_right (n+m) hby) hbytes;simp only[maxLen];omega
 cases a2 with
 |none=>
  have hn0:news=[]:=by
   rcases hsrc with h|⟨b,o,e',_⟩
   ·exact h
   ·cases e'
  subst hn0;have hm:m=0:=by
   simp only[List.length_nil] at hl;rcases Nat.mul_eq_zero.1 hl.symm with h|h
   ·exact h
   ·omega
  subst hm;refine⟨a,c,w,za4 (P:=P) (w:=w) B t ty e i size ht hi _ n xs hown c2,by simpa using hown,World.grownBy.refl _ _,λk hk=> .inl hk⟩
 |some ad=>
  have hnews:∀j u,news[j]? =some u->w.cell? (ad.add j)=some u:=by
   intro j u hj;have hjl:j<news.length:=(xDs.1 hj).1;obtain⟨b,o',e',hc⟩:=hsrc.at (by omega)
   cases e'
   rw[Addr.add_lit,hc j hjl];rw[xDa,hj];rfl
  have grew:∀v' w',(Builtin.append_ #[t,t] ty #[.slice a n c,.slice (some ad) m c2]).run P w= .ok v' w'->w'.ownsRow w.heap.size e size v' (n+m) (xs++news)->w.grownBy w' none->∃a' c' w',(Builtin.append_ #[t,t] ty #[.slice a n c,.slice (some ad) m c2]).run P w= .ok (.slice a' (n+m) c') w'/\w'.ownsRow B e size (.slice a' (n+m) c') (n+m) (xs++news)/\w.grownBy w' (ze a)/\(∀k,ze a'=some k->ze a=some k\/w.heap.size<=k):=by
   intro v' w' hrun r1 r2;obtain⟨a',c',rfl⟩:=zdr r1;exact⟨a',c',w',hrun,zl r1 hbase,⟨r2.os,r2.tape,r2.output,r2.size,λk hk _=>r2.block k hk (by simp)⟩,λk hk=> .inr (zp r1 k hk).1⟩
  rcases hown.2 with ⟨h',h0⟩|⟨g,cap,cur,h',hb,hg,hnc,hcm,hcs,htake⟩
  ·simp only[Value.slice.injEq] at h';obtain⟨rfl,rfl,rfl⟩:=h';obtain⟨v',w',hrun,r1,r2,_⟩:=run_append_own (P:=P) w w.heap.size t ty e i z size bytes ht hi hz0 hz1 hz2 hzs hsz (.slice none 0 0) 0 xs (by have:=hown.1;simp only[Nat.zero_mul] at this;rw[List.eq_nil_of_length_eq_zero this];exact xDi w _ e size) ad m c2 news hl hnews h1 h63 hbytes xL1;exact grew v' w' hrun r1 r2
  ·simp only[Value.slice.injEq,true_and] at h';obtain⟨rfl,rfl⟩:=h';by_cases hroom:n+m<=c
   ·obtain⟨curL,hfull,htk,-,-,hcl⟩:=zeq hown;have hmul:n*size+news.length<=c*size:=by
     rw[hl,<-Nat.add_mul];exact Nat.mul_le_mul_right size hroom
    have hrun:=run_append_room_cells (P:=P) (w:=w) t ty e i ht hi g 0 n c ad m c2 news (by rw[hz1];exact hl) hnews h1 hroom
     (λj hj=>by rw[hz1,Nat.zero_add,hfull.cellAt _ (by omega),xDb (by omega)];rfl) (λj _=>hfull.frozenAt _)
    rw[hz1,Nat.zero_add] at hrun;have R:=zco news (n*size) w curL hfull (by omega);have R2:=zf4 R.1 hroom;have e5:(over (n*size) news curL).take ((n+m)*size)=xs++news:=by
     unfold over;have hx:xs.length=n*size:=hown.1;rw[htk,Nat.add_mul,<-hl,<-hx,<-xDh,List.take_left' rfl]
    rw[e5] at R2;exact⟨_,_,_,hrun,R2,R.2,λk hk=> .inl hk⟩
   ·obtain⟨v',w',hrun,r1,r2⟩:=run_append_arg_grows (P:=P) w t ty e i z size bytes ht hi hz0 hz1 hz2 hzs hsz ⟨g,0,none⟩ n c xs hown.1 (λj u hj=>by
     have hjl:j<xs.length:=(xDs.1 hj).1;rw[Addr.add_lit,Nat.zero_add,hown.cellAt j (by have:=hown.1;omega)];exact hj) ad m c2 news hl hnews (by omega) h63 hbytes
    exact grew v' w' hrun r1 r2
theorem zad {P:Program} {wr:World} {ops:Array Oper} {rest:List Oper} {o:Oper} {ac:Act} {Q:Exit->Act->World->Prop} (hgd:o.guard=none) (s x:Operand) (t:TypeId)
  (ho:o.op= .call {callee:= .builtin .append,args:= #[s,x],argTypes:= #[t,t]})
  {B:Nat} {e:TypeId} {z:Value} {size bytes:Nat} (ht:P.underlying t=some (.slice e)) (hinfo:(P.info? e).map (λi=>(i.zero,i.size,i.bytes))=some (some z,size,bytes))
  (hzs:z.cells.size=size) (hsz:0<size)
  {a:Option Addr} {n c:Nat} {xs:List Value} (hs:ac.eval s= .slice a n c) (hown:wr.ownsRow B e size (.slice a n c) n xs)
  {a2:Option Addr} {m c2:Nat} {news:List Value} (hx:ac.eval x= .slice a2 m c2) (hl:news.length=m*size) (hsrc:Rd wr a2 news) (h1:∀u∈news,u.oneCell'=true)
  (hbytes:(n+m)*bytes<=140737488355328) (hby:0<bytes) (hbase:B<=wr.heap.size)
  (h:∀a' c' w',w'.ownsRow B e size (.slice a' (n+m) c') (n+m) (xs++news)->wr.grownBy w' (ze a)->(∀k,ze a'=some k->ze a=some k\/wr.heap.size<=k)->wpList P ops Q rest (ac.put o.dst (.slice a' (n+m) c')) w'):wpList P ops Q (o::rest) ac wr:=by
 obtain⟨a',c',w',hrun,k1,k2,k3⟩:=zdN (P:=P) (c2:=c2) t o.type ht hinfo hzs hsz hown hl hsrc h1 hbytes hby hbase;refine wpList_plain hgd λK hK'=> ?_;unfold Oper.wp;simp[execOp,ho,resolve,invoke,builtin,hs,hx,hrun,Result.andThen];exact hK' _ _ (h a' c' w' k1 k2 k3)
theorem zgQ {w:World} {b o k:Nat} {h t:List Value} (hr:Rd w (some ⟨b,o,none⟩) (h++t)) (hk:h.length=k):Rd w (some ⟨b,o+k,none⟩) t:=by
 rcases hr with h0|⟨b',o',e,hc⟩
 ·simp only[List.append_eq_nil_iff] at h0;exact .inl h0.2
 ·simp only[xDn,Addr.mk.injEq,and_true] at e;obtain⟨rfl,rfl⟩:=e;refine .inr ⟨b,o+k,rfl,λj hj=> ?_⟩;have:=hc (k+j) (by rw[xDh,hk];omega);rw[Nat.add_assoc,this,xDa,xDa,List.getElem?_append_right (by omega),show k+j-h.length=j by omega]
theorem Rd.far {w:World} {a:Option Addr} {cs:List Value} (h:Rd w a cs) (hne:cs≠[]):∀b,ze a=some b->b<w.heap.size:=by
 intro b hb;rcases h with h0|⟨b',o,rfl,hc⟩
 ·exact absurd h0 hne
 ·obtain rfl:b'=b:=by simpa[ze] using hb
  have:=hc 0 (List.length_pos_iff.2 hne);unfold World.cell? at this;rcases Nat.lt_or_ge b' w.heap.size with hl|hl
  ·exact hl
  ·rw[Array.getElem?_eq_none hl] at this;simp at this
theorem zdm {B:Nat} {w w':World} {q:Addr} {x:Value} (hb:Below B w w') (hlt:q.block<B) (g:w.cell? q=some x):w'.cell? q=some x:=by
 have h:=hb.block q.block hlt;unfold World.cell? at g⊢;rw[h];exact g
theorem zfr {w0:World} {a:Option Addr} {n c:Nat} {x:Value} {xs:List Value} (h0:Rd w0 a (x::xs)) (hl:xs.length+1=n) (hc:n<=c):
  ∃A:Option Addr,(∀W:World,(Instr.slice 22 (.slice a n c) (some (.int .i64 1)) none none).run Tryz.prog W= .ok (.slice A (n-1) (c-1)) W)/\(∀W:World,Rd W a (x::xs)->Rd W A xs)/\ze A=ze a:=by
 rcases h0 with h0|⟨b,o,rfl,h0⟩
 ·cases h0
 refine⟨some (if c=1 then (⟨b,o,none⟩:Addr) else ⟨b,o+1,none⟩),λW=> ?_,λW h=> ?_,?_⟩
 ·have u1:(1:Int)<=(n:Int):=by omega
  have u2:(n:Int)<=(c:Int):=by omega
  have u3:(1:Int)<=(c:Int):=by omega
  go_simp;split<;>rfl
 ·by_cases h1:c=1
  ·have:xs=[]:=List.eq_nil_of_length_eq_zero (by omega);exact .inl this
  ·rw[if_neg h1];exact zgQ (h:=[x]) h rfl
 ·by_cases h1:c=1
  ·rw[if_pos h1]
  ·rw[if_neg h1];rfl
theorem zkr {w0:World} {a:Option Addr} {n c:Nat} {x y:Value} {xs:List Value} (h0:Rd w0 a (x::y::xs)) (hl:xs.length+2=n*2) (hc:n<=c):
  ∃A:Option Addr,(∀W:World,(Instr.slice 85 (.slice a n c) (some (.int .i64 1)) none none).run Tryz.prog W= .ok (.slice A (n-1) (c-1)) W)/\(∀W:World,Rd W a (x::y::xs)->Rd W A xs)/\ze A=ze a:=by
 rcases h0 with h0|⟨b,o,rfl,h0⟩
 ·cases h0
 refine⟨some (if c=1 then (⟨b,o,none⟩:Addr) else ⟨b,o+2,none⟩),λW=> ?_,λW h=> ?_,?_⟩
 ·have u1:(1:Int)<=(n:Int):=by omega
  have u2:(n:Int)<=(c:Int):=by omega
  have u3:(1:Int)<=(c:Int):=by omega
  go_simp;split<;>rfl
 ·by_cases h1:c=1
  ·have:xs=[]:=List.eq_nil_of_length_eq_zero (by omega);exact .inl this
  ·rw[if_neg h1];exact zgQ (h:=[x,y]) h rfl
 ·by_cases h1:c=1
  ·rw[if_pos h1]
  ·rw[if_neg h1];rfl
end Go.Proofs.YtnlijgjpgdjpiaaGreat
