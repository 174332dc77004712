/- Part of a proof: Mach MachR MState MPut AppHn MachP MachK MTail. -/
import Derived.Test.YtfclolgfegdfjaaGreatVBaseD
set_option maxRecDepth 100000
set_option maxHeartbeats 16000000
namespace Go.Proofs.YtfclolgfegdfjaaGreat
structure xS where
 free:Int
 limit:Int
 queue:List (Int×Int)
structure xJ where
 state:Int
 owner:Int
 value:Int
 waits:List Int
structure ji where
 count:Int
 waits:List Int
structure j6 where
 parties:Int
 round:Int
 waits:List Int
structure xi where
 room:Int
 items:List Int
 senders:List (Int×Int)
 getters:List Int
 closed:Bool
structure zp where
 places:List Int
 status:List Int
 sems:List xS
 onces:List xJ
 groups:List ji
 bars:List j6
 chans:List xi
 said:List Int
 fault:Int
def yi:xS:=⟨0,0,[]⟩
def zH:xJ:=⟨0,0,0,[]⟩
def yH:ji:=⟨0,[]⟩
def ye:j6:=⟨0,0,[]⟩
def yq:xi:=⟨0,[],[],[],false⟩
def Zc (l:List Int):Prop:=l.length<=6/\(∀t∈l,0<=t/\t<6)/\l.Nodup
def Xb (s:xS):Prop:=(1<=s.limit/\s.limit<=9)/\(0<=s.free/\s.free<=s.limit)/\(∀w∈s.queue,1<=w.2/\w.2<=s.limit)/\Zc (s.queue.map (·.1))/\(∀w q,s.queue=w::q->s.free<w.2)
def uF (o:xJ):Prop:=
 (o.state=0/\o.owner=0/\o.value=0/\o.waits=[])\/(o.state=1/\(0<=o.owner/\o.owner<6)/\o.value=0/\Zc o.waits/\o.owner∉o.waits)\/(o.state=2/\(0<=o.owner/\o.owner<6)/\(0<=o.value/\o.value<=99)/\o.waits=[])
def YY (g:ji):Prop:=(0<=g.count/\g.count<=99)/\Zc g.waits/\(g.count=0->g.waits=[])
def Jo (b:j6):Prop:=(1<=b.parties/\b.parties<=6)/\(0<=b.round/\b.round<=9999)/\Zc b.waits/\(b.waits.length:Int)<b.parties
def ZB (c:xi):Prop:=(0<=c.room/\c.room<=4)/\(c.items.length:Int)<=c.room/\(∀v∈c.items,0<=v/\v<=99)/\(∀l∈c.senders,0<=l.2/\l.2<=99)/\Zc (c.senders.map (·.1)++c.getters)/\
 (c.senders≠[]->(c.items.length:Int)=c.room/\c.getters=[]/\c.closed=false)/\(c.getters≠[]->c.items=[]/\c.closed=false)
def jB (s:xS) (t c:Int):xS×Bool:=if s.queue=[]/\c<=s.free then (⟨s.free-c,s.limit,s.queue⟩,true) else (⟨s.free,s.limit,s.queue++[(t,c)]⟩,false)
def yC (f:Int):List (Int×Int)->Int×List Int×List (Int×Int)
 |[]=>(f,[],[])
 |w::q=>if w.2<=f then ((yC (f-w.2) q).1,w.1::(yC (f-w.2) q).2.1,(yC (f-w.2) q).2.2) else (f,[],w::q)
def qP (s:xS) (c:Int):Option (xS×List Int):=if c<=s.limit-s.free then some (⟨(yC (s.free+c) s.queue).1,s.limit,(yC (s.free+c) s.queue).2.2⟩,(yC (s.free+c) s.queue).2.1) else none
def qU (o:xJ) (t:Int):xJ:=if o.state=0 then ⟨1,t,0,[]⟩ else if o.state=1 then ⟨1,o.owner,0,o.waits++[t]⟩ else o
def Yl (t v:Int):xJ:=⟨2,t,v,[]⟩
def j9 (g:ji) (n:Int):Option (ji×List Int):=if 0<=g.count+n/\g.count+n<=99 then (if g.count+n=0 then some (⟨0,[]⟩,g.waits) else some (⟨g.count+n,g.waits⟩,[])) else none
def jc (g:ji) (t:Int):ji×Bool:=if g.count=0 then (g,true) else (⟨g.count,g.waits++[t]⟩,false)
def jb (b:j6) (t:Int):j6×List Int:=if (b.waits.length:Int)+1<b.parties then (⟨b.parties,b.round,b.waits++[t]⟩,[]) else (⟨b.parties,b.round+1,[]⟩,b.waits++[t])
def jI (c:xi) (t v:Int):Option (xi×List Int×Bool):=
 if c.closed=true then none else match c.getters with
 |g::gs=>some (⟨c.room,c.items,c.senders,gs,c.closed⟩,[g],true)
 |[]=>if (c.items.length:Int)<c.room then some (⟨c.room,c.items++[v],c.senders,c.getters,c.closed⟩,[],true) else some (⟨c.room,c.items,c.senders++[(t,v)],c.getters,c.closed⟩,[],false)
def xR (c:xi) (t:Int):xi×Int×Int×List Int:=
 match c.senders with
 |l::ls=>(match c.items with
  |x::xs=>(⟨c.room,xs++[l.2],ls,c.getters,c.closed⟩,x,1,[l.1])
  |[]=>(⟨c.room,[],ls,c.getters,c.closed⟩,l.2,1,[l.1]))
 |[]=>(match c.items with
  |x::xs=>(⟨c.room,xs,[],c.getters,c.closed⟩,x,1,[])
  |[]=>if c.closed=true then (c,0,2,[]) else (⟨c.room,[],[],c.getters++[t],c.closed⟩,0,0,[]))
def qd (c:xi):Option (xi×List Int):=if c.closed=true\/c.senders≠[] then none else some (⟨c.room,c.items,c.senders,[],true⟩,c.getters)
def vJ (p:Pg) (t:Int):List xA:=p.threads.getD t.toNat []
def rest (p:Pg) (t at_:Int):Int:=if at_=(vJ p t).length then 3 else 0
def jR (p:Pg) (s:zp) (t:Int):zp:={s with places:=s.places.set t.toNat (s.places.getD t.toNat 0+1),status:=s.status.set t.toNat (rest p t (s.places.getD t.toNat 0+1))}
def goAll (p:Pg) (s:zp) (l:List Int):zp:=l.foldl (jR p) s
def yw (s:zp) (t v:Int):zp:={s with status:=s.status.set t.toNat v}
def sayIt (s:zp) (v:Int):zp:={s with said:=s.said++[v]}
def jt (s:zp) (f:Int):zp:={s with fault:=f}
def ya (p:Pg) (s:zp) (t:Int):xA:=(vJ p t).getD (s.places.getD t.toNat 0).toNat qf
def setSem (s:zp) (i:Int) (x:xS):zp:={s with sems:=s.sems.set i.toNat x}
def setOnce (s:zp) (i:Int) (x:xJ):zp:={s with onces:=s.onces.set i.toNat x}
def setGrp (s:zp) (i:Int) (x:ji):zp:={s with groups:=s.groups.set i.toNat x}
def setBar (s:zp) (i:Int) (x:j6):zp:={s with bars:=s.bars.set i.toNat x}
def setChn (s:zp) (i:Int) (x:xi):zp:={s with chans:=s.chans.set i.toNat x}
def jh (p:Pg) (s:zp) (t:Int) (b:Bool):zp:=if b=true then jR p s t else yw s t 1
def doSem (p:Pg) (s:zp) (t:Int) (o:xA):zp:=jh p (setSem s o.on (jB (s.sems.getD o.on.toNat yi) t o.arg).1) t (jB (s.sems.getD o.on.toNat yi) t o.arg).2
def doRel (p:Pg) (s:zp) (t:Int) (o:xA):zp:=match qP (s.sems.getD o.on.toNat yi) o.arg with
 |none=>jt s 1
 |some (x,l)=>goAll p (setSem s o.on x) (l++[t])
def doOnce (p:Pg) (s:zp) (t:Int) (o:xA):zp:=
 if s.status.getD t.toNat 0=2 then goAll p (setOnce s o.on (Yl t o.arg)) ((s.onces.getD o.on.toNat zH).waits++[t])
 else if (s.onces.getD o.on.toNat zH).state=0 then yw (setOnce s o.on (qU (s.onces.getD o.on.toNat zH) t)) t 2
 else if (s.onces.getD o.on.toNat zH).state=1 then yw (setOnce s o.on (qU (s.onces.getD o.on.toNat zH) t)) t 1
 else jR p s t
def doAdd (p:Pg) (s:zp) (t:Int) (o:xA):zp:=match j9 (s.groups.getD o.on.toNat yH) o.arg with
 |none=>jt s 2
 |some (x,l)=>goAll p (setGrp s o.on x) (l++[t])
def doWait (p:Pg) (s:zp) (t:Int) (o:xA):zp:=jh p (setGrp s o.on (jc (s.groups.getD o.on.toNat yH) t).1) t (jc (s.groups.getD o.on.toNat yH) t).2
def doCome (p:Pg) (s:zp) (t:Int) (o:xA):zp:=
 if (jb (s.bars.getD o.on.toNat ye) t).2=[] then yw (setBar s o.on (jb (s.bars.getD o.on.toNat ye) t).1) t 1
 else goAll p (setBar s o.on (jb (s.bars.getD o.on.toNat ye) t).1) (jb (s.bars.getD o.on.toNat ye) t).2
def doSend (p:Pg) (s:zp) (t:Int) (o:xA):zp:=match jI (s.chans.getD o.on.toNat yq) t o.arg with
 |none=>jt s 3
 |some (x,l,b)=>jh p (goAll p (if l=[] then setChn s o.on x else sayIt (setChn s o.on x) o.arg) l) t b
def doGet (p:Pg) (s:zp) (t:Int) (o:xA):zp:=
 if (xR (s.chans.getD o.on.toNat yq) t).2.2.1=0 then yw (setChn s o.on (xR (s.chans.getD o.on.toNat yq) t).1) t 1
 else goAll p (if (xR (s.chans.getD o.on.toNat yq) t).2.2.1=1 then sayIt (setChn s o.on (xR (s.chans.getD o.on.toNat yq) t).1) (xR (s.chans.getD o.on.toNat yq) t).2.1 else setChn s o.on (xR (s.chans.getD o.on.toNat yq) t).1) ((xR (s.chans.getD o.on.toNat yq) t).2.2.2++[t])
def doClose (p:Pg) (s:zp) (t:Int) (o:xA):zp:=match qd (s.chans.getD o.on.toNat yq) with
 |none=>jt s 4
 |some (x,l)=>goAll p (setChn s o.on x) (l++[t])
def zJ (p:Pg) (s:zp) (t:Int):zp:=
 if (ya p s t).kind=1 then jR p (sayIt s (ya p s t).arg) t
 else if (ya p s t).kind=2 then doSem p s t (ya p s t)
 else if (ya p s t).kind=3 then doRel p s t (ya p s t)
 else if (ya p s t).kind=4 then doOnce p s t (ya p s t)
 else if (ya p s t).kind=5 then doAdd p s t (ya p s t)
 else if (ya p s t).kind=6 then doWait p s t (ya p s t)
 else if (ya p s t).kind=7 then doCome p s t (ya p s t)
 else if (ya p s t).kind=8 then doSend p s t (ya p s t)
 else if (ya p s t).kind=9 then doGet p s t (ya p s t)
 else doClose p s t (ya p s t)
abbrev xq:=Int×Int×Int×Int
def yL (x:xS) (i:Nat):List xq:=x.queue.map λw=>(w.1,2,(i:Int),w.2)
def yx (x:xJ) (i:Nat):List xq:=x.waits.map λt=>(t,4,(i:Int),0)
def xj (x:ji) (i:Nat):List xq:=x.waits.map λt=>(t,6,(i:Int),0)
def xz (x:j6) (i:Nat):List xq:=x.waits.map λt=>(t,7,(i:Int),0)
def yT (x:xi) (i:Nat):List xq:=(x.senders.map λw=>(w.1,8,(i:Int),w.2))++x.getters.map λt=>(t,9,(i:Int),0)
def zt {α:Type} (f:Nat->List α):Nat->List α
 |0=>[]
 |n+1=>zt f n++f n
def yD (s:zp):List xq:=zt (λi=>yL (s.sems.getD i yi) i) s.sems.length++(zt (λi=>yx (s.onces.getD i zH) i) s.onces.length++(zt (λi=>xj (s.groups.getD i yH) i) s.groups.length++(zt (λi=>xz (s.bars.getD i ye) i) s.bars.length++zt (λi=>yT (s.chans.getD i yq) i) s.chans.length)))
def xP (x:xJ) (i:Nat):List (Int×Int):=if x.state=1 then [(x.owner,(i:Int))] else []
def jg (s:zp):List (Int×Int):=zt (λi=>xP (s.onces.getD i zH) i) s.onces.length
def eT (s:zp):List Int:=(yD s).map (·.1)
def oT (s:zp):List Int:=(jg s).map (·.1)
def Z3 (o:xA) (t:Int):xq:=(t,o.kind,o.on,if o.kind=2\/o.kind=8 then o.arg else 0)
def JF (p:Pg) (s:zp) (t:Int):Prop:=
 0<=s.places.getD t.toNat 0/\s.places.getD t.toNat 0<=(vJ p t).length/\
 ((s.places.getD t.toNat 0=(vJ p t).length/\s.status.getD t.toNat 0=3/\t∉eT s/\t∉oT s)\/
 (s.places.getD t.toNat 0<(vJ p t).length/\
  ((s.status.getD t.toNat 0=0/\t∉eT s/\t∉oT s)\/(s.status.getD t.toNat 0=1/\Z3 (ya p s t) t∈yD s/\t∉oT s)\/(s.status.getD t.toNat 0=2/\t∉eT s/\(ya p s t).kind=4/\(t,(ya p s t).on)∈jg s))))
structure yp (p:Pg) (s:zp):Prop where
 prog:zD p=true
 np:s.places.length=p.threads.length
 nst:s.status.length=p.threads.length
 nse:s.sems.length=p.sems.length
 non:s.onces.length=3
 ngr:s.groups.length=p.groups.length
 nba:s.bars.length=p.barriers.length
 nch:s.chans.length=p.rooms.length
 nsa:s.said.length<=64
 flt:0<=s.fault/\s.fault<=4
 se:∀i,i<s.sems.length->Xb (s.sems.getD i yi)/\(s.sems.getD i yi).limit=p.sems.getD i 0
 on:∀i,i<s.onces.length->uF (s.onces.getD i zH)
 gr:∀i,i<s.groups.length->YY (s.groups.getD i yH)
 ba:∀i,i<s.bars.length->Jo (s.bars.getD i ye)/\(s.bars.getD i ye).parties=p.barriers.getD i 0
 ch:∀i,i<s.chans.length->ZB (s.chans.getD i yq)/\(s.chans.getD i yq).room=p.rooms.getD i 0
 sa:∀v∈s.said,0<=v/\v<=99
 we:∀e∈yD s,0<=e.1/\e.1<p.threads.length
 oe:∀e∈jg s,0<=e.1/\e.1<p.threads.length
 ne:(eT s).Nodup
 no:(oT s).Nodup
 th:∀t:Nat,t<p.threads.length->JF p s t
def zq (s:zp):List Int:=if s.fault=0 then ((List.range s.status.length).filter λi=>decide (s.status.getD i 0=0\/s.status.getD i 0=2)).map (λi:Nat=>(i:Int)) else []
def zI (p:Pg):zp:=⟨p.threads.map λ_=>0,p.threads.map λt=>if t.length=0 then 3 else 0,p.sems.map λn=>⟨n,n,[]⟩,List.replicate 3 zH,p.groups.map λn=>⟨n,[]⟩,p.barriers.map λn=>⟨n,0,[]⟩,p.rooms.map λn=>⟨n,[],[],[],false⟩,[],0⟩
end Go.Proofs.YtfclolgfegdfjaaGreat
namespace Go.Proofs.YtfclolgfegdfjaaGreat
open Go.RowKit
variable {w w' w0:World} {B n k i g c sz:Nat} {a:uQ} {e:TypeId} {P:Program} {X S:List Nat} {cs:uZ} {α:Type} {z:Value}
structure zP where
 a:Option Addr
 n:Nat
 c:Nat
abbrev zP.val (s:zP):Value:= .slice s.a s.n s.c
def zR:zP:=⟨none,0,0⟩
structure yc (S:List Nat) (w:World) (s:zP) (cs:List Value) (k:Nat):Prop where
 len:s.n=k
 rd:Rd w s.a cs
 far:cs=[]\/∀b,zj s.a=some b->b∉S
 cap:s.n<=s.c
theorem yc.touch {T:List Nat} {s:zP} (h:yc S w s cs k) (t:zo T w w') (hT:∀b∈T,b∈S):yc S w' s cs k:=by
 refine⟨h.len,?_,h.far,h.cap⟩;rcases h.rd with h0|⟨b,o,e,hc⟩
 ·exact .inl h0
 ·rcases h.far with h0|hf
  ·exact .inl h0
  ·exact .inr ⟨b,o,e,λj hj=>zZ t (hc j hj) (λhb=>hf b (by rw[e];rfl) (hT b hb))⟩
theorem yc.below {s:zP} (h:yc S w s cs k) (hb:xW w w'):yc S w' s cs k:=⟨h.len,h.rd.below hb,h.far,h.cap⟩
theorem yc.free {s:zP} (h:yc S w s cs k):yc [] w s cs k:=⟨h.len,h.rd,.inr (λ_ _=>jv),h.cap⟩
theorem yc.nil (S:List Nat) (w:World):yc S w zR [] 0:=⟨rfl,.inl rfl,.inl rfl,Nat.le_refl _⟩
def QA:List TypeId:=[74,81,87,93,98,38,26]
structure yy (w w':World) (s:zP) (cs:List Value) (k:Nat):Prop where
 len:s.n=k
 rd:Rd w' s.a cs
 new:cs=[]\/∀b,zj s.a=some b->w.heap.size<=b
 cap:s.n<=s.c
 ty:cs=[]\/∀b,zj s.a=some b->∃cur T fr,w'.heap[b]? =some (.cells cur T fr)/\T∉QA
theorem yy.r {s:zP} (h:yy w w' s cs k) (hS:∀b∈S,b<w.heap.size):yc S w' s cs k:=
 ⟨h.len,h.rd,h.new.imp id (λh b hb hm=>by have:=h b hb;have:=hS b hm;omega),h.cap⟩
theorem yy.below {w2:World} {s:zP} (h:yy w w' s cs k) (hb:xW w' w2):yy w w2 s cs k:=⟨h.len,h.rd.below hb,h.new,h.cap,h.ty.imp id (λh b b0=>by
 obtain⟨a0,T,fr,e,ht⟩:=h b b0;exact⟨a0,T,fr,(hb.block b (Array.getElem?_eq_some_iff.1 e).1).trans e,ht⟩)⟩
theorem yy.touch {w2:World} {s:zP} (h:yy w w' s cs k) (t:zo S w' w2) (hS:∀b∈S,b<w.heap.size):yy w w2 s cs k:=by
 refine⟨h.len,?_,h.new,h.cap,?_⟩
 ·rcases h.rd with h0|⟨b,o,e,hc⟩
  ·exact .inl h0
  ·rcases h.new with h0|hf
   ·exact .inl h0
   ·exact .inr ⟨b,o,e,λj hj=>zZ t (hc j hj) (λhb=>by have h1:=hf b (by rw[e];rfl);have h2:=hS b hb;omega)⟩
 ·rcases h.ty with h0|ht
  ·exact .inl h0
  ·rcases h.new with h0|hf
   ·exact .inl h0
   ·refine .inr λb hb=> ?_;obtain⟨a0,T,fr,e,hT⟩:=ht b hb;exact⟨a0,T,fr,(t.block b (Array.getElem?_eq_some_iff.1 e).1 (λhm=>by have h1:=hf b hb;have h2:=hS b hm;omega)).trans e,hT⟩
theorem yy.mono {s:zP} (h:yy w w' s cs k) (hb:w0.heap.size<=w.heap.size):yy w0 w' s cs k:=⟨h.len,h.rd,h.new.imp id (λh b a0=>by have:=h b a0;omega),h.cap,h.ty⟩
theorem Yi (h:w.ownsRow B e sz (.slice a n c) n cs):∀b,zj a=some b->∃a0 fr,w.heap[b]? =some (.cells a0 e fr):=by
 intro b hb;rcases h.2 with ⟨h1,h0⟩|⟨g,cap,a0,h1,_,hg,_⟩
 ·simp only[Value.slice.injEq] at h1;rw[h1.1] at hb;cases hb
 ·simp only[Value.slice.injEq,true_and] at h1;obtain⟨rfl,rfl⟩:=h1;obtain rfl:g=b:=by simpa[zj] using hb
  exact⟨_,_,hg⟩
theorem yy.of_owns (h:w.ownsRow B e sz (.slice a n c) n cs) (hB:w0.heap.size<=B) (he:e∉QA:=by decide):yy w0 w ⟨a,n,c⟩ cs n:=
 ⟨rfl,Rd.of_owns h,.inr (λb hb=>by have:=(zy h b hb).1;omega),(yB h).1,.inr λb hb=>by
  obtain⟨a0,fr,e1⟩:=Yi h b hb;exact⟨a0,e,fr,e1,he⟩⟩
theorem yy.nil (w w':World):yy w w' zR [] 0:=⟨rfl,.inl rfl,.inl rfl,Nat.le_refl _,.inl rfl⟩
def pair (x:Int×Int):uZ:=[uy x.1,uy x.2]
theorem QT (x:Int×Int):(pair x).length=2:=rfl
abbrev zK (l:List (Int×Int)):uZ:=l.flatMap pair
theorem Rd.pair {l:List (Int×Int)} (h:Rd w a (zK l)) (a0:0<l.length):
  ∃b o,a=some ⟨b,o,none⟩/\∀j,j<l.length->w.cell? ⟨b,o+j*2,none⟩=some (uy (l.getD j (0,0)).1)/\w.cell? ⟨b,o+j*2+1,none⟩=some (uy (l.getD j (0,0)).2):=by
 obtain⟨b,o,e,hc⟩:=h.flat QT (0,0) a0 jk;exact⟨b,o,e,λj hj=>⟨by simpa[Go.Proofs.YtfclolgfegdfjaaGreat.pair] using hc j hj 0 jk,by simpa[Go.Proofs.YtfclolgfegdfjaaGreat.pair] using hc j hj 1 jk⟩⟩
abbrev UM (x:xS) (s:zP):Value:= .agg #[uy x.free,uy x.limit,s.val]
abbrev G7 (x:xJ) (s:zP):Value:= .agg #[uy x.state,uy x.owner,uy x.value,s.val]
abbrev dp (x:ji) (s:zP):Value:= .agg #[uy x.count,s.val]
abbrev Dm (x:j6) (s:zP):Value:= .agg #[uy x.parties,uy x.round,s.val]
abbrev US (x:xi) (i s g:zP):Value:= .agg #[uy x.room,i.val,s.val,g.val,.bool x.closed]
structure zu where
 pl:zP
 st:zP
 se:zP
 on:zP
 gr:zP
 ba:zP
 ch:zP
 sa:zP
 fl:Int
abbrev yN (v:zu):Array Value:= #[.slice v.pl.a v.pl.n v.pl.c,.slice v.st.a v.st.n v.st.c,.slice v.se.a v.se.n v.se.c,.slice v.on.a v.on.n v.on.c,.slice v.gr.a v.gr.n v.gr.c,.slice v.ba.a v.ba.n v.ba.c,.slice v.ch.a v.ch.n v.ch.c,.slice v.sa.a v.sa.n v.sa.c,.int .i64 v.fl]
abbrev rC (v:zu) (a:Option Addr) (n c:Nat):Array Value:= #[.slice v.pl.a v.pl.n v.pl.c,.slice v.st.a v.st.n v.st.c,.slice v.se.a v.se.n v.se.c,.slice v.on.a v.on.n v.on.c,.slice v.gr.a v.gr.n v.gr.c,.slice v.ba.a v.ba.n v.ba.c,.slice v.ch.a v.ch.n v.ch.c,.slice v.sa.a v.sa.n v.sa.c,.int .i64 v.fl,.slice a n c]
abbrev zC:Array Value:= #[.slice none 0 0,.slice none 0 0,.slice none 0 0,.slice none 0 0,.slice none 0 0,.slice none 0 0,.slice none 0 0,.slice none 0 0,.int .i64 0]
abbrev yS:Array Value:= #[.slice none 0 0,.slice none 0 0,.slice none 0 0,.slice none 0 0,.slice none 0 0,.slice none 0 0,.slice none 0 0,.slice none 0 0,.int .i64 0,.slice none 0 0]
abbrev zu.val (v:zu):Value:= .agg #[v.pl.val,v.st.val,v.se.val,v.on.val,v.gr.val,v.ba.val,v.ch.val,v.sa.val,uy v.fl]
structure zQ where
 se:List (xS×zP)
 on:List (xJ×zP)
 gr:List (ji×zP)
 ba:List (j6×zP)
 ch:List (xi×zP×zP×zP)
def YI (x:xS×zP):uZ:=[uy x.1.free,uy x.1.limit,x.2.val]
def uB (x:xJ×zP):uZ:=[uy x.1.state,uy x.1.owner,uy x.1.value,x.2.val]
def Xk (x:ji×zP):uZ:=[uy x.1.count,x.2.val]
def YJ (x:j6×zP):uZ:=[uy x.1.parties,uy x.1.round,x.2.val]
def ZY (x:xi×zP×zP×zP):uZ:=[uy x.1.room,x.2.1.val,x.2.2.1.val,x.2.2.2.val,.bool x.1.closed]
theorem kK (x:xS×zP):(YI x).length=3:=rfl
theorem Gq (x:xJ×zP):(uB x).length=4:=rfl
theorem kY (x:ji×zP):(Xk x).length=2:=rfl
theorem km (x:j6×zP):(YJ x).length=3:=rfl
theorem kr (x:xi×zP×zP×zP):(ZY x).length=5:=rfl
abbrev dw:xS×zP:=(yi,zR)
abbrev gZ:xJ×zP:=(zH,zR)
abbrev dN:ji×zP:=(yH,zR)
abbrev Da:j6×zP:=(ye,zR)
abbrev dJ:xi×zP×zP×zP:=(yq,zR,zR,zR)
structure qJ {α β:Type} (R:World->α->β->Prop) (w:World) (L:List (α×β)) (xs:List α):Prop where
 e:L.map (·.1)=xs
 r:∀x∈L,R w x.1 x.2
section
variable {α β:Type} {R R':World->α->β->Prop} {w w':World} {L:List (α×β)} {xs:List α}
theorem qJ.mono (h:qJ R w L xs) (hm:∀x s,R w x s->R' w' x s):qJ R' w' L xs:=⟨h.e,λx hx=>hm _ _ (h.r x hx)⟩
theorem qJ.len (h:qJ R w L xs):L.length=xs.length:=by rw[<-h.e,yG]
theorem qJ.fst (h:qJ R w L xs) (d:α) (s:β) (i:Nat):(L.getD i (d,s)).1=xs.getD i d:=by
 rw[<-h.e];simp only[xm,List.getElem?_map]
 cases L[i]? <;>rfl
theorem qJ.at (h:qJ R w L xs) (d:α) (s:β) (hi:i<xs.length):R w (xs.getD i d) (L.getD i (d,s)).2:=by
 rw[<-h.fst d s i];refine h.r _ ?_;rw[<-h.len] at hi;rw[xm,xV hi];exact List.getElem_mem hi
theorem qJ.set (h:qJ R w L xs) (i:Nat) {x:α} {s:β} (hx:R w x s):qJ R w (L.set i (x,s)) (xs.set i x):=by
 refine⟨by rw[List.map_set,h.e],λy hy=> ?_⟩;rcases List.mem_or_eq_of_mem_set hy with hy|rfl
 ·exact h.r y hy
 ·exact hx
theorem qJ.snoc (h:qJ R w L xs) {x:α} {s:β} (hx:R w x s):qJ R w (L++[(x,s)]) (xs++[x]):=by
 refine⟨by rw[vQ,h.e];rfl,λy hy=> ?_⟩;rcases xM hy with hy|hy
 ·exact h.r y hy
 ·obtain rfl:=yh hy;exact hx
theorem qJ.nil:qJ R w [] []:=⟨rfl,jv⟩
end
def Xn (S:List Nat) (w:World) (x:xS) (s:zP):Prop:=yc S w s (zK x.queue) x.queue.length
def Xm (S:List Nat) (w:World) (x:xJ) (s:zP):Prop:=yc S w s (zf x.waits) x.waits.length
def JK (S:List Nat) (w:World) (x:ji) (s:zP):Prop:=yc S w s (zf x.waits) x.waits.length
def Qj (S:List Nat) (w:World) (x:j6) (s:zP):Prop:=yc S w s (zf x.waits) x.waits.length
def Xp (S:List Nat) (w:World) (x:xi) (s:zP×zP×zP):Prop:=yc S w s.1 (zf x.items) x.items.length/\yc S w s.2.1 (zK x.senders) x.senders.length/\yc S w s.2.2 (zf x.getters) x.getters.length
structure Jc (S:List Nat) (w:World) (L:zQ) (s:zp):Prop where
 se:qJ (Xn S) w L.se s.sems
 on:qJ (Xm S) w L.on s.onces
 gr:qJ (JK S) w L.gr s.groups
 ba:qJ (Qj S) w L.ba s.bars
 ch:qJ (Xp S) w L.ch s.chans
theorem Jc.map {S':List Nat} {L:zQ} {s:zp} (h:Jc S w L s) (hm:∀(x:zP) (cs:uZ) (k:Nat),yc S w x cs k->yc S' w' x cs k):Jc S' w' L s:=
 ⟨h.se.mono λ_ _=>hm _ _ _,h.on.mono λ_ _=>hm _ _ _,h.gr.mono λ_ _=>hm _ _ _,h.ba.mono λ_ _=>hm _ _ _,h.ch.mono λ_ _ hx=>⟨hm _ _ _ hx.1,hm _ _ _ hx.2.1,hm _ _ _ hx.2.2⟩⟩
theorem Jc.to {L:zQ} {s s':zp} (h:Jc S w L s) (e:s'.sems=s.sems/\s'.onces=s.onces/\s'.groups=s.groups/\s'.bars=s.bars/\s'.chans=s.chans):Jc S w L s':=
 ⟨by rw[e.1];exact h.se,by rw[e.2.1];exact h.on,by rw[e.2.2.1];exact h.gr,by rw[e.2.2.2.1];exact h.ba,by rw[e.2.2.2.2];exact h.ch⟩
theorem yc.wider {S':List Nat} {s:zP} (h:yc S w s cs k) (hs:cs=[]\/∀b,zj s.a=some b->b<w.heap.size->b∈S'->b∈S):yc S' w s cs k:=by
 refine⟨h.len,h.rd,?_,h.cap⟩;rcases h.far with h0|hf
 ·exact .inl h0
 ·rcases hs with h0|hs
  ·exact .inl h0
  ·rcases h.rd with h0|⟨b,o,e,hc⟩
   ·exact .inl h0
   ·by_cases hn:cs=[]
    ·exact .inl hn
    ·refine .inr λb' a0 hm=>hf b' a0 (hs b' a0 ?_ hm);rw[e] at a0;obtain rfl:b=b':=by simpa[zj] using a0
     have:=hc 0 (List.length_pos_iff.2 hn);unfold World.cell? at this;rcases Nat.lt_or_ge b w.heap.size with hl|hl
     ·exact hl
     ·rw[Array.getElem?_eq_none hl] at this;simp at this
structure yZ (w:World) (v:zu) (L:zQ) (s:zp):Prop where
 pl:yc [] w v.pl (zf s.places) s.places.length
 st:yc [] w v.st (zf s.status) s.status.length
 se:yc [] w v.se (L.se.flatMap YI) s.sems.length
 on:yc [] w v.on (L.on.flatMap uB) s.onces.length
 gr:yc [] w v.gr (L.gr.flatMap Xk) s.groups.length
 ba:yc [] w v.ba (L.ba.flatMap YJ) s.bars.length
 ch:yc [] w v.ch (L.ch.flatMap ZY) s.chans.length
 sa:yc [] w v.sa (zf s.said) s.said.length
 fl:v.fl=s.fault
 inn:Jc [] w L s
theorem yZ.below {v:zu} {L:zQ} {s:zp} (h:yZ w v L s) (hb:xW w w'):yZ w' v L s:=
 ⟨h.pl.below hb,h.st.below hb,h.se.below hb,h.on.below hb,h.gr.below hb,h.ba.below hb,h.ch.below hb,h.sa.below hb,h.fl,h.inn.map λ_ _ _ hx=>hx.below hb⟩
def zu.blks (v:zu):List Nat:=[v.pl.a,v.st.a,v.se.a,v.on.a,v.gr.a,v.ba.a,v.ch.a,v.sa.a].filterMap zj
structure yr (X:List Nat) (B:Nat) (w:World) (v:zu) (L:zQ) (s:zp):Prop where
 pl:w.ownsRow B 3 1 v.pl.val v.pl.n (zf s.places)
 npl:v.pl.n=s.places.length
 st:w.ownsRow B 3 1 v.st.val v.st.n (zf s.status)
 nst:v.st.n=s.status.length
 se:w.ownsRow B 74 3 v.se.val v.se.n (L.se.flatMap YI)
 nse:v.se.n=s.sems.length
 on:w.ownsRow B 81 4 v.on.val v.on.n (L.on.flatMap uB)
 non:v.on.n=s.onces.length
 gr:w.ownsRow B 87 2 v.gr.val v.gr.n (L.gr.flatMap Xk)
 ngr:v.gr.n=s.groups.length
 ba:w.ownsRow B 93 3 v.ba.val v.ba.n (L.ba.flatMap YJ)
 nba:v.ba.n=s.bars.length
 ch:w.ownsRow B 98 5 v.ch.val v.ch.n (L.ch.flatMap ZY)
 nch:v.ch.n=s.chans.length
 sa:w.ownsRow B 3 1 v.sa.val v.sa.n (zf s.said)
 nsa:v.sa.n=s.said.length
 fl:v.fl=s.fault
 dps:∀k,zj v.pl.a=some k->zj v.st.a≠some k
 dpa:∀k,zj v.pl.a=some k->zj v.sa.a≠some k
 dsa:∀k,zj v.st.a=some k->zj v.sa.a≠some k
 xs:∀k∈X,k<w.heap.size/\k∉v.blks
 inn:Jc (X++v.blks) w L s
theorem yc.of_owns {s:zP} (h:w.ownsRow B e sz s.val s.n cs) (hk:s.n=k):yc [] w s cs k:=
 ⟨hk,Rd.of_owns h,.inr jv,(yB h).1⟩
theorem yr.rd {v:zu} {L:zQ} {s:zp} (h:yr X B w v L s):yZ w v L s:=
 ⟨yc.of_owns h.pl h.npl,yc.of_owns h.st h.nst,yc.of_owns h.se h.nse,yc.of_owns h.on h.non,yc.of_owns h.gr h.ngr,yc.of_owns h.ba h.nba,yc.of_owns h.ch h.nch,yc.of_owns h.sa h.nsa,h.fl,h.inn.map λ_ _ _ hx=>hx.free⟩
theorem yr.below {v:zu} {L:zQ} {s:zp} (h:yr X B w v L s) (hb:xW w w'):yr X B w' v L s:=
 ⟨zl h.pl hb,h.npl,zl h.st hb,h.nst,zl h.se hb,h.nse,zl h.on hb,h.non,zl h.gr hb,h.ngr,zl h.ba hb,h.nba,zl h.ch hb,h.nch,zl h.sa hb,h.nsa,h.fl,h.dps,h.dpa,h.dsa,λk hk=>⟨Nat.lt_of_lt_of_le (h.xs k hk).1 hb.size,(h.xs k hk).2⟩,h.inn.map λ_ _ _ hx=>hx.below hb⟩
theorem yr.lower {B':Nat} {v:zu} {L:zQ} {s:zp} (h:yr X B w v L s) (hb:B'<=B):yr X B' w v L s:=
 ⟨zw h.pl hb,h.npl,zw h.st hb,h.nst,zw h.se hb,h.nse,zw h.on hb,h.non,zw h.gr hb,h.ngr,zw h.ba hb,h.nba,zw h.ch hb,h.nch,zw h.sa hb,h.nsa,h.fl,h.dps,h.dpa,h.dsa,h.xs,h.inn⟩
theorem yr.from {v:zu} {L:zQ} {s:zp} (h:yr X B w v L s):∀k∈v.blks,B<=k/\k<w.heap.size:=by
 intro k hk;unfold zu.blks at hk;obtain⟨x,hx,a0⟩:=xc.1 hk;simp only[List.mem_cons,jw,or_false] at hx;rcases hx with rfl|rfl|rfl|rfl|rfl|rfl|rfl|rfl
 ·exact zy h.pl k a0
 ·exact zy h.st k a0
 ·exact zy h.se k a0
 ·exact zy h.on k a0
 ·exact zy h.gr k a0
 ·exact zy h.ba k a0
 ·exact zy h.ch k a0
 ·exact zy h.sa k a0
theorem zu.mem_pl {v:zu} (h:zj v.pl.a=some k):k∈v.blks:=xc.2 ⟨v.pl.a,jv,h⟩
theorem zu.mem_st {v:zu} (h:zj v.st.a=some k):k∈v.blks:=xc.2 ⟨v.st.a,jv,h⟩
theorem zu.mem_se {v:zu} (h:zj v.se.a=some k):k∈v.blks:=xc.2 ⟨v.se.a,jv,h⟩
theorem zu.mem_on {v:zu} (h:zj v.on.a=some k):k∈v.blks:=xc.2 ⟨v.on.a,jv,h⟩
theorem zu.mem_gr {v:zu} (h:zj v.gr.a=some k):k∈v.blks:=xc.2 ⟨v.gr.a,jv,h⟩
theorem zu.mem_ba {v:zu} (h:zj v.ba.a=some k):k∈v.blks:=xc.2 ⟨v.ba.a,jv,h⟩
theorem zu.mem_ch {v:zu} (h:zj v.ch.a=some k):k∈v.blks:=xc.2 ⟨v.ch.a,jv,h⟩
theorem zu.mem_sa {v:zu} (h:zj v.sa.a=some k):k∈v.blks:=xc.2 ⟨v.sa.a,jv,h⟩
theorem Xs.size {b:List Nat} (h:∀k∈X,k<w.heap.size/\k∉b) (hs:w.heap.size<=w'.heap.size):∀k∈X,k<w'.heap.size/\k∉b:=λk hk=>⟨Nat.lt_of_lt_of_le (h k hk).1 hs,(h k hk).2⟩
theorem yr.set_pl {v:zu} {L:zQ} {s:zp} (h:yr X B w v L s) (hg:zj v.pl.a=some g) (T:zo [g] w w') {ps:List Int} (hl:v.pl.n=ps.length) (ho:w'.ownsRow B 3 1 v.pl.val v.pl.n (zf ps)):yr X B w' v L {s with places:=ps}:=
 ⟨ho,hl,zE h.st T (λq hq hm=>by obtain rfl:=yh hm;exact h.dps _ hg hq),h.nst,zE h.se T (λq hq hm=>by obtain rfl:=yh hm;exact zx h.pl h.se jk _ hg hq),h.nse,zE h.on T (λq hq hm=>by obtain rfl:=yh hm;exact zx h.pl h.on jk _ hg hq),h.non,zE h.gr T (λq hq hm=>by obtain rfl:=yh hm;exact zx h.pl h.gr jk _ hg hq),h.ngr,zE h.ba T (λq hq hm=>by obtain rfl:=yh hm;exact zx h.pl h.ba jk _ hg hq),h.nba,zE h.ch T (λq hq hm=>by obtain rfl:=yh hm;exact zx h.pl h.ch jk _ hg hq),h.nch,zE h.sa T (λq hq hm=>by obtain rfl:=yh hm;exact h.dpa _ hg hq),h.nsa,h.fl,h.dps,h.dpa,h.dsa,Xs.size h.xs T.size,(h.inn.map λ_ _ _ hx=>hx.touch T (λb hb=>by obtain rfl:=yh hb;exact yW (.inr (zu.mem_pl hg)))).to ⟨rfl,rfl,rfl,rfl,rfl⟩⟩
theorem yr.set_st {v:zu} {L:zQ} {s:zp} (h:yr X B w v L s) (hg:zj v.st.a=some g) (T:zo [g] w w') {ps:List Int} (hl:v.st.n=ps.length) (ho:w'.ownsRow B 3 1 v.st.val v.st.n (zf ps)):yr X B w' v L {s with status:=ps}:=
 ⟨zE h.pl T (λq hq hm=>by obtain rfl:=yh hm;exact h.dps _ hq hg),h.npl,ho,hl,zE h.se T (λq hq hm=>by obtain rfl:=yh hm;exact zx h.st h.se jk _ hg hq),h.nse,zE h.on T (λq hq hm=>by obtain rfl:=yh hm;exact zx h.st h.on jk _ hg hq),h.non,zE h.gr T (λq hq hm=>by obtain rfl:=yh hm;exact zx h.st h.gr jk _ hg hq),h.ngr,zE h.ba T (λq hq hm=>by obtain rfl:=yh hm;exact zx h.st h.ba jk _ hg hq),h.nba,zE h.ch T (λq hq hm=>by obtain rfl:=yh hm;exact zx h.st h.ch jk _ hg hq),h.nch,zE h.sa T (λq hq hm=>by obtain rfl:=yh hm;exact h.dsa _ hg hq),h.nsa,h.fl,h.dps,h.dpa,h.dsa,Xs.size h.xs T.size,(h.inn.map λ_ _ _ hx=>hx.touch T (λb hb=>by obtain rfl:=yh hb;exact yW (.inr (zu.mem_st hg)))).to ⟨rfl,rfl,rfl,rfl,rfl⟩⟩
theorem yr.set_se {v:zu} {L:zQ} {s:zp} (h:yr X B w v L s) (hg:zj v.se.a=some g) (T:zo [g] w w') (i:Nat) {x:xS} {q:zP} (hx:Xn (X++v.blks) w' x q) (ho:w'.ownsRow B 74 3 v.se.val v.se.n ((L.se.set i (x,q)).flatMap YI)):yr X B w' v {L with se:=L.se.set i (x,q)} {s with sems:=s.sems.set i x}:=by
 have hT:∀b∈[g],b∈X++v.blks:=λb hb=>by obtain rfl:=yh hb;exact yW (.inr (zu.mem_se hg))
 exact⟨zE h.pl T (λq hq hm=>by obtain rfl:=yh hm;exact zx h.se h.pl jk _ hg hq),h.npl,zE h.st T (λq hq hm=>by obtain rfl:=yh hm;exact zx h.se h.st jk _ hg hq),h.nst,ho,by rw[List.length_set];exact h.nse,zE h.on T (λq hq hm=>by obtain rfl:=yh hm;exact zx h.se h.on jk _ hg hq),h.non,zE h.gr T (λq hq hm=>by obtain rfl:=yh hm;exact zx h.se h.gr jk _ hg hq),h.ngr,zE h.ba T (λq hq hm=>by obtain rfl:=yh hm;exact zx h.se h.ba jk _ hg hq),h.nba,zE h.ch T (λq hq hm=>by obtain rfl:=yh hm;exact zx h.se h.ch jk _ hg hq),h.nch,zE h.sa T (λq hq hm=>by obtain rfl:=yh hm;exact zx h.se h.sa jk _ hg hq),h.nsa,h.fl,h.dps,h.dpa,h.dsa,Xs.size h.xs T.size,⟨(h.inn.se.mono λ_ _ hx=>hx.touch T hT).set i hx,h.inn.on.mono λ_ _ hx=>hx.touch T hT,h.inn.gr.mono λ_ _ hx=>hx.touch T hT,h.inn.ba.mono λ_ _ hx=>hx.touch T hT,h.inn.ch.mono λ_ _ hx=>⟨hx.1.touch T hT,hx.2.1.touch T hT,hx.2.2.touch T hT⟩⟩⟩
theorem yr.set_on {v:zu} {L:zQ} {s:zp} (h:yr X B w v L s) (hg:zj v.on.a=some g) (T:zo [g] w w') (i:Nat) {x:xJ} {q:zP} (hx:Xm (X++v.blks) w' x q) (ho:w'.ownsRow B 81 4 v.on.val v.on.n ((L.on.set i (x,q)).flatMap uB)):yr X B w' v {L with on:=L.on.set i (x,q)} {s with onces:=s.onces.set i x}:=by
 have hT:∀b∈[g],b∈X++v.blks:=λb hb=>by obtain rfl:=yh hb;exact yW (.inr (zu.mem_on hg))
 exact⟨zE h.pl T (λq hq hm=>by obtain rfl:=yh hm;exact zx h.on h.pl jk _ hg hq),h.npl,zE h.st T (λq hq hm=>by obtain rfl:=yh hm;exact zx h.on h.st jk _ hg hq),h.nst,zE h.se T (λq hq hm=>by obtain rfl:=yh hm;exact zx h.on h.se jk _ hg hq),h.nse,ho,by rw[List.length_set];exact h.non,zE h.gr T (λq hq hm=>by obtain rfl:=yh hm;exact zx h.on h.gr jk _ hg hq),h.ngr,zE h.ba T (λq hq hm=>by obtain rfl:=yh hm;exact zx h.on h.ba jk _ hg hq),h.nba,zE h.ch T (λq hq hm=>by obtain rfl:=yh hm;exact zx h.on h.ch jk _ hg hq),h.nch,zE h.sa T (λq hq hm=>by obtain rfl:=yh hm;exact zx h.on h.sa jk _ hg hq),h.nsa,h.fl,h.dps,h.dpa,h.dsa,Xs.size h.xs T.size,⟨h.inn.se.mono λ_ _ hx=>hx.touch T hT,(h.inn.on.mono λ_ _ hx=>hx.touch T hT).set i hx,h.inn.gr.mono λ_ _ hx=>hx.touch T hT,h.inn.ba.mono λ_ _ hx=>hx.touch T hT,h.inn.ch.mono λ_ _ hx=>⟨hx.1.touch T hT,hx.2.1.touch T hT,hx.2.2.touch T hT⟩⟩⟩
theorem yr.set_gr {v:zu} {L:zQ} {s:zp} (h:yr X B w v L s) (hg:zj v.gr.a=some g) (T:zo [g] w w') (i:Nat) {x:ji} {q:zP} (hx:JK (X++v.blks) w' x q) (ho:w'.ownsRow B 87 2 v.gr.val v.gr.n ((L.gr.set i (x,q)).flatMap Xk)):yr X B w' v {L with gr:=L.gr.set i (x,q)} {s with groups:=s.groups.set i x}:=by
 have hT:∀b∈[g],b∈X++v.blks:=λb hb=>by obtain rfl:=yh hb;exact yW (.inr (zu.mem_gr hg))
 exact⟨zE h.pl T (λq hq hm=>by obtain rfl:=yh hm;exact zx h.gr h.pl jk _ hg hq),h.npl,zE h.st T (λq hq hm=>by obtain rfl:=yh hm;exact zx h.gr h.st jk _ hg hq),h.nst,zE h.se T (λq hq hm=>by obtain rfl:=yh hm;exact zx h.gr h.se jk _ hg hq),h.nse,zE h.on T (λq hq hm=>by obtain rfl:=yh hm;exact zx h.gr h.on jk _ hg hq),h.non,ho,by rw[List.length_set];exact h.ngr,zE h.ba T (λq hq hm=>by obtain rfl:=yh hm;exact zx h.gr h.ba jk _ hg hq),h.nba,zE h.ch T (λq hq hm=>by obtain rfl:=yh hm;exact zx h.gr h.ch jk _ hg hq),h.nch,zE h.sa T (λq hq hm=>by obtain rfl:=yh hm;exact zx h.gr h.sa jk _ hg hq),h.nsa,h.fl,h.dps,h.dpa,h.dsa,Xs.size h.xs T.size,⟨h.inn.se.mono λ_ _ hx=>hx.touch T hT,h.inn.on.mono λ_ _ hx=>hx.touch T hT,(h.inn.gr.mono λ_ _ hx=>hx.touch T hT).set i hx,h.inn.ba.mono λ_ _ hx=>hx.touch T hT,h.inn.ch.mono λ_ _ hx=>⟨hx.1.touch T hT,hx.2.1.touch T hT,hx.2.2.touch T hT⟩⟩⟩
theorem yr.set_ba {v:zu} {L:zQ} {s:zp} (h:yr X B w v L s) (hg:zj v.ba.a=some g) (T:zo [g] w w') (i:Nat) {x:j6} {q:zP} (hx:Qj (X++v.blks) w' x q) (ho:w'.ownsRow B 93 3 v.ba.val v.ba.n ((L.ba.set i (x,q)).flatMap YJ)):yr X B w' v {L with ba:=L.ba.set i (x,q)} {s with bars:=s.bars.set i x}:=by
 have hT:∀b∈[g],b∈X++v.blks:=λb hb=>by obtain rfl:=yh hb;exact yW (.inr (zu.mem_ba hg))
 exact⟨zE h.pl T (λq hq hm=>by obtain rfl:=yh hm;exact zx h.ba h.pl jk _ hg hq),h.npl,zE h.st T (λq hq hm=>by obtain rfl:=yh hm;exact zx h.ba h.st jk _ hg hq),h.nst,zE h.se T (λq hq hm=>by obtain rfl:=yh hm;exact zx h.ba h.se jk _ hg hq),h.nse,zE h.on T (λq hq hm=>by obtain rfl:=yh hm;exact zx h.ba h.on jk _ hg hq),h.non,zE h.gr T (λq hq hm=>by obtain rfl:=yh hm;exact zx h.ba h.gr jk _ hg hq),h.ngr,ho,by rw[List.length_set];exact h.nba,zE h.ch T (λq hq hm=>by obtain rfl:=yh hm;exact zx h.ba h.ch jk _ hg hq),h.nch,zE h.sa T (λq hq hm=>by obtain rfl:=yh hm;exact zx h.ba h.sa jk _ hg hq),h.nsa,h.fl,h.dps,h.dpa,h.dsa,Xs.size h.xs T.size,⟨h.inn.se.mono λ_ _ hx=>hx.touch T hT,h.inn.on.mono λ_ _ hx=>hx.touch T hT,h.inn.gr.mono λ_ _ hx=>hx.touch T hT,(h.inn.ba.mono λ_ _ hx=>hx.touch T hT).set i hx,h.inn.ch.mono λ_ _ hx=>⟨hx.1.touch T hT,hx.2.1.touch T hT,hx.2.2.touch T hT⟩⟩⟩
theorem yr.set_ch {v:zu} {L:zQ} {s:zp} (h:yr X B w v L s) (hg:zj v.ch.a=some g) (T:zo [g] w w') (i:Nat) {x:xi} {q:zP×zP×zP} (hx:Xp (X++v.blks) w' x q) (ho:w'.ownsRow B 98 5 v.ch.val v.ch.n ((L.ch.set i (x,q)).flatMap ZY)):yr X B w' v {L with ch:=L.ch.set i (x,q)} {s with chans:=s.chans.set i x}:=by
 have hT:∀b∈[g],b∈X++v.blks:=λb hb=>by obtain rfl:=yh hb;exact yW (.inr (zu.mem_ch hg))
 exact⟨zE h.pl T (λq hq hm=>by obtain rfl:=yh hm;exact zx h.ch h.pl jk _ hg hq),h.npl,zE h.st T (λq hq hm=>by obtain rfl:=yh hm;exact zx h.ch h.st jk _ hg hq),h.nst,zE h.se T (λq hq hm=>by obtain rfl:=yh hm;exact zx h.ch h.se jk _ hg hq),h.nse,zE h.on T (λq hq hm=>by obtain rfl:=yh hm;exact zx h.ch h.on jk _ hg hq),h.non,zE h.gr T (λq hq hm=>by obtain rfl:=yh hm;exact zx h.ch h.gr jk _ hg hq),h.ngr,zE h.ba T (λq hq hm=>by obtain rfl:=yh hm;exact zx h.ch h.ba jk _ hg hq),h.nba,ho,by rw[List.length_set];exact h.nch,zE h.sa T (λq hq hm=>by obtain rfl:=yh hm;exact zx h.ch h.sa jk _ hg hq),h.nsa,h.fl,h.dps,h.dpa,h.dsa,Xs.size h.xs T.size,⟨h.inn.se.mono λ_ _ hx=>hx.touch T hT,h.inn.on.mono λ_ _ hx=>hx.touch T hT,h.inn.gr.mono λ_ _ hx=>hx.touch T hT,h.inn.ba.mono λ_ _ hx=>hx.touch T hT,(h.inn.ch.mono λ_ _ hx=>⟨hx.1.touch T hT,hx.2.1.touch T hT,hx.2.2.touch T hT⟩).set i hx⟩⟩
theorem yc.wide {S':List Nat} {q:zP} (hx:yc S w q cs k) (T:zo S w w') (hb:∀b∈S',b∈S\/w.heap.size<=b):yc S' w' q cs k:=by
 refine yc.wider (S:=S) (hx.touch T (λ_ h=>h)) ?_;rcases hx.rd with h0|⟨b,o,e,hc⟩
 ·exact .inl h0
 ·by_cases he:cs=[]
  ·exact .inl he
  ·refine .inr λb' a0 _ hm=> ?_;have b0:b'<w.heap.size:=by
    rw[e] at a0;obtain rfl:b=b':=by simpa[zj] using a0
    have:=hc 0 (List.length_pos_iff.2 he);unfold World.cell? at this;rcases Nat.lt_or_ge b w.heap.size with hl|hl
    ·exact hl
    ·rw[Array.getElem?_eq_none hl] at this;simp at this
   rcases hb b' hm with h1|h1
   ·exact h1
   ·omega
theorem Jc.wide {S':List Nat} {L:zQ} {s:zp} (h:Jc S w L s) (T:zo S w w') (hb:∀b∈S',b∈S\/w.heap.size<=b):Jc S' w' L s:=h.map λ_ _ _ hx=>hx.wide T hb
theorem yr.say {v:zu} {L:zQ} {s:zp} (h:yr X B w v L s) {s8:zP} (G:w.grownBy w' (zj v.sa.a)) (hn:∀k,zj s8.a=some k->zj v.sa.a=some k\/w.heap.size<=k) {ps:List Int} (hl:s8.n=ps.length) (ho:w'.ownsRow B 3 1 s8.val s8.n (zf ps)):yr X B w' {v with sa:=s8} L {s with said:=ps}:=by
 have b0:∀b∈zu.blks {v with sa:=s8},b∈v.blks\/w.heap.size<=b:=by
  intro b hm;unfold zu.blks at hm⊢;obtain⟨y,hy,a0⟩:=xc.1 hm;simp only[List.mem_cons,jw,or_false] at hy;rcases hy with rfl|rfl|rfl|rfl|rfl|rfl|rfl|rfl
  ·exact .inl (xc.2 ⟨_,jv,a0⟩)
  ·exact .inl (xc.2 ⟨_,jv,a0⟩)
  ·exact .inl (xc.2 ⟨_,jv,a0⟩)
  ·exact .inl (xc.2 ⟨_,jv,a0⟩)
  ·exact .inl (xc.2 ⟨_,jv,a0⟩)
  ·exact .inl (xc.2 ⟨_,jv,a0⟩)
  ·exact .inl (xc.2 ⟨_,jv,a0⟩)
  ·rcases hn b a0 with h1|h1
   ·exact .inl (xc.2 ⟨v.sa.a,jv,h1⟩)
   ·exact .inr h1
 have hB:∀b∈X++zu.blks {v with sa:=s8},b∈X++v.blks\/w.heap.size<=b:=by
  intro b hm;rcases xM hm with hm|hm
  ·exact .inl (yW (.inl hm))
  ·exact(b0 b hm).imp (λh=>yW (.inr h)) id
 have hT:zo (X++v.blks) w w':=zo.of_grown G λk hk=>yW (.inr (zu.mem_sa hk));have hX:∀k∈X,k<w'.heap.size/\k∉zu.blks {v with sa:=s8}:=λk hk=>⟨Nat.lt_of_lt_of_le (h.xs k hk).1 G.size,λhm=>by
  rcases b0 k hm with h1|h1
  ·exact(h.xs k hk).2 h1
  ·have:=(h.xs k hk).1;omega⟩
 refine⟨zk h.pl G (λk hk hq=>h.dpa _ hk hq),h.npl,zk h.st G (λk hk hq=>h.dsa _ hk hq),h.nst,zk h.se G (λk hk hq=>zx h.se h.sa jk _ hk hq),h.nse,zk h.on G (λk hk hq=>zx h.on h.sa jk _ hk hq),h.non,zk h.gr G (λk hk hq=>zx h.gr h.sa jk _ hk hq),h.ngr,zk h.ba G (λk hk hq=>zx h.ba h.sa jk _ hk hq),h.nba,zk h.ch G (λk hk hq=>zx h.ch h.sa jk _ hk hq),h.nch,ho,hl,h.fl,h.dps,?_,?_,hX,(h.inn.wide hT hB).to ⟨rfl,rfl,rfl,rfl,rfl⟩⟩
 ·intro k hk hq;rcases hn k hq with h1|h1
  ·exact h.dpa k hk h1
  ·have:=(zy h.pl k hk).2;omega
 ·intro k hk hq;rcases hn k hq with h1|h1
  ·exact h.dsa k hk h1
  ·have:=(zy h.st k hk).2;omega
theorem yr.push_se {v:zu} {L:zQ} {s:zp} (h:yr X B w v L s) {r:zP} (G:w.grownBy w' (zj v.se.a)) (hn:∀k,zj r.a=some k->zj v.se.a=some k\/w.heap.size<=k) {x:xS} {q:zP} (hx:Xn (X++v.blks) w x q) (hl:r.n=s.sems.length+1) (ho:w'.ownsRow B 74 3 r.val r.n ((L.se++[(x,q)]).flatMap YI)):yr X B w' {v with se:=r} {L with se:=L.se++[(x,q)]} {s with sems:=s.sems++[x]}:=by
 have b0:∀b∈zu.blks {v with se:=r},b∈v.blks\/w.heap.size<=b:=by
  intro b hm;unfold zu.blks at hm⊢;obtain⟨y,hy,a0⟩:=xc.1 hm;simp only[List.mem_cons,jw,or_false] at hy;rcases hy with rfl|rfl|rfl|rfl|rfl|rfl|rfl|rfl
  ·exact .inl (xc.2 ⟨_,jv,a0⟩)
  ·exact .inl (xc.2 ⟨_,jv,a0⟩)
  ·rcases hn b a0 with h1|h1
   ·exact .inl (xc.2 ⟨v.se.a,jv,h1⟩)
   ·exact .inr h1
  ·exact .inl (xc.2 ⟨_,jv,a0⟩)
  ·exact .inl (xc.2 ⟨_,jv,a0⟩)
  ·exact .inl (xc.2 ⟨_,jv,a0⟩)
  ·exact .inl (xc.2 ⟨_,jv,a0⟩)
  ·exact .inl (xc.2 ⟨_,jv,a0⟩)
 have hB:∀b∈X++zu.blks {v with se:=r},b∈X++v.blks\/w.heap.size<=b:=by
  intro b hm;rcases xM hm with hm|hm
  ·exact .inl (yW (.inl hm))
  ·exact(b0 b hm).imp (λh=>yW (.inr h)) id
 have hT:zo (X++v.blks) w w':=zo.of_grown G λk hk=>yW (.inr (zu.mem_se hk));have hX:∀k∈X,k<w'.heap.size/\k∉zu.blks {v with se:=r}:=λk hk=>⟨Nat.lt_of_lt_of_le (h.xs k hk).1 G.size,λhm=>by
  rcases b0 k hm with h1|h1
  ·exact(h.xs k hk).2 h1
  ·have:=(h.xs k hk).1;omega⟩
 have hI:=h.inn.wide hT hB;exact⟨zk h.pl G (λk hk hq=>zx h.pl h.se jk _ hk hq),h.npl,zk h.st G (λk hk hq=>zx h.st h.se jk _ hk hq),h.nst,ho,by rw[hl,xp];rfl,zk h.on G (λk hk hq=>zx h.on h.se jk _ hk hq),h.non,zk h.gr G (λk hk hq=>zx h.gr h.se jk _ hk hq),h.ngr,zk h.ba G (λk hk hq=>zx h.ba h.se jk _ hk hq),h.nba,zk h.ch G (λk hk hq=>zx h.ch h.se jk _ hk hq),h.nch,zk h.sa G (λk hk hq=>zx h.sa h.se jk _ hk hq),h.nsa,h.fl,h.dps,h.dpa,h.dsa,hX,⟨hI.se.snoc (hx.wide hT hB),hI.on,hI.gr,hI.ba,hI.ch⟩⟩
theorem yr.push_on {v:zu} {L:zQ} {s:zp} (h:yr X B w v L s) {r:zP} (G:w.grownBy w' (zj v.on.a)) (hn:∀k,zj r.a=some k->zj v.on.a=some k\/w.heap.size<=k) {x:xJ} {q:zP} (hx:Xm (X++v.blks) w x q) (hl:r.n=s.onces.length+1) (ho:w'.ownsRow B 81 4 r.val r.n ((L.on++[(x,q)]).flatMap uB)):yr X B w' {v with on:=r} {L with on:=L.on++[(x,q)]} {s with onces:=s.onces++[x]}:=by
 have b0:∀b∈zu.blks {v with on:=r},b∈v.blks\/w.heap.size<=b:=by
  intro b hm;unfold zu.blks at hm⊢;obtain⟨y,hy,a0⟩:=xc.1 hm;simp only[List.mem_cons,jw,or_false] at hy;rcases hy with rfl|rfl|rfl|rfl|rfl|rfl|rfl|rfl
  ·exact .inl (xc.2 ⟨_,jv,a0⟩)
  ·exact .inl (xc.2 ⟨_,jv,a0⟩)
  ·exact .inl (xc.2 ⟨_,jv,a0⟩)
  ·rcases hn b a0 with h1|h1
   ·exact .inl (xc.2 ⟨v.on.a,jv,h1⟩)
   ·exact .inr h1
  ·exact .inl (xc.2 ⟨_,jv,a0⟩)
  ·exact .inl (xc.2 ⟨_,jv,a0⟩)
  ·exact .inl (xc.2 ⟨_,jv,a0⟩)
  ·exact .inl (xc.2 ⟨_,jv,a0⟩)
 have hB:∀b∈X++zu.blks {v with on:=r},b∈X++v.blks\/w.heap.size<=b:=by
  intro b hm;rcases xM hm with hm|hm
  ·exact .inl (yW (.inl hm))
  ·exact(b0 b hm).imp (λh=>yW (.inr h)) id
 have hT:zo (X++v.blks) w w':=zo.of_grown G λk hk=>yW (.inr (zu.mem_on hk));have hX:∀k∈X,k<w'.heap.size/\k∉zu.blks {v with on:=r}:=λk hk=>⟨Nat.lt_of_lt_of_le (h.xs k hk).1 G.size,λhm=>by
  rcases b0 k hm with h1|h1
  ·exact(h.xs k hk).2 h1
  ·have:=(h.xs k hk).1;omega⟩
 have hI:=h.inn.wide hT hB;exact⟨zk h.pl G (λk hk hq=>zx h.pl h.on jk _ hk hq),h.npl,zk h.st G (λk hk hq=>zx h.st h.on jk _ hk hq),h.nst,zk h.se G (λk hk hq=>zx h.se h.on jk _ hk hq),h.nse,ho,by rw[hl,xp];rfl,zk h.gr G (λk hk hq=>zx h.gr h.on jk _ hk hq),h.ngr,zk h.ba G (λk hk hq=>zx h.ba h.on jk _ hk hq),h.nba,zk h.ch G (λk hk hq=>zx h.ch h.on jk _ hk hq),h.nch,zk h.sa G (λk hk hq=>zx h.sa h.on jk _ hk hq),h.nsa,h.fl,h.dps,h.dpa,h.dsa,hX,⟨hI.se,hI.on.snoc (hx.wide hT hB),hI.gr,hI.ba,hI.ch⟩⟩
theorem yr.push_gr {v:zu} {L:zQ} {s:zp} (h:yr X B w v L s) {r:zP} (G:w.grownBy w' (zj v.gr.a)) (hn:∀k,zj r.a=some k->zj v.gr.a=some k\/w.heap.size<=k) {x:ji} {q:zP} (hx:JK (X++v.blks) w x q) (hl:r.n=s.groups.length+1) (ho:w'.ownsRow B 87 2 r.val r.n ((L.gr++[(x,q)]).flatMap Xk)):yr X B w' {v with gr:=r} {L with gr:=L.gr++[(x,q)]} {s with groups:=s.groups++[x]}:=by
 have b0:∀b∈zu.blks {v with gr:=r},b∈v.blks\/w.heap.size<=b:=by
  intro b hm;unfold zu.blks at hm⊢;obtain⟨y,hy,a0⟩:=xc.1 hm;simp only[List.mem_cons,jw,or_false] at hy;rcases hy with rfl|rfl|rfl|rfl|rfl|rfl|rfl|rfl
  ·exact .inl (xc.2 ⟨_,jv,a0⟩)
  ·exact .inl (xc.2 ⟨_,jv,a0⟩)
  ·exact .inl (xc.2 ⟨_,jv,a0⟩)
  ·exact .inl (xc.2 ⟨_,jv,a0⟩)
  ·rcases hn b a0 with h1|h1
   ·exact .inl (xc.2 ⟨v.gr.a,jv,h1⟩)
   ·exact .inr h1
  ·exact .inl (xc.2 ⟨_,jv,a0⟩)
  ·exact .inl (xc.2 ⟨_,jv,a0⟩)
  ·exact .inl (xc.2 ⟨_,jv,a0⟩)
 have hB:∀b∈X++zu.blks {v with gr:=r},b∈X++v.blks\/w.heap.size<=b:=by
  intro b hm;rcases xM hm with hm|hm
  ·exact .inl (yW (.inl hm))
  ·exact(b0 b hm).imp (λh=>yW (.inr h)) id
 have hT:zo (X++v.blks) w w':=zo.of_grown G λk hk=>yW (.inr (zu.mem_gr hk));have hX:∀k∈X,k<w'.heap.size/\k∉zu.blks {v with gr:=r}:=λk hk=>⟨Nat.lt_of_lt_of_le (h.xs k hk).1 G.size,λhm=>by
  rcases b0 k hm with h1|h1
  ·exact(h.xs k hk).2 h1
  ·have:=(h.xs k hk).1;omega⟩
 have hI:=h.inn.wide hT hB;exact⟨zk h.pl G (λk hk hq=>zx h.pl h.gr jk _ hk hq),h.npl,zk h.st G (λk hk hq=>zx h.st h.gr jk _ hk hq),h.nst,zk h.se G (λk hk hq=>zx h.se h.gr jk _ hk hq),h.nse,zk h.on G (λk hk hq=>zx h.on h.gr jk _ hk hq),h.non,ho,by rw[hl,xp];rfl,zk h.ba G (λk hk hq=>zx h.ba h.gr jk _ hk hq),h.nba,zk h.ch G (λk hk hq=>zx h.ch h.gr jk _ hk hq),h.nch,zk h.sa G (λk hk hq=>zx h.sa h.gr jk _ hk hq),h.nsa,h.fl,h.dps,h.dpa,h.dsa,hX,⟨hI.se,hI.on,hI.gr.snoc (hx.wide hT hB),hI.ba,hI.ch⟩⟩
theorem yr.push_ba {v:zu} {L:zQ} {s:zp} (h:yr X B w v L s) {r:zP} (G:w.grownBy w' (zj v.ba.a)) (hn:∀k,zj r.a=some k->zj v.ba.a=some k\/w.heap.size<=k) {x:j6} {q:zP} (hx:Qj (X++v.blks) w x q) (hl:r.n=s.bars.length+1) (ho:w'.ownsRow B 93 3 r.val r.n ((L.ba++[(x,q)]).flatMap YJ)):yr X B w' {v with ba:=r} {L with ba:=L.ba++[(x,q)]} {s with bars:=s.bars++[x]}:=by
 have b0:∀b∈zu.blks {v with ba:=r},b∈v.blks\/w.heap.size<=b:=by
  intro b hm;unfold zu.blks at hm⊢;obtain⟨y,hy,a0⟩:=xc.1 hm;simp only[List.mem_cons,jw,or_false] at hy;rcases hy with rfl|rfl|rfl|rfl|rfl|rfl|rfl|rfl
  ·exact .inl (xc.2 ⟨_,jv,a0⟩)
  ·exact .inl (xc.2 ⟨_,jv,a0⟩)
  ·exact .inl (xc.2 ⟨_,jv,a0⟩)
  ·exact .inl (xc.2 ⟨_,jv,a0⟩)
  ·exact .inl (xc.2 ⟨_,jv,a0⟩)
  ·rcases hn b a0 with h1|h1
   ·exact .inl (xc.2 ⟨v.ba.a,jv,h1⟩)
   ·exact .inr h1
  ·exact .inl (xc.2 ⟨_,jv,a0⟩)
  ·exact .inl (xc.2 ⟨_,jv,a0⟩)
 have hB:∀b∈X++zu.blks {v with ba:=r},b∈X++v.blks\/w.heap.size<=b:=by
  intro b hm;rcases xM hm with hm|hm
  ·exact .inl (yW (.inl hm))
  ·exact(b0 b hm).imp (λh=>yW (.inr h)) id
 have hT:zo (X++v.blks) w w':=zo.of_grown G λk hk=>yW (.inr (zu.mem_ba hk));have hX:∀k∈X,k<w'.heap.size/\k∉zu.blks {v with ba:=r}:=λk hk=>⟨Nat.lt_of_lt_of_le (h.xs k hk).1 G.size,λhm=>by
  rcases b0 k hm with h1|h1
  ·exact(h.xs k hk).2 h1
  ·have:=(h.xs k hk).1;omega⟩
 have hI:=h.inn.wide hT hB;exact⟨zk h.pl G (λk hk hq=>zx h.pl h.ba jk _ hk hq),h.npl,zk h.st G (λk hk hq=>zx h.st h.ba jk _ hk hq),h.nst,zk h.se G (λk hk hq=>zx h.se h.ba jk _ hk hq),h.nse,zk h.on G (λk hk hq=>zx h.on h.ba jk _ hk hq),h.non,zk h.gr G (λk hk hq=>zx h.gr h.ba jk _ hk hq),h.ngr,ho,by rw[hl,xp];rfl,zk h.ch G (λk hk hq=>zx h.ch h.ba jk _ hk hq),h.nch,zk h.sa G (λk hk hq=>zx h.sa h.ba jk _ hk hq),h.nsa,h.fl,h.dps,h.dpa,h.dsa,hX,⟨hI.se,hI.on,hI.gr,hI.ba.snoc (hx.wide hT hB),hI.ch⟩⟩
theorem yr.push_ch {v:zu} {L:zQ} {s:zp} (h:yr X B w v L s) {r:zP} (G:w.grownBy w' (zj v.ch.a)) (hn:∀k,zj r.a=some k->zj v.ch.a=some k\/w.heap.size<=k) {x:xi} {q:zP×zP×zP} (hx:Xp (X++v.blks) w x q) (hl:r.n=s.chans.length+1) (ho:w'.ownsRow B 98 5 r.val r.n ((L.ch++[(x,q)]).flatMap ZY)):yr X B w' {v with ch:=r} {L with ch:=L.ch++[(x,q)]} {s with chans:=s.chans++[x]}:=by
 have b0:∀b∈zu.blks {v with ch:=r},b∈v.blks\/w.heap.size<=b:=by
  intro b hm;unfold zu.blks at hm⊢;obtain⟨y,hy,a0⟩:=xc.1 hm;simp only[List.mem_cons,jw,or_false] at hy;rcases hy with rfl|rfl|rfl|rfl|rfl|rfl|rfl|rfl
  ·exact .inl (xc.2 ⟨_,jv,a0⟩)
  ·exact .inl (xc.2 ⟨_,jv,a0⟩)
  ·exact .inl (xc.2 ⟨_,jv,a0⟩)
  ·exact .inl (xc.2 ⟨_,jv,a0⟩)
  ·exact .inl (xc.2 ⟨_,jv,a0⟩)
  ·exact .inl (xc.2 ⟨_,jv,a0⟩)
  ·rcases hn b a0 with h1|h1
   ·exact .inl (xc.2 ⟨v.ch.a,jv,h1⟩)
   ·exact .inr h1
  ·exact .inl (xc.2 ⟨_,jv,a0⟩)
 have hB:∀b∈X++zu.blks {v with ch:=r},b∈X++v.blks\/w.heap.size<=b:=by
  intro b hm;rcases xM hm with hm|hm
  ·exact .inl (yW (.inl hm))
  ·exact(b0 b hm).imp (λh=>yW (.inr h)) id
 have hT:zo (X++v.blks) w w':=zo.of_grown G λk hk=>yW (.inr (zu.mem_ch hk));have hX:∀k∈X,k<w'.heap.size/\k∉zu.blks {v with ch:=r}:=λk hk=>⟨Nat.lt_of_lt_of_le (h.xs k hk).1 G.size,λhm=>by
  rcases b0 k hm with h1|h1
  ·exact(h.xs k hk).2 h1
  ·have:=(h.xs k hk).1;omega⟩
 have hI:=h.inn.wide hT hB;exact⟨zk h.pl G (λk hk hq=>zx h.pl h.ch jk _ hk hq),h.npl,zk h.st G (λk hk hq=>zx h.st h.ch jk _ hk hq),h.nst,zk h.se G (λk hk hq=>zx h.se h.ch jk _ hk hq),h.nse,zk h.on G (λk hk hq=>zx h.on h.ch jk _ hk hq),h.non,zk h.gr G (λk hk hq=>zx h.gr h.ch jk _ hk hq),h.ngr,zk h.ba G (λk hk hq=>zx h.ba h.ch jk _ hk hq),h.nba,ho,by rw[hl,xp];rfl,zk h.sa G (λk hk hq=>zx h.sa h.ch jk _ hk hq),h.nsa,h.fl,h.dps,h.dpa,h.dsa,hX,⟨hI.se,hI.on,hI.gr,hI.ba,hI.ch.snoc (⟨hx.1.wide hT hB,hx.2.1.wide hT hB,hx.2.2.wide hT hB⟩)⟩⟩
theorem yr.other {v:zu} {L:zQ} {s:zp} (h:yr X B w v L s) (T:zo X w w'):yr X B w' v L s:=
 ⟨zE h.pl T (λq hq hm=>(h.xs q hm).2 (zu.mem_pl hq)),h.npl,zE h.st T (λq hq hm=>(h.xs q hm).2 (zu.mem_st hq)),h.nst,zE h.se T (λq hq hm=>(h.xs q hm).2 (zu.mem_se hq)),h.nse,zE h.on T (λq hq hm=>(h.xs q hm).2 (zu.mem_on hq)),h.non,zE h.gr T (λq hq hm=>(h.xs q hm).2 (zu.mem_gr hq)),h.ngr,zE h.ba T (λq hq hm=>(h.xs q hm).2 (zu.mem_ba hq)),h.nba,zE h.ch T (λq hq hm=>(h.xs q hm).2 (zu.mem_ch hq)),h.nch,zE h.sa T (λq hq hm=>(h.xs q hm).2 (zu.mem_sa hq)),h.nsa,h.fl,h.dps,h.dpa,h.dsa,Xs.size h.xs T.size,h.inn.map λ_ _ _ hx=>hx.touch T λ_ hb=>yW (.inl hb)⟩
theorem yr.sub {X':List Nat} {v:zu} {L:zQ} {s:zp} (h:yr X B w v L s) (hs:∀k∈X',k∈X):yr X' B w v L s:=
 ⟨h.pl,h.npl,h.st,h.nst,h.se,h.nse,h.on,h.non,h.gr,h.ngr,h.ba,h.nba,h.ch,h.nch,h.sa,h.nsa,h.fl,h.dps,h.dpa,h.dsa,λk hk=>h.xs k (hs k hk),h.inn.map λ_ _ _ hx=>hx.wide (zo.refl _ _) λb hb=>by
  rcases xM hb with hb|hb
  ·exact .inl (yW (.inl (hs b hb)))
  ·exact .inl (yW (.inr hb))⟩
theorem yr.box {v:zu} {L:zQ} {s:zp} (h:yr X B w v L s) (hb:xW w w') (hk:w.heap.size<=k) (a0:k<w'.heap.size):yr (k::X) B w' v L s:=by
 have h':=h.below hb;refine⟨h'.pl,h'.npl,h'.st,h'.nst,h'.se,h'.nse,h'.on,h'.non,h'.gr,h'.ngr,h'.ba,h'.nba,h'.ch,h'.nch,h'.sa,h'.nsa,h'.fl,h'.dps,h'.dpa,h'.dsa,λq hq=> ?_,h.inn.map λ_ _ _ hx=>hx.wide (zo.of_below hb) λb hm=> ?_⟩
 ·rcases List.mem_cons.1 hq with rfl|hq
  ·exact⟨a0,λhm=>by have:=(h.from _ hm).2;omega⟩
  ·exact h'.xs q hq
 ·rcases xM hm with hm|hm
  ·rcases List.mem_cons.1 hm with rfl|hm
   ·exact .inr hk
   ·exact .inl (yW (.inl hm))
  ·exact .inl (yW (.inr hm))
theorem JX {f:α->uZ} (hf:∀x,(f x).length=sz) (l:List α) (i:Nat) (x:α) (hi:i<l.length):tS (l.flatMap f) (i*sz) (f x)=(l.set i x).flatMap f:=by
 have e2:((l.take i).flatMap f).length=i*sz:=by rw[Xz hf];simp[Nat.min_eq_left (Nat.le_of_lt hi)]
 have e1:l=l.take i++l[i]::l.drop (i+1):=by rw[<-List.drop_eq_getElem_cons hi,List.take_append_drop]
 have e3:l.set i x=l.take i++x::l.drop (i+1):=by rw[List.set_eq_take_append_cons_drop,if_pos hi]
 rw[e3];have:=ke (f x) ((l.take i).flatMap f) (f l[i]) ((l.drop (i+1)).flatMap f) (by rw[hf,hf]);rw[e2] at this
 conv=>lhs;rw[e1]
 simp only[List.flatMap_append,List.flatMap_cons] at this⊢;rw[<-qh,this,qh]
def XY (w:World) (g:Nat):Nat->uZ->World
 |_,[]=>w
 |i,v::vs=>XY (w.setCell ⟨g,i,none⟩ v) g (i+1) vs
theorem ZH:∀(vs:uZ) (i:Nat) {w:World} {cs:uZ},w.ownsRow B e sz (.slice (some ⟨g,0,none⟩) n c) n cs->(XY w g i vs).ownsRow B e sz (.slice (some ⟨g,0,none⟩) n c) n (tS cs i vs)
 |[],_,_,_,h=>h
 |v::vs,i,_,_,h=>ZH vs (i+1) (vR h i v rfl).1
theorem Zd:∀(vs:uZ) (i:Nat) (w:World),zo [g] w (XY w g i vs)
 |[],_,w=>zo.refl _ w
 |v::vs,i,w=>((zo.refl [g] w).set jv).trans (Zd vs (i+1) (w.setCell ⟨g,i,none⟩ v))
theorem yr.put_se {v:zu} {L:zQ} {s:zp} (h:yr X B w v L s) (hg:v.se.a=some ⟨g,0,none⟩) (i:Nat) (hi:i<s.sems.length) {x:xS} {q:zP} (hx:Xn (X++v.blks) w x q):
  yr X B (((w.setCell ⟨g,i*3,none⟩ (uy x.free)).setCell ⟨g,i*3+1,none⟩ (uy x.limit)).setCell ⟨g,i*3+2,none⟩ (q.val)) v {L with se:=L.se.set i (x,q)} {s with sems:=s.sems.set i x}/\zo [g] w (((w.setCell ⟨g,i*3,none⟩ (uy x.free)).setCell ⟨g,i*3+1,none⟩ (uy x.limit)).setCell ⟨g,i*3+2,none⟩ (q.val)):=by
 have e:(((w.setCell ⟨g,i*3,none⟩ (uy x.free)).setCell ⟨g,i*3+1,none⟩ (uy x.limit)).setCell ⟨g,i*3+2,none⟩ (q.val))=XY w g (i*3) (YI (x,q)):=rfl;rw[e];have T:=Zd (g:=g) (YI (x,q)) (i*3) w;have hm:∀b∈[g],b∈X++v.blks:=λb hb=>by
  obtain rfl:=yh hb;exact yW (.inr (zu.mem_se (by rw[hg];rfl)))
 have b0:v.se.n=s.sems.length:=h.nse;have c0:i<L.se.length:=by rw[h.inn.se.len];exact hi
 have own:=h.se;rw[show v.se.val= .slice (some ⟨g,0,none⟩) v.se.n v.se.c by rw[<-hg]] at own;have a0:=ZH (YI (x,q)) (i*3) own;rw[JX kK L.se i (x,q) c0] at a0;rw[show(.slice (some ⟨g,0,none⟩) v.se.n v.se.c:Value)=v.se.val by rw[<-hg]] at a0;exact⟨h.set_se (by rw[hg];rfl) T i (yc.touch hx T hm) a0,T⟩
theorem yr.put_on {v:zu} {L:zQ} {s:zp} (h:yr X B w v L s) (hg:v.on.a=some ⟨g,0,none⟩) (i:Nat) (hi:i<s.onces.length) {x:xJ} {q:zP} (hx:Xm (X++v.blks) w x q):
  yr X B ((((w.setCell ⟨g,i*4,none⟩ (uy x.state)).setCell ⟨g,i*4+1,none⟩ (uy x.owner)).setCell ⟨g,i*4+2,none⟩ (uy x.value)).setCell ⟨g,i*4+3,none⟩ (q.val)) v {L with on:=L.on.set i (x,q)} {s with onces:=s.onces.set i x}/\zo [g] w ((((w.setCell ⟨g,i*4,none⟩ (uy x.state)).setCell ⟨g,i*4+1,none⟩ (uy x.owner)).setCell ⟨g,i*4+2,none⟩ (uy x.value)).setCell ⟨g,i*4+3,none⟩ (q.val)):=by
 have e:((((w.setCell ⟨g,i*4,none⟩ (uy x.state)).setCell ⟨g,i*4+1,none⟩ (uy x.owner)).setCell ⟨g,i*4+2,none⟩ (uy x.value)).setCell ⟨g,i*4+3,none⟩ (q.val))=XY w g (i*4) (uB (x,q)):=rfl;rw[e];have T:=Zd (g:=g) (uB (x,q)) (i*4) w;have hm:∀b∈[g],b∈X++v.blks:=λb hb=>by
  obtain rfl:=yh hb;exact yW (.inr (zu.mem_on (by rw[hg];rfl)))
 have b0:v.on.n=s.onces.length:=h.non;have c0:i<L.on.length:=by rw[h.inn.on.len];exact hi
 have own:=h.on;rw[show v.on.val= .slice (some ⟨g,0,none⟩) v.on.n v.on.c by rw[<-hg]] at own;have a0:=ZH (uB (x,q)) (i*4) own;rw[JX Gq L.on i (x,q) c0] at a0;rw[show(.slice (some ⟨g,0,none⟩) v.on.n v.on.c:Value)=v.on.val by rw[<-hg]] at a0;exact⟨h.set_on (by rw[hg];rfl) T i (yc.touch hx T hm) a0,T⟩
theorem yr.put_gr {v:zu} {L:zQ} {s:zp} (h:yr X B w v L s) (hg:v.gr.a=some ⟨g,0,none⟩) (i:Nat) (hi:i<s.groups.length) {x:ji} {q:zP} (hx:JK (X++v.blks) w x q):
  yr X B ((w.setCell ⟨g,i*2,none⟩ (uy x.count)).setCell ⟨g,i*2+1,none⟩ (q.val)) v {L with gr:=L.gr.set i (x,q)} {s with groups:=s.groups.set i x}/\zo [g] w ((w.setCell ⟨g,i*2,none⟩ (uy x.count)).setCell ⟨g,i*2+1,none⟩ (q.val)):=by
 have e:((w.setCell ⟨g,i*2,none⟩ (uy x.count)).setCell ⟨g,i*2+1,none⟩ (q.val))=XY w g (i*2) (Xk (x,q)):=rfl;rw[e];have T:=Zd (g:=g) (Xk (x,q)) (i*2) w;have hm:∀b∈[g],b∈X++v.blks:=λb hb=>by
  obtain rfl:=yh hb;exact yW (.inr (zu.mem_gr (by rw[hg];rfl)))
 have b0:v.gr.n=s.groups.length:=h.ngr;have c0:i<L.gr.length:=by rw[h.inn.gr.len];exact hi
 have own:=h.gr;rw[show v.gr.val= .slice (some ⟨g,0,none⟩) v.gr.n v.gr.c by rw[<-hg]] at own;have a0:=ZH (Xk (x,q)) (i*2) own;rw[JX kY L.gr i (x,q) c0] at a0;rw[show(.slice (some ⟨g,0,none⟩) v.gr.n v.gr.c:Value)=v.gr.val by rw[<-hg]] at a0;exact⟨h.set_gr (by rw[hg];rfl) T i (yc.touch hx T hm) a0,T⟩
theorem yr.put_ba {v:zu} {L:zQ} {s:zp} (h:yr X B w v L s) (hg:v.ba.a=some ⟨g,0,none⟩) (i:Nat) (hi:i<s.bars.length) {x:j6} {q:zP} (hx:Qj (X++v.blks) w x q):
  yr X B (((w.setCell ⟨g,i*3,none⟩ (uy x.parties)).setCell ⟨g,i*3+1,none⟩ (uy x.round)).setCell ⟨g,i*3+2,none⟩ (q.val)) v {L with ba:=L.ba.set i (x,q)} {s with bars:=s.bars.set i x}/\zo [g] w (((w.setCell ⟨g,i*3,none⟩ (uy x.parties)).setCell ⟨g,i*3+1,none⟩ (uy x.round)).setCell ⟨g,i*3+2,none⟩ (q.val)):=by
 have e:(((w.setCell ⟨g,i*3,none⟩ (uy x.parties)).setCell ⟨g,i*3+1,none⟩ (uy x.round)).setCell ⟨g,i*3+2,none⟩ (q.val))=XY w g (i*3) (YJ (x,q)):=rfl;rw[e];have T:=Zd (g:=g) (YJ (x,q)) (i*3) w;have hm:∀b∈[g],b∈X++v.blks:=λb hb=>by
  obtain rfl:=yh hb;exact yW (.inr (zu.mem_ba (by rw[hg];rfl)))
 have b0:v.ba.n=s.bars.length:=h.nba;have c0:i<L.ba.length:=by rw[h.inn.ba.len];exact hi
 have own:=h.ba;rw[show v.ba.val= .slice (some ⟨g,0,none⟩) v.ba.n v.ba.c by rw[<-hg]] at own;have a0:=ZH (YJ (x,q)) (i*3) own;rw[JX km L.ba i (x,q) c0] at a0;rw[show(.slice (some ⟨g,0,none⟩) v.ba.n v.ba.c:Value)=v.ba.val by rw[<-hg]] at a0;exact⟨h.set_ba (by rw[hg];rfl) T i (yc.touch hx T hm) a0,T⟩
theorem yr.put_ch {v:zu} {L:zQ} {s:zp} (h:yr X B w v L s) (hg:v.ch.a=some ⟨g,0,none⟩) (i:Nat) (hi:i<s.chans.length) {x:xi} {q:zP×zP×zP} (hx:Xp (X++v.blks) w x q):
  yr X B (((((w.setCell ⟨g,i*5,none⟩ (uy x.room)).setCell ⟨g,i*5+1,none⟩ (q.1.val)).setCell ⟨g,i*5+2,none⟩ (q.2.1.val)).setCell ⟨g,i*5+3,none⟩ (q.2.2.val)).setCell ⟨g,i*5+4,none⟩ (.bool x.closed)) v {L with ch:=L.ch.set i (x,q)} {s with chans:=s.chans.set i x}/\zo [g] w (((((w.setCell ⟨g,i*5,none⟩ (uy x.room)).setCell ⟨g,i*5+1,none⟩ (q.1.val)).setCell ⟨g,i*5+2,none⟩ (q.2.1.val)).setCell ⟨g,i*5+3,none⟩ (q.2.2.val)).setCell ⟨g,i*5+4,none⟩ (.bool x.closed)):=by
 have e:(((((w.setCell ⟨g,i*5,none⟩ (uy x.room)).setCell ⟨g,i*5+1,none⟩ (q.1.val)).setCell ⟨g,i*5+2,none⟩ (q.2.1.val)).setCell ⟨g,i*5+3,none⟩ (q.2.2.val)).setCell ⟨g,i*5+4,none⟩ (.bool x.closed))=XY w g (i*5) (ZY (x,q)):=rfl;rw[e];have T:=Zd (g:=g) (ZY (x,q)) (i*5) w;have hm:∀b∈[g],b∈X++v.blks:=λb hb=>by
  obtain rfl:=yh hb;exact yW (.inr (zu.mem_ch (by rw[hg];rfl)))
 have b0:v.ch.n=s.chans.length:=h.nch;have c0:i<L.ch.length:=by rw[h.inn.ch.len];exact hi
 have own:=h.ch;rw[show v.ch.val= .slice (some ⟨g,0,none⟩) v.ch.n v.ch.c by rw[<-hg]] at own;have a0:=ZH (ZY (x,q)) (i*5) own;rw[JX kr L.ch i (x,q) c0] at a0;rw[show(.slice (some ⟨g,0,none⟩) v.ch.n v.ch.c:Value)=v.ch.val by rw[<-hg]] at a0;exact⟨h.set_ch (by rw[hg];rfl) T i (⟨hx.1.touch T hm,hx.2.1.touch T hm,hx.2.2.touch T hm⟩) a0,T⟩
theorem yr.stat {v:zu} {L:zQ} {s:zp} (h:yr X B w v L s) (hg:v.st.a=some ⟨g,0,none⟩) (t y:Int):yr X B (w.setCell ⟨g,t.toNat,none⟩ (uy y)) v L (yw s t y)/\zo [g] w (w.setCell ⟨g,t.toNat,none⟩ (uy y)):=by
 have T:zo [g] w (w.setCell ⟨g,t.toNat,none⟩ (uy y)):=(zo.refl [g] w).set jv;have own:=h.st;rw[show v.st.val= .slice (some ⟨g,0,none⟩) v.st.n v.st.c by rw[<-hg]] at own;have R:=(vR own t.toNat (uy y) (cs':=zf (s.status.set t.toNat y)) (by simp[zf,List.map_set])).1;rw[show(.slice (some ⟨g,0,none⟩) v.st.n v.st.c:Value)=v.st.val by rw[<-hg]] at R;exact⟨h.set_st (by rw[hg];rfl) T (by rw[List.length_set];exact h.nst) R,T⟩
theorem yr.boxAll {A:List Nat} {v:zu} {L:zQ} {s:zp} (h:yr X B w v L s) (hb:xW w w') (hA:∀k∈A,w.heap.size<=k/\k<w'.heap.size):yr (A++X) B w' v L s:=by
 have h':=h.below hb;refine⟨h'.pl,h'.npl,h'.st,h'.nst,h'.se,h'.nse,h'.on,h'.non,h'.gr,h'.ngr,h'.ba,h'.nba,h'.ch,h'.nch,h'.sa,h'.nsa,h'.fl,h'.dps,h'.dpa,h'.dsa,λq hq=> ?_,h.inn.map λ_ _ _ hx=>hx.wide (zo.of_below hb) λb hm=> ?_⟩
 ·rcases xM hq with hq|hq
  ·exact⟨(hA q hq).2,λhm=>by have:=(h.from _ hm).2;have:=(hA q hq).1;omega⟩
  ·exact h'.xs q hq
 ·rcases xM hm with hm|hm
  ·rcases xM hm with hm|hm
   ·exact .inr (hA b hm).1
   ·exact .inl (yW (.inl hm))
  ·exact .inl (yW (.inr hm))
theorem uw (t ty:TypeId) {size b0:Nat} (ht:P.underlying t=some (.slice e)) (m0:(P.info? e).map (λi=>(i.zero,i.size,i.bytes))=some (some z,size,b0)) 
  (v0:z.cells.size=size) (r0:0<size) {a:uQ} {n c:Nat} {xs:uZ} (a0:w.ownsRow B e size (.slice a n c) n xs)
  {a2:uQ} {m c2:Nat} {news:uZ} (hl:news.length=m*size) (n0:Rd w a2 news) (h1:∀u∈news,u.oneCell'=true) (d0:(n+m)*b0<=140737488355328) (x0:0<b0) (l0:B<=w.heap.size):
  ∃a' c' w',(Builtin.append_ #[t,t] ty #[.slice a n c,.slice a2 m c2]).run P w= .ok (.slice a' (n+m) c') w'/\w'.ownsRow B e size (.slice a' (n+m) c') (n+m) (xs++news)/\w.grownBy w' (zj a)/\(∀k,zj a'=some k->zj a=some k\/w.heap.size<=k):=by
 obtain⟨i,hi,t0,o0,u0⟩:=info_parts m0;have p0:n+m<=maxLen:=by
  have:=Nat.le_trans (Nat.le_mul_of_pos_right (n+m) x0) d0;simp only[maxLen];omega
 cases a2 with
 |none=>
  have z0:news=[]:=by
   rcases n0 with h|⟨b,o,e',_⟩
   ·exact h
   ·cases e'
  subst z0;have hm:m=0:=by
   simp only[List.length_nil] at hl;rcases Nat.mul_eq_zero.1 hl.symm with h|h
   ·exact h
   ·omega
  subst hm;refine⟨a,c,w,jV (P:=P) (w:=w) B t ty e i size ht hi _ n xs a0 c2,by simpa using a0,World.grownBy.refl _ _,λk hk=> .inl hk⟩
 |some ad=>
  have g0:∀j u,news[j]? =some u->w.cell? (ad.add j)=some u:=by
   intro j u hj;have q0:j<news.length:=(YN.1 hj).1;obtain⟨b,o',e',hc⟩:=n0.at jq
   cases e'
   rw[Addr.add_lit,hc j q0];rw[xm,hj];rfl
  have k0:∀v' w',(Builtin.append_ #[t,t] ty #[.slice a n c,.slice (some ad) m c2]).run P w= .ok v' w'->w'.ownsRow w.heap.size e size v' (n+m) (xs++news)->w.grownBy w' none->∃a' c' w',(Builtin.append_ #[t,t] ty #[.slice a n c,.slice (some ad) m c2]).run P w= .ok (.slice a' (n+m) c') w'/\w'.ownsRow B e size (.slice a' (n+m) c') (n+m) (xs++news)/\w.grownBy w' (zj a)/\(∀k,zj a'=some k->zj a=some k\/w.heap.size<=k):=by
   intro v' w' c0 r1 r2;obtain⟨a',c',rfl⟩:=Ye r1;exact⟨a',c',w',c0,zw r1 l0,⟨r2.os,r2.tape,r2.output,r2.size,λk hk _=>r2.block k hk jv⟩,λk hk=> .inr (zy r1 k hk).1⟩
  rcases a0.2 with ⟨h',h0⟩|⟨g,cap,B0,h',hb,hg,F0,D0,E0,s0⟩
  ·simp only[Value.slice.injEq] at h';obtain⟨rfl,rfl,rfl⟩:=h';obtain⟨v',w',c0,r1,r2,_⟩:=run_append_own (P:=P) w w.heap.size t ty e i z size b0 ht hi t0 o0 u0 v0 r0 uk 0 xs (by have:=a0.1;simp only[Nat.zero_mul] at this;rw[List.eq_nil_of_length_eq_zero this];exact jf w _ e size) ad m c2 news hl g0 h1 p0 d0 yk;exact k0 v' w' c0 r1 r2
  ·simp only[Value.slice.injEq,true_and] at h';obtain⟨rfl,rfl⟩:=h';by_cases i0:n+m<=c
   ·obtain⟨j0,f0,A0,-,-,C0⟩:=Qd a0;have y0:n*size+news.length<=c*size:=by
     rw[hl,<-Nat.add_mul];exact Nat.mul_le_mul_right size i0
    have c0:=run_append_room_cells (P:=P) (w:=w) t ty e i ht hi g 0 n c ad m c2 news (by rw[o0];exact hl) g0 h1 i0
     (λj hj=>by rw[o0,Nat.zero_add,f0.cellAt _ jq,xV jq];rfl) (λj _=>f0.frozenAt _)
    rw[o0,Nat.zero_add] at c0;have R:=ZF news (n*size) w j0 f0 jq;have R2:=Uy R.1 i0;have e5:(over (n*size) news j0).take ((n+m)*size)=xs++news:=by
     unfold over;have hx:xs.length=n*size:=a0.1;rw[A0,Nat.add_mul,<-hl,<-hx,<-xp,List.take_left' rfl]
    rw[e5] at R2;exact⟨_,_,_,c0,R2,R.2,λk hk=> .inl hk⟩
   ·obtain⟨v',w',c0,r1,r2⟩:=run_append_arg_grows (P:=P) w t ty e i z size b0 ht hi t0 o0 u0 v0 r0 ⟨g,0,none⟩ n c xs a0.1 (λj u hj=>by
     have q0:j<xs.length:=(YN.1 hj).1;rw[Addr.add_lit,Nat.zero_add,a0.cellAt j (jQ a0.1)];exact hj) ad m c2 news hl g0 jq p0 d0
    exact k0 v' w' c0 r1 r2
theorem yP {wr:World} {i0:Array Oper} {rest:List Oper} {o:Oper} {ac:Act} {Q:Exit->Act->World->Prop} (l0:o.guard=none) (s x:Operand) (t:TypeId) 
  (ho:o.op= .call {callee:= .builtin .append,args:= #[s,x],argTypes:= #[t,t]})
  {B:Nat} {e:TypeId} {z:Value} {size a0:Nat} (ht:P.underlying t=some (.slice e)) (d0:(P.info? e).map (λi=>(i.zero,i.size,i.bytes))=some (some z,size,a0))
  (n0:z.cells.size=size) (m0:0<size)
  {a:uQ} {n c:Nat} {xs:uZ} (hs:ac.eval s= .slice a n c) (f0:wr.ownsRow B e size (.slice a n c) n xs)
  {a2:uQ} {m c2:Nat} {news:uZ} (hx:ac.eval x= .slice a2 m c2) (hl:news.length=m*size) (h0:Rd wr a2 news) (h1:∀u∈news,u.oneCell'=true)
  (b0:(n+m)*a0<=140737488355328) (k0:0<a0) (c0:B<=wr.heap.size)
  (h:∀a' c' w',w'.ownsRow B e size (.slice a' (n+m) c') (n+m) (xs++news)->wr.grownBy w' (zj a)->(∀k,zj a'=some k->zj a=some k\/wr.heap.size<=k)->wpList P i0 Q rest (ac.put o.dst (.slice a' (n+m) c')) w'):wpList P i0 Q (o::rest) ac wr:=by
 obtain⟨a',c',w',g0,k1,k2,k3⟩:=uw (P:=P) (c2:=c2) t o.type ht d0 n0 m0 f0 hl h0 h1 b0 k0 c0;refine wpList_plain l0 λK j0=> ?_;unfold Oper.wp;simp[execOp,ho,resolve,invoke,builtin,hs,hx,g0,Result.andThen];exact j0 _ _ (h a' c' w' k1 k2 k3)
end Go.Proofs.YtfclolgfegdfjaaGreat
namespace Go.Proofs.YtfclolgfegdfjaaGreat
variable {j:Nat} {t:Int} {α:Type}
theorem jo (l:List α) (i j:Nat) (x d:α):(l.set j x).getD i d=if i=j/\j<l.length then x else l.getD i d:=by
 simp only[xm,List.getElem?_set];by_cases h:j=i
 ·subst h;by_cases hl:j<l.length
  ·simp[hl]
  ·simp[hl]
 ·rw[if_neg h,if_neg (λe=>h e.1.symm)]
section
variable {α:Type}
theorem qD {f:Nat->List α} {e:α}:∀{n},e∈zt f n↔∃i,i<n/\e∈f i
 |0=>by simp[zt]
 |n+1=>by
  rw[zt,List.mem_append,qD];constructor
  ·rintro(⟨i,hi,h⟩|h)
   ·exact⟨i,jq,h⟩
   ·exact⟨n,jq,h⟩
  ·rintro⟨i,hi,h⟩;by_cases a0:i<n
   ·exact .inl ⟨i,a0,h⟩
   ·obtain rfl:i=n:=jq;exact .inr h
theorem uE {f g:Nat->List α}:∀{n},(∀i,i<n->f i=g i)->zt f n=zt g n
 |0,_=>rfl
 |n+1,h=>by rw[zt,zt,uE (λi hi=>h i jq),h n jq]
theorem Zy [BEq α] {f g:Nat->List α} (e:α):∀{n j},j<n->(∀i,i<n->i≠j->f i=g i)->(zt f n).count e+(g j).count e=(zt g n).count e+(f j).count e
 |0,_,h,_=>jq
 |n+1,j,hj,h=>by
  rw[zt,zt,List.count_append,List.count_append];by_cases a0:j=n
  ·subst a0;rw[uE (λi hi=>h i jq jq)];omega
  ·have:=Zy e (n:=n) (j:=j) jq (λi hi b0=>h i jq b0);rw[h n jq (λe=>a0 e.symm)];omega
end
theorem V6 (s:zp) (i:Int) (x:xS) (hi:i.toNat<s.sems.length) (e:xq):(yD (setSem s i x)).count e+(yL (s.sems.getD i.toNat yi) i.toNat).count e=(yD s).count e+(yL x i.toNat).count e:=by
 have e1:(s.sems.set i.toNat x).getD i.toNat yi=x:=by rw[jo,if_pos ⟨rfl,hi⟩]
 have h0:=Zy e (f:=λk=>yL ((s.sems.set i.toNat x).getD k yi) k) (g:=λk=>yL (s.sems.getD k yi) k) hi (λk hk a0=>by simp only[jo,if_neg (λc=>a0 c.1:¬(k=i.toNat/\i.toNat<s.sems.length))]);simp only[e1] at h0;unfold yD setSem;simp only[List.count_append,List.length_set];omega
theorem VC (s:zp) (i:Int) (x:xJ) (hi:i.toNat<s.onces.length) (e:xq):(yD (setOnce s i x)).count e+(yx (s.onces.getD i.toNat zH) i.toNat).count e=(yD s).count e+(yx x i.toNat).count e:=by
 have e1:(s.onces.set i.toNat x).getD i.toNat zH=x:=by rw[jo,if_pos ⟨rfl,hi⟩]
 have h0:=Zy e (f:=λk=>yx ((s.onces.set i.toNat x).getD k zH) k) (g:=λk=>yx (s.onces.getD k zH) k) hi (λk hk a0=>by simp only[jo,if_neg (λc=>a0 c.1:¬(k=i.toNat/\i.toNat<s.onces.length))]);simp only[e1] at h0;unfold yD setOnce;simp only[List.count_append,List.length_set];omega
theorem Qs (s:zp) (i:Int) (x:ji) (hi:i.toNat<s.groups.length) (e:xq):(yD (setGrp s i x)).count e+(xj (s.groups.getD i.toNat yH) i.toNat).count e=(yD s).count e+(xj x i.toNat).count e:=by
 have e1:(s.groups.set i.toNat x).getD i.toNat yH=x:=by rw[jo,if_pos ⟨rfl,hi⟩]
 have h0:=Zy e (f:=λk=>xj ((s.groups.set i.toNat x).getD k yH) k) (g:=λk=>xj (s.groups.getD k yH) k) hi (λk hk a0=>by simp only[jo,if_neg (λc=>a0 c.1:¬(k=i.toNat/\i.toNat<s.groups.length))]);simp only[e1] at h0;unfold yD setGrp;simp only[List.count_append,List.length_set];omega
theorem gy (s:zp) (i:Int) (x:j6) (hi:i.toNat<s.bars.length) (e:xq):(yD (setBar s i x)).count e+(xz (s.bars.getD i.toNat ye) i.toNat).count e=(yD s).count e+(xz x i.toNat).count e:=by
 have e1:(s.bars.set i.toNat x).getD i.toNat ye=x:=by rw[jo,if_pos ⟨rfl,hi⟩]
 have h0:=Zy e (f:=λk=>xz ((s.bars.set i.toNat x).getD k ye) k) (g:=λk=>xz (s.bars.getD k ye) k) hi (λk hk a0=>by simp only[jo,if_neg (λc=>a0 c.1:¬(k=i.toNat/\i.toNat<s.bars.length))]);simp only[e1] at h0;unfold yD setBar;simp only[List.count_append,List.length_set];omega
theorem Yv (s:zp) (i:Int) (x:xi) (hi:i.toNat<s.chans.length) (e:xq):(yD (setChn s i x)).count e+(yT (s.chans.getD i.toNat yq) i.toNat).count e=(yD s).count e+(yT x i.toNat).count e:=by
 have e1:(s.chans.set i.toNat x).getD i.toNat yq=x:=by rw[jo,if_pos ⟨rfl,hi⟩]
 have h0:=Zy e (f:=λk=>yT ((s.chans.set i.toNat x).getD k yq) k) (g:=λk=>yT (s.chans.getD k yq) k) hi (λk hk a0=>by simp only[jo,if_neg (λc=>a0 c.1:¬(k=i.toNat/\i.toNat<s.chans.length))]);simp only[e1] at h0;unfold yD setChn;simp only[List.count_append,List.length_set];omega
theorem Vt (s:zp) (i:Int) (x:xJ) (hi:i.toNat<s.onces.length) (e:Int×Int):(jg (setOnce s i x)).count e+(xP (s.onces.getD i.toNat zH) i.toNat).count e=(jg s).count e+(xP x i.toNat).count e:=by
 have e1:(s.onces.set i.toNat x).getD i.toNat zH=x:=by rw[jo,if_pos ⟨rfl,hi⟩]
 have h0:=Zy e (f:=λk=>xP ((s.onces.set i.toNat x).getD k zH) k) (g:=λk=>xP (s.onces.getD k zH) k) hi (λk hk a0=>by simp only[jo,if_neg (λc=>a0 c.1:¬(k=i.toNat/\i.toNat<s.onces.length))]);simp only[e1] at h0;unfold jg setOnce;simp only[List.length_set];omega
section
variable {p:Pg}
theorem Jv:∀(l:List Int) (s:zp),(goAll p s l).sems=s.sems
 |[],_=>rfl
 |t::l,s=>Jv l (jR p s t)
theorem Yu:∀(l:List Int) (s:zp),(goAll p s l).onces=s.onces
 |[],_=>rfl
 |t::l,s=>Yu l (jR p s t)
theorem YV:∀(l:List Int) (s:zp),(goAll p s l).groups=s.groups
 |[],_=>rfl
 |t::l,s=>YV l (jR p s t)
theorem qn:∀(l:List Int) (s:zp),(goAll p s l).bars=s.bars
 |[],_=>rfl
 |t::l,s=>qn l (jR p s t)
theorem XL:∀(l:List Int) (s:zp),(goAll p s l).chans=s.chans
 |[],_=>rfl
 |t::l,s=>XL l (jR p s t)
theorem j4:∀(l:List Int) (s:zp),(goAll p s l).said=s.said
 |[],_=>rfl
 |t::l,s=>j4 l (jR p s t)
theorem Uk:∀(l:List Int) (s:zp),(goAll p s l).fault=s.fault
 |[],_=>rfl
 |t::l,s=>Uk l (jR p s t)
theorem jn:∀(l:List Int) (s:zp),(goAll p s l).places.length=s.places.length
 |[],_=>rfl
 |t::l,s=>by
  have h:=jn l (jR p s t);rw[show goAll p s (t::l)=goAll p (jR p s t) l from rfl,h];simp[jR]
theorem vc:∀(l:List Int) (s:zp),(goAll p s l).status.length=s.status.length
 |[],_=>rfl
 |t::l,s=>by
  have h:=vc l (jR p s t);rw[show goAll p s (t::l)=goAll p (jR p s t) l from rfl,h];simp[jR]
theorem Jl (l:List Int) (s:zp) (t:Int):jR p (goAll p s l) t=goAll p s (l++[t]):=by
 simp[goAll,List.foldl_append]
theorem fL (l:List Int) (s:zp):yD (goAll p s l)=yD s:=by
 unfold yD;rw[Jv,Yu,YV,qn,XL]
theorem dr (l:List Int) (s:zp):jg (goAll p s l)=jg s:=by
 unfold jg;rw[Yu]
theorem Gw:∀{l:List Int} {s:zp},l.Nodup->(∀u∈l,0<=u/\u.toNat<s.places.length/\u.toNat<s.status.length)->∀t:Int,0<=t->
  (goAll p s l).places.getD t.toNat 0=(if t∈l then s.places.getD t.toNat 0+1 else s.places.getD t.toNat 0)/\
  (goAll p s l).status.getD t.toNat 0=(if t∈l then rest p t (s.places.getD t.toNat 0+1) else s.status.getD t.toNat 0)
 |[],_,_,_,t,_=>by simp[goAll]
 |u::l,s,hn,hb,t,ht=>by
  obtain⟨i0,g0,h0⟩:=hb u jv;obtain⟨d0,f0⟩:=List.nodup_cons.1 hn;have ih:=Gw (l:=l) (s:=jR p s u) f0 (λx hx=>by
   have:=hb x (List.mem_cons_of_mem _ hx);simpa[jR] using this) t ht
  rw[show goAll p s (u::l)=goAll p (jR p s u) l from rfl,ih.1,ih.2];have e1:(jR p s u).places.getD t.toNat 0=if u.toNat=t.toNat then s.places.getD u.toNat 0+1 else s.places.getD t.toNat 0:=by
   show(s.places.set u.toNat _).getD t.toNat 0=_;rw[jo];by_cases h:u.toNat=t.toNat
   ·rw[if_pos ⟨h.symm,g0⟩,if_pos h]
   ·rw[if_neg (λc=>h c.1.symm),if_neg h]
  have e2:(jR p s u).status.getD t.toNat 0=if u.toNat=t.toNat then rest p u (s.places.getD u.toNat 0+1) else s.status.getD t.toNat 0:=by
   show(s.status.set u.toNat _).getD t.toNat 0=_;rw[jo];by_cases h:u.toNat=t.toNat
   ·rw[if_pos ⟨h.symm,h0⟩,if_pos h]
   ·rw[if_neg (λc=>h c.1.symm),if_neg h]
  rw[e1,e2];by_cases a0:t=u
  ·subst a0;rw[if_neg d0,if_neg d0,if_pos rfl,if_pos rfl,if_pos jv,if_pos jv];exact⟨rfl,rfl⟩
  ·have c0:¬u.toNat=t.toNat:=λe=>a0 jq;rw[if_neg c0,if_neg c0];by_cases hl:t∈l
   ·rw[if_pos hl,if_pos hl,if_pos (List.mem_cons_of_mem _ hl),if_pos (List.mem_cons_of_mem _ hl)];exact⟨rfl,rfl⟩
   ·have b0:t∉u::l:=λh=>by
     rcases List.mem_cons.1 h with h|h
     ·exact a0 h
     ·exact hl h
    rw[if_neg hl,if_neg hl,if_neg b0,if_neg b0];exact⟨rfl,rfl⟩
structure yM (p:Pg) (s:zp):Prop where
 nse:s.sems.length=p.sems.length
 non:s.onces.length=3
 ngr:s.groups.length=p.groups.length
 nba:s.bars.length=p.barriers.length
 nch:s.chans.length=p.rooms.length
 nsa:s.said.length<=64
 flt:0<=s.fault/\s.fault<=4
 se:∀i,i<s.sems.length->Xb (s.sems.getD i yi)/\(s.sems.getD i yi).limit=p.sems.getD i 0
 on:∀i,i<s.onces.length->uF (s.onces.getD i zH)
 gr:∀i,i<s.groups.length->YY (s.groups.getD i yH)
 ba:∀i,i<s.bars.length->Jo (s.bars.getD i ye)/\(s.bars.getD i ye).parties=p.barriers.getD i 0
 ch:∀i,i<s.chans.length->ZB (s.chans.getD i yq)/\(s.chans.getD i yq).room=p.rooms.getD i 0
 sa:∀v∈s.said,0<=v/\v<=99
theorem yp.things {s:zp} (h:yp p s):yM p s:=⟨h.nse,h.non,h.ngr,h.nba,h.nch,h.nsa,h.flt,h.se,h.on,h.gr,h.ba,h.ch,h.sa⟩
theorem yM.goAll {s:zp} (h:yM p s) (l:List Int):yM p (goAll p s l):=by
 refine⟨?_,?_,?_,?_,?_,?_,?_,?_,?_,?_,?_,?_,?_⟩
 ·rw[Jv];exact h.nse
 ·rw[Yu];exact h.non
 ·rw[YV];exact h.ngr
 ·rw[qn];exact h.nba
 ·rw[XL];exact h.nch
 ·rw[j4];exact h.nsa
 ·rw[Uk];exact h.flt
 ·rw[Jv];exact h.se
 ·rw[Yu];exact h.on
 ·rw[YV];exact h.gr
 ·rw[qn];exact h.ba
 ·rw[XL];exact h.ch
 ·rw[j4];exact h.sa
theorem yM.stat {s:zp} (h:yM p s) (t v:Int):yM p (yw s t v):=⟨h.nse,h.non,h.ngr,h.nba,h.nch,h.nsa,h.flt,h.se,h.on,h.gr,h.ba,h.ch,h.sa⟩
theorem Qy {P:Nat->α->Prop} {l:List α} {d:α} (h:∀i,i<l.length->P i (l.getD i d)) {x:α} (hx:P j x):∀i,i<(l.set j x).length->P i ((l.set j x).getD i d):=by
 intro i hi;rw[List.length_set] at hi;rw[jo];by_cases e:i=j/\j<l.length
 ·rw[if_pos e,e.1];exact hx
 ·rw[if_neg e];exact h i hi
theorem yM.setSem {s:zp} (h:yM p s) {i:Int} {x:xS} (hx:Xb x/\x.limit=p.sems.getD i.toNat 0):yM p (setSem s i x):=
 ⟨by rw[<-h.nse];exact List.length_set,h.non,h.ngr,h.nba,h.nch,h.nsa,h.flt,Qy (P:=λi x=>Xb x/\x.limit=p.sems.getD i 0) h.se hx,h.on,h.gr,h.ba,h.ch,h.sa⟩
theorem yM.setOnce {s:zp} (h:yM p s) {i:Int} {x:xJ} (hx:uF x):yM p (setOnce s i x):=
 ⟨h.nse,by rw[<-h.non];exact List.length_set,h.ngr,h.nba,h.nch,h.nsa,h.flt,h.se,Qy (P:=λ_ x=>uF x) h.on hx,h.gr,h.ba,h.ch,h.sa⟩
theorem yM.setGrp {s:zp} (h:yM p s) {i:Int} {x:ji} (hx:YY x):yM p (setGrp s i x):=
 ⟨h.nse,h.non,by rw[<-h.ngr];exact List.length_set,h.nba,h.nch,h.nsa,h.flt,h.se,h.on,Qy (P:=λ_ x=>YY x) h.gr hx,h.ba,h.ch,h.sa⟩
theorem yM.setBar {s:zp} (h:yM p s) {i:Int} {x:j6} (hx:Jo x/\x.parties=p.barriers.getD i.toNat 0):yM p (setBar s i x):=
 ⟨h.nse,h.non,h.ngr,by rw[<-h.nba];exact List.length_set,h.nch,h.nsa,h.flt,h.se,h.on,h.gr,Qy (P:=λi x=>Jo x/\x.parties=p.barriers.getD i 0) h.ba hx,h.ch,h.sa⟩
theorem yM.setChn {s:zp} (h:yM p s) {i:Int} {x:xi} (hx:ZB x/\x.room=p.rooms.getD i.toNat 0):yM p (setChn s i x):=
 ⟨h.nse,h.non,h.ngr,h.nba,by rw[<-h.nch];exact List.length_set,h.nsa,h.flt,h.se,h.on,h.gr,h.ba,Qy (P:=λi x=>ZB x/\x.room=p.rooms.getD i 0) h.ch hx,h.sa⟩
theorem yM.say {s:zp} (h:yM p s) {v:Int} (hv:0<=v/\v<=99) (hn:s.said.length<64):yM p (sayIt s v):=
 ⟨h.nse,h.non,h.ngr,h.nba,h.nch,by show(s.said++[v]).length<=64;rw[xp];exact hn,h.flt,h.se,h.on,h.gr,h.ba,h.ch,λx hx=>by
  rcases xM hx with hx|hx
  ·exact h.sa x hx
  ·rw[yh hx];exact hv⟩
theorem qW (p:Pg) (t:Nat):vJ p (t:Int)=p.threads.getD t []:=rfl
theorem yp.waitS {s:zp} (h:yp p s) {u:Int} (hu:u∈eT s):(0<=u/\u<p.threads.length)/\s.places.getD u.toNat 0<(vJ p u).length/\u∉oT s/\s.status.getD u.toNat 0=1:=by
 obtain⟨e,he,rfl⟩:=yU.1 hu;obtain⟨h0,h1⟩:=h.we e he;refine⟨⟨h0,h1⟩,?_⟩;have ht:=h.th e.1.toNat jq;rw[show((e.1.toNat:Nat):Int)=e.1 by omega] at ht;obtain⟨-,-,⟨-,-,hn,-⟩|⟨hp,⟨-,hn,-⟩|⟨hs,-,ho⟩|⟨-,hn,-⟩⟩⟩:=ht
 ·exact absurd hu hn
 ·exact absurd hu hn
 ·exact⟨hp,ho,hs⟩
 ·exact absurd hu hn
theorem yp.waits {s:zp} (h:yp p s) {u:Int} (hu:u∈eT s):(0<=u/\u<p.threads.length)/\s.places.getD u.toNat 0<(vJ p u).length/\u∉oT s:=⟨(h.waitS hu).1,(h.waitS hu).2.1,(h.waitS hu).2.2.1⟩
def ZE (p:Pg) (s:zp) (t:Int) (s':zp):Prop:=∀i:Nat,i<p.threads.length->
 (s'.places.getD i 0=s.places.getD i 0/\s'.status.getD i 0=s.status.getD i 0/\(t.toNat=i->s'.fault≠0))\/
 (s'.places.getD i 0=s.places.getD i 0+1/\(s'.status.getD i 0=0\/s'.status.getD i 0=3)/\(t.toNat=i\/s.status.getD i 0=1))\/
 (t.toNat=i/\s'.places.getD i 0=s.places.getD i 0/\s.status.getD i 0=0/\(s'.status.getD i 0=1\/s'.status.getD i 0=2))
theorem yp.go {s s':zp} {l:List Int} {R:List xq} {O:List (Int×Int)} (h:yp p s) (hT:yM p s') (hp:s'.places=s.places) (hs:s'.status=s.status)
  (hE:(yD s'++R).Perm (yD s)) (hO:(jg s'++O).Perm (jg s)) (hn:l.Nodup) (hr:∀u∈l,(0<=u/\u<p.threads.length)/\s.places.getD u.toNat 0<(vJ p u).length)
  (hR:∀u∈l,u∉eT s'/\u∉oT s') (f0:∀e∈R,e.1∈l) (d0:∀e∈O,e.1∈l) {t:Int} (c0:t∈l) (hS:∀u∈l,u=t\/u∈eT s):yp p (goAll p s' l)/\ZE p s t (goAll p s' l):=by
 have hb:∀u∈l,0<=u/\u.toNat<s'.places.length/\u.toNat<s'.status.length:=λu hu=>by
  have h1:=(hr u hu).1;rw[hp,hs,h.np,h.nst];omega
 have hg:=Gw (p:=p) hn hb;have eE:=fL (p:=p) l s';have eO:=dr (p:=p) l s';have mE:∀e,e∈yD s↔e∈yD s'\/e∈R:=λe=>by rw[<-hE.mem_iff,List.mem_append]
 have mO:∀e,e∈jg s↔e∈jg s'\/e∈O:=λe=>by rw[<-hO.mem_iff,List.mem_append]
 have pE:=hE.map (·.1);have pO:=hO.map (·.1);rw[vQ] at pE pO;have g:=hT.goAll (p:=p) l;have b0:ZE p s t (goAll p s' l):=λi hi=>by
  obtain⟨g1,g2⟩:=hg (i:Int) jq;rw[hp,Int.toNat_natCast] at g1;rw[hp,hs,Int.toNat_natCast] at g2;rw[g1,g2];by_cases hm:(i:Int)∈l
  ·rw[if_pos hm,if_pos hm];refine .inr (.inl ⟨rfl,?_,?_⟩)
   ·unfold rest;split
    ·exact .inr rfl
    ·exact .inl rfl
   ·rcases hS _ hm with e|e
    ·exact .inl jq
    ·exact .inr (by have:=(h.waitS e).2.2.2;rwa [Int.toNat_natCast] at this)
  ·rw[if_neg hm,if_neg hm];exact .inl ⟨rfl,rfl,λe=>absurd (by rw[show(i:Int)=t by have:=(hr _ c0).1;omega];exact c0) hm⟩
 refine⟨?_,b0⟩;clear b0;refine⟨h.prog,by rw[jn,hp];exact h.np,by rw[vc,hs];exact h.nst,g.nse,g.non,g.ngr,g.nba,g.nch,g.nsa,g.flt,g.se,g.on,g.gr,g.ba,g.ch,g.sa,?_,?_,?_,?_,?_⟩
 ·intro e he;rw[eE] at he;exact h.we e ((mE e).2 (.inl he))
 ·intro e he;rw[eO] at he;exact h.oe e ((mO e).2 (.inl he))
 ·unfold eT;rw[eE];exact(List.nodup_append.1 (pE.nodup_iff.2 h.ne)).1
 ·unfold oT;rw[eO];exact(List.nodup_append.1 (pO.nodup_iff.2 h.no)).1
 ·intro t ht;have h1:=h.th t ht;obtain⟨g1,g2⟩:=hg (t:Int) jq;rw[hp] at g1 g2;rw[hs] at g2;have c1:eT (goAll p s' l)=eT s':=by unfold eT;rw[eE]
  have c2:oT (goAll p s' l)=oT s':=by unfold oT;rw[eO]
  unfold JF at h1⊢;rw[g1,g2,c1,c2,eE,eO];by_cases hm:(t:Int)∈l
  ·rw[if_pos hm,if_pos hm];have r1:=(hr _ hm).2;obtain⟨n1,n2⟩:=hR _ hm;refine⟨jq,jq,?_⟩;by_cases he:s.places.getD (t:Int).toNat 0+1=((vJ p t).length:Int)
   ·exact .inl ⟨he,by unfold rest;rw[if_pos he],n1,n2⟩
   ·exact .inr ⟨jq,.inl ⟨by unfold rest;rw[if_neg he],n1,n2⟩⟩
  ·rw[if_neg hm,if_neg hm];have n1:(t:Int)∉eT s->(t:Int)∉eT s':=λhq a0=>by
    obtain⟨e,he,hx⟩:=yU.1 a0;exact hq (yU.2 ⟨e,(mE e).2 (.inl he),hx⟩)
   have n2:(t:Int)∉oT s->(t:Int)∉oT s':=λhq a0=>by
    obtain⟨e,he,hx⟩:=yU.1 a0;exact hq (yU.2 ⟨e,(mO e).2 (.inl he),hx⟩)
   have eA:ya p (goAll p s' l) t=ya p s t:=by
    unfold ya;rw[g1,if_neg hm]
   rw[eA];refine⟨h1.1,h1.2.1,?_⟩;rcases h1.2.2 with ⟨a,b,c,d⟩|⟨a,⟨b,c,d⟩|⟨b,c,d⟩|⟨b,c,d,e⟩⟩
   ·exact .inl ⟨a,b,n1 c,n2 d⟩
   ·exact .inr ⟨a,.inl ⟨b,n1 c,n2 d⟩⟩
   ·refine .inr ⟨a,.inr (.inl ⟨b,?_,n2 d⟩)⟩;rcases(mE _).1 c with c|c
    ·exact c
    ·exact absurd (f0 _ c) hm
   ·refine .inr ⟨a,.inr (.inr ⟨b,n1 c,d,?_⟩)⟩;rcases(mO _).1 e with e|e
    ·exact e
    ·exact absurd (d0 _ e) hm
structure uu (p:Pg) (s:zp) (t:Int):Prop where
 rg:0<=t/\t<p.threads.length
 lt:s.places.getD t.toNat 0<(vJ p t).length
 ge:0<=s.places.getD t.toNat 0
 ne:t∉eT s
 st:(s.status.getD t.toNat 0=0/\t∉oT s)\/(s.status.getD t.toNat 0=2/\(ya p s t).kind=4/\(t,(ya p s t).on)∈jg s)
theorem mem_ready {s:zp} (h:t∈zq s):s.fault=0/\∃i:Nat,t=i/\i<s.status.length/\(s.status.getD i 0=0\/s.status.getD i 0=2):=by
 unfold zq at h;by_cases hf:s.fault=0
 ·rw[if_pos hf] at h;obtain⟨i,hi,rfl⟩:=yU.1 h;obtain⟨h1,h2⟩:=List.mem_filter.1 hi;exact⟨hf,i,rfl,List.mem_range.1 h1,by simpa using h2⟩
 ·rw[if_neg hf] at h
  cases h
theorem yp.turn {s:zp} (h:yp p s) (ht:t∈zq s):uu p s t:=by
 obtain⟨-,i,rfl,hi,hs⟩:=mem_ready ht;rw[h.nst] at hi;obtain⟨h0,h1,h2⟩:=h.th i hi;have e:((i:Nat):Int).toNat=i:=jv;rw[e] at h0 h1 h2;rcases h2 with ⟨a,b,c,d⟩|⟨a,⟨b,c,d⟩|⟨b,c,d⟩|⟨b,c,d,f⟩⟩
 ·rw[b] at hs;omega
 ·exact⟨jq,by rw[e];exact a,by rw[e];exact h0,c,.inl ⟨by rw[e];exact b,d⟩⟩
 ·rw[b] at hs;omega
 ·exact⟨jq,by rw[e];exact a,by rw[e];exact h0,c,.inr ⟨by rw[e];exact b,d,f⟩⟩
theorem yp.tell {s s':zp} {R:List xq} (h:yp p s) (ht:uu p s t) (ho:t∉oT s) (hT:yM p s') (hp:s'.places=s.places) (hs:s'.status=s.status) (hE:(yD s'++R).Perm (yD s)) (hO:jg s'=jg s):yp p (goAll p s' (R.map (·.1)++[t]))/\ZE p s t (goAll p s' (R.map (·.1)++[t])):=by
 have pE:=hE.map (·.1);rw[vQ] at pE;obtain⟨-,n2,n3⟩:=List.nodup_append.1 (pE.nodup_iff.2 h.ne);have a0:∀u∈R.map (·.1),u∈eT s:=λu hu=>pE.mem_iff.1 (yW (.inr hu));have eO:oT s'=oT s:=by unfold oT;rw[hO]
 refine h.go hT hp hs hE (O:=[]) (by rw[hO,List.append_nil]) ?_ ?_ ?_ ?_ jv jv (λu hu=>(xM hu).elim (λh=> .inr (a0 u h)) (λh=> .inl (yh h)))
 ·rw[List.nodup_append];refine⟨n2,jv,λa ha b hb e=> ?_⟩;rw[yh hb] at e;exact ht.ne (e▸a0 a ha)
 ·intro u hu;rcases xM hu with hu|hu
  ·have:=h.waits (a0 u hu);exact⟨this.1,this.2.1⟩
  ·rw[yh hu];exact⟨ht.rg,ht.lt⟩
 ·intro u hu;rw[eO];rcases xM hu with hu|hu
  ·exact⟨λhx=>n3 u hx u hu rfl,(h.waits (a0 u hu)).2.2⟩
  ·rw[yh hu];exact⟨λhx=>ht.ne (pE.mem_iff.1 (yW (.inl hx))),ho⟩
 ·intro e he;exact yW (.inl (List.mem_map_of_mem he))
theorem Qg (s:zp) (t v:Int) (u:Nat) (hl:t.toNat<s.status.length):(yw s t v).status.getD u 0=if t.toNat=u then v else s.status.getD u 0:=by
 show(s.status.set t.toNat v).getD u 0=_;rw[jo];by_cases h:t.toNat=u
 ·rw[if_pos ⟨h.symm,hl⟩,if_pos h]
 ·rw[if_neg (λc=>h c.1.symm),if_neg h]
theorem gd {s s':zp} {v:Int} (h:yp p s) (ht:uu p s t) (ho:t∉oT s) (hp:s'.places=s.places) (hs:s'.status=s.status) (hv:v=1\/v=2):ZE p s t (yw s' t v):=λi hi=>by
 rw[Qg s' t v i (by rw[hs,h.nst];have:=ht.rg;omega),hs,show(yw s' t v).places=s.places from hp];by_cases e:t.toNat=i
 ·rw[if_pos e];refine .inr (.inr ⟨e,rfl,?_,hv⟩);rcases ht.st with ⟨h0,-⟩|⟨-,-,h2⟩
  ·rw[<-e];exact h0
  ·exact absurd (yU.2 ⟨_,h2,rfl⟩) ho
 ·rw[if_neg e];exact .inl ⟨rfl,rfl,λx=>absurd x e⟩
theorem yp.wait {s s':zp} (h:yp p s) (ht:uu p s t) (ho:t∉oT s) (hT:yM p s') (hp:s'.places=s.places) (hs:s'.status=s.status) (hE:(yD s').Perm (Z3 (ya p s t) t::yD s)) (hO:jg s'=jg s):yp p (yw s' t 1)/\ZE p s t (yw s' t 1):=by
 refine⟨?_,gd h ht ho hp hs (.inl rfl)⟩;have pE:=hE.map (·.1);have mE:∀e,e∈yD s'↔e=Z3 (ya p s t) t\/e∈yD s:=λe=>by rw[hE.mem_iff,List.mem_cons]
 have g:=hT.stat t 1;have hl:t.toNat<s'.status.length:=by rw[hs,h.nst];have:=ht.rg;omega
 have eO:oT s'=oT s:=by unfold oT;rw[hO]
 refine⟨h.prog,by show s'.places.length=_;rw[hp];exact h.np,by show(s'.status.set _ _).length=_;rw[List.length_set,hs];exact h.nst,g.nse,g.non,g.ngr,g.nba,g.nch,g.nsa,g.flt,g.se,g.on,g.gr,g.ba,g.ch,g.sa,?_,?_,?_,?_,?_⟩
 ·intro e he;rcases(mE e).1 he with rfl|he
  ·exact ht.rg
  ·exact h.we e he
 ·intro e he;exact h.oe e (by rw[<-hO];exact he)
 ·show(eT s').Nodup;refine pE.nodup_iff.2 (List.nodup_cons.2 ⟨ht.ne,h.ne⟩)
 ·show(oT s').Nodup;rw[eO];exact h.no
 ·intro u hu;have h1:=h.th u hu;have gs:=Qg s' t 1 u hl;rw[hs] at gs;unfold JF at h1⊢;rw[show((u:Nat):Int).toNat=u by simp] at h1⊢;have c1:∀x,x∈eT (yw s' t 1)↔x=t\/x∈eT s:=λx=>by
   show x∈eT s'↔_;rw[show eT s'=(yD s').map (·.1) from rfl,pE.mem_iff];exact List.mem_cons
  have c2:oT (yw s' t 1)=oT s:=eO;have c3:ya p (yw s' t 1) u=ya p s u:=by
   unfold ya;rw[show(yw s' t 1).places=s'.places from rfl,hp]
  rw[show(yw s' t 1).places=s.places from hp,gs,c2,c3,show yD (yw s' t 1)=yD s' from rfl,show jg (yw s' t 1)=jg s from hO];refine⟨h1.1,h1.2.1,?_⟩;by_cases b0:t.toNat=u
  ·have a0:t=(u:Int):=by have:=ht.rg;omega
   subst b0;rw[if_pos rfl];refine .inr ⟨by rw[<-a0];exact ht.lt,.inr (.inl ⟨rfl,?_,by rw[<-a0];exact ho⟩)⟩;rw[<-a0];exact(mE _).2 (.inl rfl)
  ·rw[if_neg b0];have c0:((u:Nat):Int)≠t:=λe=>b0 jq;have n1:(u:Int)∉eT s->(u:Int)∉eT (yw s' t 1):=λhq d0=>by
    rcases(c1 _).1 d0 with hx|hx
    ·exact c0 hx
    ·exact hq hx
   rcases h1.2.2 with ⟨a,b,c,d⟩|⟨a,⟨b,c,d⟩|⟨b,c,d⟩|⟨b,c,d,e⟩⟩
   ·exact .inl ⟨a,b,n1 c,d⟩
   ·exact .inr ⟨a,.inl ⟨b,n1 c,d⟩⟩
   ·exact .inr ⟨a,.inr (.inl ⟨b,(mE _).2 (.inr c),d⟩)⟩
   ·exact .inr ⟨a,.inr (.inr ⟨b,n1 c,d,e⟩)⟩
theorem yp.own {s s':zp} (h:yp p s) (ht:uu p s t) (ho:t∉oT s) (hk:(ya p s t).kind=4) (hT:yM p s') (hp:s'.places=s.places) (hs:s'.status=s.status) (hE:(yD s').Perm (yD s)) (hO:(jg s').Perm ((t,(ya p s t).on)::jg s)):yp p (yw s' t 2)/\ZE p s t (yw s' t 2):=by
 refine⟨?_,gd h ht ho hp hs (.inr rfl)⟩;have pO:=hO.map (·.1);have pE:=hE.map (·.1);have mE:∀e,e∈yD s'↔e∈yD s:=λe=>hE.mem_iff;have mO:∀e,e∈jg s'↔e=(t,(ya p s t).on)\/e∈jg s:=λe=>by rw[hO.mem_iff,List.mem_cons]
 have g:=hT.stat t 2;have hl:t.toNat<s'.status.length:=by rw[hs,h.nst];have:=ht.rg;omega
 refine⟨h.prog,by show s'.places.length=_;rw[hp];exact h.np,by show(s'.status.set _ _).length=_;rw[List.length_set,hs];exact h.nst,g.nse,g.non,g.ngr,g.nba,g.nch,g.nsa,g.flt,g.se,g.on,g.gr,g.ba,g.ch,g.sa,?_,?_,?_,?_,?_⟩
 ·intro e he;exact h.we e ((mE e).1 he)
 ·intro e he;rcases(mO e).1 he with rfl|he
  ·exact ht.rg
  ·exact h.oe e he
 ·show(eT s').Nodup;exact pE.nodup_iff.2 h.ne
 ·show(oT s').Nodup;exact pO.nodup_iff.2 (List.nodup_cons.2 ⟨ho,h.no⟩)
 ·intro u hu;have h1:=h.th u hu;have gs:=Qg s' t 2 u hl;rw[hs] at gs;unfold JF at h1⊢;rw[show((u:Nat):Int).toNat=u by simp] at h1⊢;have c1:∀x,x∈eT (yw s' t 2)↔x∈eT s:=λx=>pE.mem_iff;have c2:∀x,x∈oT (yw s' t 2)↔x=t\/x∈oT s:=λx=>by
   show x∈oT s'↔_;rw[show oT s'=(jg s').map (·.1) from rfl,pO.mem_iff];exact List.mem_cons
  have c3:ya p (yw s' t 2) u=ya p s u:=by
   unfold ya;rw[show(yw s' t 2).places=s'.places from rfl,hp]
  rw[show(yw s' t 2).places=s.places from hp,gs,c3,show yD (yw s' t 2)=yD s' from rfl,show jg (yw s' t 2)=jg s' from rfl,c1,c2];refine⟨h1.1,h1.2.1,?_⟩;by_cases b0:t.toNat=u
  ·have a0:t=(u:Int):=by have:=ht.rg;omega
   subst b0;rw[if_pos rfl];refine .inr ⟨by rw[<-a0];exact ht.lt,.inr (.inr ⟨rfl,by rw[<-a0];exact ht.ne,by rw[<-a0];exact hk,?_⟩)⟩;rw[<-a0];exact(mO _).2 (.inl rfl)
  ·rw[if_neg b0];have c0:((u:Nat):Int)≠t:=λe=>b0 jq;have n2:(u:Int)∉oT s->¬((u:Int)=t\/(u:Int)∈oT s):=λhq d0=>by
    rcases d0 with hx|hx
    ·exact c0 hx
    ·exact hq hx
   rcases h1.2.2 with ⟨a,b,c,d⟩|⟨a,⟨b,c,d⟩|⟨b,c,d⟩|⟨b,c,d,e⟩⟩
   ·exact .inl ⟨a,b,c,n2 d⟩
   ·exact .inr ⟨a,.inl ⟨b,c,n2 d⟩⟩
   ·exact .inr ⟨a,.inr (.inl ⟨b,(mE _).2 c,n2 d⟩)⟩
   ·exact .inr ⟨a,.inr (.inr ⟨b,c,d,(mO _).2 (.inr e)⟩)⟩
theorem yp.fail {s:zp} (h:yp p s) {f:Int} (hf:1<=f/\f<=4):yp p (jt s f)/\ZE p s t (jt s f):=
 ⟨⟨h.prog,h.np,h.nst,h.nse,h.non,h.ngr,h.nba,h.nch,h.nsa,⟨Int.le_trans jk hf.1,hf.2⟩,h.se,h.on,h.gr,h.ba,h.ch,h.sa,h.we,h.oe,h.ne,h.no,h.th⟩,λ_ _=> .inl ⟨rfl,rfl,λ_=>by show f≠0;omega⟩⟩
end
end Go.Proofs.YtfclolgfegdfjaaGreat
namespace Go.Proofs.YtfclolgfegdfjaaGreat
open Go.RowKit
variable {w w' w0:World} {B n k b c:Nat} {a:uQ} {cs xs:uZ}
theorem K8 {o:Nat} {h t:uZ} (hr:Rd w (some ⟨b,o,none⟩) (h++t)) (hk:h.length=k):Rd w (some ⟨b,o+k,none⟩) t:=by
 rcases hr with h0|⟨b',o',e,hc⟩
 ·simp only[List.append_eq_nil_iff] at h0;exact .inl h0.2
 ·simp only[qy,Addr.mk.injEq,and_true] at e;obtain⟨rfl,rfl⟩:=e;refine .inr ⟨b,o+k,rfl,λj hj=> ?_⟩;have:=hc (k+j) (by rw[xp,hk];omega);rw[Nat.add_assoc,this,xm,xm,List.getElem?_append_right jq,show k+j-h.length=j by omega]
theorem Rd.far (h:Rd w a cs) (a0:cs≠[]):∀b,zj a=some b->b<w.heap.size:=by
 intro b hb;rcases h with h0|⟨b',o,rfl,hc⟩
 ·exact absurd h0 a0
 ·obtain rfl:b'=b:=by simpa[zj] using hb
  have:=hc 0 (List.length_pos_iff.2 a0);unfold World.cell? at this;rcases Nat.lt_or_ge b' w.heap.size with hl|hl
  ·exact hl
  ·rw[Array.getElem?_eq_none hl] at this;simp at this
theorem YX {q:Addr} {x:Value} (hb:Below B w w') (a0:q.block<B) (g:w.cell? q=some x):w'.cell? q=some x:=by
 have h:=hb.block q.block a0;unfold World.cell? at g⊢;rw[h];exact g
theorem VT {x:Value} (h0:Rd w0 a (x::xs)) (hl:xs.length+1=n) (hc:n<=c):
  ∃A:uQ,(∀W:World,(Instr.slice 23 (.slice a n c) (some (uy 1)) none none).run Tryz.prog W= .ok (.slice A (n-1) (c-1)) W)/\(∀W:World,Rd W a (x::xs)->Rd W A xs)/\zj A=zj a:=by
 rcases h0 with h0|⟨b,o,rfl,h0⟩
 ·cases h0
 refine⟨some (if c=1 then (⟨b,o,none⟩:Addr) else ⟨b,o+1,none⟩),λW=> ?_,λW h=> ?_,?_⟩
 ·have u1:(1:Int)<=(n:Int):=jq;have u2:(n:Int)<=(c:Int):=jq;have u3:(1:Int)<=(c:Int):=jq;go_simp;split<;>rfl
 ·by_cases h1:c=1
  ·have:xs=[]:=List.eq_nil_of_length_eq_zero jq;exact .inl this
  ·rw[if_neg h1];exact K8 (h:=[x]) h rfl
 ·by_cases h1:c=1
  ·rw[if_pos h1]
  ·rw[if_neg h1];rfl
theorem DJ {x y:Value} (h0:Rd w0 a (x::y::xs)) (hl:xs.length+2=n*2) (hc:n<=c):
  ∃A:uQ,(∀W:World,(Instr.slice 96 (.slice a n c) (some (uy 1)) none none).run Tryz.prog W= .ok (.slice A (n-1) (c-1)) W)/\(∀W:World,Rd W a (x::y::xs)->Rd W A xs)/\zj A=zj a:=by
 rcases h0 with h0|⟨b,o,rfl,h0⟩
 ·cases h0
 refine⟨some (if c=1 then (⟨b,o,none⟩:Addr) else ⟨b,o+2,none⟩),λW=> ?_,λW h=> ?_,?_⟩
 ·have u1:(1:Int)<=(n:Int):=jq;have u2:(n:Int)<=(c:Int):=jq;have u3:(1:Int)<=(c:Int):=jq;go_simp;split<;>rfl
 ·by_cases h1:c=1
  ·have:xs=[]:=List.eq_nil_of_length_eq_zero jq;exact .inl this
  ·rw[if_neg h1];exact K8 (h:=[x,y]) h rfl
 ·by_cases h1:c=1
  ·rw[if_pos h1]
  ·rw[if_neg h1];rfl
end Go.Proofs.YtfclolgfegdfjaaGreat
