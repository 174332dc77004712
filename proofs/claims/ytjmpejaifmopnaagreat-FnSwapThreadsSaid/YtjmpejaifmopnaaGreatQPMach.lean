/- Part of a proof: Mach MachR MachP MachK. -/
import Derived.Test.YtjmpejaifmopnaaGreatQBaseA
set_option maxRecDepth 100000
set_option maxHeartbeats 16000000
namespace Go.Proofs.YtjmpejaifmopnaaGreat
structure SemD where
 free:Int
 limit:Int
 queue:List (Int×Int)
structure OnceD where
 state:Int
 owner:Int
 value:Int
 waits:List Int
structure GrpD where
 count:Int
 waits:List Int
structure BarD where
 parties:Int
 round:Int
 waits:List Int
structure ChnD where
 room:Int
 items:List Int
 senders:List (Int×Int)
 getters:List Int
 closed:Bool
structure StD where
 places:List Int
 status:List Int
 sems:List SemD
 onces:List OnceD
 groups:List GrpD
 bars:List BarD
 chans:List ChnD
 said:List Int
 fault:Int
def noSem:SemD:=⟨0,0,[]⟩
def noOnce:OnceD:=⟨0,0,0,[]⟩
def noGrp:GrpD:=⟨0,[]⟩
def noBar:BarD:=⟨0,0,[]⟩
def noChn:ChnD:=⟨0,[],[],[],false⟩
def thr6 (l:List Int):Prop:=l.length≤6∧(∀t∈l,0≤t∧t<6)∧l.Nodup
def semOk (s:SemD):Prop:=(1≤s.limit∧s.limit≤9)∧(0≤s.free∧s.free≤s.limit)∧(∀w∈s.queue,1≤w.2∧w.2≤s.limit)∧thr6 (s.queue.map (·.1))∧(∀w q,s.queue=w::q→s.free<w.2)
def onceOk (o:OnceD):Prop:=
 (o.state=0∧o.owner=0∧o.value=0∧o.waits=[])∨(o.state=1∧(0≤o.owner∧o.owner<6)∧o.value=0∧thr6 o.waits∧o.owner∉o.waits)∨(o.state=2∧(0≤o.owner∧o.owner<6)∧(0≤o.value∧o.value≤99)∧o.waits=[])
def grpOk (g:GrpD):Prop:=(0≤g.count∧g.count≤99)∧thr6 g.waits∧(g.count=0→g.waits=[])
def barOk (b:BarD):Prop:=(1≤b.parties∧b.parties≤6)∧(0≤b.round∧b.round≤9999)∧thr6 b.waits∧(b.waits.length:Int)<b.parties
def chnOk (c:ChnD):Prop:=(0≤c.room∧c.room≤4)∧(c.items.length:Int)≤c.room∧(∀v∈c.items,0≤v∧v≤99)∧(∀l∈c.senders,0≤l.2∧l.2≤99)∧thr6 (c.senders.map (·.1)++c.getters)∧
 (c.senders≠[]→(c.items.length:Int)=c.room∧c.getters=[]∧c.closed=false)∧(c.getters≠[]→c.items=[]∧c.closed=false)
def semAcq (s:SemD) (t c:Int):SemD×Bool:=if s.queue=[]∧c≤s.free then (⟨s.free-c,s.limit,s.queue⟩,true) else (⟨s.free,s.limit,s.queue++[(t,c)]⟩,false)
def serve (f:Int):List (Int×Int)→Int×List Int×List (Int×Int)
 |[]=>(f,[],[])
 |w::q=>if w.2≤f then ((serve (f-w.2) q).1,w.1::(serve (f-w.2) q).2.1,(serve (f-w.2) q).2.2) else (f,[],w::q)
def semRel (s:SemD) (c:Int):Option (SemD×List Int):=if c≤s.limit-s.free then some (⟨(serve (s.free+c) s.queue).1,s.limit,(serve (s.free+c) s.queue).2.2⟩,(serve (s.free+c) s.queue).2.1) else none
def onceEnter (o:OnceD) (t:Int):OnceD:=if o.state=0 then ⟨1,t,0,[]⟩ else if o.state=1 then ⟨1,o.owner,0,o.waits++[t]⟩ else o
def onceEnd (t v:Int):OnceD:=⟨2,t,v,[]⟩
def grpAdd (g:GrpD) (n:Int):Option (GrpD×List Int):=if 0≤g.count+n∧g.count+n≤99 then (if g.count+n=0 then some (⟨0,[]⟩,g.waits) else some (⟨g.count+n,g.waits⟩,[])) else none
def grpWait (g:GrpD) (t:Int):GrpD×Bool:=if g.count=0 then (g,true) else (⟨g.count,g.waits++[t]⟩,false)
def barCome (b:BarD) (t:Int):BarD×List Int:=if (b.waits.length:Int)+1<b.parties then (⟨b.parties,b.round,b.waits++[t]⟩,[]) else (⟨b.parties,b.round+1,[]⟩,b.waits++[t])
def chnSend (c:ChnD) (t v:Int):Option (ChnD×List Int×Bool):=
 if c.closed=true then none else match c.getters with
 |g::gs=>some (⟨c.room,c.items,c.senders,gs,c.closed⟩,[g],true)
 |[]=>if (c.items.length:Int)<c.room then some (⟨c.room,c.items++[v],c.senders,c.getters,c.closed⟩,[],true) else some (⟨c.room,c.items,c.senders++[(t,v)],c.getters,c.closed⟩,[],false)
def chnGet (c:ChnD) (t:Int):ChnD×Int×Int×List Int:=
 match c.senders with
 |l::ls=>(match c.items with
  |x::xs=>(⟨c.room,xs++[l.2],ls,c.getters,c.closed⟩,x,1,[l.1])
  |[]=>(⟨c.room,[],ls,c.getters,c.closed⟩,l.2,1,[l.1]))
 |[]=>(match c.items with
  |x::xs=>(⟨c.room,xs,[],c.getters,c.closed⟩,x,1,[])
  |[]=>if c.closed=true then (c,0,2,[]) else (⟨c.room,[],[],c.getters++[t],c.closed⟩,0,0,[]))
def chnClose (c:ChnD):Option (ChnD×List Int):=if c.closed=true∨c.senders≠[] then none else some (⟨c.room,c.items,c.senders,[],true⟩,c.getters)
def opsOf (p:Pg) (t:Int):List OpD:=p.threads.getD t.toNat []
def rest (p:Pg) (t at_:Int):Int:=if at_=(opsOf p t).length then 3 else 0
def goOn (p:Pg) (s:StD) (t:Int):StD:={s with places:=s.places.set t.toNat (s.places.getD t.toNat 0+1),status:=s.status.set t.toNat (rest p t (s.places.getD t.toNat 0+1))}
def goAll (p:Pg) (s:StD) (l:List Int):StD:=l.foldl (goOn p) s
def setStat (s:StD) (t v:Int):StD:={s with status:=s.status.set t.toNat v}
def sayIt (s:StD) (v:Int):StD:={s with said:=s.said++[v]}
def faultIt (s:StD) (f:Int):StD:={s with fault:=f}
def opAt (p:Pg) (s:StD) (t:Int):OpD:=(opsOf p t).getD (s.places.getD t.toNat 0).toNat noOp
def setSem (s:StD) (i:Int) (x:SemD):StD:={s with sems:=s.sems.set i.toNat x}
def setOnce (s:StD) (i:Int) (x:OnceD):StD:={s with onces:=s.onces.set i.toNat x}
def setGrp (s:StD) (i:Int) (x:GrpD):StD:={s with groups:=s.groups.set i.toNat x}
def setBar (s:StD) (i:Int) (x:BarD):StD:={s with bars:=s.bars.set i.toNat x}
def setChn (s:StD) (i:Int) (x:ChnD):StD:={s with chans:=s.chans.set i.toNat x}
def either (p:Pg) (s:StD) (t:Int) (b:Bool):StD:=if b=true then goOn p s t else setStat s t 1
def doSem (p:Pg) (s:StD) (t:Int) (o:OpD):StD:=either p (setSem s o.on (semAcq (s.sems.getD o.on.toNat noSem) t o.arg).1) t (semAcq (s.sems.getD o.on.toNat noSem) t o.arg).2
def doRel (p:Pg) (s:StD) (t:Int) (o:OpD):StD:=match semRel (s.sems.getD o.on.toNat noSem) o.arg with
 |none=>faultIt s 1
 |some (x,l)=>goAll p (setSem s o.on x) (l++[t])
def doOnce (p:Pg) (s:StD) (t:Int) (o:OpD):StD:=
 if s.status.getD t.toNat 0=2 then goAll p (setOnce s o.on (onceEnd t o.arg)) ((s.onces.getD o.on.toNat noOnce).waits++[t])
 else if (s.onces.getD o.on.toNat noOnce).state=0 then setStat (setOnce s o.on (onceEnter (s.onces.getD o.on.toNat noOnce) t)) t 2
 else if (s.onces.getD o.on.toNat noOnce).state=1 then setStat (setOnce s o.on (onceEnter (s.onces.getD o.on.toNat noOnce) t)) t 1
 else goOn p s t
def doAdd (p:Pg) (s:StD) (t:Int) (o:OpD):StD:=match grpAdd (s.groups.getD o.on.toNat noGrp) o.arg with
 |none=>faultIt s 2
 |some (x,l)=>goAll p (setGrp s o.on x) (l++[t])
def doWait (p:Pg) (s:StD) (t:Int) (o:OpD):StD:=either p (setGrp s o.on (grpWait (s.groups.getD o.on.toNat noGrp) t).1) t (grpWait (s.groups.getD o.on.toNat noGrp) t).2
def doCome (p:Pg) (s:StD) (t:Int) (o:OpD):StD:=
 if (barCome (s.bars.getD o.on.toNat noBar) t).2=[] then setStat (setBar s o.on (barCome (s.bars.getD o.on.toNat noBar) t).1) t 1
 else goAll p (setBar s o.on (barCome (s.bars.getD o.on.toNat noBar) t).1) (barCome (s.bars.getD o.on.toNat noBar) t).2
def doSend (p:Pg) (s:StD) (t:Int) (o:OpD):StD:=match chnSend (s.chans.getD o.on.toNat noChn) t o.arg with
 |none=>faultIt s 3
 |some (x,l,b)=>either p (goAll p (if l=[] then setChn s o.on x else sayIt (setChn s o.on x) o.arg) l) t b
def doGet (p:Pg) (s:StD) (t:Int) (o:OpD):StD:=
 if (chnGet (s.chans.getD o.on.toNat noChn) t).2.2.1=0 then setStat (setChn s o.on (chnGet (s.chans.getD o.on.toNat noChn) t).1) t 1
 else goAll p (if (chnGet (s.chans.getD o.on.toNat noChn) t).2.2.1=1 then sayIt (setChn s o.on (chnGet (s.chans.getD o.on.toNat noChn) t).1) (chnGet (s.chans.getD o.on.toNat noChn) t).2.1 else setChn s o.on (chnGet (s.chans.getD o.on.toNat noChn) t).1) ((chnGet (s.chans.getD o.on.toNat noChn) t).2.2.2++[t])
def doClose (p:Pg) (s:StD) (t:Int) (o:OpD):StD:=match chnClose (s.chans.getD o.on.toNat noChn) with
 |none=>faultIt s 4
 |some (x,l)=>goAll p (setChn s o.on x) (l++[t])
def stepD (p:Pg) (s:StD) (t:Int):StD:=
 if (opAt p s t).kind=1 then goOn p (sayIt s (opAt p s t).arg) t
 else if (opAt p s t).kind=2 then doSem p s t (opAt p s t)
 else if (opAt p s t).kind=3 then doRel p s t (opAt p s t)
 else if (opAt p s t).kind=4 then doOnce p s t (opAt p s t)
 else if (opAt p s t).kind=5 then doAdd p s t (opAt p s t)
 else if (opAt p s t).kind=6 then doWait p s t (opAt p s t)
 else if (opAt p s t).kind=7 then doCome p s t (opAt p s t)
 else if (opAt p s t).kind=8 then doSend p s t (opAt p s t)
 else if (opAt p s t).kind=9 then doGet p s t (opAt p s t)
 else doClose p s t (opAt p s t)
abbrev Ent:=Int×Int×Int×Int
def semEn (x:SemD) (i:Nat):List Ent:=x.queue.map fun w=>(w.1,2,(i:Int),w.2)
def onceEn (x:OnceD) (i:Nat):List Ent:=x.waits.map fun t=>(t,4,(i:Int),0)
def grpEn (x:GrpD) (i:Nat):List Ent:=x.waits.map fun t=>(t,6,(i:Int),0)
def barEn (x:BarD) (i:Nat):List Ent:=x.waits.map fun t=>(t,7,(i:Int),0)
def chnEn (x:ChnD) (i:Nat):List Ent:=(x.senders.map fun w=>(w.1,8,(i:Int),w.2))++x.getters.map fun t=>(t,9,(i:Int),0)
def allE {α:Type} (f:Nat→List α):Nat→List α
 |0=>[]
 |n+1=>allE f n++f n
def ents (s:StD):List Ent:=allE (fun i=>semEn (s.sems.getD i noSem) i) s.sems.length++(allE (fun i=>onceEn (s.onces.getD i noOnce) i) s.onces.length++(allE (fun i=>grpEn (s.groups.getD i noGrp) i) s.groups.length++(allE (fun i=>barEn (s.bars.getD i noBar) i) s.bars.length++allE (fun i=>chnEn (s.chans.getD i noChn) i) s.chans.length)))
def ownEn (x:OnceD) (i:Nat):List (Int×Int):=if x.state=1 then [(x.owner,(i:Int))] else []
def owns (s:StD):List (Int×Int):=allE (fun i=>ownEn (s.onces.getD i noOnce) i) s.onces.length
def eT (s:StD):List Int:=(ents s).map (·.1)
def oT (s:StD):List Int:=(owns s).map (·.1)
def want (o:OpD) (t:Int):Ent:=(t,o.kind,o.on,if o.kind=2∨o.kind=8 then o.arg else 0)
def thOk (p:Pg) (s:StD) (t:Int):Prop:=
 0≤s.places.getD t.toNat 0∧s.places.getD t.toNat 0≤(opsOf p t).length∧
 ((s.places.getD t.toNat 0=(opsOf p t).length∧s.status.getD t.toNat 0=3∧t∉eT s∧t∉oT s)∨
 (s.places.getD t.toNat 0<(opsOf p t).length∧
  ((s.status.getD t.toNat 0=0∧t∉eT s∧t∉oT s)∨(s.status.getD t.toNat 0=1∧want (opAt p s t) t∈ents s∧t∉oT s)∨(s.status.getD t.toNat 0=2∧t∉eT s∧(opAt p s t).kind=4∧(t,(opAt p s t).on)∈owns s))))
structure Fits (p:Pg) (s:StD):Prop where
 prog:progValid p=true
 np:s.places.length=p.threads.length
 nst:s.status.length=p.threads.length
 nse:s.sems.length=p.sems.length
 non:s.onces.length=3
 ngr:s.groups.length=p.groups.length
 nba:s.bars.length=p.barriers.length
 nch:s.chans.length=p.rooms.length
 nsa:s.said.length≤64
 flt:0≤s.fault∧s.fault≤4
 se:∀i,i<s.sems.length→semOk (s.sems.getD i noSem)∧(s.sems.getD i noSem).limit=p.sems.getD i 0
 on:∀i,i<s.onces.length→onceOk (s.onces.getD i noOnce)
 gr:∀i,i<s.groups.length→grpOk (s.groups.getD i noGrp)
 ba:∀i,i<s.bars.length→barOk (s.bars.getD i noBar)∧(s.bars.getD i noBar).parties=p.barriers.getD i 0
 ch:∀i,i<s.chans.length→chnOk (s.chans.getD i noChn)∧(s.chans.getD i noChn).room=p.rooms.getD i 0
 sa:∀v∈s.said,0≤v∧v≤99
 we:∀e∈ents s,0≤e.1∧e.1<p.threads.length
 oe:∀e∈owns s,0≤e.1∧e.1<p.threads.length
 ne:(eT s).Nodup
 no:(oT s).Nodup
 th:∀t:Nat,t<p.threads.length→thOk p s t
def readyOf (s:StD):List Int:=if s.fault=0 then ((List.range s.status.length).filter fun i=>decide (s.status.getD i 0=0∨s.status.getD i 0=2)).map (fun i:Nat=>(i:Int)) else []
def startOf (p:Pg):StD:=⟨p.threads.map fun _=>0,p.threads.map fun t=>if t.length=0 then 3 else 0,p.sems.map fun n=>⟨n,n,[]⟩,List.replicate 3 noOnce,p.groups.map fun n=>⟨n,[]⟩,p.barriers.map fun n=>⟨n,0,[]⟩,p.rooms.map fun n=>⟨n,[],[],[],false⟩,[],0⟩
end Go.Proofs.YtjmpejaifmopnaaGreat
namespace Go.Proofs.YtjmpejaifmopnaaGreat
open Go.RowKit
structure SlV where
 a:Option Addr
 n:Nat
 c:Nat
abbrev SlV.val (s:SlV):Value:= .slice s.a s.n s.c
def nilV:SlV:=⟨none,0,0⟩
structure SlR (S:List Nat) (w:World) (s:SlV) (cs:List Value) (k:Nat):Prop where
 len:s.n=k
 rd:Rd w s.a cs
 far:cs=[]∨∀b,rowOf s.a=some b→b∉S
 cap:s.n≤s.c
theorem SlR.touch {S T:List Nat} {w w':World} {s:SlV} {cs:List Value} {k:Nat} (h:SlR S w s cs k) (t:Touch T w w') (hT:∀b∈T,b∈S):SlR S w' s cs k:=by
 refine⟨h.len,?_,h.far,h.cap⟩
 rcases h.rd with h0|⟨b,o,e,hc⟩
 ·exact .inl h0
 ·rcases h.far with h0|hf
  ·exact .inl h0
  ·exact .inr ⟨b,o,e,fun j hj=>cell_touch t (hc j hj) (fun hb=>hf b (by rw[e];rfl) (hT b hb))⟩
theorem SlR.below {S:List Nat} {w w':World} {s:SlV} {cs:List Value} {k:Nat} (h:SlR S w s cs k) (hb:Below w.heap.size w w'):SlR S w' s cs k:=⟨h.len,h.rd.below hb,h.far,h.cap⟩
theorem SlR.free {S:List Nat} {w:World} {s:SlV} {cs:List Value} {k:Nat} (h:SlR S w s cs k):SlR [] w s cs k:=⟨h.len,h.rd,.inr (fun _ _=>by simp),h.cap⟩
theorem SlR.nil (S:List Nat) (w:World):SlR S w nilV [] 0:=⟨rfl,.inl rfl,.inl rfl,Nat.le_refl _⟩
def structT:List TypeId:=[83,96,86,89,93,38,26]
structure SlN (w w':World) (s:SlV) (cs:List Value) (k:Nat):Prop where
 len:s.n=k
 rd:Rd w' s.a cs
 new:cs=[]∨∀b,rowOf s.a=some b→w.heap.size≤b
 cap:s.n≤s.c
 ty:cs=[]∨∀b,rowOf s.a=some b→∃cur T fr,w'.heap[b]? =some (.cells cur T fr)∧T∉structT
theorem SlN.r {w w':World} {s:SlV} {cs:List Value} {k:Nat} (h:SlN w w' s cs k) {S:List Nat} (hS:∀b∈S,b<w.heap.size):SlR S w' s cs k:=
 ⟨h.len,h.rd,h.new.imp id (fun h b hb hm=>by have:=h b hb;have:=hS b hm;omega),h.cap⟩
theorem SlN.below {w w' w2:World} {s:SlV} {cs:List Value} {k:Nat} (h:SlN w w' s cs k) (hb:Below w'.heap.size w' w2):SlN w w2 s cs k:=⟨h.len,h.rd.below hb,h.new,h.cap,h.ty.imp id (fun h b hb'=>by
 obtain⟨cur,T,fr,e,ht⟩:=h b hb'
 exact⟨cur,T,fr,(hb.block b (Array.getElem?_eq_some_iff.1 e).1).trans e,ht⟩)⟩
theorem SlN.mono {w0 w w':World} {s:SlV} {cs:List Value} {k:Nat} (h:SlN w w' s cs k) (hb:w0.heap.size≤w.heap.size):SlN w0 w' s cs k:=⟨h.len,h.rd,h.new.imp id (fun h b hb'=>by have:=h b hb';omega),h.cap,h.ty⟩
theorem owns_typed {w:World} {B:Nat} {e:TypeId} {sz n c:Nat} {a:Option Addr} {cs:List Value} (h:w.ownsRow B e sz (.slice a n c) n cs):∀b,rowOf a=some b→∃cur fr,w.heap[b]? =some (.cells cur e fr):=by
 intro b hb
 rcases h.2 with ⟨h1,h0⟩|⟨g,cap,cur,h1,_,hg,_⟩
 ·simp only[Value.slice.injEq] at h1
  rw[h1.1] at hb;cases hb
 ·simp only[Value.slice.injEq,true_and] at h1
  obtain⟨rfl,rfl⟩:=h1
  obtain rfl:g=b:=by simpa[rowOf] using hb
  exact⟨_,_,hg⟩
theorem SlN.of_owns {w0 w:World} {B:Nat} {e:TypeId} {sz n c:Nat} {a:Option Addr} {cs:List Value} (h:w.ownsRow B e sz (.slice a n c) n cs) (hB:w0.heap.size≤B) (he:e∉structT:=by decide):SlN w0 w ⟨a,n,c⟩ cs n:=
 ⟨rfl,Rd.of_owns h,.inr (fun b hb=>by have:=(owns_row h b hb).1;omega),(owns_cap h).1,.inr fun b hb=>by
  obtain⟨cur,fr,e1⟩:=owns_typed h b hb
  exact⟨cur,e,fr,e1,he⟩⟩
theorem SlN.nil (w w':World):SlN w w' nilV [] 0:=⟨rfl,.inl rfl,.inl rfl,Nat.le_refl _,.inl rfl⟩
def pair (x:Int×Int):List Value:=[.int .i64 x.1,.int .i64 x.2]
theorem pair_len (x:Int×Int):(pair x).length=2:=rfl
abbrev pairs (l:List (Int×Int)):List Value:=l.flatMap pair
theorem Rd.pair {w:World} {a:Option Addr} {l:List (Int×Int)} (h:Rd w a (pairs l)) (hne:0<l.length):
  ∃b o,a=some ⟨b,o,none⟩∧∀j,j<l.length→w.cell? ⟨b,o+j*2,none⟩=some (.int .i64 (l.getD j (0,0)).1)∧w.cell? ⟨b,o+j*2+1,none⟩=some (.int .i64 (l.getD j (0,0)).2):=by
 obtain⟨b,o,e,hc⟩:=h.flat pair_len (0,0) hne (by decide)
 exact⟨b,o,e,fun j hj=>⟨by simpa[Go.Proofs.YtjmpejaifmopnaaGreat.pair] using hc j hj 0 (by decide),by simpa[Go.Proofs.YtjmpejaifmopnaaGreat.pair] using hc j hj 1 (by decide)⟩⟩
abbrev semV (x:SemD) (s:SlV):Value:= .agg #[.int .i64 x.free,.int .i64 x.limit,s.val]
abbrev onceV (x:OnceD) (s:SlV):Value:= .agg #[.int .i64 x.state,.int .i64 x.owner,.int .i64 x.value,s.val]
abbrev grpV (x:GrpD) (s:SlV):Value:= .agg #[.int .i64 x.count,s.val]
abbrev barV (x:BarD) (s:SlV):Value:= .agg #[.int .i64 x.parties,.int .i64 x.round,s.val]
abbrev chnV (x:ChnD) (i s g:SlV):Value:= .agg #[.int .i64 x.room,i.val,s.val,g.val,.bool x.closed]
end Go.Proofs.YtjmpejaifmopnaaGreat
namespace Go.Proofs.YtjmpejaifmopnaaGreat
theorem getD_set {α:Type} (l:List α) (i j:Nat) (x d:α):(l.set j x).getD i d=if i=j∧j<l.length then x else l.getD i d:=by
 simp only[List.getD_eq_getElem?_getD,List.getElem?_set]
 by_cases h:j=i
 ·subst h
  by_cases hl:j<l.length
  ·simp[hl]
  ·simp[hl]
 ·rw[if_neg h,if_neg (fun e=>h e.1.symm)]
section
variable {α:Type}
theorem mem_allE {f:Nat→List α} {e:α}:∀{n},e∈allE f n↔∃i,i<n∧e∈f i
 |0=>by simp[allE]
 |n+1=>by
  rw[allE,List.mem_append,mem_allE]
  constructor
  ·rintro(⟨i,hi,h⟩|h)
   ·exact⟨i,by omega,h⟩
   ·exact⟨n,by omega,h⟩
  ·rintro⟨i,hi,h⟩
   by_cases hin:i<n
   ·exact .inl ⟨i,hin,h⟩
   ·obtain rfl:i=n:=by omega
    exact .inr h
theorem allE_congr {f g:Nat→List α}:∀{n},(∀i,i<n→f i=g i)→allE f n=allE g n
 |0,_=>rfl
 |n+1,h=>by rw[allE,allE,allE_congr (fun i hi=>h i (by omega)),h n (by omega)]
theorem allE_count [BEq α] {f g:Nat→List α} (e:α):∀{n j},j<n→(∀i,i<n→i≠j→f i=g i)→(allE f n).count e+(g j).count e=(allE g n).count e+(f j).count e
 |0,_,h,_=>by omega
 |n+1,j,hj,h=>by
  rw[allE,allE,List.count_append,List.count_append]
  by_cases hjn:j=n
  ·subst hjn
   rw[allE_congr (fun i hi=>h i (by omega) (by omega))]
   omega
  ·have:=allE_count e (n:=n) (j:=j) (by omega) (fun i hi hij=>h i (by omega) hij)
   rw[h n (by omega) (fun e=>hjn e.symm)]
   omega
end
theorem ents_setSem (s:StD) (i:Int) (x:SemD) (hi:i.toNat<s.sems.length) (e:Ent):(ents (setSem s i x)).count e+(semEn (s.sems.getD i.toNat noSem) i.toNat).count e=(ents s).count e+(semEn x i.toNat).count e:=by
 have e1:(s.sems.set i.toNat x).getD i.toNat noSem=x:=by rw[getD_set,if_pos ⟨rfl,hi⟩]
 have h0:=allE_count e (f:=fun k=>semEn ((s.sems.set i.toNat x).getD k noSem) k) (g:=fun k=>semEn (s.sems.getD k noSem) k) hi (fun k hk hkj=>by simp only[getD_set,if_neg (fun c=>hkj c.1:¬(k=i.toNat∧i.toNat<s.sems.length))])
 simp only[e1] at h0
 unfold ents setSem
 simp only[List.count_append,List.length_set]
 omega
theorem ents_setOnce (s:StD) (i:Int) (x:OnceD) (hi:i.toNat<s.onces.length) (e:Ent):(ents (setOnce s i x)).count e+(onceEn (s.onces.getD i.toNat noOnce) i.toNat).count e=(ents s).count e+(onceEn x i.toNat).count e:=by
 have e1:(s.onces.set i.toNat x).getD i.toNat noOnce=x:=by rw[getD_set,if_pos ⟨rfl,hi⟩]
 have h0:=allE_count e (f:=fun k=>onceEn ((s.onces.set i.toNat x).getD k noOnce) k) (g:=fun k=>onceEn (s.onces.getD k noOnce) k) hi (fun k hk hkj=>by simp only[getD_set,if_neg (fun c=>hkj c.1:¬(k=i.toNat∧i.toNat<s.onces.length))])
 simp only[e1] at h0
 unfold ents setOnce
 simp only[List.count_append,List.length_set]
 omega
theorem ents_setGrp (s:StD) (i:Int) (x:GrpD) (hi:i.toNat<s.groups.length) (e:Ent):(ents (setGrp s i x)).count e+(grpEn (s.groups.getD i.toNat noGrp) i.toNat).count e=(ents s).count e+(grpEn x i.toNat).count e:=by
 have e1:(s.groups.set i.toNat x).getD i.toNat noGrp=x:=by rw[getD_set,if_pos ⟨rfl,hi⟩]
 have h0:=allE_count e (f:=fun k=>grpEn ((s.groups.set i.toNat x).getD k noGrp) k) (g:=fun k=>grpEn (s.groups.getD k noGrp) k) hi (fun k hk hkj=>by simp only[getD_set,if_neg (fun c=>hkj c.1:¬(k=i.toNat∧i.toNat<s.groups.length))])
 simp only[e1] at h0
 unfold ents setGrp
 simp only[List.count_append,List.length_set]
 omega
theorem ents_setBar (s:StD) (i:Int) (x:BarD) (hi:i.toNat<s.bars.length) (e:Ent):(ents (setBar s i x)).count e+(barEn (s.bars.getD i.toNat noBar) i.toNat).count e=(ents s).count e+(barEn x i.toNat).count e:=by
 have e1:(s.bars.set i.toNat x).getD i.toNat noBar=x:=by rw[getD_set,if_pos ⟨rfl,hi⟩]
 have h0:=allE_count e (f:=fun k=>barEn ((s.bars.set i.toNat x).getD k noBar) k) (g:=fun k=>barEn (s.bars.getD k noBar) k) hi (fun k hk hkj=>by simp only[getD_set,if_neg (fun c=>hkj c.1:¬(k=i.toNat∧i.toNat<s.bars.length))])
 simp only[e1] at h0
 unfold ents setBar
 simp only[List.count_append,List.length_set]
 omega
theorem ents_setChn (s:StD) (i:Int) (x:ChnD) (hi:i.toNat<s.chans.length) (e:Ent):(ents (setChn s i x)).count e+(chnEn (s.chans.getD i.toNat noChn) i.toNat).count e=(ents s).count e+(chnEn x i.toNat).count e:=by
 have e1:(s.chans.set i.toNat x).getD i.toNat noChn=x:=by rw[getD_set,if_pos ⟨rfl,hi⟩]
 have h0:=allE_count e (f:=fun k=>chnEn ((s.chans.set i.toNat x).getD k noChn) k) (g:=fun k=>chnEn (s.chans.getD k noChn) k) hi (fun k hk hkj=>by simp only[getD_set,if_neg (fun c=>hkj c.1:¬(k=i.toNat∧i.toNat<s.chans.length))])
 simp only[e1] at h0
 unfold ents setChn
 simp only[List.count_append,List.length_set]
 omega
theorem owns_setOnce (s:StD) (i:Int) (x:OnceD) (hi:i.toNat<s.onces.length) (e:Int×Int):(owns (setOnce s i x)).count e+(ownEn (s.onces.getD i.toNat noOnce) i.toNat).count e=(owns s).count e+(ownEn x i.toNat).count e:=by
 have e1:(s.onces.set i.toNat x).getD i.toNat noOnce=x:=by rw[getD_set,if_pos ⟨rfl,hi⟩]
 have h0:=allE_count e (f:=fun k=>ownEn ((s.onces.set i.toNat x).getD k noOnce) k) (g:=fun k=>ownEn (s.onces.getD k noOnce) k) hi (fun k hk hkj=>by simp only[getD_set,if_neg (fun c=>hkj c.1:¬(k=i.toNat∧i.toNat<s.onces.length))])
 simp only[e1] at h0
 unfold owns setOnce
 simp only[List.length_set]
 omega
section
variable {p:Pg}
theorem goAll_sems:∀(l:List Int) (s:StD),(goAll p s l).sems=s.sems
 |[],_=>rfl
 |t::l,s=>goAll_sems l (goOn p s t)
theorem goAll_onces:∀(l:List Int) (s:StD),(goAll p s l).onces=s.onces
 |[],_=>rfl
 |t::l,s=>goAll_onces l (goOn p s t)
theorem goAll_groups:∀(l:List Int) (s:StD),(goAll p s l).groups=s.groups
 |[],_=>rfl
 |t::l,s=>goAll_groups l (goOn p s t)
theorem goAll_bars:∀(l:List Int) (s:StD),(goAll p s l).bars=s.bars
 |[],_=>rfl
 |t::l,s=>goAll_bars l (goOn p s t)
theorem goAll_chans:∀(l:List Int) (s:StD),(goAll p s l).chans=s.chans
 |[],_=>rfl
 |t::l,s=>goAll_chans l (goOn p s t)
theorem goAll_said:∀(l:List Int) (s:StD),(goAll p s l).said=s.said
 |[],_=>rfl
 |t::l,s=>goAll_said l (goOn p s t)
theorem goAll_fault:∀(l:List Int) (s:StD),(goAll p s l).fault=s.fault
 |[],_=>rfl
 |t::l,s=>goAll_fault l (goOn p s t)
theorem goAll_np:∀(l:List Int) (s:StD),(goAll p s l).places.length=s.places.length
 |[],_=>rfl
 |t::l,s=>by
  have h:=goAll_np l (goOn p s t)
  rw[show goAll p s (t::l)=goAll p (goOn p s t) l from rfl,h]
  simp[goOn]
theorem goAll_nst:∀(l:List Int) (s:StD),(goAll p s l).status.length=s.status.length
 |[],_=>rfl
 |t::l,s=>by
  have h:=goAll_nst l (goOn p s t)
  rw[show goAll p s (t::l)=goAll p (goOn p s t) l from rfl,h]
  simp[goOn]
theorem goAll_snoc (l:List Int) (s:StD) (t:Int):goOn p (goAll p s l) t=goAll p s (l++[t]):=by
 simp[goAll,List.foldl_append]
theorem ents_goAll (l:List Int) (s:StD):ents (goAll p s l)=ents s:=by
 unfold ents
 rw[goAll_sems,goAll_onces,goAll_groups,goAll_bars,goAll_chans]
theorem owns_goAll (l:List Int) (s:StD):owns (goAll p s l)=owns s:=by
 unfold owns
 rw[goAll_onces]
theorem goAll_get:∀{l:List Int} {s:StD},l.Nodup→(∀u∈l,0≤u∧u.toNat<s.places.length∧u.toNat<s.status.length)→∀t:Int,0≤t→
  (goAll p s l).places.getD t.toNat 0=(if t∈l then s.places.getD t.toNat 0+1 else s.places.getD t.toNat 0)∧
  (goAll p s l).status.getD t.toNat 0=(if t∈l then rest p t (s.places.getD t.toNat 0+1) else s.status.getD t.toNat 0)
 |[],_,_,_,t,_=>by simp[goAll]
 |u::l,s,hn,hb,t,ht=>by
  obtain⟨hu0,hu1,hu2⟩:=hb u (by simp)
  obtain⟨hnu,hnl⟩:=List.nodup_cons.1 hn
  have ih:=goAll_get (l:=l) (s:=goOn p s u) hnl (fun x hx=>by
   have:=hb x (List.mem_cons_of_mem _ hx)
   simpa[goOn] using this) t ht
  rw[show goAll p s (u::l)=goAll p (goOn p s u) l from rfl,ih.1,ih.2]
  have e1:(goOn p s u).places.getD t.toNat 0=if u.toNat=t.toNat then s.places.getD u.toNat 0+1 else s.places.getD t.toNat 0:=by
   show(s.places.set u.toNat _).getD t.toNat 0=_
   rw[getD_set]
   by_cases h:u.toNat=t.toNat
   ·rw[if_pos ⟨h.symm,hu1⟩,if_pos h]
   ·rw[if_neg (fun c=>h c.1.symm),if_neg h]
  have e2:(goOn p s u).status.getD t.toNat 0=if u.toNat=t.toNat then rest p u (s.places.getD u.toNat 0+1) else s.status.getD t.toNat 0:=by
   show(s.status.set u.toNat _).getD t.toNat 0=_
   rw[getD_set]
   by_cases h:u.toNat=t.toNat
   ·rw[if_pos ⟨h.symm,hu2⟩,if_pos h]
   ·rw[if_neg (fun c=>h c.1.symm),if_neg h]
  rw[e1,e2]
  by_cases htu:t=u
  ·subst htu
   rw[if_neg hnu,if_neg hnu,if_pos rfl,if_pos rfl,if_pos (by simp),if_pos (by simp)]
   exact⟨rfl,rfl⟩
  ·have hne:¬u.toNat=t.toNat:=fun e=>htu (by omega)
   rw[if_neg hne,if_neg hne]
   by_cases hl:t∈l
   ·rw[if_pos hl,if_pos hl,if_pos (List.mem_cons_of_mem _ hl),if_pos (List.mem_cons_of_mem _ hl)]
    exact⟨rfl,rfl⟩
   ·have hl':t∉u::l:=fun h=>by
     rcases List.mem_cons.1 h with h|h
     ·exact htu h
     ·exact hl h
    rw[if_neg hl,if_neg hl,if_neg hl',if_neg hl']
    exact⟨rfl,rfl⟩
structure Things (p:Pg) (s:StD):Prop where
 nse:s.sems.length=p.sems.length
 non:s.onces.length=3
 ngr:s.groups.length=p.groups.length
 nba:s.bars.length=p.barriers.length
 nch:s.chans.length=p.rooms.length
 nsa:s.said.length≤64
 flt:0≤s.fault∧s.fault≤4
 se:∀i,i<s.sems.length→semOk (s.sems.getD i noSem)∧(s.sems.getD i noSem).limit=p.sems.getD i 0
 on:∀i,i<s.onces.length→onceOk (s.onces.getD i noOnce)
 gr:∀i,i<s.groups.length→grpOk (s.groups.getD i noGrp)
 ba:∀i,i<s.bars.length→barOk (s.bars.getD i noBar)∧(s.bars.getD i noBar).parties=p.barriers.getD i 0
 ch:∀i,i<s.chans.length→chnOk (s.chans.getD i noChn)∧(s.chans.getD i noChn).room=p.rooms.getD i 0
 sa:∀v∈s.said,0≤v∧v≤99
theorem Fits.things {s:StD} (h:Fits p s):Things p s:=⟨h.nse,h.non,h.ngr,h.nba,h.nch,h.nsa,h.flt,h.se,h.on,h.gr,h.ba,h.ch,h.sa⟩
theorem Things.goAll {s:StD} (h:Things p s) (l:List Int):Things p (goAll p s l):=by
 refine⟨?_,?_,?_,?_,?_,?_,?_,?_,?_,?_,?_,?_,?_⟩
 ·rw[goAll_sems];exact h.nse
 ·rw[goAll_onces];exact h.non
 ·rw[goAll_groups];exact h.ngr
 ·rw[goAll_bars];exact h.nba
 ·rw[goAll_chans];exact h.nch
 ·rw[goAll_said];exact h.nsa
 ·rw[goAll_fault];exact h.flt
 ·rw[goAll_sems];exact h.se
 ·rw[goAll_onces];exact h.on
 ·rw[goAll_groups];exact h.gr
 ·rw[goAll_bars];exact h.ba
 ·rw[goAll_chans];exact h.ch
 ·rw[goAll_said];exact h.sa
theorem Things.stat {s:StD} (h:Things p s) (t v:Int):Things p (setStat s t v):=⟨h.nse,h.non,h.ngr,h.nba,h.nch,h.nsa,h.flt,h.se,h.on,h.gr,h.ba,h.ch,h.sa⟩
theorem get_set {α:Type} {P:Nat→α→Prop} {l:List α} {d:α} (h:∀i,i<l.length→P i (l.getD i d)) {j:Nat} {x:α} (hx:P j x):∀i,i<(l.set j x).length→P i ((l.set j x).getD i d):=by
 intro i hi
 rw[List.length_set] at hi
 rw[getD_set]
 by_cases e:i=j∧j<l.length
 ·rw[if_pos e,e.1];exact hx
 ·rw[if_neg e];exact h i hi
theorem Things.setSem {s:StD} (h:Things p s) {i:Int} {x:SemD} (hx:semOk x∧x.limit=p.sems.getD i.toNat 0):Things p (setSem s i x):=
 ⟨by rw[←h.nse];exact List.length_set,h.non,h.ngr,h.nba,h.nch,h.nsa,h.flt,get_set (P:=fun i x=>semOk x∧x.limit=p.sems.getD i 0) h.se hx,h.on,h.gr,h.ba,h.ch,h.sa⟩
theorem Things.setOnce {s:StD} (h:Things p s) {i:Int} {x:OnceD} (hx:onceOk x):Things p (setOnce s i x):=
 ⟨h.nse,by rw[←h.non];exact List.length_set,h.ngr,h.nba,h.nch,h.nsa,h.flt,h.se,get_set (P:=fun _ x=>onceOk x) h.on hx,h.gr,h.ba,h.ch,h.sa⟩
theorem Things.setGrp {s:StD} (h:Things p s) {i:Int} {x:GrpD} (hx:grpOk x):Things p (setGrp s i x):=
 ⟨h.nse,h.non,by rw[←h.ngr];exact List.length_set,h.nba,h.nch,h.nsa,h.flt,h.se,h.on,get_set (P:=fun _ x=>grpOk x) h.gr hx,h.ba,h.ch,h.sa⟩
theorem Things.setBar {s:StD} (h:Things p s) {i:Int} {x:BarD} (hx:barOk x∧x.parties=p.barriers.getD i.toNat 0):Things p (setBar s i x):=
 ⟨h.nse,h.non,h.ngr,by rw[←h.nba];exact List.length_set,h.nch,h.nsa,h.flt,h.se,h.on,h.gr,get_set (P:=fun i x=>barOk x∧x.parties=p.barriers.getD i 0) h.ba hx,h.ch,h.sa⟩
theorem Things.setChn {s:StD} (h:Things p s) {i:Int} {x:ChnD} (hx:chnOk x∧x.room=p.rooms.getD i.toNat 0):Things p (setChn s i x):=
 ⟨h.nse,h.non,h.ngr,h.nba,by rw[←h.nch];exact List.length_set,h.nsa,h.flt,h.se,h.on,h.gr,h.ba,get_set (P:=fun i x=>chnOk x∧x.room=p.rooms.getD i 0) h.ch hx,h.sa⟩
theorem Things.say {s:StD} (h:Things p s) {v:Int} (hv:0≤v∧v≤99) (hn:s.said.length<64):Things p (sayIt s v):=
 ⟨h.nse,h.non,h.ngr,h.nba,h.nch,by show(s.said++[v]).length≤64;rw[List.length_append];exact hn,h.flt,h.se,h.on,h.gr,h.ba,h.ch,fun x hx=>by
  rcases xP1 hx with hx|hx
  ·exact h.sa x hx
  ·rw[xS1 hx];exact hv⟩
theorem opsOf_nat (p:Pg) (t:Nat):opsOf p (t:Int)=p.threads.getD t []:=rfl
theorem Fits.waits {s:StD} (h:Fits p s) {u:Int} (hu:u∈eT s):(0≤u∧u<p.threads.length)∧s.places.getD u.toNat 0<(opsOf p u).length∧u∉oT s:=by
 obtain⟨e,he,rfl⟩:=List.mem_map.1 hu
 obtain⟨h0,h1⟩:=h.we e he
 refine⟨⟨h0,h1⟩,?_⟩
 have ht:=h.th e.1.toNat (by omega)
 rw[show((e.1.toNat:Nat):Int)=e.1 by omega] at ht
 obtain⟨-,-,⟨-,-,hn,-⟩|⟨hp,⟨-,hn,-⟩|⟨-,-,ho⟩|⟨-,hn,-⟩⟩⟩:=ht
 ·exact absurd hu hn
 ·exact absurd hu hn
 ·exact⟨hp,ho⟩
 ·exact absurd hu hn
theorem Fits.go {s s':StD} {l:List Int} {R:List Ent} {O:List (Int×Int)} (h:Fits p s) (hT:Things p s') (hp:s'.places=s.places) (hs:s'.status=s.status)
  (hE:(ents s'++R).Perm (ents s)) (hO:(owns s'++O).Perm (owns s)) (hn:l.Nodup) (hr:∀u∈l,(0≤u∧u<p.threads.length)∧s.places.getD u.toNat 0<(opsOf p u).length)
  (hR:∀u∈l,u∉eT s'∧u∉oT s') (hRl:∀e∈R,e.1∈l) (hOl:∀e∈O,e.1∈l):Fits p (goAll p s' l):=by
 have hb:∀u∈l,0≤u∧u.toNat<s'.places.length∧u.toNat<s'.status.length:=fun u hu=>by
  have h1:=(hr u hu).1
  rw[hp,hs,h.np,h.nst]
  omega
 have hg:=goAll_get (p:=p) hn hb
 have eE:=ents_goAll (p:=p) l s'
 have eO:=owns_goAll (p:=p) l s'
 have mE:∀e,e∈ents s↔e∈ents s'∨e∈R:=fun e=>by rw[←hE.mem_iff,List.mem_append]
 have mO:∀e,e∈owns s↔e∈owns s'∨e∈O:=fun e=>by rw[←hO.mem_iff,List.mem_append]
 have pE:=hE.map (·.1)
 have pO:=hO.map (·.1)
 rw[List.map_append] at pE pO
 have g:=hT.goAll (p:=p) l
 refine⟨h.prog,by rw[goAll_np,hp];exact h.np,by rw[goAll_nst,hs];exact h.nst,g.nse,g.non,g.ngr,g.nba,g.nch,g.nsa,g.flt,g.se,g.on,g.gr,g.ba,g.ch,g.sa,?_,?_,?_,?_,?_⟩
 ·intro e he
  rw[eE] at he
  exact h.we e ((mE e).2 (.inl he))
 ·intro e he
  rw[eO] at he
  exact h.oe e ((mO e).2 (.inl he))
 ·unfold eT
  rw[eE]
  exact(List.nodup_append.1 (pE.nodup_iff.2 h.ne)).1
 ·unfold oT
  rw[eO]
  exact(List.nodup_append.1 (pO.nodup_iff.2 h.no)).1
 ·intro t ht
  have h1:=h.th t ht
  obtain⟨g1,g2⟩:=hg (t:Int) (by omega)
  rw[hp] at g1 g2
  rw[hs] at g2
  have c1:eT (goAll p s' l)=eT s':=by unfold eT;rw[eE]
  have c2:oT (goAll p s' l)=oT s':=by unfold oT;rw[eO]
  unfold thOk at h1⊢
  rw[g1,g2,c1,c2,eE,eO]
  by_cases hm:(t:Int)∈l
  ·rw[if_pos hm,if_pos hm]
   have r1:=(hr _ hm).2
   obtain⟨n1,n2⟩:=hR _ hm
   refine⟨by omega,by omega,?_⟩
   by_cases he:s.places.getD (t:Int).toNat 0+1=((opsOf p t).length:Int)
   ·exact .inl ⟨he,by unfold rest;rw[if_pos he],n1,n2⟩
   ·exact .inr ⟨by omega,.inl ⟨by unfold rest;rw[if_neg he],n1,n2⟩⟩
  ·rw[if_neg hm,if_neg hm]
   have n1:(t:Int)∉eT s→(t:Int)∉eT s':=fun hq hq'=>by
    obtain⟨e,he,hx⟩:=List.mem_map.1 hq'
    exact hq (List.mem_map.2 ⟨e,(mE e).2 (.inl he),hx⟩)
   have n2:(t:Int)∉oT s→(t:Int)∉oT s':=fun hq hq'=>by
    obtain⟨e,he,hx⟩:=List.mem_map.1 hq'
    exact hq (List.mem_map.2 ⟨e,(mO e).2 (.inl he),hx⟩)
   have eA:opAt p (goAll p s' l) t=opAt p s t:=by
    unfold opAt
    rw[g1,if_neg hm]
   rw[eA]
   refine⟨h1.1,h1.2.1,?_⟩
   rcases h1.2.2 with ⟨a,b,c,d⟩|⟨a,⟨b,c,d⟩|⟨b,c,d⟩|⟨b,c,d,e⟩⟩
   ·exact .inl ⟨a,b,n1 c,n2 d⟩
   ·exact .inr ⟨a,.inl ⟨b,n1 c,n2 d⟩⟩
   ·refine .inr ⟨a,.inr (.inl ⟨b,?_,n2 d⟩)⟩
    rcases(mE _).1 c with c|c
    ·exact c
    ·exact absurd (hRl _ c) hm
   ·refine .inr ⟨a,.inr (.inr ⟨b,n1 c,d,?_⟩)⟩
    rcases(mO _).1 e with e|e
    ·exact e
    ·exact absurd (hOl _ e) hm
structure Turn (p:Pg) (s:StD) (t:Int):Prop where
 rg:0≤t∧t<p.threads.length
 lt:s.places.getD t.toNat 0<(opsOf p t).length
 ge:0≤s.places.getD t.toNat 0
 ne:t∉eT s
 st:(s.status.getD t.toNat 0=0∧t∉oT s)∨(s.status.getD t.toNat 0=2∧(opAt p s t).kind=4∧(t,(opAt p s t).on)∈owns s)
theorem mem_ready {s:StD} {t:Int} (h:t∈readyOf s):s.fault=0∧∃i:Nat,t=i∧i<s.status.length∧(s.status.getD i 0=0∨s.status.getD i 0=2):=by
 unfold readyOf at h
 by_cases hf:s.fault=0
 ·rw[if_pos hf] at h
  obtain⟨i,hi,rfl⟩:=List.mem_map.1 h
  obtain⟨h1,h2⟩:=List.mem_filter.1 hi
  exact⟨hf,i,rfl,List.mem_range.1 h1,by simpa using h2⟩
 ·rw[if_neg hf] at h
  cases h
theorem Fits.turn {s:StD} (h:Fits p s) {t:Int} (ht:t∈readyOf s):Turn p s t:=by
 obtain⟨-,i,rfl,hi,hs⟩:=mem_ready ht
 rw[h.nst] at hi
 obtain⟨h0,h1,h2⟩:=h.th i hi
 have e:((i:Nat):Int).toNat=i:=by simp
 rw[e] at h0 h1 h2
 rcases h2 with ⟨a,b,c,d⟩|⟨a,⟨b,c,d⟩|⟨b,c,d⟩|⟨b,c,d,f⟩⟩
 ·rw[b] at hs;omega
 ·exact⟨by omega,by rw[e];exact a,by rw[e];exact h0,c,.inl ⟨by rw[e];exact b,d⟩⟩
 ·rw[b] at hs;omega
 ·exact⟨by omega,by rw[e];exact a,by rw[e];exact h0,c,.inr ⟨by rw[e];exact b,d,f⟩⟩
theorem Fits.tell {s s':StD} {R:List Ent} {t:Int} (h:Fits p s) (ht:Turn p s t) (ho:t∉oT s) (hT:Things p s') (hp:s'.places=s.places) (hs:s'.status=s.status) (hE:(ents s'++R).Perm (ents s)) (hO:owns s'=owns s):Fits p (goAll p s' (R.map (·.1)++[t])):=by
 have pE:=hE.map (·.1)
 rw[List.map_append] at pE
 obtain⟨-,n2,n3⟩:=List.nodup_append.1 (pE.nodup_iff.2 h.ne)
 have inE:∀u∈R.map (·.1),u∈eT s:=fun u hu=>pE.mem_iff.1 (xQ1 (.inr hu))
 have eO:oT s'=oT s:=by unfold oT;rw[hO]
 refine h.go hT hp hs hE (O:=[]) (by rw[hO,List.append_nil]) ?_ ?_ ?_ ?_ (by simp)
 ·rw[List.nodup_append]
  refine⟨n2,by simp,fun a ha b hb e=> ?_⟩
  rw[xS1 hb] at e
  exact ht.ne (e▸inE a ha)
 ·intro u hu
  rcases xP1 hu with hu|hu
  ·have:=h.waits (inE u hu)
   exact⟨this.1,this.2.1⟩
  ·rw[xS1 hu]
   exact⟨ht.rg,ht.lt⟩
 ·intro u hu
  rw[eO]
  rcases xP1 hu with hu|hu
  ·exact⟨fun hx=>n3 u hx u hu rfl,(h.waits (inE u hu)).2.2⟩
  ·rw[xS1 hu]
   exact⟨fun hx=>ht.ne (pE.mem_iff.1 (xQ1 (.inl hx))),ho⟩
 ·intro e he
  exact xQ1 (.inl (List.mem_map_of_mem he))
theorem setStat_get (s:StD) (t v:Int) (u:Nat) (hl:t.toNat<s.status.length):(setStat s t v).status.getD u 0=if t.toNat=u then v else s.status.getD u 0:=by
 show(s.status.set t.toNat v).getD u 0=_
 rw[getD_set]
 by_cases h:t.toNat=u
 ·rw[if_pos ⟨h.symm,hl⟩,if_pos h]
 ·rw[if_neg (fun c=>h c.1.symm),if_neg h]
theorem Fits.wait {s s':StD} {t:Int} (h:Fits p s) (ht:Turn p s t) (ho:t∉oT s) (hT:Things p s') (hp:s'.places=s.places) (hs:s'.status=s.status) (hE:(ents s').Perm (want (opAt p s t) t::ents s)) (hO:owns s'=owns s):Fits p (setStat s' t 1):=by
 have pE:=hE.map (·.1)
 have mE:∀e,e∈ents s'↔e=want (opAt p s t) t∨e∈ents s:=fun e=>by rw[hE.mem_iff,List.mem_cons]
 have g:=hT.stat t 1
 have hl:t.toNat<s'.status.length:=by rw[hs,h.nst];have:=ht.rg;omega
 have eO:oT s'=oT s:=by unfold oT;rw[hO]
 refine⟨h.prog,by show s'.places.length=_;rw[hp];exact h.np,by show(s'.status.set _ _).length=_;rw[List.length_set,hs];exact h.nst,g.nse,g.non,g.ngr,g.nba,g.nch,g.nsa,g.flt,g.se,g.on,g.gr,g.ba,g.ch,g.sa,?_,?_,?_,?_,?_⟩
 ·intro e he
  rcases(mE e).1 he with rfl|he
  ·exact ht.rg
  ·exact h.we e he
 ·intro e he
  exact h.oe e (by rw[←hO];exact he)
 ·show(eT s').Nodup
  refine pE.nodup_iff.2 (List.nodup_cons.2 ⟨ht.ne,h.ne⟩)
 ·show(oT s').Nodup
  rw[eO];exact h.no
 ·intro u hu
  have h1:=h.th u hu
  have gs:=setStat_get s' t 1 u hl
  rw[hs] at gs
  unfold thOk at h1⊢
  rw[show((u:Nat):Int).toNat=u by simp] at h1⊢
  have c1:∀x,x∈eT (setStat s' t 1)↔x=t∨x∈eT s:=fun x=>by
   show x∈eT s'↔_
   rw[show eT s'=(ents s').map (·.1) from rfl,pE.mem_iff]
   exact List.mem_cons
  have c2:oT (setStat s' t 1)=oT s:=eO
  have c3:opAt p (setStat s' t 1) u=opAt p s u:=by
   unfold opAt
   rw[show(setStat s' t 1).places=s'.places from rfl,hp]
  rw[show(setStat s' t 1).places=s.places from hp,gs,c2,c3,show ents (setStat s' t 1)=ents s' from rfl,show owns (setStat s' t 1)=owns s from hO]
  refine⟨h1.1,h1.2.1,?_⟩
  by_cases htu:t.toNat=u
  ·have htu':t=(u:Int):=by have:=ht.rg;omega
   subst htu
   rw[if_pos rfl]
   refine .inr ⟨by rw[←htu'];exact ht.lt,.inr (.inl ⟨rfl,?_,by rw[←htu'];exact ho⟩)⟩
   rw[←htu']
   exact(mE _).2 (.inl rfl)
  ·rw[if_neg htu]
   have hne:((u:Nat):Int)≠t:=fun e=>htu (by omega)
   have n1:(u:Int)∉eT s→(u:Int)∉eT (setStat s' t 1):=fun hq hq'=>by
    rcases(c1 _).1 hq' with hx|hx
    ·exact hne hx
    ·exact hq hx
   rcases h1.2.2 with ⟨a,b,c,d⟩|⟨a,⟨b,c,d⟩|⟨b,c,d⟩|⟨b,c,d,e⟩⟩
   ·exact .inl ⟨a,b,n1 c,d⟩
   ·exact .inr ⟨a,.inl ⟨b,n1 c,d⟩⟩
   ·exact .inr ⟨a,.inr (.inl ⟨b,(mE _).2 (.inr c),d⟩)⟩
   ·exact .inr ⟨a,.inr (.inr ⟨b,n1 c,d,e⟩)⟩
theorem Fits.own {s s':StD} {t:Int} (h:Fits p s) (ht:Turn p s t) (ho:t∉oT s) (hk:(opAt p s t).kind=4) (hT:Things p s') (hp:s'.places=s.places) (hs:s'.status=s.status) (hE:(ents s').Perm (ents s)) (hO:(owns s').Perm ((t,(opAt p s t).on)::owns s)):Fits p (setStat s' t 2):=by
 have pO:=hO.map (·.1)
 have pE:=hE.map (·.1)
 have mE:∀e,e∈ents s'↔e∈ents s:=fun e=>hE.mem_iff
 have mO:∀e,e∈owns s'↔e=(t,(opAt p s t).on)∨e∈owns s:=fun e=>by rw[hO.mem_iff,List.mem_cons]
 have g:=hT.stat t 2
 have hl:t.toNat<s'.status.length:=by rw[hs,h.nst];have:=ht.rg;omega
 refine⟨h.prog,by show s'.places.length=_;rw[hp];exact h.np,by show(s'.status.set _ _).length=_;rw[List.length_set,hs];exact h.nst,g.nse,g.non,g.ngr,g.nba,g.nch,g.nsa,g.flt,g.se,g.on,g.gr,g.ba,g.ch,g.sa,?_,?_,?_,?_,?_⟩
 ·intro e he
  exact h.we e ((mE e).1 he)
 ·intro e he
  rcases(mO e).1 he with rfl|he
  ·exact ht.rg
  ·exact h.oe e he
 ·show(eT s').Nodup
  exact pE.nodup_iff.2 h.ne
 ·show(oT s').Nodup
  exact pO.nodup_iff.2 (List.nodup_cons.2 ⟨ho,h.no⟩)
 ·intro u hu
  have h1:=h.th u hu
  have gs:=setStat_get s' t 2 u hl
  rw[hs] at gs
  unfold thOk at h1⊢
  rw[show((u:Nat):Int).toNat=u by simp] at h1⊢
  have c1:∀x,x∈eT (setStat s' t 2)↔x∈eT s:=fun x=>pE.mem_iff
  have c2:∀x,x∈oT (setStat s' t 2)↔x=t∨x∈oT s:=fun x=>by
   show x∈oT s'↔_
   rw[show oT s'=(owns s').map (·.1) from rfl,pO.mem_iff]
   exact List.mem_cons
  have c3:opAt p (setStat s' t 2) u=opAt p s u:=by
   unfold opAt
   rw[show(setStat s' t 2).places=s'.places from rfl,hp]
  rw[show(setStat s' t 2).places=s.places from hp,gs,c3,show ents (setStat s' t 2)=ents s' from rfl,show owns (setStat s' t 2)=owns s' from rfl,c1,c2]
  refine⟨h1.1,h1.2.1,?_⟩
  by_cases htu:t.toNat=u
  ·have htu':t=(u:Int):=by have:=ht.rg;omega
   subst htu
   rw[if_pos rfl]
   refine .inr ⟨by rw[←htu'];exact ht.lt,.inr (.inr ⟨rfl,by rw[←htu'];exact ht.ne,by rw[←htu'];exact hk,?_⟩)⟩
   rw[←htu']
   exact(mO _).2 (.inl rfl)
  ·rw[if_neg htu]
   have hne:((u:Nat):Int)≠t:=fun e=>htu (by omega)
   have n2:(u:Int)∉oT s→¬((u:Int)=t∨(u:Int)∈oT s):=fun hq hq'=>by
    rcases hq' with hx|hx
    ·exact hne hx
    ·exact hq hx
   rcases h1.2.2 with ⟨a,b,c,d⟩|⟨a,⟨b,c,d⟩|⟨b,c,d⟩|⟨b,c,d,e⟩⟩
   ·exact .inl ⟨a,b,c,n2 d⟩
   ·exact .inr ⟨a,.inl ⟨b,c,n2 d⟩⟩
   ·exact .inr ⟨a,.inr (.inl ⟨b,(mE _).2 c,n2 d⟩)⟩
   ·exact .inr ⟨a,.inr (.inr ⟨b,c,d,(mO _).2 (.inr e)⟩)⟩
theorem Fits.fail {s:StD} (h:Fits p s) {f:Int} (hf:0≤f∧f≤4):Fits p (faultIt s f):=
 ⟨h.prog,h.np,h.nst,h.nse,h.non,h.ngr,h.nba,h.nch,h.nsa,hf,h.se,h.on,h.gr,h.ba,h.ch,h.sa,h.we,h.oe,h.ne,h.no,h.th⟩
end
end Go.Proofs.YtjmpejaifmopnaaGreat
