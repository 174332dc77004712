/- Part of a proof: Sym. -/
import Derived.Test.YtjmpejaifmopnaaGreatQPTally
import Derived.Test.YtjmpejaifmopnaaGreatQPSwap
import Derived.Test.YtjmpejaifmopnaaGreatQPMachK
set_option maxRecDepth 100000
set_option maxHeartbeats 16000000
namespace Go.Proofs.YtjmpejaifmopnaaGreat
open Go.RowKit
def ex (a b i:Nat):Nat:=if i=b then a else if i=a then b else i
theorem ex_ex (a b i:Nat):ex a b (ex a b i)=i:=by unfold ex;(repeat' split)<;>omega
theorem ex_lt {a b i n:Nat} (ha:a<n) (hb:b<n):ex a b i<n↔i<n:=by unfold ex;(repeat' split)<;>omega
theorem sw_get {α:Type} (d:α) (l:List α) {a b:Nat} (ha:a<l.length) (hb:b<l.length) (k:Nat):(swapTs d l a b).getD k d=l.getD (ex a b k) d:=by
 rw[swapTs_get d l a b k ha hb]
 unfold ex
 split
 ·rfl
 ·split<;>rfl
theorem sw_set {α:Type} (d:α) (l:List α) {a b:Nat} (ha:a<l.length) (hb:b<l.length) (t:Nat) (x:α):swapTs d (l.set t x) a b=(swapTs d l a b).set (ex a b t) x:=by
 refine List.ext_getElem (by simp[swapTs_len]) fun k h1 h2=> ?_
 have e1:∀(m:List α) (h:k<m.length),m[k]=m.getD k d:=fun m h=>by simp[List.getD,h]
 rw[e1 _ h1,e1 _ h2,sw_get d _ (by simpa using ha) (by simpa using hb),getD_set,getD_set,sw_get d l ha hb,swapTs_len]
 have hk:k<l.length:=by simpa[swapTs_len] using h1
 by_cases e:k=ex a b t
 ·subst e
  have:t<l.length:=(ex_lt ha hb).1 hk
  simp[ex_ex,this,hk]
 ·have:¬ex a b k=t:=fun h=>e (by rw[←h,ex_ex])
  simp[e,this]
def tau (a b:Nat) (t:Int):Int:=swp a b t
theorem tau_nat {a b:Nat} {t:Int} (h:0≤t):(tau a b t).toNat=ex a b t.toNat:=by unfold tau swp ex;(repeat' split)<;>omega
theorem tau_nn {a b:Nat} {t:Int} (h:0≤t):0≤tau a b t:=by unfold tau swp;(repeat' split)<;>omega
def tSem (a b:Nat) (x:SemD):SemD:=⟨x.free,x.limit,x.queue.map fun w=>(tau a b w.1,w.2)⟩
def tOnce (a b:Nat) (x:OnceD):OnceD:=⟨x.state,if x.state=0 then x.owner else tau a b x.owner,x.value,x.waits.map (tau a b)⟩
def tGrp (a b:Nat) (x:GrpD):GrpD:=⟨x.count,x.waits.map (tau a b)⟩
def tBar (a b:Nat) (x:BarD):BarD:=⟨x.parties,x.round,x.waits.map (tau a b)⟩
def tChn (a b:Nat) (x:ChnD):ChnD:=⟨x.room,x.items,x.senders.map fun w=>(tau a b w.1,w.2),x.getters.map (tau a b),x.closed⟩
def symS (a b:Nat) (s:StD):StD:=⟨swapTs 0 s.places a b,swapTs 0 s.status a b,s.sems.map (tSem a b),s.onces.map (tOnce a b),s.groups.map (tGrp a b),s.bars.map (tBar a b),s.chans.map (tChn a b),s.said,s.fault⟩
def symP (a b:Nat) (p:Pg):Pg:=p.thr (swapTs [] p.threads a b)
section
variable {a b:Nat} {p:Pg} {s:StD}
structure Two (a b:Nat) (p:Pg) (s:StD):Prop where
 pa:a<p.threads.length
 pb:b<p.threads.length
 np:s.places.length=p.threads.length
 ns:s.status.length=p.threads.length
theorem Two.ops (h:Two a b p s) {t:Int} (ht:0≤t):opsOf (symP a b p) (tau a b t)=opsOf p t:=by
 unfold opsOf symP
 rw[tau_nat ht]
 show(swapTs [] p.threads a b).getD _ []=_
 rw[sw_get [] _ h.pa h.pb,ex_ex]
theorem Two.place (h:Two a b p s) {t:Int} (ht:0≤t):(symS a b s).places.getD (tau a b t).toNat 0=s.places.getD t.toNat 0:=by
 rw[tau_nat ht]
 show(swapTs 0 s.places a b).getD _ 0=_
 rw[sw_get 0 _ (by rw[h.np];exact h.pa) (by rw[h.np];exact h.pb),ex_ex]
theorem Two.stat (h:Two a b p s) {t:Int} (ht:0≤t):(symS a b s).status.getD (tau a b t).toNat 0=s.status.getD t.toNat 0:=by
 rw[tau_nat ht]
 show(swapTs 0 s.status a b).getD _ 0=_
 rw[sw_get 0 _ (by rw[h.ns];exact h.pa) (by rw[h.ns];exact h.pb),ex_ex]
theorem Two.op (h:Two a b p s) {t:Int} (ht:0≤t):opAt (symP a b p) (symS a b s) (tau a b t)=opAt p s t:=by
 unfold opAt
 rw[h.ops ht,h.place ht]
theorem Two.goOn (h:Two a b p s) {t:Int} (ht:0≤t):goOn (symP a b p) (symS a b s) (tau a b t)=symS a b (goOn p s t)∧Two a b p (goOn p s t):=by
 refine⟨?_,h.pa,h.pb,by show(s.places.set _ _).length=_;rw[List.length_set];exact h.np,by show(s.status.set _ _).length=_;rw[List.length_set];exact h.ns⟩
 have hr:∀x,rest (symP a b p) (tau a b t) x=rest p t x:=fun x=>by unfold rest;rw[h.ops ht]
 unfold Go.Proofs.YtjmpejaifmopnaaGreat.goOn
 rw[h.place ht,hr,tau_nat ht]
 unfold symS
 dsimp only
 rw[sw_set 0 _ (by rw[h.np];exact h.pa) (by rw[h.np];exact h.pb),sw_set 0 _ (by rw[h.ns];exact h.pa) (by rw[h.ns];exact h.pb)]
theorem Two.goAll (h:Two a b p s):∀(l:List Int),(∀t∈l,0≤t)→goAll (symP a b p) (symS a b s) (l.map (tau a b))=symS a b (goAll p s l)∧Two a b p (goAll p s l):=by
 intro l
 induction l generalizing s with
 |nil=>exact fun _=>⟨rfl,h⟩
 |cons t l ih=>
  intro hl
  have h1:=h.goOn (hl t (by simp))
  have h2:=ih h1.2 (fun u hu=>hl u (by simp[hu]))
  rw[←h1.1] at h2
  exact h2
theorem Two.setStat (h:Two a b p s) {t:Int} (ht:0≤t) (v:Int):setStat (symS a b s) (tau a b t) v=symS a b (setStat s t v)∧Two a b p (setStat s t v):=by
 refine⟨?_,h.pa,h.pb,h.np,by show(s.status.set _ _).length=_;rw[List.length_set];exact h.ns⟩
 unfold Go.Proofs.YtjmpejaifmopnaaGreat.setStat symS
 dsimp only
 rw[tau_nat ht,sw_set 0 _ (by rw[h.ns];exact h.pa) (by rw[h.ns];exact h.pb)]
theorem Two.either (h:Two a b p s) {t:Int} (ht:0≤t) (v:Bool):either (symP a b p) (symS a b s) (tau a b t) v=symS a b (either p s t v)∧Two a b p (either p s t v):=by
 unfold Go.Proofs.YtjmpejaifmopnaaGreat.either
 cases v with
 |true=>exact h.goOn ht
 |false=>exact h.setStat ht 1
theorem Two.to (h:Two a b p s) {s':StD} (e1:s'.places=s.places) (e2:s'.status=s.status):Two a b p s':=⟨h.pa,h.pb,by rw[e1];exact h.np,by rw[e2];exact h.ns⟩
theorem map_getD {α β:Type} (f:α→β) (l:List α) (d:α) (i:Nat):(l.map f).getD i (f d)=f (l.getD i d):=by
 simp only[List.getD_eq_getElem?_getD,List.getElem?_map]
 cases l[i]? <;>rfl
theorem sym_sem (i:Int):(symS a b s).sems.getD i.toNat noSem=tSem a b (s.sems.getD i.toNat noSem):=map_getD (tSem a b) _ noSem _
theorem sym_once (i:Int):(symS a b s).onces.getD i.toNat noOnce=tOnce a b (s.onces.getD i.toNat noOnce):=map_getD (tOnce a b) _ noOnce _
theorem sym_grp (i:Int):(symS a b s).groups.getD i.toNat noGrp=tGrp a b (s.groups.getD i.toNat noGrp):=map_getD (tGrp a b) _ noGrp _
theorem sym_bar (i:Int):(symS a b s).bars.getD i.toNat noBar=tBar a b (s.bars.getD i.toNat noBar):=map_getD (tBar a b) _ noBar _
theorem sym_chn (i:Int):(symS a b s).chans.getD i.toNat noChn=tChn a b (s.chans.getD i.toNat noChn):=map_getD (tChn a b) _ noChn _
theorem sym_setSem (i:Int) (x:SemD):setSem (symS a b s) i (tSem a b x)=symS a b (setSem s i x):=by unfold setSem symS;simp[List.map_set]
theorem sym_setOnce (i:Int) (x:OnceD):setOnce (symS a b s) i (tOnce a b x)=symS a b (setOnce s i x):=by unfold setOnce symS;simp[List.map_set]
theorem sym_setGrp (i:Int) (x:GrpD):setGrp (symS a b s) i (tGrp a b x)=symS a b (setGrp s i x):=by unfold setGrp symS;simp[List.map_set]
theorem sym_setBar (i:Int) (x:BarD):setBar (symS a b s) i (tBar a b x)=symS a b (setBar s i x):=by unfold setBar symS;simp[List.map_set]
theorem sym_setChn (i:Int) (x:ChnD):setChn (symS a b s) i (tChn a b x)=symS a b (setChn s i x):=by unfold setChn symS;simp[List.map_set]
theorem sym_acq (x:SemD) (t c:Int):semAcq (tSem a b x) (tau a b t) c=(tSem a b (semAcq x t c).1,(semAcq x t c).2):=by
 unfold semAcq tSem
 by_cases h:x.queue=[]∧c≤x.free
 ·rw[if_pos h,if_pos (by simpa using h)]
 ·rw[if_neg h,if_neg (by simpa using h)];simp
theorem sym_serve:∀(q:List (Int×Int)) (f:Int),serve f (q.map fun w=>(tau a b w.1,w.2))=((serve f q).1,(serve f q).2.1.map (tau a b),(serve f q).2.2.map fun w=>(tau a b w.1,w.2))
 |[],_=>rfl
 |w::q,f=>by
  simp only[List.map_cons,serve]
  split
  ·rw[sym_serve q];rfl
  ·rfl
theorem sym_rel (x:SemD) (c:Int):semRel (tSem a b x) c=(semRel x c).map fun r=>(tSem a b r.1,r.2.map (tau a b)):=by
 unfold semRel tSem
 dsimp only
 rw[sym_serve]
 split<;>rfl
theorem sym_enter (x:OnceD) (t:Int) (h:x.state=0∨x.state=1):onceEnter (tOnce a b x) (tau a b t)=tOnce a b (onceEnter x t):=by
 unfold onceEnter
 rcases h with h|h
 ·rw[if_pos (show(tOnce a b x).state=0 from h),if_pos h];rfl
 ·rw[if_neg (show¬(tOnce a b x).state=0 by show¬x.state=0;omega),if_pos (show(tOnce a b x).state=1 from h),if_neg (by omega),if_pos h]
  unfold tOnce
  simp[h]
theorem sym_add (x:GrpD) (n:Int):grpAdd (tGrp a b x) n=(grpAdd x n).map fun r=>(tGrp a b r.1,r.2.map (tau a b)):=by
 unfold grpAdd tGrp
 dsimp only
 split
 ·split<;>rfl
 ·rfl
theorem sym_wait (x:GrpD) (t:Int):grpWait (tGrp a b x) (tau a b t)=(tGrp a b (grpWait x t).1,(grpWait x t).2):=by
 unfold grpWait tGrp
 dsimp only
 split
 ·rfl
 ·simp
theorem sym_come (x:BarD) (t:Int):barCome (tBar a b x) (tau a b t)=(tBar a b (barCome x t).1,(barCome x t).2.map (tau a b)):=by
 unfold barCome tBar
 dsimp only
 rw[List.length_map]
 split<;>simp
theorem sym_send (x:ChnD) (t v:Int):chnSend (tChn a b x) (tau a b t) v=(chnSend x t v).map fun r=>(tChn a b r.1,r.2.1.map (tau a b),r.2.2):=by
 obtain⟨r,it,sn,gt,cl⟩:=x
 unfold chnSend tChn
 by_cases hc:cl=true
 ·simp[hc]
 ·cases gt with
  |nil=>by_cases h:(it.length:Int)<r<;>simp[hc,h]
  |cons g gs=>simp[hc]
theorem sym_get (x:ChnD) (t:Int):chnGet (tChn a b x) (tau a b t)=(tChn a b (chnGet x t).1,(chnGet x t).2.1,(chnGet x t).2.2.1,(chnGet x t).2.2.2.map (tau a b)):=by
 obtain⟨r,it,sn,gt,cl⟩:=x
 unfold chnGet tChn
 cases sn with
 |cons l ls=>cases it<;>rfl
 |nil=>
  cases it with
  |cons y ys=>rfl
  |nil=>by_cases hc:cl=true<;>simp[hc]
theorem sym_close (x:ChnD):chnClose (tChn a b x)=(chnClose x).map fun r=>(tChn a b r.1,r.2.map (tau a b)):=by
 unfold chnClose tChn
 dsimp only
 by_cases h:x.closed=true∨x.senders≠[]
 ·rw[if_pos h,if_pos (by simpa using h)];rfl
 ·rw[if_neg h,if_neg (by simpa using h)];rfl
end
end Go.Proofs.YtjmpejaifmopnaaGreat
