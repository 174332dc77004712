/- Part of a proof: Sym2. -/
import Derived.Test.YtjmpejaifmopnaaGreatQSym
set_option maxRecDepth 100000
set_option maxHeartbeats 16000000
namespace Go.Proofs.YtjmpejaifmopnaaGreat
open Go.RowKit
section
variable {a b:Nat} {p:Pg} {s:StD}
theorem serve_in:∀(q:List (Int×Int)) (f t:Int),t∈(serve f q).2.1→t∈q.map (·.1)
 |[],_,_,h=>by cases h
 |w::q,f,t,h=>by
  simp only[serve] at h
  split at h
  ·rcases List.mem_cons.1 h with rfl|h
   ·simp
   ·exact List.mem_cons.2 (.inr (serve_in q _ t h))
  ·cases h
structure Nn (s:StD):Prop where
 se:∀i:Nat,∀t∈(s.sems.getD i noSem).queue.map (·.1),(0:Int)≤t
 on:∀i:Nat,∀t∈(s.onces.getD i noOnce).waits,(0:Int)≤t
 gr:∀i:Nat,∀t∈(s.groups.getD i noGrp).waits,(0:Int)≤t
 ba:∀i:Nat,∀t∈(s.bars.getD i noBar).waits,(0:Int)≤t
 cs:∀i:Nat,∀t∈(s.chans.getD i noChn).senders.map (·.1)++(s.chans.getD i noChn).getters,(0:Int)≤t
theorem nn_get {α:Type} {l:List α} {d:α} {f:α→List Int} (h:∀i,i<l.length→thr6 (f (l.getD i d))) (hd:f d=[]) (i:Nat):∀t∈f (l.getD i d),(0:Int)≤t:=by
 intro t ht
 by_cases hi:i<l.length
 ·exact((h i hi).2.1 t ht).1
 ·rw[List.getD_eq_getElem?_getD,List.getElem?_eq_none (by omega)] at ht
  rw[show(none:Option α).getD d=d from rfl,hd] at ht
  cases ht
theorem Fits.nn (h:Fits p s):Nn s:=
 ⟨nn_get (f:=fun x:SemD=>x.queue.map (·.1)) (fun i hi=>(h.se i hi).1.2.2.2.1) rfl,nn_get (f:=OnceD.waits) (fun i hi=>by
  rcases h.on i hi with ⟨-,-,-,e⟩|⟨-,-,-,e,-⟩|⟨-,-,-,e⟩
  ·rw[e];exact⟨by simp,by simp,by simp⟩
  ·exact e
  ·rw[e];exact⟨by simp,by simp,by simp⟩) rfl,nn_get (f:=GrpD.waits) (fun i hi=>(h.gr i hi).2.1) rfl,nn_get (f:=BarD.waits) (fun i hi=>(h.ba i hi).1.2.2.1) rfl,nn_get (f:=fun c=>c.senders.map (·.1)++c.getters) (fun i hi=>(h.ch i hi).1.2.2.2.2.1) rfl⟩
theorem nn_snoc {l:List Int} {t:Int} (h:∀u∈l,0≤u) (ht:0≤t):∀u∈l++[t],0≤u:=fun u hu=>by
 rcases xP1 hu with hu|hu
 ·exact h u hu
 ·rw[xS1 hu];exact ht
theorem map_snoc (l:List Int) (t:Int):l.map (tau a b)++[tau a b t]=(l++[t]).map (tau a b):=by simp
theorem sym_step (h:Two a b p s) (hn:Nn s) {t:Int} (ht:0≤t):stepD (symP a b p) (symS a b s) (tau a b t)=symS a b (stepD p s t)∧Two a b p (stepD p s t):=by
 unfold stepD
 rw[h.op ht]
 obtain⟨o,ho⟩:∃o,o=opAt p s t:=⟨_,rfl⟩
 rw[←ho]
 clear ho
 by_cases k1:o.kind=1
 ·rw[if_pos k1,if_pos k1]
  exact(h.to (s':=sayIt s o.arg) rfl rfl).goOn ht
 rw[if_neg k1,if_neg k1]
 by_cases k2:o.kind=2
 ·rw[if_pos k2,if_pos k2]
  unfold doSem
  rw[sym_sem,sym_acq]
  dsimp only
  rw[sym_setSem]
  exact(h.to (s':=setSem s o.on _) rfl rfl).either ht _
 rw[if_neg k2,if_neg k2]
 by_cases k3:o.kind=3
 ·rw[if_pos k3,if_pos k3]
  unfold doRel
  rw[sym_sem,sym_rel]
  cases e:semRel (s.sems.getD o.on.toNat noSem) o.arg with
  |none=>exact⟨rfl,h.to (s':=faultIt s 1) rfl rfl⟩
  |some r=>
   obtain⟨x,l⟩:=r
   have hl:∀u∈l,0≤u:=fun u hu=>by
    unfold semRel at e
    split at e
    ·obtain⟨-,rfl⟩:=Prod.mk.inj (Option.some.inj e)
     exact hn.se _ u (serve_in _ _ _ hu)
    ·cases e
   dsimp only[Option.map_some]
   rw[sym_setSem,map_snoc]
   exact(h.to (s':=setSem s o.on x) rfl rfl).goAll _ (nn_snoc hl ht)
 rw[if_neg k3,if_neg k3]
 by_cases k4:o.kind=4
 ·rw[if_pos k4,if_pos k4]
  unfold doOnce
  rw[h.stat ht,sym_once]
  by_cases s2:s.status.getD t.toNat 0=2
  ·rw[if_pos s2,if_pos s2]
   rw[show onceEnd (tau a b t) o.arg=tOnce a b (onceEnd t o.arg) by unfold onceEnd tOnce;simp,sym_setOnce,show(tOnce a b (s.onces.getD o.on.toNat noOnce)).waits=(s.onces.getD o.on.toNat noOnce).waits.map (tau a b) from rfl,map_snoc]
   exact(h.to (s':=setOnce s o.on _) rfl rfl).goAll _ (nn_snoc (hn.on _) ht)
  rw[if_neg s2,if_neg s2,show(tOnce a b (s.onces.getD o.on.toNat noOnce)).state=(s.onces.getD o.on.toNat noOnce).state from rfl]
  by_cases z0:(s.onces.getD o.on.toNat noOnce).state=0
  ·rw[if_pos z0,if_pos z0,sym_enter _ _ (.inl z0),sym_setOnce]
   exact(h.to (s':=setOnce s o.on _) rfl rfl).setStat ht 2
  rw[if_neg z0,if_neg z0]
  by_cases z1:(s.onces.getD o.on.toNat noOnce).state=1
  ·rw[if_pos z1,if_pos z1,sym_enter _ _ (.inr z1),sym_setOnce]
   exact(h.to (s':=setOnce s o.on _) rfl rfl).setStat ht 1
  rw[if_neg z1,if_neg z1]
  exact h.goOn ht
 rw[if_neg k4,if_neg k4]
 by_cases k5:o.kind=5
 ·rw[if_pos k5,if_pos k5]
  unfold doAdd
  rw[sym_grp,sym_add]
  cases e:grpAdd (s.groups.getD o.on.toNat noGrp) o.arg with
  |none=>exact⟨rfl,h.to (s':=faultIt s 2) rfl rfl⟩
  |some r=>
   obtain⟨x,l⟩:=r
   have hl:∀u∈l,0≤u:=fun u hu=>by
    unfold grpAdd at e
    split at e
    ·split at e
     ·obtain⟨-,rfl⟩:=Prod.mk.inj (Option.some.inj e)
      exact hn.gr _ u hu
     ·obtain⟨-,rfl⟩:=Prod.mk.inj (Option.some.inj e)
      cases hu
    ·cases e
   dsimp only[Option.map_some]
   rw[sym_setGrp,map_snoc]
   exact(h.to (s':=setGrp s o.on x) rfl rfl).goAll _ (nn_snoc hl ht)
 rw[if_neg k5,if_neg k5]
 by_cases k6:o.kind=6
 ·rw[if_pos k6,if_pos k6]
  unfold doWait
  rw[sym_grp,sym_wait]
  dsimp only
  rw[sym_setGrp]
  exact(h.to (s':=setGrp s o.on _) rfl rfl).either ht _
 rw[if_neg k6,if_neg k6]
 by_cases k7:o.kind=7
 ·rw[if_pos k7,if_pos k7]
  unfold doCome
  rw[sym_bar,sym_come]
  dsimp only
  rw[sym_setBar]
  have hl:∀u∈(barCome (s.bars.getD o.on.toNat noBar) t).2,0≤u:=fun u hu=>by
   unfold barCome at hu
   split at hu
   ·cases hu
   ·exact nn_snoc (hn.ba _) ht u hu
  by_cases e:(barCome (s.bars.getD o.on.toNat noBar) t).2=[]
  ·rw[if_pos e,if_pos (by rw[e];rfl)]
   exact(h.to (s':=setBar s o.on _) rfl rfl).setStat ht 1
  ·rw[if_neg e,if_neg (by simpa using e)]
   exact(h.to (s':=setBar s o.on _) rfl rfl).goAll _ hl
 rw[if_neg k7,if_neg k7]
 by_cases k8:o.kind=8
 ·rw[if_pos k8,if_pos k8]
  unfold doSend
  rw[sym_chn,sym_send]
  cases e:chnSend (s.chans.getD o.on.toNat noChn) t o.arg with
  |none=>exact⟨rfl,h.to (s':=faultIt s 3) rfl rfl⟩
  |some r=>
   obtain⟨x,l,v⟩:=r
   have hl:∀u∈l,0≤u:=fun u hu=>by
    unfold chnSend at e
    split at e
    ·cases e
    ·split at e
     ·next g gs eg=>
      obtain⟨-,e2⟩:=Prod.mk.inj (Option.some.inj e)
      obtain⟨rfl,-⟩:=Prod.mk.inj e2
      exact hn.cs o.on.toNat u (xQ1 (.inr (by rw[eg];rw[xS1 hu];simp)))
     ·split at e
      ·obtain⟨-,e2⟩:=Prod.mk.inj (Option.some.inj e)
       obtain⟨rfl,-⟩:=Prod.mk.inj e2
       cases hu
      ·obtain⟨-,e2⟩:=Prod.mk.inj (Option.some.inj e)
       obtain⟨rfl,-⟩:=Prod.mk.inj e2
       cases hu
   dsimp only[Option.map_some]
   rw[sym_setChn]
   by_cases el:l=[]
   ·subst el
    exact(h.to (s':=setChn s o.on x) rfl rfl).either ht v
   ·rw[if_neg el,if_neg (by simpa using el)]
    have h1:=(h.to (s':=sayIt (setChn s o.on x) o.arg) rfl rfl).goAll l hl
    have h2:=h1.2.either ht v
    rw[←h1.1] at h2
    exact h2
 rw[if_neg k8,if_neg k8]
 by_cases k9:o.kind=9
 ·rw[if_pos k9,if_pos k9]
  unfold doGet
  rw[sym_chn,sym_get]
  dsimp only
  rw[sym_setChn]
  have hl:∀u∈(chnGet (s.chans.getD o.on.toNat noChn) t).2.2.2,0≤u:=fun u hu=>by
   unfold chnGet at hu
   split at hu
   ·next l ls e=>
    have h1:∀z,z=l.1→0≤z:=fun z hz=>hn.cs o.on.toNat z (xQ1 (.inl (by rw[e,hz];simp)))
    split at hu
    ·exact h1 u (xS1 hu)
    ·exact h1 u (xS1 hu)
   ·split at hu
    ·cases hu
    ·split at hu<;>cases hu
  by_cases e:(chnGet (s.chans.getD o.on.toNat noChn) t).2.2.1=0
  ·rw[if_pos e,if_pos e]
   exact(h.to (s':=setChn s o.on _) rfl rfl).setStat ht 1
  ·rw[if_neg e,if_neg e,map_snoc]
   by_cases e1:(chnGet (s.chans.getD o.on.toNat noChn) t).2.2.1=1
   ·rw[if_pos e1,if_pos e1]
    exact(h.to (s':=sayIt (setChn s o.on _) _) rfl rfl).goAll _ (nn_snoc hl ht)
   ·rw[if_neg e1,if_neg e1]
    exact(h.to (s':=setChn s o.on _) rfl rfl).goAll _ (nn_snoc hl ht)
 rw[if_neg k9,if_neg k9]
 unfold doClose
 rw[sym_chn,sym_close]
 cases e:chnClose (s.chans.getD o.on.toNat noChn) with
 |none=>exact⟨rfl,h.to (s':=faultIt s 4) rfl rfl⟩
 |some r=>
  obtain⟨x,l⟩:=r
  have hl:∀u∈l,0≤u:=fun u hu=>by
   unfold chnClose at e
   split at e
   ·cases e
   ·obtain⟨-,rfl⟩:=Prod.mk.inj (Option.some.inj e)
    exact hn.cs o.on.toNat u (xQ1 (.inr hu))
  dsimp only[Option.map_some]
  rw[sym_setChn,map_snoc]
  exact(h.to (s':=setChn s o.on x) rfl rfl).goAll _ (nn_snoc hl ht)
theorem sym_ready (h:Two a b p s) {t:Int} (ht:t∈readyOf s):tau a b t∈readyOf (symS a b s):=by
 obtain⟨hf,i,rfl,hi,hs⟩:=mem_ready ht
 unfold readyOf
 rw[if_pos (show(symS a b s).fault=0 from hf)]
 have hl:(symS a b s).status.length=s.status.length:=swapTs_len _ _ _ _
 refine List.mem_map.2 ⟨ex a b i,List.mem_filter.2 ⟨List.mem_range.2 ?_,?_⟩,?_⟩
 ·rw[hl];exact(ex_lt (by rw[h.ns];exact h.pa) (by rw[h.ns];exact h.pb)).2 hi
 ·have:=h.stat (t:=(i:Int)) (by omega)
  rw[tau_nat (by omega),Int.toNat_natCast] at this
  rw[this];simpa using hs
 ·have h1:(tau a b (i:Int)).toNat=ex a b i:=by rw[tau_nat (by omega),Int.toNat_natCast]
  have h2:=tau_nn (a:=a) (b:=b) (t:=(i:Int)) (by omega)
  omega
theorem sym_none (h:Two a b p s) (h0:readyOf s=[]):readyOf (symS a b s)=[]:=by
 refine List.eq_nil_iff_forall_not_mem.2 fun t ht=> ?_
 obtain⟨hf,i,rfl,hi,hs⟩:=mem_ready ht
 have hl:(symS a b s).status.length=s.status.length:=swapTs_len _ _ _ _
 have hx:((ex a b i:Nat):Int)∈readyOf s:=by
  unfold readyOf
  rw[if_pos (show s.fault=0 from hf)]
  refine List.mem_map.2 ⟨ex a b i,List.mem_filter.2 ⟨List.mem_range.2 ((ex_lt (by rw[h.ns];exact h.pa) (by rw[h.ns];exact h.pb)).2 (by rw[hl] at hi;exact hi)),?_⟩,rfl⟩
  have e:(symS a b s).status.getD i 0=s.status.getD (ex a b i) 0:=sw_get 0 _ (by rw[h.ns];exact h.pa) (by rw[h.ns];exact h.pb) i
  rw[e] at hs;simpa using hs
 rw[h0] at hx
 cases hx
theorem sym_all (h:Two a b p s) (f:Int→Bool):(symS a b s).status.all f=s.status.all f:=by
 have hl:(symS a b s).status.length=s.status.length:=swapTs_len _ _ _ _
 have key:∀l:List Int,l.all f=true↔∀i,i<l.length→f (l.getD i 0)=true:=fun l=>by
  rw[List.all_eq_true]
  refine⟨fun h i hi=>h _ (by simp[List.getD,hi]),fun h x hx=> ?_⟩
  obtain⟨i,hi,rfl⟩:=List.mem_iff_getElem.1 hx
  have:=h i hi
  simpa[List.getD,hi] using this
 have e:∀i,(symS a b s).status.getD i 0=s.status.getD (ex a b i) 0:=fun i=>sw_get 0 _ (by rw[h.ns];exact h.pa) (by rw[h.ns];exact h.pb) i
 have hx:∀{i},ex a b i<s.status.length↔i<s.status.length:=ex_lt (by rw[h.ns];exact h.pa) (by rw[h.ns];exact h.pb)
 rw[Bool.eq_iff_iff,key,key,hl]
 refine⟨fun h i hi=> ?_,fun h i hi=> ?_⟩
 ·have:=h (ex a b i) (hx.2 hi)
  rwa [e,ex_ex] at this
 ·rw[e];exact h _ (hx.2 hi)
theorem sym_start (ha:a<p.threads.length) (hb:b<p.threads.length):startOf (symP a b p)=symS a b (startOf p)∧Two a b p (startOf p):=by
 refine⟨?_,ha,hb,by simp[startOf],by simp[startOf]⟩
 have key:∀(f:List OpD→Int),(swapTs [] p.threads a b).map f=swapTs 0 (p.threads.map f) a b:=fun f=>by
  refine List.ext_getElem (by simp[swapTs_len]) fun k h1 h2=> ?_
  have hk:k<p.threads.length:=by simpa[swapTs_len] using h1
  have hx:=(ex_lt (i:=k) ha hb).2 hk
  have e1:∀(m:List Int) (h:k<m.length),m[k]=m.getD k 0:=fun m h=>by simp[List.getD,h]
  rw[e1 _ h2,sw_get 0 _ (by simpa using ha) (by simpa using hb)]
  have e2:(swapTs [] p.threads a b)[k]'(by rw[swapTs_len];exact hk)=(swapTs [] p.threads a b).getD k []:=by simp[List.getD,swapTs_len,hk]
  rw[List.getElem_map,e2,sw_get [] _ ha hb]
  simp[List.getD,hx]
 unfold startOf symS symP Pg.thr
 simp only[key]
 simp[tSem,tOnce,tGrp,tBar,tChn,noOnce,List.map_map,Function.comp_def]
def chTrace (T:List Int) (_:StD) (tr:List Int):Option Int:=if tr.length=T.length then none else some (T.getD tr.length 0)
theorem walkD_pre {ch:StD→List Int→Option Int}:∀(n:Nat) (s:StD) (tr:List Int) (r:StD×List Int),walkD p ch n s tr=some r→∃suf,r.2=tr++suf
 |0,_,_,_,h=>by cases h
 |n+1,s,tr,r,h=>by
  unfold walkD at h
  split at h
  ·obtain rfl:=Option.some.inj h
   exact⟨[],by simp⟩
  ·next t _=>
   split at h
   ·obtain⟨suf,e⟩:=walkD_pre n _ _ r h
    exact⟨t::suf,by rw[e];simp⟩
   ·cases h
theorem sym_walk {ch:StD→List Int→Option Int} {sf:StD} {T:List Int}:∀(n:Nat) (s:StD) (tr:List Int),Run p s→Two a b p s→walkD p ch n s tr=some (sf,T)→walkD (symP a b p) (chTrace (T.map (tau a b))) n (symS a b s) (tr.map (tau a b))=some (symS a b sf,T.map (tau a b))∧Two a b p sf∧Run p sf∧ch sf T=none
 |0,_,_,_,_,h=>by cases h
 |n+1,s,tr,hr,h2,h=>by
  have hp:=walkD_pre _ _ _ _ h
  unfold walkD at h
  split at h
  ·next e=>
   obtain⟨rfl,rfl⟩:=Prod.mk.inj (Option.some.inj h)
   exact⟨walkD_end (if_pos rfl),h2,hr,e⟩
  ·next t e=>
   split at h
   ·next hin=>
    obtain⟨suf,es⟩:=walkD_pre _ _ _ _ h
    have ht:=(hr.fits.turn hin).rg.1
    have h3:=sym_step h2 hr.fits.nn ht
    have ih:=sym_walk n (stepD p s t) (tr++[t]) (hr.step (hr.fits.turn hin)) h3.2 h
    refine⟨?_,ih.2⟩
    have hc:chTrace (T.map (tau a b)) (symS a b s) (tr.map (tau a b))=some (tau a b t):=by
     have es':T=tr++[t]++suf:=es
     unfold chTrace
     rw[if_neg (by rw[es'];simp)]
     congr 1
     rw[es',List.getD_eq_getElem?_getD]
     simp
    rw[walkD_step hc (sym_ready h2 hin),h3.1]
    have:=ih.1
    rwa [List.map_append] at this
   ·cases h
end
end Go.Proofs.YtjmpejaifmopnaaGreat
