/- Part of a proof: Rinv. -/
import Derived.Test.YtjmpejaifmopnaaGreatQRk
set_option maxRecDepth 100000
set_option maxHeartbeats 16000000
namespace Go.Proofs.YtjmpejaifmopnaaGreat
open Go.RowKit
structure RI (l h:List Oper) (n:Nat) (I:(Nat→Bool)→(Nat→Value)→World→Prop) (a0:Act) (fuel:Nat) (listed:Array Bool) (a:Act) (w:World):Prop where
 inv:HeadInv .any l.toArray n listed
 left:((listed.toList.take n).filter (· ==false)).length=fuel
 good:I (fun j=>listed.getD j false) (slotAt h a.eval) w
 frame:a0.tmps.size=a.tmps.size
 defs:a0.defers=a.defers
 same:∀t,(∀j o,h[j]? =some o→listed.getD j false=true→o.dst≠some t)→a.tmps[t]? =a0.tmps[t]?
def StepI (P:Program) (h:List Oper) (I:(Nat→Bool)→(Nat→Value)→World→Prop) (ρ0:Operand→Value) (i:Nat) (o:Oper):Prop:=∀ρ w L,I L (slotAt h ρ) w→(∀j∈waits o,L j=true)→(∀j p,h[j]? =some p→(j==i||(waits p).contains i)=true→L j=false)→(∀x,outer h x=true→ρ x=ρ0 x)→gives P o ρ w (fun u w'=>I (fun j=>decide (j=i)||L j) (fun j=>if j=i then kept o u else slotAt h ρ j) w')
def StepsI (P:Program) (h:List Oper) (I:(Nat→Bool)→(Nat→Value)→World→Prop) (ρ0:Operand→Value):List Oper→Nat→Prop
 |[],_=>True
 |o::os,i=>StepI P h I ρ0 i o∧StepsI P h I ρ0 os (i+1)
theorem StepsI.at {P:Program} {h:List Oper} {I:(Nat→Bool)→(Nat→Value)→World→Prop} {ρ0:Operand→Value}:∀{os:List Oper} {k i:Nat} {o:Oper},StepsI P h I ρ0 os k→os[i]? =some o→StepI P h I ρ0 (k+i) o
 |[],_,i,o,_,e=>by simp at e
 |p::os,k,0,o,hs,e=>by
  obtain rfl:p=o:=by simpa using e
  exact hs.1
 |p::os,k,i+1,o,hs,e=>by
  have:=StepsI.at (i:=i) (k:=k+1) hs.2 (by simpa using e)
  rw[show k+1+i=k+(i+1) by omega] at this
  exact this
theorem wpAny_inv {P:Program} {l h:List Oper} {n:Nat} {I:(Nat→Bool)→(Nat→Value)→World→Prop} {a0:Act} {Q:Exit→Act→World→Prop} (hI0:∀L L' σ σ' w,(∀j,j<n→L j=L' j)→(∀j,j<n→L j=true→σ j=σ' j)→I L σ w→I L' σ' w)
  (hh:h=l.take n) (hf:fits l n a0.tmps.size=true) (hsteps:StepsI P h I a0.eval h 0)
  (hend:∀(vs:List Value) w,vs.length=n→I (fun _=>true) (fun j=>vs.getD j undef) w→wpList P l.toArray Q (l.drop n) (putAll h a0 vs) w):
  ∀(fuel:Nat) (listed:Array Bool) (a:Act) (w:World),RI l h n I a0 fuel listed a w→wpAny P .any l.toArray Q (fuel+(l.length-n)) listed a w:=by
 simp only[fits,Bool.and_eq_true,decide_eq_true_eq] at hf
 obtain⟨⟨⟨⟨⟨⟨hg,hd⟩,hin⟩,hearly⟩,hn⟩,hsink⟩,hseq⟩:=hf
 rw[←hh] at hd hin
 have hhl:h.length=n:=by rw[hh];simp[hn]
 have hget:∀j,j<n→h[j]? =l[j]? :=fun j hj=>by rw[hh];simp[hj]
 have hearly':∀i o,l[i]? =some o→∀e∈o.after,Region.binds .any e=true→e.on<i:=by
  intro i o hi e he hb
  have hil:i<l.length:=(List.getElem?_eq_some_iff.1 hi).1
  have h1:=List.all_eq_true.1 hearly i (List.mem_range.2 hil)
  rw[hi] at h1
  have h2:=List.all_eq_true.1 h1 e.on (by unfold waits;exact List.mem_map.2 ⟨e,List.mem_filter.2 ⟨by simpa using he,hb⟩,rfl⟩)
  simpa using h2
 intro fuel
 induction fuel with
 |zero=>
  intro listed a w hI
  have hL:=listed_eq hI.inv hn hI.left
  have hall:∀j,j<n→listed.getD j false=true:=by
   intro j hj
   rw[hL];simp[headListed,hj,show j<l.length by omega]
  have e:putAll h a0 (h.map (slotOf a))=a:=putAll_self a h a0 hI.frame hI.defs fun t ht=>hI.same t fun j o hj _=>ht o (List.mem_of_getElem? hj)
  have hvs:∀j,slotAt h a.eval j=(h.map (slotOf a)).getD j undef:=by
   intro j
   by_cases hj:j<h.length
   ·rw[slotAt_eq (o:=h[j]) (by simp[hj])];simp[List.getD,hj]
   ·unfold slotAt;simp[List.getD,Nat.le_of_not_lt hj]
  have hfin:=hend (h.map (slotOf a)) w (by simp[hhl]) (hI0 _ _ _ _ _ (fun j hj=>hall j hj) (fun j _ _=>hvs j) hI.good)
  rw[e] at hfin
  have hdl:(l.drop n).length=l.length-n:=by simp
  have:=wpAny_of_seq (md:= .any) (Q':=Q) (l.drop n) n listed a w (fun j=>by simp[List.getElem?_drop]) (by rw[hdl,hL];exact hseq) hfin
  rw[Nat.zero_add]
  rwa [hdl] at this
 |succ fuel ih=>
  intro listed a w hI
  --some operation of the head is not listed;the first of them is ready
  have hex:∃i,i<n∧listed.getD i true=false:=by
   have hne:(listed.toList.take n).filter (· ==false)≠[]:=fun h0=>by have:=hI.left;rw[h0] at this;simp at this
   obtain⟨b,hb⟩:=List.exists_mem_of_ne_nil _ hne
   obtain⟨hb1,hb2⟩:=List.mem_filter.1 hb
   obtain⟨i,hi,e⟩:=List.mem_iff_getElem.1 hb1
   simp only[List.length_take,Array.length_toList] at hi
   refine⟨i,by omega,?_⟩
   have:listed[i]'(by omega)=b:=by simpa using e
   simp only[beq_iff_eq] at hb2
   simp[show i<listed.size by omega,this,hb2]
  have hsz:listed.size=l.length:=by have:=hI.inv.size;simpa using this
  have hready:Region.ready .any l.toArray listed≠[]:=by
   have hmin:∃i,(i<n∧listed.getD i true=false)∧∀k,k<i→¬(k<n∧listed.getD k true=false):=by
    obtain⟨i,hi⟩:=hex
    exact least_of (fun i=>i<n∧listed.getD i true=false) i hi
   obtain⟨i,⟨hi,hu⟩,hmin⟩:=hmin
   obtain⟨o,ho⟩:∃o,l[i]? =some o:=⟨l[i]'(by omega),by simp[show i<l.length by omega]⟩
   have:i∈Region.ready .any l.toArray listed:=Go.mem_ready.2 ⟨hu,o,by simpa using ho,fun e he hb=>by
    have hlt:=hearly' i o ho e he hb
    have:=hmin e.on hlt
    have h2:listed.getD e.on true≠false:=fun h0=>this ⟨by omega,h0⟩
    simp only[Bool.not_eq_false] at h2
    have h3:e.on<listed.size:=by omega
    simpa[h3] using h2⟩
   intro h0
   rw[h0] at this
   cases this
  rw[show fuel+1+(l.length-n)=(fuel+(l.length-n))+1 by omega]
  refine⟨fun h0=>absurd h0 hready,fun i hi=> ?_⟩
  obtain⟨hu,o,ho,hdeps⟩:=Go.mem_ready.1 hi
  have hol:l[i]? =some o:=by simpa using ho
  have hil:i<l.length:=(List.getElem?_eq_some_iff.1 hol).1
  have hin':i<n:=by
   rcases Nat.lt_or_ge i n with hlt|hge
   ·exact hlt
   ·exfalso
    obtain⟨i0,hi0,hu0⟩:=hex
    simp only[Bool.or_eq_true,decide_eq_true_eq,Bool.and_eq_true] at hsink
    rcases hsink with hsink|⟨hs,hc⟩
    ·omega
    ·exact tail_waits hs hc (by simpa using(show n<l.length by omega)) hI.inv _ i0 rfl hi0 hu0 i hge hi
  have hoh:h[i]? =some o:=by rw[hget i hin'];exact hol
  have hmem:o∈l:=List.mem_of_getElem? hol
  have hgo:o.guard=none:=by
   have:=List.all_eq_true.1 hg o hmem
   simpa using this
  unfold wpOp
  rw[ho]
  have hw:Region.wanted o (yielded l.toArray a.tmps)=true:=by simp[Region.wanted,hgo]
  simp only[hw,if_true]
  refine .inl ?_
  have hlt:i<listed.size:=by omega
  have hfalse:listed[i]=false:=by
   have:listed.getD i true=listed[i]:=by simp[hlt]
   rw[←this];exact hu
  have hW:∀j∈waits o,listed.getD j false=true:=by
   intro j hj
   unfold waits at hj
   obtain⟨e,he,rfl⟩:=List.mem_map.1 hj
   obtain⟨he1,he2⟩:=List.mem_filter.1 he
   exact hdeps e (by simpa using he1) he2
  have hout:∀x,outer h x=true→a.eval x=a0.eval x:=by
   intro x hx
   cases x with
   |tmp t=>
    have hn:∀o'∈h,o'.dst≠some t:=by
     intro o' ho' e
     simp only[outer,Bool.not_eq_true',List.any_eq_false] at hx
     exact hx o' ho' (by simp[e])
    have:=hI.same t (fun j o' hj _=>hn o' (List.mem_of_getElem? hj))
    simp only[Act.eval]
    rw[Array.getD_eq_getD_getElem?,Array.getD_eq_getD_getElem?,this]
   |_=>rfl
  have hny:∀j p,h[j]? =some p→(j==i||(waits p).contains i)=true→listed.getD j false=false:=by
   intro j p hj hc
   by_cases hji:j=i
   ·subst hji;exact getD_both hu
   replace hc:(waits p).contains i=true:=by simpa[hji] using hc
   cases hlj:listed.getD j false with
   |false=>rfl
   |true=>
    exfalso
    have hjn:j<n:=by rw[←hhl];exact(List.getElem?_eq_some_iff.1 hj).1
    have hpl:l[j]? =some p:=by rw[←hget j hjn];exact hj
    have hm:i∈waits p:=by simpa using hc
    unfold waits at hm
    obtain⟨e,he,heq⟩:=List.mem_map.1 hm
    obtain⟨he1,he2⟩:=List.mem_filter.1 he
    have:=hI.inv.closed j p (by simpa using hpl) hlj e (by simpa using he1) he2
    rw[heq] at this
    have h2:listed.getD i false=false:=getD_both hu
    rw[h2] at this;cases this
  have hstep:=StepsI.at (k:=0) hsteps hoh
  rw[Nat.zero_add] at hstep
  refine wp_of_gives (hstep a.eval w _ hI.good hW hny hout) fun u w' hp=>ih _ _ _ ?_
  have hdl:∀d,o.dst=some d→d<a.tmps.size:=by
   intro d hod
   have:=List.all_eq_true.1 hin o (List.mem_of_getElem? hoh)
   rw[hod] at this
   rw[←hI.frame];simpa using this
  have hself:slotOf (a.put o.dst u) o=kept o u:=by
   unfold slotOf kept
   cases hod:o.dst with
   |none=>rfl
   |some d=>simp[Act.put,hdl d hod]
  have hslot:∀j p,h[j]? =some p→j≠i→slotOf (a.put o.dst u) p=slotOf a p:=by
   intro j p hj hne
   unfold slotOf
   cases hpd:p.dst with
   |none=>rfl
   |some d=>
    cases hod:o.dst with
    |none=>rfl
    |some d'=>
     have hdd:=distinct_ne hd hoh hj (fun e=>hne e.symm) hod
     have hne':d'≠d:=fun e=>hdd (by rw[hpd,e])
     simp[Act.put,Array.getElem?_setIfInBounds_ne hne']
  have hG':I (fun j=>(listed.setIfInBounds i true).getD j false) (slotAt h (a.put o.dst u).eval) w':=by
   have e:(fun j=>(listed.setIfInBounds i true).getD j false)=fun j=>decide (j=i)||listed.getD j false:=by
    funext j
    by_cases e:j=i
    ·subst e;simp[hlt]
    ·have:(listed.setIfInBounds i true).getD j false=listed.getD j false:=by
      rw[Array.getD_eq_getD_getElem?,Array.getD_eq_getD_getElem?,Array.getElem?_setIfInBounds_ne (fun h=>e h.symm)]
     rw[this];simp[e]
   refine hI0 _ _ _ _ _ (fun j _=>(congrFun e j).symm) (fun j hj _=> ?_) hp
   have hq:h[j]? =some (h[j]'(by omega)):=by simp[show j<h.length by omega]
   rw[slotAt_eq hq,slotAt_eq hq]
   by_cases e':j=i
   ·subst e'
    rw[hoh] at hq
    rw[if_pos rfl,←Option.some.inj hq,hself]
   ·rw[if_neg e',hslot j _ hq e']
  refine⟨hI.inv.set hi hin',?_,hG',?_,?_,?_⟩
  ·have hx:listed.toList[i]? =some false:=by simp[hlt,hfalse]
   have:=filter_set listed.toList n i hin' hx
   have e:(listed.setIfInBounds i true).toList=listed.toList.set i true:=by simp
   rw[e]
   have:=hI.left
   omega
  ·rw[hI.frame];cases o.dst<;>simp[Act.put]
  ·rw[hI.defs];cases o.dst<;>simp[Act.put]
  ·intro t ht
   have hio:o.dst≠some t:=ht i o hoh (by simp[hlt])
   have hold:=hI.same t (fun j p hj hl=>ht j p hj (by
    by_cases e:j=i
    ·subst e;simp[hlt]
    ·rw[Array.getD_eq_getD_getElem?,Array.getElem?_setIfInBounds_ne (fun h=>e h.symm),←Array.getD_eq_getD_getElem?];exact hl))
   rw[←hold]
   cases hod:o.dst with
   |none=>rfl
   |some d=>simp only[Act.put];rw[Array.getElem?_setIfInBounds_ne (fun e=>hio (by rw[hod,e]))]
theorem wp_region_inv {P:Program} {id:Nat} {l:List Oper} (n:Nat) (I:(Nat→Bool)→(Nat→Value)→World→Prop) {a0:Act} {w:World} {Q:Exit→Act→World→Prop} (hI0:∀L L' σ σ' w,(∀j,j<n→L j=L' j)→(∀j,j<n→L j=true→σ j=σ' j)→I L σ w→I L' σ' w) (h0:∀σ,I (fun _=>false) σ w.drew) (hsteps:StepsI P (l.take n) I a0.eval (l.take n) 0)
  (hend:∀(vs:List Value) w,vs.length=n→I (fun _=>true) (fun j=>vs.getD j undef) w→wpList P l.toArray Q (l.drop n) (putAll (l.take n) a0 vs) w) (hm:P.follows .mixedOrders=true:=by kernel_rfl) (hf:fits l n a0.tmps.size=true:=by kernel_rfl):(Code.region id l.toArray true).wp P Q a0 w:=by
 have hn:n≤l.length:=(fits_early hf).2
 refine wp_region_any hm ?_
 have hne:∀j:Nat,(Array.replicate l.length false).getD j false=true→False:=fun j hj=>by
  simp only[Array.getD_eq_getD_getElem?,Array.getElem?_replicate] at hj
  split at hj<;>simp at hj
 have:=wpAny_inv hI0 rfl hf hsteps hend n (Array.replicate l.length false) a0 w.drew
  ⟨⟨by simp,fun j oj _ hl=>(hne j hl).elim,fun t _ ht=>getD_in (by simpa using ht) (getD_replicate_false _ _)⟩,
  by simp[List.take_replicate,Nat.min_eq_left hn],hI0 _ _ _ _ _ (fun j _=>(getD_replicate_false _ _).symm) (fun _ _ h=>by cases h) (h0 (slotAt (l.take n) a0.eval)),rfl,rfl,fun t _=>rfl⟩
 rw[show n+(l.length-n)=l.length by omega] at this
 simpa using this
end Go.Proofs.YtjmpejaifmopnaaGreat
