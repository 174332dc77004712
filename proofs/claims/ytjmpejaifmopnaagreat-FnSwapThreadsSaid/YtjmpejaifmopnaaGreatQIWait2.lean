/- Part of a proof: IWait2. -/
import Derived.Test.YtjmpejaifmopnaaGreatQPDel
set_option maxRecDepth 100000
set_option maxHeartbeats 16000000
namespace Go.Proofs.YtjmpejaifmopnaaGreat
open Go.RowKit
theorem allE_prefix {α:Type} (f:Nat→List α):∀{n k:Nat},k<n→(allE f k++f k)<+:allE f n
 |0,k,h=>by omega
 |n+1,k,h=>by
  rcases Nat.lt_or_ge k n with h1|h1
  ·exact(allE_prefix f h1).trans (List.prefix_append _ _)
  ·obtain rfl:k=n:=by omega
   exact List.prefix_refl _
theorem nodup_pre {α:Type} {l es:List (Int×α)} {e:Int×α} (h:(l.map (·.1)).Nodup) (hp:es++[e]<+:l):e.1∉es.map (·.1):=by
 obtain⟨r,rfl⟩:=hp
 intro hm
 rw[List.map_append,List.map_append,List.append_assoc,List.nodup_append] at h
 exact h.2.2 e.1 hm e.1 (by simp) rfl
abbrev oneC (x:Int):List Value:=[.int .i64 x]
abbrev wfb (w:World) (v:StV):List It:=[.blk (w.heap.size+2) #[.map (some (w.heap.size+1))] 98,.blk w.heap.size (svC v) 38]
structure WF (w W:World) (v:StV) (l:List It) (es:List Ent) (os:List (Int×Int)):Prop where
 fr:Fr w W (l++wfb w v)
 wm:WMap entC W (w.heap.size+1) es
 om:WMap oneC W (w.heap.size+3) os
theorem WF.call {w W W':World} {v:StV} {l:List It} {es:List Ent} {os:List (Int×Int)} (h:WF w W v l es os) (hb:Below W.heap.size W W'):WF w W' v l es os:=⟨h.fr.call hb,h.wm.below hb,h.om.below hb⟩
theorem WF.alloc {w W:World} {v:StV} {l:List It} {es:List Ent} {os:List (Int×Int)} (h:WF w W v l es os) (cs:Array Value) (T:TypeId):WF w (W.alloc (.cells cs T)) v (.blk W.heap.size cs T::l) es os:=
 ⟨h.fr.alloc cs T,h.wm.below (xA1),h.om.below (xA1)⟩
theorem WF.tail {w W:World} {v:StV} {i:It} {l:List It} {es:List Ent} {os:List (Int×Int)} (h:WF w W v (i::l) es os):WF w W v l es os:=⟨h.fr.sub (.cons _ (.refl _)),h.wm,h.om⟩
theorem WF.mapIn {w W:World} {v:StV} {l:List It} {es:List Ent} {os:List (Int×Int)} (h:WF w W v l es os) (B:Nat) (hB:B=w.heap.size+1∨B=w.heap.size+3):w.heap.size≤B∧B∉foots (l++wfb w v):=by
 refine⟨by omega,fun hm=> ?_⟩
 obtain⟨i,hi,hq⟩:=List.mem_flatMap.1 hm
 have hh:=h.fr.has i hi
 have hmap:∃L,MapI W B L:=by
  rcases hB with rfl|rfl
  ·obtain⟨Z,_,h2,_⟩:=h.wm;exact⟨_,h2⟩
  ·obtain⟨Z,_,h2,_⟩:=h.om;exact⟨_,h2⟩
 obtain⟨L,es',clock,hb,_⟩:=hmap
 cases i with
 |blk b cs T=>
  obtain rfl:=xS1 hq
  have h9:=hh.2
  unfold Blk at h9
  rw[h9] at hb
  cases hb
 |row a n c E sz cs=>
  have hq':rowOf a=some B:=by simpa[It.foot] using hq
  obtain⟨cur,fr,h9⟩:=owns_typed hh B hq'
  rw[h9] at hb
  cases hb
theorem WF.add {w W W':World} {v:StV} {l:List It} {es es':List Ent} {os:List (Int×Int)} (h:WF w W v l es os) (hw:WMap entC W' (w.heap.size+1) es') (hg:W.grownBy W' (some (w.heap.size+1))):WF w W' v l es' os:=by
 obtain⟨Z,_,h2,_⟩:=h.wm
 exact⟨h.fr.other (Touch.of_grown (S:=[w.heap.size+1]) hg fun k hk=>by cases hk;simp) (fun k hk=>by obtain rfl:=xS1 hk;exact h.mapIn _ (.inl rfl)),hw,h.om.grown hg (by omega) (fun _=>by simp) h2⟩
theorem WF.own {w W W':World} {v:StV} {l:List It} {es:List Ent} {os os':List (Int×Int)} (h:WF w W v l es os) (hw:WMap oneC W' (w.heap.size+3) os') (hg:W.grownBy W' (some (w.heap.size+3))):WF w W' v l es os':=by
 obtain⟨Z,_,h2,_⟩:=h.om
 exact⟨h.fr.other (Touch.of_grown (S:=[w.heap.size+3]) hg fun k hk=>by cases hk;simp) (fun k hk=>by obtain rfl:=xS1 hk;exact h.mapIn _ (.inr rfl)),h.wm.grown hg (by omega) (fun _=>by simp) h2,hw⟩
theorem implWaitingsOf_ok (v:StV) (L:StL) (s:StD) (w:World) (hr:StR w v L s) (hz:SmS s) (hne:(eT s).Nodup) (hno:(oT s).Nodup):
  Calls Tryz.prog 53 #[.agg #[.slice v.pl.a v.pl.n v.pl.c,.slice v.st.a v.st.n v.st.c,.slice v.se.a v.se.n v.se.c,.slice v.on.a v.on.n v.on.c,.slice v.gr.a v.gr.n v.gr.c,.slice v.ba.a v.ba.n v.ba.c,.slice v.ch.a v.ch.n v.ch.c,.slice v.sa.a v.sa.n v.sa.c,.int .i64 v.fl]] w fun e w'=>e= .returned (.tuple #[.map (some (w.heap.size+1)),.map (some (w.heap.size+3))])∧WMap entC w' (w.heap.size+1) (ents s)∧WMap oneC w' (w.heap.size+3) (owns s)∧Below w.heap.size w w':=by
 have HS:=xH1 hr
 have HZ:=xH1 hz
 have HNE:=xH1 hne
 have HNO:=xH1 hno
 have nse:v.se.n≤1048576:=by rw[hr.se.len];exact hz.se
 have non:v.on.n≤1048576:=by rw[hr.on.len];exact hz.on
 have ngr:v.gr.n≤1048576:=by rw[hr.gr.len];exact hz.gr
 have nba:v.ba.n≤1048576:=by rw[hr.ba.len];exact hz.ba
 have nch:v.ch.n≤1048576:=by rw[hr.ch.len];exact hz.ch
 have hmm:= @run_makeMap Tryz.prog
 have hmf:∀(fn:Fn) (first cap:Array Value) (w:World),(Instr.makeFunc fn first cap).run Tryz.prog w= .ok (.func fn first cap) w:=fun _ _ _ _=>rfl
 have EG:Hid (∀args w,(callFunc 83 args).run Tryz.prog w= .ok (.enter 83 args) w):=xH1 (enters_of Tryz.func83 (by kernel_rfl) rfl)
 have eg:=EG.out
 have F:=(Fr.start w).alloc (svC v) 38
 have b1:Below (w.alloc (.cells (svC v) 38)).heap.size (w.alloc (.cells (svC v) 38)) ((w.alloc (.cells (svC v) 38)).alloc (.map #[] 0)):=xA1
 have hm1:=WMap.made (f:=entC) (w.alloc (.cells (svC v) 38))
 have F1:=(F.call b1).alloc #[.map (some (w.heap.size+1))] 98
 have hm2:=hm1.below (xB1.alloc xL1 (.cells #[.map (some (w.heap.size+1))] 98))
 have b2:=((Below.refl _ (((w.alloc (.cells (svC v) 38)).alloc (.map #[] 0)).alloc (.cells #[.map (some (w.heap.size+1))] 98))).alloc xL1 (.map #[] 0))
 have F2:=F1.call b2
 have hm3:=hm2.below b2
 have hm4:=WMap.made (f:=oneC) (((w.alloc (.cells (svC v) 38)).alloc (.map #[] 0)).alloc (.cells #[.map (some (w.heap.size+1))] 98))
 simp only[World.size_alloc] at F2 hm3 hm4
 have h0:WF w _ v [] [] []:=⟨F2,hm3,hm4⟩
 clear hr hz hne hno F b1 hm1 F1 hm2 b2 F2 hm3 hm4
 go_enter Tryz.func53,Tryz.ntmps53
 go_upto_region 4 with fail
 obtain⟨w1,hw,h⟩:∃x,x=_∧WF w x v [] [] []:=⟨_,rfl,h0⟩
 rw[←hw]
 clear hw h0
 have cs:=h.fr.c9 1 rfl
 go_wp2
 clear cs
 go_loopw [35] (fun i wr=>∃k:Nat,k≤v.se.n∧i= .int .i64 k∧WF w wr v [] (([]:List Ent)++allE (fun i=>semEn (s.sems.getD i noSem) i) k) ([])) (fun i _=>v.se.n-(intOf i).toNat)
 case atStart=>exact⟨0,by omega,rfl,by simpa[allE] using h⟩
 case round=>
  clear h
  obtain⟨k,hk,rfl,h⟩:=hrel
  obtain⟨wo,rfl⟩:∃x,x=wr:=⟨_,rfl⟩
  by_cases hlt:k<v.se.n
  ·have hks:k<s.sems.length:=by have:=HS.out.se.len;omega
   obtain⟨x,q,b1,o1,HX,ea,g0,g1,g2,Q0,QL0,QC0⟩:=HS.out.at_se (j:=k) hks
   replace g0:=keepc h.fr.bel g0
   replace g1:=keepc h.fr.bel g1
   replace g2:=keepc h.fr.bel g2
   have HPF:Hid (allE (fun i=>semEn (s.sems.getD i noSem) i) k++semEn x k<+:allE (fun i=>semEn (s.sems.getD i noSem) i) s.sems.length):=xH1 (by have h9:=allE_prefix (fun i=>semEn (s.sems.getD i noSem) i) hks;rw[←HX.out] at h9;exact h9)
   have HK1:Hid (allE (fun i=>semEn (s.sems.getD i noSem) i) (k+1)=allE (fun i=>semEn (s.sems.getD i noSem) i) k++semEn x k):=xH1 (by rw[HX.out];rfl)
   have h2:=h.alloc #[.int .i64 x.free,.int .i64 x.limit,.slice q.a q.n q.c] 83
   have cx:=h2.fr.c3 0 rfl
   have HKS:=xH1 hks
   clear hks h
   have nq0:q.n≤1048576:=by rw[QL0.out,HX.out];exact HZ.out.qse k
   go_upto_region 7 with fail
   clear ea
   go_wp2
   clear cx g0 g1 g2
   go_loopw [43] (fun i wr2=>∃j:Nat,j≤q.n∧i= .int .i64 j∧WF w wr2 v [.blk wo.heap.size #[.int .i64 x.free,.int .i64 x.limit,.slice q.a q.n q.c] 83] (([]:List Ent)++allE (fun i=>semEn (s.sems.getD i noSem) i) k++((x.queue).map (fun w=>(w.1,(2:Int),(k:Int),w.2))).take j) ([])) (fun i _=>q.n-(intOf i).toNat)
   case atStart=>exact⟨0,by omega,rfl,by simpa using h2⟩
   case round=>
    clear h2
    obtain⟨j,hj,rfl,h2⟩:=hrel
    by_cases hjt:j<q.n
    ·have hjl:j<(x.queue).length:=by rw[←QL0.out];exact hjt
     obtain⟨b,o,eb,g'⟩:=((h2.fr.rd Q0.out)).pair (by omega)
     obtain⟨g1,g2⟩:=g' j hjl
     obtain⟨y,et⟩:∃y,y=(x.queue).getD j (0,0):=⟨_,rfl⟩
     rw[←et] at g1 g2
     have hsn:((x.queue).map (fun w=>(w.1,(2:Int),(k:Int),w.2))).take j++[(y.1,(2:Int),(k:Int),y.2)]=((x.queue).map (fun w=>(w.1,(2:Int),(k:Int),w.2))).take (j+1):=by
      have h9:=take_snoc ((x.queue).map (fun w=>(w.1,(2:Int),(k:Int),w.2))) ((fun w=>(w.1,(2:Int),(k:Int),w.2)) (0,0)) (j:=j) (by rw[List.length_map];exact hjl)
      rwa [List.getD_eq_getElem?_getD,List.getElem?_map,List.getElem?_eq_getElem hjl,Option.map_some,Option.getD_some,show(x.queue)[j]=y by rw[et,List.getD_eq_getElem?_getD,List.getElem?_eq_getElem hjl];rfl] at h9
     have hpre:(([]:List Ent)++allE (fun i=>semEn (s.sems.getD i noSem) i) k++((x.queue).map (fun w=>(w.1,(2:Int),(k:Int),w.2))).take j)++[(y.1,(2:Int),(k:Int),y.2)]<+:ents s:=by
      rw[List.append_assoc,hsn]
      have e1:(((x.queue).map (fun w=>(w.1,(2:Int),(k:Int),w.2))).take (j+1))<+:semEn x k:=by
       exact List.take_prefix _ _
      have e2:allE (fun i=>semEn (s.sems.getD i noSem) i) k++((x.queue).map (fun w=>(w.1,(2:Int),(k:Int),w.2))).take (j+1)<+:allE (fun i=>semEn (s.sems.getD i noSem) i) s.sems.length:=by
       exact((List.prefix_append_right_inj _).2 e1).trans HPF.out
      simp only[List.nil_append]
      exact e2.trans (List.prefix_append _ _)
     have hnot:=nodup_pre HNE.out hpre
     have HSN:=xH1 hsn
     have HNT:=xH1 hnot
     clear g' et hjl hsn hpre hnot
     have h3:=h2.alloc #[.int .i64 y.1,.int .i64 y.2] 146
     have cy:=h3.fr.c2 0 rfl
     go_upto_region 10 with fail
     clear eb g1 g2
     have hcell:=h3.fr.cell 2 0 rfl rfl
     go_wp2_with fail
     refine(implAdd_ok y.1 2 k y.2 (w.heap.size+2) (w.heap.size+1) _ _ hcell h3.wm HNT.out).mono ?_
     rintro e w6 ⟨rfl,hw6,hg6⟩
     have h4:=h3.add hw6 hg6
     rw[List.append_assoc,HSN.out] at h4
     clear h3 h2 hcell hw6 hg6
     go_wp2
     go_roundw
     case rel=>exact⟨j+1,by omega,by go_num,h4.tail⟩
     case measure=>simp[intOf];omega
    ·obtain rfl:j=q.n:=by omega
     clear hjt hj
     rw[List.take_of_length_le (by rw[List.length_map];have:=QL0.out;omega)] at h2
     have e1:([]:List Ent)++allE (fun i=>semEn (s.sems.getD i noSem) i) (k+1)=([]:List Ent)++allE (fun i=>semEn (s.sems.getD i noSem) i) k++(x.queue).map (fun w=>(w.1,(2:Int),(k:Int),w.2)):=by
      rw[HK1.out]
      simp only[semEn,List.append_assoc]
     rw[←e1] at h2
     clear e1
     have h4:=h2.tail
     clear h2
     go_wp2
     go_roundw
     case rel=>exact⟨k+1,by omega,by go_num,h4⟩
     case measure=>simp[intOf];omega
  ·obtain rfl:k=v.se.n:=by omega
   clear hlt hk
   rw[HS.out.se.len] at h
   have cs:=h.fr.c9 1 rfl
   go_wp2
   clear cs
   go_loopw [59] (fun i wr=>∃k:Nat,k≤v.on.n∧i= .int .i64 k∧WF w wr v [] (([]:List Ent)++allE (fun i=>semEn (s.sems.getD i noSem) i) s.sems.length++allE (fun i=>onceEn (s.onces.getD i noOnce) i) k) (allE (fun i=>ownEn (s.onces.getD i noOnce) i) k)) (fun i _=>v.on.n-(intOf i).toNat)
   case atStart=>exact⟨0,by omega,rfl,by simpa[allE] using h⟩
   case round=>
    clear h
    obtain⟨k,hk,rfl,h⟩:=hrel
    obtain⟨wo,rfl⟩:∃x,x=wr:=⟨_,rfl⟩
    by_cases hlt:k<v.on.n
    ·have hks:k<s.onces.length:=by have:=HS.out.on.len;omega
     obtain⟨x,q,b1,o1,HX,ea,g0,g1,g2,g3,Q0,QL0,QC0⟩:=HS.out.at_on (j:=k) hks
     replace g0:=keepc h.fr.bel g0
     replace g1:=keepc h.fr.bel g1
     replace g2:=keepc h.fr.bel g2
     replace g3:=keepc h.fr.bel g3
     have HPF:Hid (allE (fun i=>onceEn (s.onces.getD i noOnce) i) k++onceEn x k<+:allE (fun i=>onceEn (s.onces.getD i noOnce) i) s.onces.length):=xH1 (by have h9:=allE_prefix (fun i=>onceEn (s.onces.getD i noOnce) i) hks;rw[←HX.out] at h9;exact h9)
     have HK1:Hid (allE (fun i=>onceEn (s.onces.getD i noOnce) i) (k+1)=allE (fun i=>onceEn (s.onces.getD i noOnce) i) k++onceEn x k):=xH1 (by rw[HX.out];rfl)
     have h2:=h.alloc #[.int .i64 x.state,.int .i64 x.owner,.int .i64 x.value,.slice q.a q.n q.c] 96
     have cx:=h2.fr.c4 0 rfl
     have HKS:=xH1 hks
     clear hks h
     have nq0:q.n≤1048576:=by rw[QL0.out,HX.out];exact HZ.out.qon k
     go_upto_region 16 with fail
     clear ea
     go_wp2
     clear cx g0 g1 g2 g3
     go_loopw [67] (fun i wr2=>∃j:Nat,j≤q.n∧i= .int .i64 j∧WF w wr2 v [.blk wo.heap.size #[.int .i64 x.state,.int .i64 x.owner,.int .i64 x.value,.slice q.a q.n q.c] 96] (([]:List Ent)++allE (fun i=>semEn (s.sems.getD i noSem) i) s.sems.length++allE (fun i=>onceEn (s.onces.getD i noOnce) i) k++((x.waits).map (fun t=>(t,(4:Int),(k:Int),(0:Int)))).take j) (allE (fun i=>ownEn (s.onces.getD i noOnce) i) k)) (fun i _=>q.n-(intOf i).toNat)
     case atStart=>exact⟨0,by omega,rfl,by simpa using h2⟩
     case round=>
      clear h2
      obtain⟨j,hj,rfl,h2⟩:=hrel
      by_cases hjt:j<q.n
      ·have hjl:j<(x.waits).length:=by rw[←QL0.out];exact hjt
       obtain⟨b,o,eb,g'⟩:=((h2.fr.rd Q0.out)).int (by omega)
       have g1:=g' j hjl
       obtain⟨t,et⟩:∃t,t=(x.waits).getD j 0:=⟨_,rfl⟩
       rw[←et] at g1
       have hsn:((x.waits).map (fun t=>(t,(4:Int),(k:Int),(0:Int)))).take j++[(t,(4:Int),(k:Int),(0:Int))]=((x.waits).map (fun t=>(t,(4:Int),(k:Int),(0:Int)))).take (j+1):=by
        have h9:=take_snoc ((x.waits).map (fun t=>(t,(4:Int),(k:Int),(0:Int)))) ((fun t=>(t,(4:Int),(k:Int),(0:Int))) 0) (j:=j) (by rw[List.length_map];exact hjl)
        rwa [List.getD_eq_getElem?_getD,List.getElem?_map,List.getElem?_eq_getElem hjl,Option.map_some,Option.getD_some,show(x.waits)[j]=t by rw[et,List.getD_eq_getElem?_getD,List.getElem?_eq_getElem hjl];rfl] at h9
       have hpre:(([]:List Ent)++allE (fun i=>semEn (s.sems.getD i noSem) i) s.sems.length++allE (fun i=>onceEn (s.onces.getD i noOnce) i) k++((x.waits).map (fun t=>(t,(4:Int),(k:Int),(0:Int)))).take j)++[(t,(4:Int),(k:Int),(0:Int))]<+:ents s:=by
        rw[List.append_assoc,hsn]
        have e1:(((x.waits).map (fun t=>(t,(4:Int),(k:Int),(0:Int)))).take (j+1))<+:onceEn x k:=by
         exact List.take_prefix _ _
        have e2:allE (fun i=>onceEn (s.onces.getD i noOnce) i) k++((x.waits).map (fun t=>(t,(4:Int),(k:Int),(0:Int)))).take (j+1)<+:allE (fun i=>onceEn (s.onces.getD i noOnce) i) s.onces.length:=by
         exact((List.prefix_append_right_inj _).2 e1).trans HPF.out
        have e3:=(List.prefix_append_right_inj (([]:List Ent)++allE (fun i=>semEn (s.sems.getD i noSem) i) s.sems.length)).2 e2
        have e4:(([]:List Ent)++allE (fun i=>semEn (s.sems.getD i noSem) i) s.sems.length)++allE (fun i=>onceEn (s.onces.getD i noOnce) i) s.onces.length<+:ents s:=by
         unfold ents
         simp only[List.nil_append]
         simp only[←List.append_assoc]
         exact((List.prefix_append _ _).trans (List.prefix_append _ _)).trans (List.prefix_append _ _)
        have e5:=e3.trans e4
        simpa only[List.append_assoc] using e5
       have hnot:=nodup_pre HNE.out hpre
       have HSN:=xH1 hsn
       have HNT:=xH1 hnot
       clear g' et hjl hsn hpre hnot
       have h3:=h2
       go_upto_region 19 with fail
       clear eb g1
       have hcell:=h3.fr.cell 1 0 rfl rfl
       go_wp2_with fail
       refine(implAdd_ok t 4 k 0 (w.heap.size+2) (w.heap.size+1) _ _ hcell h3.wm HNT.out).mono ?_
       rintro e w6 ⟨rfl,hw6,hg6⟩
       have h4:=h3.add hw6 hg6
       rw[List.append_assoc,HSN.out] at h4
       clear h3 h2 hcell hw6 hg6
       go_wp2
       go_roundw
       case rel=>exact⟨j+1,by omega,by go_num,h4⟩
       case measure=>simp[intOf];omega
      ·obtain rfl:j=q.n:=by omega
       clear hjt hj
       rw[List.take_of_length_le (by rw[List.length_map];have:=QL0.out;omega)] at h2
       have e1:([]:List Ent)++allE (fun i=>semEn (s.sems.getD i noSem) i) s.sems.length++allE (fun i=>onceEn (s.onces.getD i noOnce) i) (k+1)=([]:List Ent)++allE (fun i=>semEn (s.sems.getD i noSem) i) s.sems.length++allE (fun i=>onceEn (s.onces.getD i noOnce) i) k++(x.waits).map (fun t=>(t,(4:Int),(k:Int),(0:Int))):=by
        rw[HK1.out]
        simp only[onceEn,List.append_assoc]
       rw[←e1] at h2
       clear e1
       have cx:=h2.fr.c4 0 rfl
       have e2:allE (fun i=>ownEn (s.onces.getD i noOnce) i) (k+1)=allE (fun i=>ownEn (s.onces.getD i noOnce) i) k++ownEn x k:=by rw[HX.out];rfl
       by_cases hst:x.state=1
       ·have t0:(x.state==1)=true:=by simpa using hst
        have e3:ownEn x k=[(x.owner,(k:Int))]:=by unfold ownEn;rw[if_pos hst]
        have hnot:x.owner∉(allE (fun i=>ownEn (s.onces.getD i noOnce) i) k).map (·.1):=by
         have h9:=allE_prefix (fun i=>ownEn (s.onces.getD i noOnce) i) HKS.out
         rw[←HX.out,e3] at h9
         exact nodup_pre (e:=(x.owner,(k:Int))) HNO.out h9
        rw[e3] at e2
        have HT:=xH1 hnot
        have HE2:=xH1 e2
        obtain⟨Z,z1,z2,z3⟩:=h2.om
        have HL:Hid (∀w1,Below wr.heap.size wr w1→(Instr.lookup 99 (.map (some (w.heap.size+3))) (.int .i64 x.owner) false).run Tryz.prog w1= .ok (.slice none 0 0) w1):=xH1 (fun w1 hb=>by
         have h:=run_lookup_mapI (P:=Tryz.prog) Tryz.underlying99 Tryz.underlying3 zero_ints' (z2.below hb) x.owner
         rw[WMap.absent z1 HT.out] at h
         exact h)
        clear hst hnot e2 e3
        go_wp2_with fail
        apply wp_rk 10 [.k _,.k _,.k _,.k _,.k _,.k _,.k (.slice none 0 0),.k _,.r fun dz uz wz=>∃gz:Nat,uz= .slice (some ⟨gz,0,none⟩) 1 1∧Blk wz gz #[.int .i64 k] 3,.r fun dz uz wz=>∃(az:Option Addr) (cz:Nat),uz= .slice az 1 cz∧wz.ownsRow wr.heap.size 3 1 (.slice az 1 cz) 1 (oneC (k:Int))] ⟨fun _ _ _ _ hb ⟨g,e,h⟩=>⟨g,e,h.below hb⟩,fun _ _ _ _ hb ⟨a,c,e,h⟩=>⟨a,c,e,owns_below h hb⟩,trivial⟩ ?s2 ?e2
        case s2=>
         repeat' apply And.intro
         all_goals first|trivial|(intro ρ w1 hG hfr hd;obtain⟨fc,ff⟩:=fcff hfr;have f5:=hfr (.tmp 5) rfl;have f12:=hfr (.tmp 12) rfl;have f11:=hfr (.tmp 11) rfl;have F1:=h2.fr.call hG;have cx:=F1.c4 0 rfl;clear F1)
         exact rk0;exact rk0;exact rk1;exact rk0;exact rk0;exact rk1
         ·obtain⟨d0,d1,-⟩:=hd
          have d0:ρ (.tmp 82)=_:=d0
          have d1:ρ (.tmp 84)=_:=d1
          have hlk:=HL.out w1 hG
          exact gvF hG (by go_simp) rfl xN1
         exact rk0
         ·obtain⟨d0,-⟩:=hd
          have d0:ρ (.tmp 86)=_:=d0
          refine gives_val (u:= .slice (some ⟨w1.heap.size,0,none⟩) 1 1) (w':=w1.alloc (.cells #[.int .i64 k] 3)) (by go_simp) ⟨xA1,⟨_,rfl,Blk.new _ _ _⟩,xN1,hG.alloc hG.size _⟩
         ·obtain⟨d0,d1,-⟩:=hd
          have d0:ρ (.tmp 85)=_:=d0
          have d1:∃gz:Nat,(ρ (.tmp 87))= .slice (some ⟨gz,0,none⟩) 1 1∧Blk w1 gz #[.int .i64 k] 3:=d1
          obtain⟨gz,d1,hgz⟩:=d1
          refine gives_append_new (m:=1) (news:=oneC (k:Int)) _ _ 23 rfl Tryz.underlying23 info_int rfl (by decide) d0 (World.ownsRow_nil _ _ _ _) d1 rfl (Rd.of_blk hgz) (by intro u hu;simp only[oneC,List.mem_cons,List.not_mem_nil,or_false] at hu;subst hu;rfl) (by omega) (by decide) hG.size ?_
          intro a' c' w2 hown2 hb hf h0
          exact⟨hb,⟨a',c',rfl,hown2⟩,xN1,hG.trans (hb.mono hG.size)⟩
        intro w2 hG
        refine rk_end ?_
        intro xv8 hv8 xv9 hv9
        obtain⟨az,cz,rfl,ho⟩:=hv9
        clear hv8
        have y2:=z2.below hG
        have y3:∀z∈Z,Rd w2 z.2.1 (oneC z.1.2)∧1≤z.2.2:=fun z hz=>⟨(z3 z hz).1.below hG,(z3 z hz).2⟩
        have h3:=h2.call hG
        clear z2 z3 h2 cx hG
        go_wp2_with (at_mapUpdate;refine wpList_update_mapI rfl _ _ _ rfl Tryz.underlying99 Tryz.underlying3 rfl y2 rfl rfl ?_;intro w5 hm5 hg5 hs5;have hw5:WMap oneC w5 (w.heap.size+3) (allE (fun i=>ownEn (s.onces.getD i noOnce) i) k++[(x.owner,(k:Int))]):=WMap.put z1 y2 y3 HT.out (Rd.of_owns ho) (owns_cap ho).1 (fun _=>by simp) hg5 hm5;have h4:=(h3.own hw5 hg5).tail;rw[←HE2.out] at h4)
        go_roundw
        case rel=>exact⟨k+1,by omega,by go_num,h4⟩
        case measure=>simp[intOf];omega
       ·have t0:(x.state==1)=false:=by simpa using hst
        have e3:ownEn x k=[]:=by unfold ownEn;rw[if_neg hst]
        rw[e3,List.append_nil] at e2
        have h4:=h2.tail
        rw[←e2] at h4
        clear h2 e2 e3 hst
        go_wp2
        go_roundw
        case rel=>exact⟨k+1,by omega,by go_num,h4⟩
        case measure=>simp[intOf];omega
    ·obtain rfl:k=v.on.n:=by omega
     clear hlt hk
     rw[HS.out.on.len] at h
     have cs:=h.fr.c9 1 rfl
     go_wp2
     clear cs
     go_loopw [93] (fun i wr=>∃k:Nat,k≤v.gr.n∧i= .int .i64 k∧WF w wr v [] (([]:List Ent)++allE (fun i=>semEn (s.sems.getD i noSem) i) s.sems.length++allE (fun i=>onceEn (s.onces.getD i noOnce) i) s.onces.length++allE (fun i=>grpEn (s.groups.getD i noGrp) i) k) (allE (fun i=>ownEn (s.onces.getD i noOnce) i) s.onces.length)) (fun i _=>v.gr.n-(intOf i).toNat)
     case atStart=>exact⟨0,by omega,rfl,by simpa[allE] using h⟩
     case round=>
      clear h
      obtain⟨k,hk,rfl,h⟩:=hrel
      obtain⟨wo,rfl⟩:∃x,x=wr:=⟨_,rfl⟩
      by_cases hlt:k<v.gr.n
      ·have hks:k<s.groups.length:=by have:=HS.out.gr.len;omega
       obtain⟨x,q,b1,o1,HX,ea,g0,g1,Q0,QL0,QC0⟩:=HS.out.at_gr (j:=k) hks
       replace g0:=keepc h.fr.bel g0
       replace g1:=keepc h.fr.bel g1
       have HPF:Hid (allE (fun i=>grpEn (s.groups.getD i noGrp) i) k++grpEn x k<+:allE (fun i=>grpEn (s.groups.getD i noGrp) i) s.groups.length):=xH1 (by have h9:=allE_prefix (fun i=>grpEn (s.groups.getD i noGrp) i) hks;rw[←HX.out] at h9;exact h9)
       have HK1:Hid (allE (fun i=>grpEn (s.groups.getD i noGrp) i) (k+1)=allE (fun i=>grpEn (s.groups.getD i noGrp) i) k++grpEn x k):=xH1 (by rw[HX.out];rfl)
       have h2:=h.alloc #[.int .i64 x.count,.slice q.a q.n q.c] 86
       have cx:=h2.fr.c2 0 rfl
       have HKS:=xH1 hks
       clear hks h
       have nq0:q.n≤1048576:=by rw[QL0.out,HX.out];exact HZ.out.qgr k
       go_upto_region 27 with fail
       clear ea
       go_wp2
       clear cx g0 g1
       go_loopw [101] (fun i wr2=>∃j:Nat,j≤q.n∧i= .int .i64 j∧WF w wr2 v [.blk wo.heap.size #[.int .i64 x.count,.slice q.a q.n q.c] 86] (([]:List Ent)++allE (fun i=>semEn (s.sems.getD i noSem) i) s.sems.length++allE (fun i=>onceEn (s.onces.getD i noOnce) i) s.onces.length++allE (fun i=>grpEn (s.groups.getD i noGrp) i) k++((x.waits).map (fun t=>(t,(6:Int),(k:Int),(0:Int)))).take j) (allE (fun i=>ownEn (s.onces.getD i noOnce) i) s.onces.length)) (fun i _=>q.n-(intOf i).toNat)
       case atStart=>exact⟨0,by omega,rfl,by simpa using h2⟩
       case round=>
        clear h2
        obtain⟨j,hj,rfl,h2⟩:=hrel
        by_cases hjt:j<q.n
        ·have hjl:j<(x.waits).length:=by rw[←QL0.out];exact hjt
         obtain⟨b,o,eb,g'⟩:=((h2.fr.rd Q0.out)).int (by omega)
         have g1:=g' j hjl
         obtain⟨t,et⟩:∃t,t=(x.waits).getD j 0:=⟨_,rfl⟩
         rw[←et] at g1
         have hsn:((x.waits).map (fun t=>(t,(6:Int),(k:Int),(0:Int)))).take j++[(t,(6:Int),(k:Int),(0:Int))]=((x.waits).map (fun t=>(t,(6:Int),(k:Int),(0:Int)))).take (j+1):=by
          have h9:=take_snoc ((x.waits).map (fun t=>(t,(6:Int),(k:Int),(0:Int)))) ((fun t=>(t,(6:Int),(k:Int),(0:Int))) 0) (j:=j) (by rw[List.length_map];exact hjl)
          rwa [List.getD_eq_getElem?_getD,List.getElem?_map,List.getElem?_eq_getElem hjl,Option.map_some,Option.getD_some,show(x.waits)[j]=t by rw[et,List.getD_eq_getElem?_getD,List.getElem?_eq_getElem hjl];rfl] at h9
         have hpre:(([]:List Ent)++allE (fun i=>semEn (s.sems.getD i noSem) i) s.sems.length++allE (fun i=>onceEn (s.onces.getD i noOnce) i) s.onces.length++allE (fun i=>grpEn (s.groups.getD i noGrp) i) k++((x.waits).map (fun t=>(t,(6:Int),(k:Int),(0:Int)))).take j)++[(t,(6:Int),(k:Int),(0:Int))]<+:ents s:=by
          rw[List.append_assoc,hsn]
          have e1:(((x.waits).map (fun t=>(t,(6:Int),(k:Int),(0:Int)))).take (j+1))<+:grpEn x k:=by
           exact List.take_prefix _ _
          have e2:allE (fun i=>grpEn (s.groups.getD i noGrp) i) k++((x.waits).map (fun t=>(t,(6:Int),(k:Int),(0:Int)))).take (j+1)<+:allE (fun i=>grpEn (s.groups.getD i noGrp) i) s.groups.length:=by
           exact((List.prefix_append_right_inj _).2 e1).trans HPF.out
          have e3:=(List.prefix_append_right_inj (([]:List Ent)++allE (fun i=>semEn (s.sems.getD i noSem) i) s.sems.length++allE (fun i=>onceEn (s.onces.getD i noOnce) i) s.onces.length)).2 e2
          have e4:(([]:List Ent)++allE (fun i=>semEn (s.sems.getD i noSem) i) s.sems.length++allE (fun i=>onceEn (s.onces.getD i noOnce) i) s.onces.length)++allE (fun i=>grpEn (s.groups.getD i noGrp) i) s.groups.length<+:ents s:=by
           unfold ents
           simp only[List.nil_append,List.append_assoc]
           simp only[←List.append_assoc]
           exact(List.prefix_append _ _).trans (List.prefix_append _ _)
          have e5:=e3.trans e4
          simpa only[List.append_assoc] using e5
         have hnot:=nodup_pre HNE.out hpre
         have HSN:=xH1 hsn
         have HNT:=xH1 hnot
         clear g' et hjl hsn hpre hnot
         have h3:=h2
         go_upto_region 30 with fail
         clear eb g1
         have hcell:=h3.fr.cell 1 0 rfl rfl
         go_wp2_with fail
         refine(implAdd_ok t 6 k 0 (w.heap.size+2) (w.heap.size+1) _ _ hcell h3.wm HNT.out).mono ?_
         rintro e w6 ⟨rfl,hw6,hg6⟩
         have h4:=h3.add hw6 hg6
         rw[List.append_assoc,HSN.out] at h4
         clear h3 h2 hcell hw6 hg6
         go_wp2
         go_roundw
         case rel=>exact⟨j+1,by omega,by go_num,h4⟩
         case measure=>simp[intOf];omega
        ·obtain rfl:j=q.n:=by omega
         clear hjt hj
         rw[List.take_of_length_le (by rw[List.length_map];have:=QL0.out;omega)] at h2
         have e1:([]:List Ent)++allE (fun i=>semEn (s.sems.getD i noSem) i) s.sems.length++allE (fun i=>onceEn (s.onces.getD i noOnce) i) s.onces.length++allE (fun i=>grpEn (s.groups.getD i noGrp) i) (k+1)=([]:List Ent)++allE (fun i=>semEn (s.sems.getD i noSem) i) s.sems.length++allE (fun i=>onceEn (s.onces.getD i noOnce) i) s.onces.length++allE (fun i=>grpEn (s.groups.getD i noGrp) i) k++(x.waits).map (fun t=>(t,(6:Int),(k:Int),(0:Int))):=by
          rw[HK1.out]
          simp only[grpEn,List.append_assoc]
         rw[←e1] at h2
         clear e1
         have h4:=h2.tail
         clear h2
         go_wp2
         go_roundw
         case rel=>exact⟨k+1,by omega,by go_num,h4⟩
         case measure=>simp[intOf];omega
      ·obtain rfl:k=v.gr.n:=by omega
       clear hlt hk
       rw[HS.out.gr.len] at h
       have cs:=h.fr.c9 1 rfl
       go_wp2
       clear cs
       go_loopw [114] (fun i wr=>∃k:Nat,k≤v.ba.n∧i= .int .i64 k∧WF w wr v [] (([]:List Ent)++allE (fun i=>semEn (s.sems.getD i noSem) i) s.sems.length++allE (fun i=>onceEn (s.onces.getD i noOnce) i) s.onces.length++allE (fun i=>grpEn (s.groups.getD i noGrp) i) s.groups.length++allE (fun i=>barEn (s.bars.getD i noBar) i) k) (allE (fun i=>ownEn (s.onces.getD i noOnce) i) s.onces.length)) (fun i _=>v.ba.n-(intOf i).toNat)
       case atStart=>exact⟨0,by omega,rfl,by simpa[allE] using h⟩
       case round=>
        clear h
        obtain⟨k,hk,rfl,h⟩:=hrel
        obtain⟨wo,rfl⟩:∃x,x=wr:=⟨_,rfl⟩
        by_cases hlt:k<v.ba.n
        ·have hks:k<s.bars.length:=by have:=HS.out.ba.len;omega
         obtain⟨x,q,b1,o1,HX,ea,g0,g1,g2,Q0,QL0,QC0⟩:=HS.out.at_ba (j:=k) hks
         replace g0:=keepc h.fr.bel g0
         replace g1:=keepc h.fr.bel g1
         replace g2:=keepc h.fr.bel g2
         have HPF:Hid (allE (fun i=>barEn (s.bars.getD i noBar) i) k++barEn x k<+:allE (fun i=>barEn (s.bars.getD i noBar) i) s.bars.length):=xH1 (by have h9:=allE_prefix (fun i=>barEn (s.bars.getD i noBar) i) hks;rw[←HX.out] at h9;exact h9)
         have HK1:Hid (allE (fun i=>barEn (s.bars.getD i noBar) i) (k+1)=allE (fun i=>barEn (s.bars.getD i noBar) i) k++barEn x k):=xH1 (by rw[HX.out];rfl)
         have h2:=h.alloc #[.int .i64 x.parties,.int .i64 x.round,.slice q.a q.n q.c] 89
         have cx:=h2.fr.c3 0 rfl
         have HKS:=xH1 hks
         clear hks h
         have nq0:q.n≤1048576:=by rw[QL0.out,HX.out];exact HZ.out.qba k
         go_upto_region 36 with fail
         clear ea
         go_wp2
         clear cx g0 g1 g2
         go_loopw [122] (fun i wr2=>∃j:Nat,j≤q.n∧i= .int .i64 j∧WF w wr2 v [.blk wo.heap.size #[.int .i64 x.parties,.int .i64 x.round,.slice q.a q.n q.c] 89] (([]:List Ent)++allE (fun i=>semEn (s.sems.getD i noSem) i) s.sems.length++allE (fun i=>onceEn (s.onces.getD i noOnce) i) s.onces.length++allE (fun i=>grpEn (s.groups.getD i noGrp) i) s.groups.length++allE (fun i=>barEn (s.bars.getD i noBar) i) k++((x.waits).map (fun t=>(t,(7:Int),(k:Int),(0:Int)))).take j) (allE (fun i=>ownEn (s.onces.getD i noOnce) i) s.onces.length)) (fun i _=>q.n-(intOf i).toNat)
         case atStart=>exact⟨0,by omega,rfl,by simpa using h2⟩
         case round=>
          clear h2
          obtain⟨j,hj,rfl,h2⟩:=hrel
          by_cases hjt:j<q.n
          ·have hjl:j<(x.waits).length:=by rw[←QL0.out];exact hjt
           obtain⟨b,o,eb,g'⟩:=((h2.fr.rd Q0.out)).int (by omega)
           have g1:=g' j hjl
           obtain⟨t,et⟩:∃t,t=(x.waits).getD j 0:=⟨_,rfl⟩
           rw[←et] at g1
           have hsn:((x.waits).map (fun t=>(t,(7:Int),(k:Int),(0:Int)))).take j++[(t,(7:Int),(k:Int),(0:Int))]=((x.waits).map (fun t=>(t,(7:Int),(k:Int),(0:Int)))).take (j+1):=by
            have h9:=take_snoc ((x.waits).map (fun t=>(t,(7:Int),(k:Int),(0:Int)))) ((fun t=>(t,(7:Int),(k:Int),(0:Int))) 0) (j:=j) (by rw[List.length_map];exact hjl)
            rwa [List.getD_eq_getElem?_getD,List.getElem?_map,List.getElem?_eq_getElem hjl,Option.map_some,Option.getD_some,show(x.waits)[j]=t by rw[et,List.getD_eq_getElem?_getD,List.getElem?_eq_getElem hjl];rfl] at h9
           have hpre:(([]:List Ent)++allE (fun i=>semEn (s.sems.getD i noSem) i) s.sems.length++allE (fun i=>onceEn (s.onces.getD i noOnce) i) s.onces.length++allE (fun i=>grpEn (s.groups.getD i noGrp) i) s.groups.length++allE (fun i=>barEn (s.bars.getD i noBar) i) k++((x.waits).map (fun t=>(t,(7:Int),(k:Int),(0:Int)))).take j)++[(t,(7:Int),(k:Int),(0:Int))]<+:ents s:=by
            rw[List.append_assoc,hsn]
            have e1:(((x.waits).map (fun t=>(t,(7:Int),(k:Int),(0:Int)))).take (j+1))<+:barEn x k:=by
             exact List.take_prefix _ _
            have e2:allE (fun i=>barEn (s.bars.getD i noBar) i) k++((x.waits).map (fun t=>(t,(7:Int),(k:Int),(0:Int)))).take (j+1)<+:allE (fun i=>barEn (s.bars.getD i noBar) i) s.bars.length:=by
             exact((List.prefix_append_right_inj _).2 e1).trans HPF.out
            have e3:=(List.prefix_append_right_inj (([]:List Ent)++allE (fun i=>semEn (s.sems.getD i noSem) i) s.sems.length++allE (fun i=>onceEn (s.onces.getD i noOnce) i) s.onces.length++allE (fun i=>grpEn (s.groups.getD i noGrp) i) s.groups.length)).2 e2
            have e4:(([]:List Ent)++allE (fun i=>semEn (s.sems.getD i noSem) i) s.sems.length++allE (fun i=>onceEn (s.onces.getD i noOnce) i) s.onces.length++allE (fun i=>grpEn (s.groups.getD i noGrp) i) s.groups.length)++allE (fun i=>barEn (s.bars.getD i noBar) i) s.bars.length<+:ents s:=by
             unfold ents
             simp only[List.nil_append,List.append_assoc]
             simp only[←List.append_assoc]
             exact List.prefix_append _ _
            have e5:=e3.trans e4
            simpa only[List.append_assoc] using e5
           have hnot:=nodup_pre HNE.out hpre
           have HSN:=xH1 hsn
           have HNT:=xH1 hnot
           clear g' et hjl hsn hpre hnot
           have h3:=h2
           go_upto_region 39 with fail
           clear eb g1
           have hcell:=h3.fr.cell 1 0 rfl rfl
           go_wp2_with fail
           refine(implAdd_ok t 7 k 0 (w.heap.size+2) (w.heap.size+1) _ _ hcell h3.wm HNT.out).mono ?_
           rintro e w6 ⟨rfl,hw6,hg6⟩
           have h4:=h3.add hw6 hg6
           rw[List.append_assoc,HSN.out] at h4
           clear h3 h2 hcell hw6 hg6
           go_wp2
           go_roundw
           case rel=>exact⟨j+1,by omega,by go_num,h4⟩
           case measure=>simp[intOf];omega
          ·obtain rfl:j=q.n:=by omega
           clear hjt hj
           rw[List.take_of_length_le (by rw[List.length_map];have:=QL0.out;omega)] at h2
           have e1:([]:List Ent)++allE (fun i=>semEn (s.sems.getD i noSem) i) s.sems.length++allE (fun i=>onceEn (s.onces.getD i noOnce) i) s.onces.length++allE (fun i=>grpEn (s.groups.getD i noGrp) i) s.groups.length++allE (fun i=>barEn (s.bars.getD i noBar) i) (k+1)=([]:List Ent)++allE (fun i=>semEn (s.sems.getD i noSem) i) s.sems.length++allE (fun i=>onceEn (s.onces.getD i noOnce) i) s.onces.length++allE (fun i=>grpEn (s.groups.getD i noGrp) i) s.groups.length++allE (fun i=>barEn (s.bars.getD i noBar) i) k++(x.waits).map (fun t=>(t,(7:Int),(k:Int),(0:Int))):=by
            rw[HK1.out]
            simp only[barEn,List.append_assoc]
           rw[←e1] at h2
           clear e1
           have h4:=h2.tail
           clear h2
           go_wp2
           go_roundw
           case rel=>exact⟨k+1,by omega,by go_num,h4⟩
           case measure=>simp[intOf];omega
        ·obtain rfl:k=v.ba.n:=by omega
         clear hlt hk
         rw[HS.out.ba.len] at h
         have cs:=h.fr.c9 1 rfl
         go_wp2
         clear cs
         go_loopw [135] (fun i wr=>∃k:Nat,k≤v.ch.n∧i= .int .i64 k∧WF w wr v [] (([]:List Ent)++allE (fun i=>semEn (s.sems.getD i noSem) i) s.sems.length++allE (fun i=>onceEn (s.onces.getD i noOnce) i) s.onces.length++allE (fun i=>grpEn (s.groups.getD i noGrp) i) s.groups.length++allE (fun i=>barEn (s.bars.getD i noBar) i) s.bars.length++allE (fun i=>chnEn (s.chans.getD i noChn) i) k) (allE (fun i=>ownEn (s.onces.getD i noOnce) i) s.onces.length)) (fun i _=>v.ch.n-(intOf i).toNat)
         case atStart=>exact⟨0,by omega,rfl,by simpa[allE] using h⟩
         case round=>
          clear h
          obtain⟨k,hk,rfl,h⟩:=hrel
          obtain⟨wo,rfl⟩:∃x,x=wr:=⟨_,rfl⟩
          by_cases hlt:k<v.ch.n
          ·have hks:k<s.chans.length:=by have:=HS.out.ch.len;omega
           obtain⟨x,q,b1,o1,HX,ea,g0,g1,g2,g3,g4,Q0,QL0,QC0,Q1,QL1,QC1,Q2,QL2,QC2⟩:=HS.out.at_ch (j:=k) hks
           replace g0:=keepc h.fr.bel g0
           replace g1:=keepc h.fr.bel g1
           replace g2:=keepc h.fr.bel g2
           replace g3:=keepc h.fr.bel g3
           replace g4:=keepc h.fr.bel g4
           have HPF:Hid (allE (fun i=>chnEn (s.chans.getD i noChn) i) k++chnEn x k<+:allE (fun i=>chnEn (s.chans.getD i noChn) i) s.chans.length):=xH1 (by have h9:=allE_prefix (fun i=>chnEn (s.chans.getD i noChn) i) hks;rw[←HX.out] at h9;exact h9)
           have HK1:Hid (allE (fun i=>chnEn (s.chans.getD i noChn) i) (k+1)=allE (fun i=>chnEn (s.chans.getD i noChn) i) k++chnEn x k):=xH1 (by rw[HX.out];rfl)
           have h2:=h.alloc #[.int .i64 x.room,.slice q.1.a q.1.n q.1.c,.slice q.2.1.a q.2.1.n q.2.1.c,.slice q.2.2.a q.2.2.n q.2.2.c,.bool x.closed] 93
           have cx:=h2.fr.c5 0 rfl
           have HKS:=xH1 hks
           clear hks h
           have nq0:q.2.1.n≤1048576:=by rw[QL1.out,HX.out];exact(HZ.out.qch k).2.1
           go_upto_region 45 with fail
           clear ea
           go_wp2
           clear cx g0 g1 g2 g3 g4
           go_loopw [143] (fun i wr2=>∃j:Nat,j≤q.2.1.n∧i= .int .i64 j∧WF w wr2 v [.blk wo.heap.size #[.int .i64 x.room,.slice q.1.a q.1.n q.1.c,.slice q.2.1.a q.2.1.n q.2.1.c,.slice q.2.2.a q.2.2.n q.2.2.c,.bool x.closed] 93] (([]:List Ent)++allE (fun i=>semEn (s.sems.getD i noSem) i) s.sems.length++allE (fun i=>onceEn (s.onces.getD i noOnce) i) s.onces.length++allE (fun i=>grpEn (s.groups.getD i noGrp) i) s.groups.length++allE (fun i=>barEn (s.bars.getD i noBar) i) s.bars.length++allE (fun i=>chnEn (s.chans.getD i noChn) i) k++((x.senders).map (fun w=>(w.1,(8:Int),(k:Int),w.2))).take j) (allE (fun i=>ownEn (s.onces.getD i noOnce) i) s.onces.length)) (fun i _=>q.2.1.n-(intOf i).toNat)
           case atStart=>exact⟨0,by omega,rfl,by simpa using h2⟩
           case round=>
            clear h2
            obtain⟨j,hj,rfl,h2⟩:=hrel
            by_cases hjt:j<q.2.1.n
            ·have hjl:j<(x.senders).length:=by rw[←QL1.out];exact hjt
             obtain⟨b,o,eb,g'⟩:=((h2.fr.rd Q1.out)).pair (by omega)
             obtain⟨g1,g2⟩:=g' j hjl
             obtain⟨y,et⟩:∃y,y=(x.senders).getD j (0,0):=⟨_,rfl⟩
             rw[←et] at g1 g2
             have hsn:((x.senders).map (fun w=>(w.1,(8:Int),(k:Int),w.2))).take j++[(y.1,(8:Int),(k:Int),y.2)]=((x.senders).map (fun w=>(w.1,(8:Int),(k:Int),w.2))).take (j+1):=by
              have h9:=take_snoc ((x.senders).map (fun w=>(w.1,(8:Int),(k:Int),w.2))) ((fun w=>(w.1,(8:Int),(k:Int),w.2)) (0,0)) (j:=j) (by rw[List.length_map];exact hjl)
              rwa [List.getD_eq_getElem?_getD,List.getElem?_map,List.getElem?_eq_getElem hjl,Option.map_some,Option.getD_some,show(x.senders)[j]=y by rw[et,List.getD_eq_getElem?_getD,List.getElem?_eq_getElem hjl];rfl] at h9
             have hpre:(([]:List Ent)++allE (fun i=>semEn (s.sems.getD i noSem) i) s.sems.length++allE (fun i=>onceEn (s.onces.getD i noOnce) i) s.onces.length++allE (fun i=>grpEn (s.groups.getD i noGrp) i) s.groups.length++allE (fun i=>barEn (s.bars.getD i noBar) i) s.bars.length++allE (fun i=>chnEn (s.chans.getD i noChn) i) k++((x.senders).map (fun w=>(w.1,(8:Int),(k:Int),w.2))).take j)++[(y.1,(8:Int),(k:Int),y.2)]<+:ents s:=by
              rw[List.append_assoc,hsn]
              have e1:(((x.senders).map (fun w=>(w.1,(8:Int),(k:Int),w.2))).take (j+1))<+:chnEn x k:=by
               exact(List.take_prefix _ _).trans (List.prefix_append _ _)
              have e2:allE (fun i=>chnEn (s.chans.getD i noChn) i) k++((x.senders).map (fun w=>(w.1,(8:Int),(k:Int),w.2))).take (j+1)<+:allE (fun i=>chnEn (s.chans.getD i noChn) i) s.chans.length:=by
               exact((List.prefix_append_right_inj _).2 e1).trans HPF.out
              have e3:=(List.prefix_append_right_inj (([]:List Ent)++allE (fun i=>semEn (s.sems.getD i noSem) i) s.sems.length++allE (fun i=>onceEn (s.onces.getD i noOnce) i) s.onces.length++allE (fun i=>grpEn (s.groups.getD i noGrp) i) s.groups.length++allE (fun i=>barEn (s.bars.getD i noBar) i) s.bars.length)).2 e2
              have e4:(([]:List Ent)++allE (fun i=>semEn (s.sems.getD i noSem) i) s.sems.length++allE (fun i=>onceEn (s.onces.getD i noOnce) i) s.onces.length++allE (fun i=>grpEn (s.groups.getD i noGrp) i) s.groups.length++allE (fun i=>barEn (s.bars.getD i noBar) i) s.bars.length)++allE (fun i=>chnEn (s.chans.getD i noChn) i) s.chans.length<+:ents s:=by
               unfold ents
               simp only[List.nil_append,List.append_assoc]
               exact List.prefix_refl _
              have e5:=e3.trans e4
              simpa only[List.append_assoc] using e5
             have hnot:=nodup_pre HNE.out hpre
             have HSN:=xH1 hsn
             have HNT:=xH1 hnot
             clear g' et hjl hsn hpre hnot
             have h3:=h2.alloc #[.int .i64 y.1,.int .i64 y.2] 148
             have cy:=h3.fr.c2 0 rfl
             go_upto_region 48 with fail
             clear eb g1 g2
             have hcell:=h3.fr.cell 2 0 rfl rfl
             go_wp2_with fail
             refine(implAdd_ok y.1 8 k y.2 (w.heap.size+2) (w.heap.size+1) _ _ hcell h3.wm HNT.out).mono ?_
             rintro e w6 ⟨rfl,hw6,hg6⟩
             have h4:=h3.add hw6 hg6
             rw[List.append_assoc,HSN.out] at h4
             clear h3 h2 hcell hw6 hg6
             go_wp2
             go_roundw
             case rel=>exact⟨j+1,by omega,by go_num,h4.tail⟩
             case measure=>simp[intOf];omega
            ·obtain rfl:j=q.2.1.n:=by omega
             clear hjt hj
             rw[List.take_of_length_le (by rw[List.length_map];have:=QL1.out;omega)] at h2
             have cx:=h2.fr.c5 0 rfl
             have nq1:q.2.2.n≤1048576:=by rw[QL2.out,HX.out];exact(HZ.out.qch k).2.2
             go_wp2
             clear cx
             go_loopw [158] (fun i wr2=>∃j:Nat,j≤q.2.2.n∧i= .int .i64 j∧WF w wr2 v [.blk wo.heap.size #[.int .i64 x.room,.slice q.1.a q.1.n q.1.c,.slice q.2.1.a q.2.1.n q.2.1.c,.slice q.2.2.a q.2.2.n q.2.2.c,.bool x.closed] 93] (([]:List Ent)++allE (fun i=>semEn (s.sems.getD i noSem) i) s.sems.length++allE (fun i=>onceEn (s.onces.getD i noOnce) i) s.onces.length++allE (fun i=>grpEn (s.groups.getD i noGrp) i) s.groups.length++allE (fun i=>barEn (s.bars.getD i noBar) i) s.bars.length++allE (fun i=>chnEn (s.chans.getD i noChn) i) k++(x.senders).map (fun w=>(w.1,(8:Int),(k:Int),w.2))++((x.getters).map (fun t=>(t,(9:Int),(k:Int),(0:Int)))).take j) (allE (fun i=>ownEn (s.onces.getD i noOnce) i) s.onces.length)) (fun i _=>q.2.2.n-(intOf i).toNat)
             case atStart=>exact⟨0,by omega,rfl,by simpa using h2⟩
             case round=>
              clear h2
              obtain⟨j,hj,rfl,h2⟩:=hrel
              by_cases hjt:j<q.2.2.n
              ·have hjl:j<(x.getters).length:=by rw[←QL2.out];exact hjt
               obtain⟨b,o,eb,g'⟩:=((h2.fr.rd Q2.out)).int (by omega)
               have g1:=g' j hjl
               obtain⟨t,et⟩:∃t,t=(x.getters).getD j 0:=⟨_,rfl⟩
               rw[←et] at g1
               have hsn:((x.getters).map (fun t=>(t,(9:Int),(k:Int),(0:Int)))).take j++[(t,(9:Int),(k:Int),(0:Int))]=((x.getters).map (fun t=>(t,(9:Int),(k:Int),(0:Int)))).take (j+1):=by
                have h9:=take_snoc ((x.getters).map (fun t=>(t,(9:Int),(k:Int),(0:Int)))) ((fun t=>(t,(9:Int),(k:Int),(0:Int))) 0) (j:=j) (by rw[List.length_map];exact hjl)
                rwa [List.getD_eq_getElem?_getD,List.getElem?_map,List.getElem?_eq_getElem hjl,Option.map_some,Option.getD_some,show(x.getters)[j]=t by rw[et,List.getD_eq_getElem?_getD,List.getElem?_eq_getElem hjl];rfl] at h9
               have hpre:(([]:List Ent)++allE (fun i=>semEn (s.sems.getD i noSem) i) s.sems.length++allE (fun i=>onceEn (s.onces.getD i noOnce) i) s.onces.length++allE (fun i=>grpEn (s.groups.getD i noGrp) i) s.groups.length++allE (fun i=>barEn (s.bars.getD i noBar) i) s.bars.length++allE (fun i=>chnEn (s.chans.getD i noChn) i) k++(x.senders).map (fun w=>(w.1,(8:Int),(k:Int),w.2))++((x.getters).map (fun t=>(t,(9:Int),(k:Int),(0:Int)))).take j)++[(t,(9:Int),(k:Int),(0:Int))]<+:ents s:=by
                rw[List.append_assoc,hsn]
                have e1:((x.senders).map (fun w=>(w.1,(8:Int),(k:Int),w.2))++((x.getters).map (fun t=>(t,(9:Int),(k:Int),(0:Int)))).take (j+1))<+:chnEn x k:=by
                 exact(List.prefix_append_right_inj _).2 (List.take_prefix _ _)
                have e2:allE (fun i=>chnEn (s.chans.getD i noChn) i) k++(x.senders).map (fun w=>(w.1,(8:Int),(k:Int),w.2))++((x.getters).map (fun t=>(t,(9:Int),(k:Int),(0:Int)))).take (j+1)<+:allE (fun i=>chnEn (s.chans.getD i noChn) i) s.chans.length:=by
                 rw[List.append_assoc];exact((List.prefix_append_right_inj _).2 e1).trans HPF.out
                have e3:=(List.prefix_append_right_inj (([]:List Ent)++allE (fun i=>semEn (s.sems.getD i noSem) i) s.sems.length++allE (fun i=>onceEn (s.onces.getD i noOnce) i) s.onces.length++allE (fun i=>grpEn (s.groups.getD i noGrp) i) s.groups.length++allE (fun i=>barEn (s.bars.getD i noBar) i) s.bars.length)).2 e2
                have e4:(([]:List Ent)++allE (fun i=>semEn (s.sems.getD i noSem) i) s.sems.length++allE (fun i=>onceEn (s.onces.getD i noOnce) i) s.onces.length++allE (fun i=>grpEn (s.groups.getD i noGrp) i) s.groups.length++allE (fun i=>barEn (s.bars.getD i noBar) i) s.bars.length)++allE (fun i=>chnEn (s.chans.getD i noChn) i) s.chans.length<+:ents s:=by
                 unfold ents
                 simp only[List.nil_append,List.append_assoc]
                 exact List.prefix_refl _
                have e5:=e3.trans e4
                simpa only[List.append_assoc] using e5
               have hnot:=nodup_pre HNE.out hpre
               have HSN:=xH1 hsn
               have HNT:=xH1 hnot
               clear g' et hjl hsn hpre hnot
               have h3:=h2
               go_upto_region 53 with fail
               clear eb g1
               have hcell:=h3.fr.cell 1 0 rfl rfl
               go_wp2_with fail
               refine(implAdd_ok t 9 k 0 (w.heap.size+2) (w.heap.size+1) _ _ hcell h3.wm HNT.out).mono ?_
               rintro e w6 ⟨rfl,hw6,hg6⟩
               have h4:=h3.add hw6 hg6
               rw[List.append_assoc,HSN.out] at h4
               clear h3 h2 hcell hw6 hg6
               go_wp2
               go_roundw
               case rel=>exact⟨j+1,by omega,by go_num,h4⟩
               case measure=>simp[intOf];omega
              ·obtain rfl:j=q.2.2.n:=by omega
               clear hjt hj
               rw[List.take_of_length_le (by rw[List.length_map];have:=QL2.out;omega)] at h2
               have e1:([]:List Ent)++allE (fun i=>semEn (s.sems.getD i noSem) i) s.sems.length++allE (fun i=>onceEn (s.onces.getD i noOnce) i) s.onces.length++allE (fun i=>grpEn (s.groups.getD i noGrp) i) s.groups.length++allE (fun i=>barEn (s.bars.getD i noBar) i) s.bars.length++allE (fun i=>chnEn (s.chans.getD i noChn) i) (k+1)=([]:List Ent)++allE (fun i=>semEn (s.sems.getD i noSem) i) s.sems.length++allE (fun i=>onceEn (s.onces.getD i noOnce) i) s.onces.length++allE (fun i=>grpEn (s.groups.getD i noGrp) i) s.groups.length++allE (fun i=>barEn (s.bars.getD i noBar) i) s.bars.length++allE (fun i=>chnEn (s.chans.getD i noChn) i) k++(x.senders).map (fun w=>(w.1,(8:Int),(k:Int),w.2))++(x.getters).map (fun t=>(t,(9:Int),(k:Int),(0:Int))):=by
                rw[HK1.out]
                simp only[chnEn,List.append_assoc]
               rw[←e1] at h2
               clear e1
               have h4:=h2.tail
               clear h2
               go_wp2
               go_roundw
               case rel=>exact⟨k+1,by omega,by go_num,h4⟩
               case measure=>simp[intOf];omega
          ·obtain rfl:k=v.ch.n:=by omega
           clear hlt hk
           rw[HS.out.ch.len] at h
           have he:([]:List Ent)++allE (fun i=>semEn (s.sems.getD i noSem) i) s.sems.length++allE (fun i=>onceEn (s.onces.getD i noOnce) i) s.onces.length++allE (fun i=>grpEn (s.groups.getD i noGrp) i) s.groups.length++allE (fun i=>barEn (s.bars.getD i noBar) i) s.bars.length++allE (fun i=>chnEn (s.chans.getD i noChn) i) s.chans.length=ents s:=by
            unfold ents
            simp only[List.nil_append,List.append_assoc]
           rw[he] at h
           have cc:=h.fr.cell 0 0 rfl rfl
           go_wp2
           exact bodyPost_ret (v:= .tuple #[.map (some (w.heap.size+1)),.map (some (w.heap.size+3))]) (by simp[results,Tryz.results53,go_sem]) rfl ⟨rfl,h.wm,h.om,h.fr.bel⟩
end Go.Proofs.YtjmpejaifmopnaaGreat
