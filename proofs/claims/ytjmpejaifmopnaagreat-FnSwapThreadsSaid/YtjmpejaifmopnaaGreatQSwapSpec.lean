/- Part of a proof: SwapSpec. -/
import Derived.StillTailTactics
import Derived.Test.YtjmpejaifmopnaaGreatQPTally
set_option maxRecDepth 100000
set_option maxHeartbeats 16000000
namespace Go.Proofs.YtjmpejaifmopnaaGreat
open Go.RowKit
theorem specSwapThreads_any (v:PV) (p:Pg) (a b:Int) (w:World) (hr:RdP w v p) (hz:Small v p):
  Calls Tryz.prog 6 #[.agg #[.slice v.s v.ns v.cs,.slice v.g v.ng v.cg,.slice v.b v.nb v.cb,.slice v.r v.nr v.cr,.slice v.t v.nt v.ct],.int .i64 a,.int .i64 b] w fun e w'=>∃u:PV,e= .returned (.tuple #[.agg #[.slice u.s u.ns u.cs,.slice u.g u.ng u.cg,.slice u.b u.nb u.cb,.slice u.r u.nr u.cr,.slice u.t u.nt u.ct],.bool (swapThreads p a b).isSome])∧RdP w' u ((swapThreads p a b).getD noPg)∧Below w.heap.size w w':=by
 have hs:v.ns≤maxLen∧v.ng≤maxLen∧v.nb≤maxLen∧v.nr≤maxLen:=by
  obtain⟨z1,z2,z3,z4,z5,z6⟩:=hz;unfold maxLen;omega
 have zz:Hid (v.ns≤maxLen∧v.ng≤maxLen∧v.nb≤maxLen∧v.nr≤maxLen):=xH1 hs
 have HZ:=xH1 hz
 have z5:v.nt≤1048576:=hz.lt
 have Z6:=xH1 hz.inn
 have ls:=xH1 hr.ls
 have lg:=xH1 hr.lg
 have lb:=xH1 hr.lb
 have lr:=xH1 hr.lr
 have lt:=xH1 hr.lt
 clear hz
 have B0:Below w.heap.size w (w.alloc (.cells #[.slice v.s v.ns v.cs,.slice v.g v.ng v.cg,.slice v.b v.nb v.cb,.slice v.r v.nr v.cr,.slice v.t v.nt v.ct] 26)):=xA1
 have k0:Blk (w.alloc (.cells #[.slice v.s v.ns v.cs,.slice v.g v.ng v.cg,.slice v.b v.nb v.cb,.slice v.r v.nr v.cr,.slice v.t v.nt v.ct] 26)) w.heap.size #[.slice v.s v.ns v.cs,.slice v.g v.ng v.cg,.slice v.b v.nb v.cb,.slice v.r v.nr v.cr,.slice v.t v.nt v.ct] 26:=Blk.new _ _ _
 have q0:(w.alloc (.cells #[.slice v.s v.ns v.cs,.slice v.g v.ng v.cg,.slice v.b v.nb v.cb,.slice v.r v.nr v.cr,.slice v.t v.nt v.ct] 26)).cell? ⟨w.heap.size,0,none⟩=some (.slice v.s v.ns v.cs):=k0.cell 0 rfl
 have q1:(w.alloc (.cells #[.slice v.s v.ns v.cs,.slice v.g v.ng v.cg,.slice v.b v.nb v.cb,.slice v.r v.nr v.cr,.slice v.t v.nt v.ct] 26)).cell? ⟨w.heap.size,1,none⟩=some (.slice v.g v.ng v.cg):=k0.cell 1 rfl
 have q2:(w.alloc (.cells #[.slice v.s v.ns v.cs,.slice v.g v.ng v.cg,.slice v.b v.nb v.cb,.slice v.r v.nr v.cr,.slice v.t v.nt v.ct] 26)).cell? ⟨w.heap.size,2,none⟩=some (.slice v.b v.nb v.cb):=k0.cell 2 rfl
 have q3:(w.alloc (.cells #[.slice v.s v.ns v.cs,.slice v.g v.ng v.cg,.slice v.b v.nb v.cb,.slice v.r v.nr v.cr,.slice v.t v.nt v.ct] 26)).cell? ⟨w.heap.size,3,none⟩=some (.slice v.r v.nr v.cr):=k0.cell 3 rfl
 have q4:(w.alloc (.cells #[.slice v.s v.ns v.cs,.slice v.g v.ng v.cg,.slice v.b v.nb v.cb,.slice v.r v.nr v.cr,.slice v.t v.nt v.ct] 26)).cell? ⟨w.heap.size,4,none⟩=some (.slice v.t v.nt v.ct):=k0.cell 4 rfl
 clear k0
 obtain⟨W0,hW0⟩:∃W0:World,W0=((w.alloc (.cells #[.slice v.s v.ns v.cs,.slice v.g v.ng v.cg,.slice v.b v.nb v.cb,.slice v.r v.nr v.cr,.slice v.t v.nt v.ct] 26)).alloc (.cells #[.slice none 0 0,.slice none 0 0,.slice none 0 0,.slice none 0 0,.slice none 0 0] 26)):=⟨_,rfl⟩
 have b1:Below (w.alloc (.cells #[.slice v.s v.ns v.cs,.slice v.g v.ng v.cg,.slice v.b v.nb v.cb,.slice v.r v.nr v.cr,.slice v.t v.nt v.ct] 26)).heap.size (w.alloc (.cells #[.slice v.s v.ns v.cs,.slice v.g v.ng v.cg,.slice v.b v.nb v.cb,.slice v.r v.nr v.cr,.slice v.t v.nt v.ct] 26)) ((w.alloc (.cells #[.slice v.s v.ns v.cs,.slice v.g v.ng v.cg,.slice v.b v.nb v.cb,.slice v.r v.nr v.cr,.slice v.t v.nt v.ct] 26)).alloc (.cells #[.slice none 0 0,.slice none 0 0,.slice none 0 0,.slice none 0 0,.slice none 0 0] 26)):=xA1
 have kR:Blk ((w.alloc (.cells #[.slice v.s v.ns v.cs,.slice v.g v.ng v.cg,.slice v.b v.nb v.cb,.slice v.r v.nr v.cr,.slice v.t v.nt v.ct] 26)).alloc (.cells #[.slice none 0 0,.slice none 0 0,.slice none 0 0,.slice none 0 0,.slice none 0 0] 26)) (w.heap.size+1) #[.slice none 0 0,.slice none 0 0,.slice none 0 0,.slice none 0 0,.slice none 0 0] 26:=by simpa using Blk.new (w.alloc (.cells #[.slice v.s v.ns v.cs,.slice v.g v.ng v.cg,.slice v.b v.nb v.cb,.slice v.r v.nr v.cr,.slice v.t v.nt v.ct] 26)) #[.slice none 0 0,.slice none 0 0,.slice none 0 0,.slice none 0 0,.slice none 0 0] 26
 replace q0:=keepc b1 q0
 replace q1:=keepc b1 q1
 replace q2:=keepc b1 q2
 replace q3:=keepc b1 q3
 replace q4:=keepc b1 q4
 replace B0:=B0.trans (b1.mono B0.size)
 have HW0:=xH1 hW0
 rw[←hW0] at q0 q1 q2 q3 q4 B0 kR
 clear b1 hW0
 rcases Bool.eq_false_or_eq_true (isThr p a) with ha|ha
 rotate_left
 ·have HN:Hid (swapThreads p a b=none):=xH1 (change_not ha)
  have HA:=xH1 ha
  clear ha
  go_enter Tryz.func6,Tryz.ntmps6
  go_wp2_with fail
  rw[←HW0.out]
  refine(l11Thread_any v p a _ (hr.below B0) HZ.out).mono ?_
  rintro e w1 ⟨rfl,hb⟩
  rw[HA.out]
  have kR':=kR.below hb
  clear kR
  have kR:=kR'
  clear kR'
  replace q0:=keepc hb q0
  replace q1:=keepc hb q1
  replace q2:=keepc hb q2
  replace q3:=keepc hb q3
  replace q4:=keepc hb q4
  replace B0:=B0.trans (hb.mono B0.size)
  clear hb
  have y0:=kR.cell 0 rfl
  have x0:=kR.fz 0
  have y1:=kR.cell 1 rfl
  have x1:=kR.fz 1
  have y2:=kR.cell 2 rfl
  have x2:=kR.fz 2
  have y3:=kR.cell 3 rfl
  have x3:=kR.fz 3
  have y4:=kR.cell 4 rfl
  have x4:=kR.fz 4
  go_wp2
  refine bodyPost_ret (v:= .tuple #[.agg #[.slice none 0 0,.slice none 0 0,.slice none 0 0,.slice none 0 0,.slice none 0 0],.bool false]) (by simp[results,Tryz.results6,go_sem,y0,y1,y2,y3,y4]) rfl ⟨nilPV,by rw[HN.out];rfl,by rw[HN.out];exact(own_nil _).rd,?_⟩
  exact((((B0.setCell (Nat.le_add_right _ _) _).setCell (Nat.le_add_right _ _) _).setCell (Nat.le_add_right _ _) _).setCell (Nat.le_add_right _ _) _).setCell (Nat.le_add_right _ _) _
 rcases Bool.eq_false_or_eq_true (isThr p b) with hb|hb
 rotate_left
 ·have HN:Hid (swapThreads p a b=none):=xH1 (by unfold swapThreads;rw[change_of ha];unfold swapRes;rw[if_neg (fun h=>by rw[isThr_iff.2 ⟨(isThr_iff.1 ha).1,h⟩] at hb;cases hb)])
  have HA:=xH1 ha
  have HB:=xH1 hb
  clear ha hb
  go_enter Tryz.func6,Tryz.ntmps6
  go_wp2_with fail
  rw[←HW0.out]
  refine(l11Thread_any v p a _ (hr.below B0) HZ.out).mono ?_
  rintro e w1 ⟨rfl,hb⟩
  rw[HA.out]
  have kR':=kR.below hb
  clear kR
  have kR:=kR'
  clear kR'
  replace q0:=keepc hb q0
  replace q1:=keepc hb q1
  replace q2:=keepc hb q2
  replace q3:=keepc hb q3
  replace q4:=keepc hb q4
  replace B0:=B0.trans (hb.mono B0.size)
  clear hb
  go_wp2_with fail
  refine(l11Thread_any v p b _ (hr.below B0) HZ.out).mono ?_
  rintro e w1' ⟨rfl,hb⟩
  rw[HB.out]
  have kR':=kR.below hb
  clear kR
  have kR:=kR'
  clear kR'
  replace q0:=keepc hb q0
  replace q1:=keepc hb q1
  replace q2:=keepc hb q2
  replace q3:=keepc hb q3
  replace q4:=keepc hb q4
  replace B0:=B0.trans (hb.mono B0.size)
  clear hb
  have y0:=kR.cell 0 rfl
  have x0:=kR.fz 0
  have y1:=kR.cell 1 rfl
  have x1:=kR.fz 1
  have y2:=kR.cell 2 rfl
  have x2:=kR.fz 2
  have y3:=kR.cell 3 rfl
  have x3:=kR.fz 3
  have y4:=kR.cell 4 rfl
  have x4:=kR.fz 4
  go_wp2
  refine bodyPost_ret (v:= .tuple #[.agg #[.slice none 0 0,.slice none 0 0,.slice none 0 0,.slice none 0 0,.slice none 0 0],.bool false]) (by simp[results,Tryz.results6,go_sem,y0,y1,y2,y3,y4]) rfl ⟨nilPV,by rw[HN.out];rfl,by rw[HN.out];exact(own_nil _).rd,?_⟩
  exact((((B0.setCell (Nat.le_add_right _ _) _).setCell (Nat.le_add_right _ _) _).setCell (Nat.le_add_right _ _) _).setCell (Nat.le_add_right _ _) _).setCell (Nat.le_add_right _ _) _
 obtain⟨_,ha0,ha1⟩:=isThr_iff.1 ha
 obtain⟨_,hb0,hb1⟩:=isThr_iff.1 hb
 have HN:Hid (swapThreads p a b=some (p.thr (swapTs [] p.threads a.toNat b.toNat))):=xH1 (by unfold swapThreads;rw[change_of ha];unfold swapRes;rw[if_pos ⟨hb0,hb1⟩])
 rw[lt.out] at ha1 hb1
 have HA:=xH1 ha
 have HB:=xH1 hb
 clear ha hb
 obtain⟨na,rfl⟩:=Int.eq_ofNat_of_zero_le ha0
 obtain⟨nb,rfl⟩:=Int.eq_ofNat_of_zero_le hb0
 go_enter Tryz.func6,Tryz.ntmps6
 go_wp2_with fail
 rw[←HW0.out]
 refine(l11Thread_any v p na _ (hr.below B0) HZ.out).mono ?_
 rintro e w1 ⟨rfl,hb⟩
 rw[HA.out]
 have kR':=kR.below hb
 clear kR
 have kR:=kR'
 clear kR'
 replace q0:=keepc hb q0
 replace q1:=keepc hb q1
 replace q2:=keepc hb q2
 replace q3:=keepc hb q3
 replace q4:=keepc hb q4
 replace B0:=B0.trans (hb.mono B0.size)
 clear hb
 go_wp2_with fail
 refine(l11Thread_any v p nb _ (hr.below B0) HZ.out).mono ?_
 rintro e w1' ⟨rfl,hb⟩
 rw[HB.out]
 have kR':=kR.below hb
 clear kR
 have kR:=kR'
 clear kR'
 replace q0:=keepc hb q0
 replace q1:=keepc hb q1
 replace q2:=keepc hb q2
 replace q3:=keepc hb q3
 replace q4:=keepc hb q4
 replace B0:=B0.trans (hb.mono B0.size)
 clear hb
 go_wp2_with fail
 refine(l6Copy_any v p _ (hr.below B0) HZ.out).mono ?_
 rintro e w2 ⟨u,us,rfl,ou,hnd,hfr,four,hb⟩
 have hs0:=B0.size
 have hsr:=kR.lt
 obtain⟨T,eT,hT1,hT2⟩:=owns_at ou.ot.out (by have h1:=ou.ot.len;simp only[Pg.cells,List.length_map] at h1;have:=lt.out;omega)
 have hTf:=hfr T (by unfold fpP fpT;rw[eT];simp[rowOf])
 obtain⟨sU,nsU,csU,gU,ngU,cgU,bU,nbU,cbU,rU,nrU,crU,tU,ntU,ctU⟩:=u
 dsimp only at eT ou hfr hnd four⊢
 subst eT
 have kR':=kR.below hb
 clear kR
 have kR:=kR'
 clear kR'
 replace q0:=keepc hb q0
 replace q1:=keepc hb q1
 replace q2:=keepc hb q2
 replace q3:=keepc hb q3
 replace q4:=keepc hb q4
 replace B0:=B0.trans (hb.mono B0.size)
 have hs2:=kR.lt
 have hs1:=hb.size
 have bq:Below w2.heap.size w2 (w2.alloc (.cells #[.slice sU nsU csU,.slice gU ngU cgU,.slice bU nbU cbU,.slice rU nrU crU,.slice (some ⟨T,0,none⟩) ntU ctU] 26)):=xA1
 have kQ:Blk (w2.alloc (.cells #[.slice sU nsU csU,.slice gU ngU cgU,.slice bU nbU cbU,.slice rU nrU crU,.slice (some ⟨T,0,none⟩) ntU ctU] 26)) w2.heap.size #[.slice sU nsU csU,.slice gU ngU cgU,.slice bU nbU cbU,.slice rU nrU crU,.slice (some ⟨T,0,none⟩) ntU ctU] 26:=Blk.new _ _ _
 have hO:=ou.below bq
 have kR':=kR.below bq
 clear kR
 have kR:=kR'
 clear kR'
 replace q0:=keepc bq q0
 replace q1:=keepc bq q1
 replace q2:=keepc bq q2
 replace q3:=keepc bq q3
 replace q4:=keepc bq q4
 replace B0:=B0.trans (bq.mono B0.size)
 clear bq ou hb
 have hnt:p.threads.length=ntU:=by have:=hO.ot.len;simpa[Pg.cells] using this
 have hna:na<ntU:=by have:=lt.out;omega
 have hnb:nb<ntU:=by have:=lt.out;omega
 obtain⟨xa,ma,ya,exa,-⟩:=hO.ot.inn na hna
 obtain⟨xb,mb,yb,exb,-⟩:=hO.ot.inn nb hnb
 have hot:=hO.ot.out
 dsimp only at hot
 have hvl:=hO.ot.vlen
 dsimp only at hvl
 have ga:(w2.alloc (.cells #[.slice sU nsU csU,.slice gU ngU cgU,.slice bU nbU cbU,.slice rU nrU crU,.slice (some ⟨T,0,none⟩) ntU ctU] 26)).cell? ⟨T,na,none⟩=some (.slice xa ma ya):=by rw[hot.cellAt na (by omega),←exa];simp[List.getD,hvl,hna]
 have gb:(w2.alloc (.cells #[.slice sU nsU csU,.slice gU ngU cgU,.slice bU nbU cbU,.slice rU nrU crU,.slice (some ⟨T,0,none⟩) ntU ctU] 26)).cell? ⟨T,nb,none⟩=some (.slice xb mb yb):=by rw[hot.cellAt nb (by omega),←exb];simp[List.getD,hvl,hnb]
 have fa:=hot.frozenAt na
 have hQT:w2.heap.size≠T:=fun e=>blk_owns kQ hO.ot.out types_ne.2.2.2.1 (by rw[e];rfl)
 have hRT:w.heap.size+1≠T:=by omega
 have R1:=owns_store hot na (.slice xb mb yb) rfl
 have R2:=owns_store R1.1 nb (.slice xa ma ya) rfl
 obtain⟨z,hz2⟩:∃z,((w2.alloc (.cells #[.slice sU nsU csU,.slice gU ngU cgU,.slice bU nbU cbU,.slice rU nrU crU,.slice (some ⟨T,0,none⟩) ntU ctU] 26)).setCell ⟨T,na,none⟩ (.slice xb mb yb)).cell? ⟨T,nb,none⟩=some z:=by
  rw[R1.1.cellAt nb (by omega)]
  exact⟨_,List.getElem?_eq_getElem (by have:=R1.1.1;omega)⟩
 have fz2:=R1.1.frozenAt nb
 have kQ1:=kQ.other ⟨T,na,none⟩ (.slice xb mb yb) hQT
 have kQ2:=kQ1.other ⟨T,nb,none⟩ (.slice xa ma ya) hQT
 have kR1:=kR.other ⟨T,na,none⟩ (.slice xb mb yb) hRT
 have kR2:=kR1.other ⟨T,nb,none⟩ (.slice xa ma ya) hRT
 have hg:(w2.alloc (.cells #[.slice sU nsU csU,.slice gU ngU cgU,.slice bU nbU cbU,.slice rU nrU crU,.slice (some ⟨T,0,none⟩) ntU ctU] 26)).grownBy (((w2.alloc (.cells #[.slice sU nsU csU,.slice gU ngU cgU,.slice bU nbU cbU,.slice rU nrU crU,.slice (some ⟨T,0,none⟩) ntU ctU] 26)).setCell ⟨T,na,none⟩ (.slice xb mb yb)).setCell ⟨T,nb,none⟩ (.slice xa ma ya)) (rowOf (some ⟨T,0,none⟩)):=by exact grown_trans R1.2 R2.2
 have hinn:=hO.inner_own hg
 have hvl1:=hnt
 have e3:(us.set na (.slice xb mb yb)).set nb (.slice xa ma ya)=swapTs undef us na nb:=by unfold swapTs;rw[exa,exb]
 have hfin:OwnP (((w2.alloc (.cells #[.slice sU nsU csU,.slice gU ngU cgU,.slice bU nbU cbU,.slice rU nrU crU,.slice (some ⟨T,0,none⟩) ntU ctU] 26)).setCell ⟨T,na,none⟩ (.slice xb mb yb)).setCell ⟨T,nb,none⟩ (.slice xa ma ya)) (PV.mk sU nsU csU gU ngU cgU bU nbU cbU rU nrU crU (some ⟨T,0,none⟩) ntU ctU) ((us.set na (.slice xb mb yb)).set nb (.slice xa ma ya)) (p.thr (swapTs [] p.threads na nb)).cells:=ownP_threads hO hg R2.1 (by rw[swapTs_len];exact hnt) (fun i hi=>by
  rw[swapTs_len] at hi
  have e:=swapTs_get undef us na nb i (by omega) (by omega)
  have e2:=swapTs_get [] p.threads na nb i (by omega) (by omega)
  rw[e3,e,e2]
  split
  ·exact hinn na (by omega)
  ·split
   ·exact hinn nb (by omega)
   ·exact hinn i hi)
 have hF2:∀k∈fpP (PV.mk sU nsU csU gU ngU cgU bU nbU cbU rU nrU crU (some ⟨T,0,none⟩) ntU ctU) ((us.set na (.slice xb mb yb)).set nb (.slice xa ma ya)),w1'.heap.size≤k:=fp_thr hfr (fun k hk=>by simp[rowOf] at hk;omega) (fun x hx k hk=>by
  rw[e3] at hx
  obtain⟨j,hj,rfl⟩:=List.mem_iff_getElem.1 hx
  have hj2:j<us.length:=by rw[swapTs_len] at hj;exact hj
  have ee:=swapTs_get undef us na nb j (by omega) (by omega)
  have e5:(swapTs undef us na nb)[j]=(swapTs undef us na nb).getD j undef:=by simp[List.getD,hj]
  rw[e5,ee] at hk
  have gm:∀i,i<us.length→us.getD i undef∈us:=fun i hi=>by rw[List.getD_eq_getElem?_getD,List.getElem?_eq_getElem hi];simp
  split at hk
  ·exact hfr k (mem_fp_row (gm na (by omega)) hk)
  ·split at hk
   ·exact hfr k (mem_fp_row (gm nb (by omega)) hk)
   ·exact hfr k (mem_fp_row (gm j hj2) hk))
 have BB:Below w.heap.size w (((w2.alloc (.cells #[.slice sU nsU csU,.slice gU ngU cgU,.slice bU nbU cbU,.slice rU nrU crU,.slice (some ⟨T,0,none⟩) ntU ctU] 26)).setCell ⟨T,na,none⟩ (.slice xb mb yb)).setCell ⟨T,nb,none⟩ (.slice xa ma ya)):=(B0.setCell (show w.heap.size≤(⟨T,na,none⟩:Addr).block from(by omega:w.heap.size≤T)) (.slice xb mb yb)).setCell (show w.heap.size≤(⟨T,nb,none⟩:Addr).block from(by omega:w.heap.size≤T)) (.slice xa ma ya)
 have g0:=kQ2.cell 0 rfl
 have g1:=kQ2.cell 1 rfl
 have g2:=kQ2.cell 2 rfl
 have g3:=kQ2.cell 3 rfl
 have g4:=kQ2.cell 4 rfl
 have y0:=kR2.cell 0 rfl
 have x0:=kR2.fz 0
 have y1:=kR2.cell 1 rfl
 have x1:=kR2.fz 1
 have y2:=kR2.cell 2 rfl
 have x2:=kR2.fz 2
 have y3:=kR2.cell 3 rfl
 have x3:=kR2.fz 3
 have y4:=kR2.cell 4 rfl
 have x4:=kR2.fz 4
 have e4:=kQ.cell 4 rfl
 have f4:=kQ1.cell 4 rfl
 have HFIN:=xH1 hfin
 have HF2:=xH1 hF2
 have HBB:=xH1 BB
 have HNT:=xH1 hnt
 have i0:(0:Int)≤(na:Int):=by omega
 have i1:(na:Int)<(ntU:Int):=by omega
 have i2:(0:Int)≤(nb:Int):=by omega
 have i3:(nb:Int)<(ntU:Int):=by omega
 clear hnt hO hot hvl exa exb kQ kQ1 kQ2 kR kR1 kR2 hnd hfr four R1 R2 hg hinn hfin hvl1 e3 hF2 BB
 go_wp2
 generalize (w2.alloc (.cells #[.slice sU nsU csU,.slice gU ngU cgU,.slice bU nbU cbU,.slice rU nrU crU,.slice (some ⟨T,0,none⟩) ntU ctU] 26))=WA at*
 go_still_tail 9,(by kernel_rfl)
 go_wp2
 refine bodyPost_ret (v:= .tuple #[.agg #[.slice sU nsU csU,.slice gU ngU cgU,.slice bU nbU cbU,.slice rU nrU crU,.slice (some ⟨T,0,none⟩) ntU ctU],.bool true]) (by simp[results,Tryz.results6,go_sem,y0,y1,y2,y3,y4]) rfl ⟨PV.mk sU nsU csU gU ngU cgU bU nbU cbU rU nrU crU (some ⟨T,0,none⟩) ntU ctU,by rw[HN.out];rfl,?_,?_⟩
 ·rw[HN.out]
  simp only[Option.getD_some,Int.toNat_natCast]
  refine rd_after (R:=w.heap.size+1) HFIN.out ?_ ?_ HF2.out
  ·exact(Touch.set (Touch.set (Touch.set (Touch.set (Touch.set (Touch.refl _ _) (by simp)) (by simp)) (by simp)) (by simp)) (by simp)).trans (Touch.of_below xB1.drew)
  ·omega
 ·refine HBB.out.trans (Touch.below (S:=[w.heap.size+1]) ?_ HBB.out.size (fun k hk=> ?_))
  rotate_left
  ·obtain rfl:k=w.heap.size+1:=xS1 hk
   exact Nat.le_succ _
  exact(Touch.set (Touch.set (Touch.set (Touch.set (Touch.set (Touch.refl _ _) (by simp)) (by simp)) (by simp)) (by simp)) (by simp)).trans (Touch.of_below xB1.drew)
end Go.Proofs.YtjmpejaifmopnaaGreat
