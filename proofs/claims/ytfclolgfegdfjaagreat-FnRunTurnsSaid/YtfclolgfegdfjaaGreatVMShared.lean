/- Part of a proof: MShared. -/
import Derived.Test.YtfclolgfegdfjaaGreatVRCopy
import Derived.Test.YtfclolgfegdfjaaGreatVPMachK
set_option maxRecDepth 100000
set_option maxHeartbeats 16000000
namespace Go.Proofs.YtfclolgfegdfjaaGreat
open Go.RowKit Go.Sort
theorem GM (u:PV) (p:Pg) (v:zu) (L:zQ) (s:zp) (w:World) (hp:yK w u p) (hv:zD p=true) (hr:yZ w v L s) (hf:yM p s):
  Calls Tryz.prog 140 #[.agg #[.slice u.s u.ns u.cs,.slice u.g u.ng u.cg,.slice u.b u.nb u.cb,.slice u.r u.nr u.cr,.slice u.t u.nt u.ct],.agg #[.slice v.pl.a v.pl.n v.pl.c,.slice v.st.a v.st.n v.st.c,.slice v.se.a v.se.n v.se.c,.slice v.on.a v.on.n v.on.c,.slice v.gr.a v.gr.n v.gr.c,.slice v.ba.a v.ba.n v.ba.c,.slice v.ch.a v.ch.n v.ch.c,.slice v.sa.a v.sa.n v.sa.c,.int .i64 v.fl]] w λe w'=>e= .returned (.bool true)/\Below w.heap.size w w':=by
 have HS:=zd hr;have HP:=zd hp;have HF:=zd hf;obtain⟨z1,z2,z3,z4,-,-⟩:=yf hv;have es:v.se.n=u.ns:=by rw[hr.se.len,hf.nse,hp.ls]
 have eg:v.gr.n=u.ng:=by rw[hr.gr.len,hf.ngr,hp.lg]
 have eb:v.ba.n=u.nb:=by rw[hr.ba.len,hf.nba,hp.lb]
 have ec:v.ch.n=u.nr:=by rw[hr.ch.len,hf.nch,hp.lr]
 have eo:v.on.n=3:=by rw[hr.on.len,hf.non]
 have m1:((v.se.n:Int) !=(u.ns:Int))=false:=by rw[es];simp
 have m2:((v.on.n:Int) !=3)=false:=by rw[eo];rfl
 have m3:((v.gr.n:Int) !=(u.ng:Int))=false:=by rw[eg];simp
 have m4:((v.ba.n:Int) !=(u.nb:Int))=false:=by rw[eb];simp
 have m5:((v.ch.n:Int) !=(u.nr:Int))=false:=by rw[ec];simp
 have M0:=zd hr.se.len;have L0:=zd hr.on.len;have K0:=zd hr.gr.len;have I0:=zd hr.ba.len;have J0:=zd hr.ch.len;have Es:=zd es;have Eb:=zd eb;have Ec:=zd ec;have f1:v.se.n<=3:=by rw[es,<-hp.ls];exact z1
 have a1:v.gr.n<=3:=by rw[eg,<-hp.lg];exact z2
 have Y0:v.ba.n<=3:=by rw[eb,<-hp.lb];exact z3
 have Z0:v.ch.n<=3:=by rw[ec,<-hp.lr];exact z4
 have d1:v.on.n<=3:=by omega
 clear es eg eb ec eo hr hp hf hv z1 z2 z3 z4;obtain⟨W0,s0⟩:∃W0:World,W0=((w.alloc (.cells #[.slice u.s u.ns u.cs,.slice u.g u.ng u.cg,.slice u.b u.nb u.cb,.slice u.r u.nr u.cr,.slice u.t u.nt u.ct] 26)).alloc (.cells #[.slice v.pl.a v.pl.n v.pl.c,.slice v.st.a v.st.n v.st.c,.slice v.se.a v.se.n v.se.c,.slice v.on.a v.on.n v.on.c,.slice v.gr.a v.gr.n v.gr.c,.slice v.ba.a v.ba.n v.ba.c,.slice v.ch.a v.ch.n v.ch.c,.slice v.sa.a v.sa.n v.sa.c,.int .i64 v.fl] 38)):=⟨_,rfl⟩
 have B0:Below w.heap.size w W0:=by
  rw[s0];exact((xd.alloc (by simp) _).alloc (by simp) _)
 have kP:zm W0 (w.heap.size) #[.slice u.s u.ns u.cs,.slice u.g u.ng u.cg,.slice u.b u.nb u.cb,.slice u.r u.nr u.cr,.slice u.t u.nt u.ct] 26:=by
  rw[s0];have h:=zm.new w #[.slice u.s u.ns u.cs,.slice u.g u.ng u.cg,.slice u.b u.nb u.cb,.slice u.r u.nr u.cr,.slice u.t u.nt u.ct] 26;exact h|>.alloc _
 have kS:zm W0 (w.heap.size+1) #[.slice v.pl.a v.pl.n v.pl.c,.slice v.st.a v.st.n v.st.c,.slice v.se.a v.se.n v.se.c,.slice v.on.a v.on.n v.on.c,.slice v.gr.a v.gr.n v.gr.c,.slice v.ba.a v.ba.n v.ba.c,.slice v.ch.a v.ch.n v.ch.c,.slice v.sa.a v.sa.n v.sa.c,.int .i64 v.fl] 38:=by
  rw[s0];have h:=zm.new (w.alloc (.cells #[.slice u.s u.ns u.cs,.slice u.g u.ng u.cg,.slice u.b u.nb u.cb,.slice u.r u.nr u.cr,.slice u.t u.nt u.ct] 26)) #[.slice v.pl.a v.pl.n v.pl.c,.slice v.st.a v.st.n v.st.c,.slice v.se.a v.se.n v.se.c,.slice v.on.a v.on.n v.on.c,.slice v.gr.a v.gr.n v.gr.c,.slice v.ba.a v.ba.n v.ba.c,.slice v.ch.a v.ch.n v.ch.c,.slice v.sa.a v.sa.n v.sa.c,.int .i64 v.fl] 38;simp only[World.size_alloc] at h;exact h
 have X0:W0.heap.size=w.heap.size+2:=by rw[s0];simp
 have p0:=kP.cell 0 rfl;have p1:=kP.cell 1 rfl;have p2:=kP.cell 2 rfl;have p3:=kP.cell 3 rfl;have q0:=kS.cell 0 rfl;have q1:=kS.cell 1 rfl;have q2:=kS.cell 2 rfl;have q3:=kS.cell 3 rfl;have q4:=kS.cell 4 rfl;have q5:=kS.cell 5 rfl;have q6:=kS.cell 6 rfl;have q7:=kS.cell 7 rfl;have q8:=kS.cell 8 rfl;have H0:=zd (HS.o.below B0);have f0:=zd (HP.o.below B0);have HB:=zd B0;clear HS HP B0 kS kP;go_enter Tryz.func140,Tryz.ntmps140;go_wp2;rw[<-s0];clear s0
 go_loopw [5] (λi wr=>∃j:Nat,j<=v.se.n/\i= .int .i64 j/\Below W0.heap.size W0 wr) (λi _=>v.se.n-(intOf i).toNat)
 case atStart=>exact⟨0,by omega,rfl,Below.refl _ _⟩
 case round=>
  obtain⟨j,hj,rfl,a0⟩:=hrel;have cq:=ze a0 q2;have cp:=ze a0 p0;by_cases n0:j<v.se.n
  rotate_left
  ·obtain rfl:j=v.se.n:=by omega
   go_wp2;obtain⟨S0,u0⟩:∃W',W'=wr:=⟨_,rfl⟩
   rw[<-u0] at a0⊢;have D0:=a0;clear a0 cq cp n0 u0 hj
   go_loopw [6] (λi wr=>∃j:Nat,j<=v.on.n/\i= .int .i64 j/\Below W0.heap.size W0 wr) (λi _=>v.on.n-(intOf i).toNat)
   case atStart=>exact⟨0,by omega,rfl,D0⟩
   case round=>
    obtain⟨j,hj,rfl,a0⟩:=hrel;have cq:=ze a0 q3;by_cases n0:j<v.on.n
    rotate_left
    ·obtain rfl:j=v.on.n:=by omega
     go_wp2;obtain⟨T0,v0⟩:∃W',W'=wr:=⟨_,rfl⟩
     rw[<-v0] at a0⊢;have E0:=a0;clear a0 cq n0 v0 hj
     go_loopw [7] (λi wr=>∃j:Nat,j<=v.gr.n/\i= .int .i64 j/\Below W0.heap.size W0 wr) (λi _=>v.gr.n-(intOf i).toNat)
     case atStart=>exact⟨0,by omega,rfl,E0⟩
     case round=>
      obtain⟨j,hj,rfl,a0⟩:=hrel;have cq:=ze a0 q4;by_cases n0:j<v.gr.n
      rotate_left
      ·obtain rfl:j=v.gr.n:=by omega
       go_wp2;obtain⟨U0,x0⟩:∃W',W'=wr:=⟨_,rfl⟩
       rw[<-x0] at a0⊢;have F0:=a0;clear a0 cq n0 x0 hj
       go_loopw [8] (λi wr=>∃j:Nat,j<=v.ba.n/\i= .int .i64 j/\Below W0.heap.size W0 wr) (λi _=>v.ba.n-(intOf i).toNat)
       case atStart=>exact⟨0,by omega,rfl,F0⟩
       case round=>
        obtain⟨j,hj,rfl,a0⟩:=hrel;have cq:=ze a0 q5;have cp:=ze a0 p2;by_cases n0:j<v.ba.n
        rotate_left
        ·obtain rfl:j=v.ba.n:=by omega
         go_wp2;obtain⟨V0,y0⟩:∃W',W'=wr:=⟨_,rfl⟩
         rw[<-y0] at a0⊢;have G0:=a0;clear a0 cq cp n0 y0 hj
         go_loopw [9] (λi wr=>∃j:Nat,j<=v.ch.n/\i= .int .i64 j/\Below W0.heap.size W0 wr) (λi _=>v.ch.n-(intOf i).toNat)
         case atStart=>exact⟨0,by omega,rfl,G0⟩
         case round=>
          obtain⟨j,hj,rfl,a0⟩:=hrel;have cq:=ze a0 q6;have cp:=ze a0 p3;by_cases n0:j<v.ch.n
          rotate_left
          ·obtain rfl:j=v.ch.n:=by omega
           go_wp2;go_ret;exact⟨rfl,HB.o.trans (a0.mono HB.o.size)⟩
          ·have c0:j<s.chans.length:=by have:=J0.o;omega
           obtain⟨x,q,b1,o1,HX,ea,g0,g1,g2,g3,g4,Q0,h0,r0,Q1,O0,R0,Q2,P0,N0⟩:=(H0.o.below a0).at_ch (j:=j) c0;have b0:=HF.o.ch j c0;rw[<-HX.o] at b0;have d0:=zd b0.1;have t0:=zd b0.2;clear b0;obtain⟨b2,o2,l0,m0⟩:=f0.out.rr.int (by rw[f0.out.lr];have:=Ec.o;omega);have gp:=ze a0 (m0 j (by rw[f0.out.lr];have:=Ec.o;omega));rw[<-t0.out] at gp;rw[l0] at cp;have z0:j<u.nr:=by have:=Ec.o;omega
           have i2:(j:Int)<(u.nr:Int):=(by omega);clear m0 l0 z0;rw[ea] at cq;have i0:(0:Int)<=(j:Int):=(by omega);have i1:(j:Int)<v.ch.n:=(by omega);clear ea c0;have k0:=cell_regrown g0;have k1:=cell_regrown g1;have k2:=cell_regrown g2;have k3:=cell_regrown g3;have k4:=cell_regrown g4;have kq:=cell_regrown cq;have kp:=cell_regrown cp;have C0:=cell_regrown gp;have tt:(x.room !=x.room)=false:=(by simp);have cV:uH (∀d os,Calls Tryz.prog 169 #[.agg #[.int .i64 x.room,.slice q.1.a q.1.n q.1.c,.slice q.2.1.a q.2.1.n q.2.1.c,.slice q.2.2.a q.2.2.n q.2.2.c,.bool x.closed]] (grow (redrawn wr d) os) λe A0=>e= .returned (.bool true)/\∃p:Regrown,A0=grow (redrawn wr p.d) p.os):=zd (λd os=>Calls.regrown_of (Zq x q.1.a q.2.1.a q.2.2.a q.1.n q.1.c q.2.1.n q.2.1.c q.2.2.n q.2.2.c _ h0.out.symm O0.o.symm P0.o.symm N0.o (Q0.o.below (below_regrown wr d os)) (Q1.o.below (below_regrown wr d os)) (Q2.o.below (below_regrown wr d os)) d0.out));go_wp2;refine wp_region_quiet_below (by kernel_rfl) (by kernel_rfl) ?_
           repeat (go_big_quiet_step (exact cV.out _ _))
           refine wpQuiet_nil ?_;intro w6 o0;have j0:Below wr.heap.size wr w6:=by
            obtain⟨pq,rfl⟩:=o0;exact below_regrown _ _ _
           clear o0;go_wp2
           go_roundw
           case rel=>exact⟨j+1,by omega,by go_num,a0.trans (j0.mono a0.size)⟩
           case measure=>simp[intOf];omega
        ·have c0:j<s.bars.length:=by have:=I0.o;omega
         obtain⟨x,q,b1,o1,HX,ea,g0,g1,g2,Q0,h0,r0⟩:=(H0.o.below a0).at_ba (j:=j) c0;have b0:=HF.o.ba j c0;rw[<-HX.o] at b0;have d0:=zd b0.1;have t0:=zd b0.2;clear b0;obtain⟨b2,o2,l0,m0⟩:=f0.out.rb.int (by rw[f0.out.lb];have:=Eb.o;omega);have gp:=ze a0 (m0 j (by rw[f0.out.lb];have:=Eb.o;omega));rw[<-t0.out] at gp;rw[l0] at cp;have z0:j<u.nb:=by have:=Eb.o;omega
         have i2:(j:Int)<(u.nb:Int):=(by omega);clear m0 l0 z0;rw[ea] at cq;have i0:(0:Int)<=(j:Int):=(by omega);have i1:(j:Int)<v.ba.n:=(by omega);clear ea c0;have k0:=cell_regrown g0;have k1:=cell_regrown g1;have k2:=cell_regrown g2;have kq:=cell_regrown cq;have kp:=cell_regrown cp;have C0:=cell_regrown gp;have tt:(x.parties !=x.parties)=false:=(by simp);have cV:uH (∀d os,Calls Tryz.prog 164 #[.agg #[.int .i64 x.parties,.int .i64 x.round,.slice q.a q.n q.c]] (grow (redrawn wr d) os) λe A0=>e= .returned (.bool true)/\∃p:Regrown,A0=grow (redrawn wr p.d) p.os):=zd (λd os=>Calls.regrown_of (J5 x q.a q.n q.c _ h0.out.symm r0.out (Q0.o.below (below_regrown wr d os)) d0.out));go_wp2;refine wp_region_quiet_below (by kernel_rfl) (by kernel_rfl) ?_
         repeat (go_big_quiet_step (exact cV.out _ _))
         refine wpQuiet_nil ?_;intro w6 o0;have j0:Below wr.heap.size wr w6:=by
          obtain⟨pq,rfl⟩:=o0;exact below_regrown _ _ _
         clear o0;go_wp2
         go_roundw
         case rel=>exact⟨j+1,by omega,by go_num,a0.trans (j0.mono a0.size)⟩
         case measure=>simp[intOf];omega
      ·have c0:j<s.groups.length:=by have:=K0.o;omega
       obtain⟨x,q,b1,o1,HX,ea,g0,g1,Q0,h0,r0⟩:=(H0.o.below a0).at_gr (j:=j) c0;have b0:=HF.o.gr j c0;rw[<-HX.o] at b0;have d0:=zd b0;clear b0;rw[ea] at cq;have i0:(0:Int)<=(j:Int):=(by omega);have i1:(j:Int)<v.gr.n:=(by omega);clear ea c0;go_wp2_with fail;refine(vP x q.a q.n q.c _ h0.out.symm r0.out (Q0.o) d0.out).mono ?_;rintro e w6 ⟨rfl,j0⟩;go_wp2
       go_roundw
       case rel=>exact⟨j+1,by omega,by go_num,a0.trans (j0.mono a0.size)⟩
       case measure=>simp[intOf];omega
    ·have c0:j<s.onces.length:=by have:=L0.o;omega
     obtain⟨x,q,b1,o1,HX,ea,g0,g1,g2,g3,Q0,h0,r0⟩:=(H0.o.below a0).at_on (j:=j) c0;have b0:=HF.o.on j c0;rw[<-HX.o] at b0;have d0:=zd b0;clear b0;rw[ea] at cq;have i0:(0:Int)<=(j:Int):=(by omega);have i1:(j:Int)<v.on.n:=(by omega);clear ea c0;go_wp2_with fail;refine(ui x q.a q.n q.c _ h0.out.symm r0.out (Q0.o) d0.out).mono ?_;rintro e w6 ⟨rfl,j0⟩;go_wp2
     go_roundw
     case rel=>exact⟨j+1,by omega,by go_num,a0.trans (j0.mono a0.size)⟩
     case measure=>simp[intOf];omega
  ·have c0:j<s.sems.length:=by have:=M0.o;omega
   obtain⟨x,q,b1,o1,HX,ea,g0,g1,g2,Q0,h0,r0⟩:=(H0.o.below a0).at_se (j:=j) c0;have b0:=HF.o.se j c0;rw[<-HX.o] at b0;have d0:=zd b0.1;have t0:=zd b0.2;clear b0;obtain⟨b2,o2,l0,m0⟩:=f0.out.rs.int (by rw[f0.out.ls];have:=Es.o;omega);have gp:=ze a0 (m0 j (by rw[f0.out.ls];have:=Es.o;omega));rw[<-t0.out] at gp;rw[l0] at cp;have z0:j<u.ns:=by have:=Es.o;omega
   have i2:(j:Int)<(u.ns:Int):=(by omega);clear m0 l0 z0;rw[ea] at cq;have i0:(0:Int)<=(j:Int):=(by omega);have i1:(j:Int)<v.se.n:=(by omega);clear ea c0;have k0:=cell_regrown g0;have k1:=cell_regrown g1;have k2:=cell_regrown g2;have kq:=cell_regrown cq;have kp:=cell_regrown cp;have C0:=cell_regrown gp;have tt:(x.limit !=x.limit)=false:=(by simp);have cV:uH (∀d os,Calls Tryz.prog 157 #[.agg #[.int .i64 x.free,.int .i64 x.limit,.slice q.a q.n q.c]] (grow (redrawn wr d) os) λe A0=>e= .returned (.bool true)/\∃p:Regrown,A0=grow (redrawn wr p.d) p.os):=zd (λd os=>Calls.regrown_of (ZP x q.a q.n q.c _ h0.out.symm (Q0.o.below (below_regrown wr d os)) d0.out));go_wp2;refine wp_region_quiet_below (by kernel_rfl) (by kernel_rfl) ?_
   repeat (go_big_quiet_step (exact cV.out _ _))
   refine wpQuiet_nil ?_;intro w6 o0;have j0:Below wr.heap.size wr w6:=by
    obtain⟨pq,rfl⟩:=o0;exact below_regrown _ _ _
   clear o0;go_wp2
   go_roundw
   case rel=>exact⟨j+1,by omega,by go_num,a0.trans (j0.mono a0.size)⟩
   case measure=>simp[intOf];omega
end Go.Proofs.YtfclolgfegdfjaaGreat
