/- Part of a proof: IFits. -/
import Derived.Test.YtjmpejaifmopnaaGreatQIFitsK
set_option maxRecDepth 100000
set_option maxHeartbeats 16000000
namespace Go.Proofs.YtjmpejaifmopnaaGreat
open Go.RowKit
abbrev ffb (w:World) (u:PV) (v:StV):List It:=[.blk (w.heap.size+1) (svC v) 38,.blk w.heap.size (pvC u) 26]
theorem implStateFits_ok (u:PV) (p:Pg) (v:StV) (L:StL) (s:StD) (w:World) (hp:RdP w u p) (hr:StR w v L s) (hf:Fits p s):
  Calls Tryz.prog 30 #[.agg #[.slice u.s u.ns u.cs,.slice u.g u.ng u.cg,.slice u.b u.nb u.cb,.slice u.r u.nr u.cr,.slice u.t u.nt u.ct],.agg #[.slice v.pl.a v.pl.n v.pl.c,.slice v.st.a v.st.n v.st.c,.slice v.se.a v.se.n v.se.c,.slice v.on.a v.on.n v.on.c,.slice v.gr.a v.gr.n v.gr.c,.slice v.ba.a v.ba.n v.ba.c,.slice v.ch.a v.ch.n v.ch.c,.slice v.sa.a v.sa.n v.sa.c,.int .i64 v.fl]] w fun e w'=>e= .returned (.bool true)∧Below w.heap.size w w':=by
 have HS:=xH1 hr
 have HP:=xH1 hp
 have HF:=xH1 hf
 have HZ:=xH1 hf.sm
 obtain⟨y1,y2,y3,y4,⟨y5,y6⟩,y7⟩:=valid_small hf.prog
 have es:v.se.n=u.ns:=by rw[hr.se.len,hf.nse,hp.ls]
 have eg:v.gr.n=u.ng:=by rw[hr.gr.len,hf.ngr,hp.lg]
 have eb:v.ba.n=u.nb:=by rw[hr.ba.len,hf.nba,hp.lb]
 have ec:v.ch.n=u.nr:=by rw[hr.ch.len,hf.nch,hp.lr]
 have eo:v.on.n=3:=by rw[hr.on.len,hf.non]
 have epn:v.pl.n=u.nt:=by rw[hr.pl.len,hf.np,hp.lt]
 have etn:v.st.n=u.nt:=by rw[hr.st.len,hf.nst,hp.lt]
 have m1:((v.se.n:Int) !=(u.ns:Int))=false:=by rw[es];simp
 have m2:((v.on.n:Int) !=3)=false:=by rw[eo];rfl
 have m3:((v.gr.n:Int) !=(u.ng:Int))=false:=by rw[eg];simp
 have m4:((v.ba.n:Int) !=(u.nb:Int))=false:=by rw[eb];simp
 have m5:((v.ch.n:Int) !=(u.nr:Int))=false:=by rw[ec];simp
 have m6:((v.pl.n:Int) !=(u.nt:Int))=false:=by rw[epn];simp
 have m7:((v.st.n:Int) !=(u.nt:Int))=false:=by rw[etn];simp
 have n1:v.se.n≤3:=by rw[hr.se.len,hf.nse];exact y1
 have n2:v.gr.n≤3:=by rw[hr.gr.len,hf.ngr];exact y2
 have n3:v.ba.n≤3:=by rw[hr.ba.len,hf.nba];exact y3
 have n4:v.ch.n≤3:=by rw[hr.ch.len,hf.nch];exact y4
 have n5:v.on.n≤3:=by omega
 have n6:v.sa.n≤64:=by rw[hr.sa.len];exact hf.nsa
 have f1:0≤v.fl:=by rw[hr.fl];exact hf.flt.1
 have f2:v.fl≤4:=by rw[hr.fl];exact hf.flt.2
 have t1:1≤u.nt:=by rw[←hp.lt];exact y5
 have t4:u.nt≤4:=by rw[←hp.lt];exact y6
 have YS:=xH1 y7
 have F:=((Fr.start w).alloc (pvC u) 26).alloc (svC v) 38
 simp only[World.size_alloc] at F
 have cs:=F.c9 0 rfl
 have cp:=F.c5 1 rfl
 have EE:=xH1 (And.intro es (And.intro eb ec))
 clear y1 y2 y3 y4 y5 y6 y7 es eg eb ec eo epn etn hp hr hf
 go_enter Tryz.func30,Tryz.ntmps30
 go_wp2_with fail
 refine(implProgValid_any u p _ (HP.out.below F.bel) (valid_Small HF.out.prog HP.out)).mono ?_
 rintro e w1 ⟨rfl,hb⟩
 rw[HF.out.prog]
 replace F:=F.call hb
 replace cs:=F.c9 0 rfl
 replace cp:=F.c5 1 rfl
 clear hb
 go_upto_region 4 with fail
 clear m1 m2 m3 m4 m5 m6 m7 f1 f2 cp
 go_wp2
 clear cs
 go_loopw [108] (fun i wr=>∃k:Nat,k≤v.se.n∧i= .int .i64 k∧Fr w wr (ffb w u v)) (fun i _=>v.se.n-(intOf i).toNat)
 case atStart=>exact⟨0,by omega,rfl,F⟩
 case round=>
  clear F
  obtain⟨k,hk,rfl,F⟩:=hrel
  by_cases hlt:k<v.se.n
  ·have hks:k<s.sems.length:=by have:=HS.out.se.len;omega
   obtain⟨x,q,b1,o1,HX,ea,g0,g1,g2,Q0,QL0,QC0⟩:=HS.out.at_se (j:=k) hks
   replace g0:=keepc F.bel g0
   replace g1:=keepc F.bel g1
   replace g2:=keepc F.bel g2
   have OKX:Hid (semOk x∧x.limit=p.sems.getD k 0):=xH1 (by rw[HX.out];exact(HF.out.se k hks))
   have F2:=F.alloc #[.int .i64 x.free,.int .i64 x.limit,.slice q.a q.n q.c] 83
   have cx:=F2.c3 0 rfl
   have hku:k<p.sems.length:=by rw[HP.out.ls];have:=EE.out;omega
   go_upto_region 7 with fail
   obtain⟨u2,hu,F3⟩:=F2.named
   rw[←hu]
   clear hu F2 F cx ea g0 g1 g2
   obtain⟨bu,ou,eu,gu⟩:=(F3.rd HP.out.rs).int (by omega)
   have cu:=gu k hku
   have cb:u2.cell? ⟨w.heap.size,0,none⟩=some (.slice u.s u.ns u.cs):=F3.cell 2 0 rfl rfl
   rw[eu] at cb
   obtain⟨lv,hlv⟩:∃z,z=p.sems.getD k 0:=⟨_,rfl⟩
   rw[←hlv] at cu
   have i1:(k:Int)<(u.ns:Int):=by rw[←HP.out.ls];omega
   have i0:(0:Int)≤(k:Int):=by omega
   have t0:(x.limit !=lv)=false:=by rw[hlv,←OKX.out.2];simp
   have c0:=F3.cell 0 0 rfl rfl
   have c1:=F3.cell 0 1 rfl rfl
   have c2:=F3.cell 0 2 rfl rfl
   have hcl:=fun d os=>Calls.regrown_of (implSemValid_ok x q.a q.n q.c (Sort.grow (redrawn u2 d) os) QL0.out.symm (((F3.rd Q0.out)).below (below_regrown _ d os)) OKX.out.1)
   have HCL:=xH1 hcl
   clear hcl gu eu hlv hku
   have rc0:=fun d os=>cell_regrown c0 d os
   have rc1:=fun d os=>cell_regrown c1 d os
   have rc2:=fun d os=>cell_regrown c2 d os
   have rcu:=fun d os=>cell_regrown cu d os
   have rcb:=fun d os=>cell_regrown cb d os
   clear c0 c1 c2 cu cb
   refine wp_region_quiet_below (by kernel_rfl) (by kernel_rfl) ?_
   repeat (go_big_quiet_step (with_reducible exact HCL.out _ _))
   refine wpQuiet_nil ?_
   intro w6 hw6
   have F6:=F3.call (quiet_ends hw6)
   clear hw6 rc0 rc1 rc2 rcu rcb
   clear hks
   go_wp2
   go_roundw
   case rel=>exact⟨k+1,by omega,by go_num,F6.sub (by simp)⟩
   case measure=>simp[intOf];omega
  ·obtain rfl:k=v.se.n:=by omega
   clear hlt hk
   have cs:=F.c9 0 rfl
   go_wp2
   clear cs
   go_loopw [130] (fun i wr=>∃k:Nat,k≤v.gr.n∧i= .int .i64 k∧Fr w wr (ffb w u v)) (fun i _=>v.gr.n-(intOf i).toNat)
   case atStart=>exact⟨0,by omega,rfl,F⟩
   case round=>
    clear F
    obtain⟨k,hk,rfl,F⟩:=hrel
    by_cases hlt:k<v.gr.n
    ·have hks:k<s.groups.length:=by have:=HS.out.gr.len;omega
     obtain⟨x,q,b1,o1,HX,ea,g0,g1,Q0,QL0,QC0⟩:=HS.out.at_gr (j:=k) hks
     replace g0:=keepc F.bel g0
     replace g1:=keepc F.bel g1
     have OKX:Hid (grpOk x):=xH1 (by rw[HX.out];exact(HF.out.gr k hks))
     have F2:=F.alloc #[.int .i64 x.count,.slice q.a q.n q.c] 86
     have cx:=F2.c2 0 rfl
     go_wp2_with fail
     refine(implGroupValid_ok x q.a q.n q.c _ QL0.out.symm (F2.rd Q0.out) OKX.out).mono ?_
     rintro e w6 ⟨rfl,hb⟩
     have F6:=F2.call hb
     clear hb F2 F cx ea g0 g1
     clear hks
     go_wp2
     go_roundw
     case rel=>exact⟨k+1,by omega,by go_num,F6.sub (by simp)⟩
     case measure=>simp[intOf];omega
    ·obtain rfl:k=v.gr.n:=by omega
     clear hlt hk
     have cs:=F.c9 0 rfl
     go_wp2
     clear cs
     go_loopw [141] (fun i wr=>∃k:Nat,k≤v.ba.n∧i= .int .i64 k∧Fr w wr (ffb w u v)) (fun i _=>v.ba.n-(intOf i).toNat)
     case atStart=>exact⟨0,by omega,rfl,F⟩
     case round=>
      clear F
      obtain⟨k,hk,rfl,F⟩:=hrel
      by_cases hlt:k<v.ba.n
      ·have hks:k<s.bars.length:=by have:=HS.out.ba.len;omega
       obtain⟨x,q,b1,o1,HX,ea,g0,g1,g2,Q0,QL0,QC0⟩:=HS.out.at_ba (j:=k) hks
       replace g0:=keepc F.bel g0
       replace g1:=keepc F.bel g1
       replace g2:=keepc F.bel g2
       have OKX:Hid (barOk x∧x.parties=p.barriers.getD k 0):=xH1 (by rw[HX.out];exact(HF.out.ba k hks))
       have F2:=F.alloc #[.int .i64 x.parties,.int .i64 x.round,.slice q.a q.n q.c] 89
       have cx:=F2.c3 0 rfl
       have hku:k<p.barriers.length:=by rw[HP.out.lb];have:=EE.out;omega
       go_upto_region 19 with fail
       obtain⟨u2,hu,F3⟩:=F2.named
       rw[←hu]
       clear hu F2 F cx ea g0 g1 g2
       obtain⟨bu,ou,eu,gu⟩:=(F3.rd HP.out.rb).int (by omega)
       have cu:=gu k hku
       have cb:u2.cell? ⟨w.heap.size,2,none⟩=some (.slice u.b u.nb u.cb):=F3.cell 2 2 rfl rfl
       rw[eu] at cb
       obtain⟨lv,hlv⟩:∃z,z=p.barriers.getD k 0:=⟨_,rfl⟩
       rw[←hlv] at cu
       have i1:(k:Int)<(u.nb:Int):=by rw[←HP.out.lb];omega
       have i0:(0:Int)≤(k:Int):=by omega
       have t0:(x.parties !=lv)=false:=by rw[hlv,←OKX.out.2];simp
       have c0:=F3.cell 0 0 rfl rfl
       have c1:=F3.cell 0 1 rfl rfl
       have c2:=F3.cell 0 2 rfl rfl
       have hcl:=fun d os=>Calls.regrown_of (implBarValid_ok x q.a q.n q.c (Sort.grow (redrawn u2 d) os) QL0.out.symm (((F3.rd Q0.out)).below (below_regrown _ d os)) OKX.out.1)
       have HCL:=xH1 hcl
       clear hcl gu eu hlv hku
       have rc0:=fun d os=>cell_regrown c0 d os
       have rc1:=fun d os=>cell_regrown c1 d os
       have rc2:=fun d os=>cell_regrown c2 d os
       have rcu:=fun d os=>cell_regrown cu d os
       have rcb:=fun d os=>cell_regrown cb d os
       clear c0 c1 c2 cu cb
       refine wp_region_quiet_below (by kernel_rfl) (by kernel_rfl) ?_
       repeat (go_big_quiet_step (with_reducible exact HCL.out _ _))
       refine wpQuiet_nil ?_
       intro w6 hw6
       have F6:=F3.call (quiet_ends hw6)
       clear hw6 rc0 rc1 rc2 rcu rcb
       clear hks
       go_wp2
       go_roundw
       case rel=>exact⟨k+1,by omega,by go_num,F6.sub (by simp)⟩
       case measure=>simp[intOf];omega
      ·obtain rfl:k=v.ba.n:=by omega
       clear hlt hk
       have cs:=F.c9 0 rfl
       go_wp2
       clear cs
       go_loopw [163] (fun i wr=>∃k:Nat,k≤v.ch.n∧i= .int .i64 k∧Fr w wr (ffb w u v)) (fun i _=>v.ch.n-(intOf i).toNat)
       case atStart=>exact⟨0,by omega,rfl,F⟩
       case round=>
        clear F
        obtain⟨k,hk,rfl,F⟩:=hrel
        by_cases hlt:k<v.ch.n
        ·have hks:k<s.chans.length:=by have:=HS.out.ch.len;omega
         obtain⟨x,q,b1,o1,HX,ea,g0,g1,g2,g3,g4,Q0,QL0,QC0,Q1,QL1,QC1,Q2,QL2,QC2⟩:=HS.out.at_ch (j:=k) hks
         replace g0:=keepc F.bel g0
         replace g1:=keepc F.bel g1
         replace g2:=keepc F.bel g2
         replace g3:=keepc F.bel g3
         replace g4:=keepc F.bel g4
         have OKX:Hid (chnOk x∧x.room=p.rooms.getD k 0):=xH1 (by rw[HX.out];exact(HF.out.ch k hks))
         have F2:=F.alloc #[.int .i64 x.room,.slice q.1.a q.1.n q.1.c,.slice q.2.1.a q.2.1.n q.2.1.c,.slice q.2.2.a q.2.2.n q.2.2.c,.bool x.closed] 93
         have cx:=F2.c5 0 rfl
         have hku:k<p.rooms.length:=by rw[HP.out.lr];have:=EE.out;omega
         go_upto_region 25 with fail
         obtain⟨u2,hu,F3⟩:=F2.named
         rw[←hu]
         clear hu F2 F cx ea g0 g1 g2 g3 g4
         obtain⟨bu,ou,eu,gu⟩:=(F3.rd HP.out.rr).int (by omega)
         have cu:=gu k hku
         have cb:u2.cell? ⟨w.heap.size,3,none⟩=some (.slice u.r u.nr u.cr):=F3.cell 2 3 rfl rfl
         rw[eu] at cb
         obtain⟨lv,hlv⟩:∃z,z=p.rooms.getD k 0:=⟨_,rfl⟩
         rw[←hlv] at cu
         have i1:(k:Int)<(u.nr:Int):=by rw[←HP.out.lr];omega
         have i0:(0:Int)≤(k:Int):=by omega
         have t0:(x.room !=lv)=false:=by rw[hlv,←OKX.out.2];simp
         have c0:=F3.cell 0 0 rfl rfl
         have c1:=F3.cell 0 1 rfl rfl
         have c2:=F3.cell 0 2 rfl rfl
         have c3:=F3.cell 0 3 rfl rfl
         have c4:=F3.cell 0 4 rfl rfl
         have hcl:=fun d os=>Calls.regrown_of (implChanValid_ok x q.1.a q.2.1.a q.2.2.a q.1.n q.1.c q.2.1.n q.2.1.c q.2.2.n q.2.2.c (Sort.grow (redrawn u2 d) os) QL0.out.symm QL1.out.symm QL2.out.symm ((F3.rd Q0.out).below (below_regrown _ d os)) ((F3.rd Q1.out).below (below_regrown _ d os)) ((F3.rd Q2.out).below (below_regrown _ d os)) OKX.out.1)
         have HCL:=xH1 hcl
         clear hcl gu eu hlv hku
         have rc0:=fun d os=>cell_regrown c0 d os
         have rc1:=fun d os=>cell_regrown c1 d os
         have rc2:=fun d os=>cell_regrown c2 d os
         have rc3:=fun d os=>cell_regrown c3 d os
         have rc4:=fun d os=>cell_regrown c4 d os
         have rcu:=fun d os=>cell_regrown cu d os
         have rcb:=fun d os=>cell_regrown cb d os
         clear c0 c1 c2 c3 c4 cu cb
         refine wp_region_quiet_below (by kernel_rfl) (by kernel_rfl) ?_
         repeat (go_big_quiet_step (with_reducible exact HCL.out _ _))
         refine wpQuiet_nil ?_
         intro w6 hw6
         have F6:=F3.call (quiet_ends hw6)
         clear hw6 rc0 rc1 rc2 rc3 rc4 rcu rcb
         clear hks
         go_wp2
         go_roundw
         case rel=>exact⟨k+1,by omega,by go_num,F6.sub (by simp)⟩
         case measure=>simp[intOf];omega
        ·obtain rfl:k=v.ch.n:=by omega
         clear hlt hk
         have cs:=F.c9 0 rfl
         go_wp2
         clear cs
         go_loopw [185] (fun i wr=>∃k:Nat,k≤v.on.n∧i= .int .i64 k∧Fr w wr (ffb w u v)) (fun i _=>v.on.n-(intOf i).toNat)
         case atStart=>exact⟨0,by omega,rfl,F⟩
         case round=>
          clear F
          obtain⟨k,hk,rfl,F⟩:=hrel
          by_cases hlt:k<v.on.n
          ·have hks:k<s.onces.length:=by have:=HS.out.on.len;omega
           obtain⟨x,q,b1,o1,HX,ea,g0,g1,g2,g3,Q0,QL0,QC0⟩:=HS.out.at_on (j:=k) hks
           replace g0:=keepc F.bel g0
           replace g1:=keepc F.bel g1
           replace g2:=keepc F.bel g2
           replace g3:=keepc F.bel g3
           have OKX:Hid (onceOk x):=xH1 (by rw[HX.out];exact(HF.out.on k hks))
           have F2:=F.alloc #[.int .i64 x.state,.int .i64 x.owner,.int .i64 x.value,.slice q.a q.n q.c] 96
           have cx:=F2.c4 0 rfl
           go_wp2_with fail
           refine(implOnceValid_ok x q.a q.n q.c _ QL0.out.symm (F2.rd Q0.out) OKX.out).mono ?_
           rintro e w6 ⟨rfl,hb⟩
           have F6:=F2.call hb
           clear hb F2 F cx ea g0 g1 g2 g3
           clear hks
           go_wp2
           go_roundw
           case rel=>exact⟨k+1,by omega,by go_num,F6.sub (by simp)⟩
           case measure=>simp[intOf];omega
          ·obtain rfl:k=v.on.n:=by omega
           clear hlt hk
           have cs:=F.c9 0 rfl
           go_wp2
           clear cs
           go_loopw [196] (fun i wr=>∃k:Nat,k≤v.sa.n∧i= .int .i64 k∧Fr w wr (ffb w u v)) (fun i _=>v.sa.n-(intOf i).toNat)
           case atStart=>exact⟨0,by omega,rfl,F⟩
           case round=>
            clear F
            obtain⟨k,hk,rfl,F⟩:=hrel
            by_cases hlt:k<v.sa.n
            ·have hks:k<s.said.length:=by have:=HS.out.sa.len;omega
             obtain⟨b,o,eb,g'⟩:=(F.rd HS.out.sa.rd).int (by omega)
             have g1:=g' k hks
             obtain⟨x,hx⟩:∃x,x=s.said.getD k 0:=⟨_,rfl⟩
             rw[←hx] at g1
             have HXX:Hid (0≤x∧x≤99):=xH1 (HF.out.sa x (by rw[hx];exact getD_memp hks))
             clear g' hx hks
             go_upto_region 37 with fail
             clear eb g1
             go_wp2_with fail
             refine(implValue_ok x _ HXX.out).mono ?_
             rintro e wz ⟨rfl,hw⟩
             obtain rfl:=hw
             go_wp2
             go_roundw
             case rel=>exact⟨k+1,by omega,by go_num,F⟩
             case measure=>simp[intOf];omega
            ·obtain rfl:k=v.sa.n:=by omega
             clear hlt hk
             have cs:=F.c9 0 rfl
             have hS:=F.inside (w.heap.size+1) (by simp[foots,It.foot])
             obtain⟨N,hN⟩:∃N,N=wr.heap.size:=⟨_,rfl⟩
             have hNN:w.heap.size+2≤N:=by rw[hN];exact hS.2
             clear hS
             go_wp2_with fail
             refine(implWaitingsOf_ok v L s _ (HS.out.below F.bel) HZ.out HF.out.ne HF.out.no).mono ?_
             rintro e w4 ⟨rfl,hwm,hom,hb⟩
             rw[←hN] at hwm hom⊢
             have h:FW w w4 (ffb w u v) N s 0 0:=⟨F.call hb,⟨by omega,by simp[foots,It.foot];omega,by simp[foots,It.foot];omega⟩,by rw[from_zero (fun e he=>(HF.out.we e he).1)];exact hwm,by rw[from_zero (fun e he=>(HF.out.oe e he).1)];exact hom⟩
             clear hN hNN hwm hom hb F cs
             have cp:=h.fr.c5 1 rfl
             go_wp2
             clear cp
             go_loopw [212] (fun i wr=>∃k:Nat,k≤u.nt∧i= .int .i64 k∧FW w wr (ffb w u v) N s k k) (fun i _=>u.nt-(intOf i).toNat)
             case atStart=>exact⟨0,by omega,rfl,h⟩
             case round=>
              clear h
              obtain⟨k,hk,rfl,h⟩:=hrel
              by_cases hlt:k<u.nt
              ·have hkt:k<p.threads.length:=by rw[HP.out.lt];exact hlt
               have hth:=HF.out.th k hkt
               unfold thOk opAt at hth
               rw[show((k:Int)).toNat=k from rfl,opsOf_nat] at hth
               obtain⟨bt,ot,et,hth4⟩:=HP.out.thr (by omega)
               obtain⟨a2,c2,ct,r2⟩:=hth4 k hkt
               obtain⟨bp,op,ep,gp⟩:=HS.out.pl.rd.int (by rw[HF.out.np];omega)
               replace gp:=gp k (by rw[HF.out.np];exact hkt)
               obtain⟨bs,os,es,gs⟩:=HS.out.st.rd.int (by rw[HF.out.nst];omega)
               replace gs:=gs k (by rw[HF.out.nst];exact hkt)
               have HRW:=xH1 r2
               obtain⟨l,hl⟩:∃l,l=p.threads.getD k []:=⟨_,rfl⟩
               obtain⟨x,hx⟩:∃x,x=s.places.getD k 0:=⟨_,rfl⟩
               obtain⟨y,hy⟩:∃y,y=s.status.getD k 0:=⟨_,rfl⟩
               rw[←hl] at ct HRW hth
               rw[←hx] at gp hth
               rw[←hy] at gs hth
               have l8:l.length≤8:=by rw[hl];exact(valid_small HF.out.prog).2.2.2.2.2 k
               obtain⟨h0,h1,hth⟩:=hth
               obtain⟨i,rfl⟩:∃i:Nat,x=(i:Int):=⟨x.toNat,by omega⟩
               have i1:i≤l.length:=by omega
               simp only[Int.toNat_natCast] at hth
               have HTH:=xH1 hth
               have t0:((i:Int)<0)=False:=by simp
               have t1:((l.length:Int)<(i:Int))=False:=by simp;omega
               have k0:(0:Int)≤(k:Int):=by omega
               have k1:(k:Int)<(u.nt:Int):=by omega
               have k2:(k:Int)<(v.pl.n:Int):=by rw[HS.out.pl.len,HF.out.np];omega
               have k3:(k:Int)<(v.st.n:Int):=by rw[HS.out.st.len,HF.out.nst];omega
               have cs:=h.fr.c9 0 rfl
               have ES:=xH1 es
               have GS:=xH1 gs
               replace ct:=keepc h.fr.bel ct
               replace gp:=keepc h.fr.bel gp
               clear hth hth4 hl hx hy h0 h1 gs es hkt r2
               go_upto_region 45 with fail
               clear cs et ep ct gp
               go_upto_region 47 with fail
               obtain⟨b1,n1,e1,l1,q1⟩:=h.wm.look (P:=Tryz.prog) Tryz.underlying98 Tryz.underlying3 zero_wtgs (from_nodup HF.out.ne) k
               obtain⟨b2,n2,e2,l2,q2⟩:=h.om.look (P:=Tryz.prog) Tryz.underlying99 Tryz.underlying3 zero_ints' (from_nodup HF.out.no) k
               have Q1:=xH1 q1
               have Q2:=xH1 q2
               have L1:=xH1 l1
               have L2:=xH1 l2
               clear q1 q2 l1 l2 t0 t1
               apply wp_rk 8 [.k _,.k _,.k (.slice b1 n1 e1),.k _,.k _,.k (.slice b2 n2 e2),.k _,.k _] trivial ?s1 ?e1
               case s1=>
                repeat' apply And.intro
                all_goals first|trivial|(intro ρ w1 hG hfr hd;obtain⟨fc,ff⟩:=fcff hfr;have f18:=hfr (.tmp 18) rfl;have f19:=hfr (.tmp 19) rfl;have f20:=hfr (.tmp 20) rfl;have F1:=h.fr.call hG;clear F1)
                exact rk0;exact rk0
                ·obtain⟨d0,d1,-⟩:=hd
                 have d0:ρ (.tmp 230)=_:=d0
                 have d1:ρ (.tmp 231)=_:=d1
                 have hlk:=L1.out w1 hG
                 exact gvF hG (by go_simp) rfl xN1
                exact rk0;exact rk0
                ·obtain⟨d0,d1,-⟩:=hd
                 have d0:ρ (.tmp 233)=_:=d0
                 have d1:ρ (.tmp 234)=_:=d1
                 have hlk:=L2.out w1 hG
                 exact gvF hG (by go_simp) rfl xN1
                exact rk1;exact rk1
               intro w2 hG
               refine rk_end ?_
               replace h:=h.call hG
               replace Q1:Hid ((n1=0∧(k:Int)∉(from_ (ents s) k).map (·.1))∨(n1=1∧∃x,((k:Int),x)∈from_ (ents s) k∧Rd w2 b1 (entC x))):=xH1 (Q1.out.imp id fun⟨e,x,hx,hr⟩=>⟨e,x,hx,hr.below hG⟩)
               replace Q2:Hid ((n2=0∧(k:Int)∉(from_ (owns s) k).map (·.1))∨(n2=1∧∃x,((k:Int),x)∈from_ (owns s) k∧Rd w2 b2 (oneC x))):=xH1 (Q2.out.imp id fun⟨e,x,hx,hr⟩=>⟨e,x,hx,hr.below hG⟩)
               clear L1 L2 hG
               go_upto_region 50 with (at_delete;first|(refine wpList_delete_wmap rfl _ _ rfl Tryz.underlying98 Tryz.underlying3 rfl h.wm (fun _=>by simp[entC]) rfl ?_;intro w5 hm5 hg5 hs5;replace Q1:Hid ((n1=0∧(k:Int)∉(from_ (ents s) k).map (·.1))∨(n1=1∧∃x,((k:Int),x)∈from_ (ents s) k∧Rd w5 b1 (entC x))):=xH1 (Q1.out.imp id fun⟨e,x,hx,hr⟩=>⟨e,x,hx,h.wm.keep hr (by simp[entC]) hg5⟩);replace Q2:Hid ((n2=0∧(k:Int)∉(from_ (owns s) k).map (·.1))∨(n2=1∧∃x,((k:Int),x)∈from_ (owns s) k∧Rd w5 b2 (oneC x))):=xH1 (Q2.out.imp id fun⟨e,x,hx,hr⟩=>⟨e,x,hx,h.wm.keep hr (by simp[oneC]) hg5⟩);replace h:=h.delW hm5 hg5;clear hm5 hg5 hs5)|(refine wpList_delete_wmap rfl _ _ rfl Tryz.underlying99 Tryz.underlying3 rfl h.om (fun _=>by simp[oneC]) rfl ?_;intro w7 hm7 hg7 hs7;replace Q1:Hid ((n1=0∧(k:Int)∉(from_ (ents s) k).map (·.1))∨(n1=1∧∃x,((k:Int),x)∈from_ (ents s) k∧Rd w7 b1 (entC x))):=xH1 (Q1.out.imp id fun⟨e,x,hx,hr⟩=>⟨e,x,hx,h.om.keep hr (by simp[entC]) hg7⟩);replace Q2:Hid ((n2=0∧(k:Int)∉(from_ (owns s) k).map (·.1))∨(n2=1∧∃x,((k:Int),x)∈from_ (owns s) k∧Rd w7 b2 (oneC x))):=xH1 (Q2.out.imp id fun⟨e,x,hx,hr⟩=>⟨e,x,hx,h.om.keep hr (by simp[oneC]) hg7⟩);replace h:=h.delO hm7 hg7;clear hm7 hg7 hs7))
               rcases HTH.out with ⟨t1,rfl,t3,t4⟩|⟨t1,hth⟩
               ·obtain rfl:i=l.length:=by omega
                obtain⟨rfl,-⟩:=Q1.out.resolve_right fun⟨_,x,hx,_⟩=>t3 (List.mem_map.2 ⟨_,from_mem.1 hx,rfl⟩)
                obtain⟨rfl,-⟩:=Q2.out.resolve_right fun⟨_,x,hx,_⟩=>t4 (List.mem_map.2 ⟨_,from_mem.1 hx,rfl⟩)
                clear t1 t3 t4 Q1 Q2
                have gs:=keepc h.fr.bel GS.out
                have cs:=h.fr.c9 0 rfl
                rw[ES.out] at cs
                go_wp2
                go_roundw
                case rel=>exact⟨k+1,by omega,by go_num,h⟩
                case measure=>simp[intOf];omega
               ·have i2:i<l.length:=by omega
                obtain⟨b3,o3,rfl,g'⟩:=(h.fr.rd HRW.out).op (by omega)
                obtain⟨g0,g1,g2⟩:=g' i i2
                obtain⟨⟨kd,on,ar⟩,hz⟩:∃z,z=l.getD i noOp:=⟨_,rfl⟩
                rw[←hz] at g0 g1 g2 hth
                have t2:((i:Int)==(l.length:Int))=false:=by simp;omega
                have t6:(i=l.length)=False:=by simp;omega
                have j0:(0:Int)≤(i:Int):=by omega
                have j1:(i:Int)<(l.length:Int):=by omega
                dsimp only at g0 g1 g2
                have HH:=xH1 hth
                clear hth g' hz t1 HTH
                have G:=(Fr.start w7).alloc #[.int .i64 kd,.int .i64 on,.int .i64 ar] 58
                go_upto_region 54 with fail
                clear g0 g1 g2
                obtain⟨w8,hw,G⟩:=G.named
                rw[←hw]
                clear hw
                have gs:=keepc (h.fr.bel.trans (G.bel.mono h.fr.bel.size)) GS.out
                have cs:=(h.call G.bel).fr.c9 0 rfl
                rw[ES.out] at cs
                go_upto_region 56 with fail
                clear gs cs
                rcases HH.out with ⟨rfl,t3,t4⟩|⟨rfl,t3,t4⟩|⟨rfl,t3,t5,t4⟩
                ·obtain⟨rfl,-⟩:=Q1.out.resolve_right fun⟨_,x,hx,_⟩=>t3 (List.mem_map.2 ⟨_,from_mem.1 hx,rfl⟩)
                 obtain⟨rfl,-⟩:=Q2.out.resolve_right fun⟨_,x,hx,_⟩=>t4 (List.mem_map.2 ⟨_,from_mem.1 hx,rfl⟩)
                 clear t3 t4 Q1 Q2 HH
                 go_wp2
                 go_roundw
                 case rel=>exact⟨k+1,by omega,by go_num,h.call G.bel⟩
                 case measure=>simp[intOf];omega
                ·obtain⟨rfl,-⟩:=Q2.out.resolve_right fun⟨_,x,hx,_⟩=>t4 (List.mem_map.2 ⟨_,from_mem.1 hx,rfl⟩)
                 obtain⟨rfl,x,hx,hr⟩:=Q1.out.resolve_left fun⟨_,hx⟩=>hx (from_key.2 (List.mem_map.2 ⟨_,t3,rfl⟩))
                 have hxe:=key_one HF.out.ne (from_mem.1 hx) t3
                 rw[hxe] at hr
                 clear hxe
                 obtain⟨b4,o4,rfl,rc⟩:∃b o,b1=some ⟨b,o,none⟩∧∀j,j<(entC (kd,on,if kd=2∨kd=8 then ar else 0)).length→_:=hr.resolve_left (by simp[entC])
                 have d0:=rc 0 (by simp[entC])
                 have d1:=rc 1 (by simp[entC])
                 have d2:=rc 2 (by simp[entC])
                 simp only[entC,List.getD_cons_zero,List.getD_cons_succ,Nat.add_zero] at d0 d1 d2
                 clear t3 t4 Q1 Q2 HH hx hr rc
                 have kn:=neq_wtg
                 have kg:=guard_wtg
                 have cu:=G.c3 0 rfl
                 have G2:=G.alloc #[.int .i64 kd,.int .i64 on,.int .i64 0] 104
                 go_upto_region 61 with fail
                 obtain⟨w9,hw,G2⟩:=G2.named
                 rw[←hw]
                 clear hw cu
                 have cu:=G2.c3 1 rfl
                 have cw:=G2.c3 0 rfl
                 by_cases q2:kd=2∨kd=8
                 ·rw[if_pos q2] at d2
                  have GX:=G2.set 0 rfl 2 (.int .i64 ar)
                  rcases q2 with rfl|rfl
                  ·go_upto_region 63 with fail
                   obtain⟨wv,hw,GX⟩:=GX.named
                   rw[←hw]
                   clear hw cu cw G2
                   replace d0:=keepc GX.bel d0
                   replace d1:=keepc GX.bel d1
                   replace d2:=keepc GX.bel d2
                   have u0:=GX.cell 0 0 rfl rfl
                   have u1:=GX.cell 0 1 rfl rfl
                   have u2:=GX.cell 0 2 rfl rfl
                   have rd0:=fun d os=>cell_regrown d0 d os
                   have rd1:=fun d os=>cell_regrown d1 d os
                   have rd2:=fun d os=>cell_regrown d2 d os
                   have ru0:=fun d os=>cell_regrown u0 d os
                   have ru1:=fun d os=>cell_regrown u1 d os
                   have ru2:=fun d os=>cell_regrown u2 d os
                   clear d0 d1 d2 u0 u1 u2
                   refine wp_region_quiet_below (by kernel_rfl) (by kernel_rfl) ?_
                   repeat (go_big_quiet_step (fail))
                   refine wpQuiet_nil ?_
                   intro w6 hw6
                   have h9:=(h.call GX.bel).call (quiet_ends hw6)
                   clear hw6 rd0 rd1 rd2 ru0 ru1 ru2
                   go_wp2
                   go_roundw
                   case rel=>exact⟨k+1,by omega,by go_num,h9⟩
                   case measure=>simp[intOf];omega
                  ·go_upto_region 63 with fail
                   obtain⟨wv,hw,GX⟩:=GX.named
                   rw[←hw]
                   clear hw cu cw G2
                   replace d0:=keepc GX.bel d0
                   replace d1:=keepc GX.bel d1
                   replace d2:=keepc GX.bel d2
                   have u0:=GX.cell 0 0 rfl rfl
                   have u1:=GX.cell 0 1 rfl rfl
                   have u2:=GX.cell 0 2 rfl rfl
                   have rd0:=fun d os=>cell_regrown d0 d os
                   have rd1:=fun d os=>cell_regrown d1 d os
                   have rd2:=fun d os=>cell_regrown d2 d os
                   have ru0:=fun d os=>cell_regrown u0 d os
                   have ru1:=fun d os=>cell_regrown u1 d os
                   have ru2:=fun d os=>cell_regrown u2 d os
                   clear d0 d1 d2 u0 u1 u2
                   refine wp_region_quiet_below (by kernel_rfl) (by kernel_rfl) ?_
                   repeat (go_big_quiet_step (fail))
                   refine wpQuiet_nil ?_
                   intro w6 hw6
                   have h9:=(h.call GX.bel).call (quiet_ends hw6)
                   clear hw6 rd0 rd1 rd2 ru0 ru1 ru2
                   go_wp2
                   go_roundw
                   case rel=>exact⟨k+1,by omega,by go_num,h9⟩
                   case measure=>simp[intOf];omega
                 ·rw[if_neg q2] at d2
                  have p2:(kd==2)=false:=by simp;exact fun h=>q2 (.inl h)
                  have p8:(kd==8)=false:=by simp;exact fun h=>q2 (.inr h)
                  have GX:=G2
                  go_upto_region 63 with fail
                  clear cu cw G2
                  replace d0:=keepc GX.bel d0
                  replace d1:=keepc GX.bel d1
                  replace d2:=keepc GX.bel d2
                  have u0:=GX.cell 0 0 rfl rfl
                  have u1:=GX.cell 0 1 rfl rfl
                  have u2:=GX.cell 0 2 rfl rfl
                  have rd0:=fun d os=>cell_regrown d0 d os
                  have rd1:=fun d os=>cell_regrown d1 d os
                  have rd2:=fun d os=>cell_regrown d2 d os
                  have ru0:=fun d os=>cell_regrown u0 d os
                  have ru1:=fun d os=>cell_regrown u1 d os
                  have ru2:=fun d os=>cell_regrown u2 d os
                  clear d0 d1 d2 u0 u1 u2
                  refine wp_region_quiet_below (by kernel_rfl) (by kernel_rfl) ?_
                  repeat (go_big_quiet_step (fail))
                  refine wpQuiet_nil ?_
                  intro w6 hw6
                  have h9:=(h.call GX.bel).call (quiet_ends hw6)
                  clear hw6 rd0 rd1 rd2 ru0 ru1 ru2
                  go_wp2
                  go_roundw
                  case rel=>exact⟨k+1,by omega,by go_num,h9⟩
                  case measure=>simp[intOf];omega
                ·obtain⟨rfl,-⟩:=Q1.out.resolve_right fun⟨_,x,hx,_⟩=>t3 (List.mem_map.2 ⟨_,from_mem.1 hx,rfl⟩)
                 dsimp only at t5 t4
                 obtain rfl:=t5
                 obtain⟨rfl,x,hx,hr⟩:=Q2.out.resolve_left fun⟨_,hx⟩=>hx (from_key.2 (List.mem_map.2 ⟨_,t4,rfl⟩))
                 have hxe:=key_one HF.out.no (from_mem.1 hx) t4
                 rw[hxe] at hr
                 clear hxe
                 obtain⟨b4,o4,rfl,rc⟩:∃b o,b2=some ⟨b,o,none⟩∧∀j,j<(oneC on).length→_:=hr.resolve_left (by simp[oneC])
                 have d0:=keepc G.bel (rc 0 (by simp[oneC]))
                 simp only[oneC,List.getD_cons_zero,Nat.add_zero] at d0
                 have u0:=G.cell 0 0 rfl rfl
                 have u1:=G.cell 0 1 rfl rfl
                 clear t3 t4 Q1 Q2 HH hx hr rc
                 go_upto_region 66 with fail
                 have rd0:=fun d os=>cell_regrown d0 d os
                 have ru0:=fun d os=>cell_regrown u0 d os
                 have ru1:=fun d os=>cell_regrown u1 d os
                 clear d0 u0 u1
                 refine wp_region_quiet_below (by kernel_rfl) (by kernel_rfl) ?_
                 repeat (go_big_quiet_step (fail))
                 refine wpQuiet_nil ?_
                 intro w6 hw6
                 have h9:=(h.call G.bel).call (quiet_ends hw6)
                 clear hw6 rd0 ru0 ru1
                 go_wp2
                 go_roundw
                 case rel=>exact⟨k+1,by omega,by go_num,h9⟩
                 case measure=>simp[intOf];omega
              ·obtain rfl:k=u.nt:=by omega
               clear hlt hk
               have hwm:=h.wm
               have hom:=h.om
               rw[from_end (fun e he=>by have h9:=(HF.out.we e he).2;rw[HP.out.lt] at h9;exact h9)] at hwm
               rw[from_end (fun e he=>by have h9:=(HF.out.oe e he).2;rw[HP.out.lt] at h9;exact h9)] at hom
               have lw:=hwm.len0 (P:=Tryz.prog) Tryz.underlying98
               have lo:=hom.len0 (P:=Tryz.prog) Tryz.underlying99
               clear hwm hom
               go_wp2
               exact bodyPost_ret (v:= .bool true) (by simp[results,Tryz.results30,go_sem]) rfl ⟨rfl,h.fr.bel⟩
end Go.Proofs.YtjmpejaifmopnaaGreat
