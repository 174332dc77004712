/- Part of a proof: FnTurnsCountW. -/
import Derived.Lib.QuietBelow
import Derived.BigQuiet
import Derived.IntWalk
import Derived.Test.YtfclolgfegdfjaaGreatVRRun8
import Derived.Test.YtfclolgfegdfjaaGreatVIRunX
import Derived.Test.YtfclolgfegdfjaaGreatVRunS
import Derived.Test.YtfclolgfegdfjaaGreatVISame
import Derived.Test.YtfclolgfegdfjaaGreatVDraws3
import Derived.Test.YtfclolgfegdfjaaGreatVPot
import Derived.Test.YtfclolgfegdfjaaGreatVICount
set_option maxRecDepth 100000
set_option maxHeartbeats 16000000
namespace Go.Proofs.YtfclolgfegdfjaaGreat
open Go.RowKit Go.Sort
theorem DP (a:uQ) (n c:Nat) (bs:List Int) (w:World) (hl:bs.length=n) (h1:Rd w a (uf bs)) (z0:n<=maxLen) (h0:n<=c) (u0:∀b∈bs,0<=b/\b<=255):
  Calls Tryz.prog 6 #[.slice a n c] w λe w'=>e= .returned (.bool true)/\xW w w':=by
 unfold maxLen at z0;have HL:=zd hl;have r0:=zd u0;clear hl u0;by_cases hn:1048576<n
 ·have A0:(1048576:Int)<(n:Int):=jq;go_enter Tryz.func6,Tryz.ntmps6;go_wp2;go_ret;exact⟨rfl,Below.refl _ _⟩
 have A0:¬((1048576:Int)<(n:Int)):=jq;have hC:=zd (qw.mk HL.o h1 h0 r0.out jq);clear HL r0 h1 h0 z0;go_enter Tryz.func6,Tryz.ntmps6;go_wp2_with fail;refine(YC a n c bs w hC.out).mono ?_;rintro e w1 ⟨v,vs,p,rfl,o1,hb⟩;have hA:=(Below.refl w1.heap.size w1).alloc yk (.cells (zF v) 26);have F1:=((Fr.start w).call hb).alloc (zF v) 26;have HZ:=zd (o1.small jq);have F0:=zd o1.few;have O0:uH (v.nt<=v.ct):=zd (yB o1.own.ot.out).1;have hp:=o1.own.rd.below hA;clear hb o1 hC hn A0 hA;go_upto_region 4 with fail;obtain⟨W1,hW,F1,hp⟩:∃y,y=w1.alloc (.cells (zF v) 26)/\Fr w y [.blk w1.heap.size (zF v) 26]/\yK y v p:=⟨_,rfl,F1,hp⟩
 rw[<-hW];obtain⟨k1,hk⟩:=jy w1.heap.size;rw[<-hk] at F1⊢;clear hW hk;obtain⟨o,ho⟩:=jy (xn p (xh true));obtain⟨sb,h1⟩:∃y,o.isSome=y:=⟨_,rfl⟩
 obtain⟨s,h2⟩:∃y,(qN o).1=y:=⟨_,rfl⟩
 obtain⟨tr,h3⟩:∃y,(qN o).2=y:=⟨_,rfl⟩
 have p0:uH (X5 s/\tr.length<=100):=zd (Yg ho h2 h3);have K0:uH (sb=true->xn p (xh true)=some (s,tr)):=zd (λe=>by rw[<-ho,<-h2,<-h3];exact Zm (h1.trans e));have HO:=zd ho;have H1:=zd h1;have H2:=zd h2;have H3:=zd h3;have hN:=p0.out.2;clear ho h1 h2 h3;have q:=F1.c5 0 rfl;go_wp2_with fail;refine(Yj v p _ hp HZ.o).mono ?_;rintro e w2 hq;rw[<-HO.o] at hq;obtain⟨x,M,ar,cr,rfl,hb,hx,-⟩:=ud hq H1.o H2.o H3.o;have hA:=(Below.refl w2.heap.size w2).alloc yk (.cells (rC x ar tr.length cr) 40);have F2:=(F1.call hb).alloc (rC x ar tr.length cr) 40;have P0:uH (x.sa.n<=x.sa.c):=zd (yB hx.st.sa).1;have a0:=hx.st.rd.below hA;have b0:=(Rd.of_owns hx.tr).below hA;replace hp:=(hp.below hb).below hA;have L0:uH (tr.length<=cr):=zd (yB hx.tr).1;clear hq hb hx hA F1 q;go_upto_region 5 with fail;obtain⟨W2,hW,F2,a0,b0,hp⟩:∃y,y=w2.alloc (.cells (rC x ar tr.length cr) 40)/\Fr w y [.blk w2.heap.size (rC x ar tr.length cr) 40,.blk k1 (zF v) 26]/\yZ y x M s/\Rd y ar (zf tr)/\yK y v p:=⟨_,rfl,F2,a0,b0,hp⟩
 rw[<-hW];obtain⟨k2,hk⟩:=jy w2.heap.size;rw[<-hk] at F2⊢;clear hW hk;have q:=F2.c5 1 rfl;go_wp2_with fail;refine(XC v p _ hp HZ.o).mono ?_;rintro e w3 hq;rw[<-HO.o] at hq;obtain⟨gv,GL,ga,gc,rfl,hb,hg,d0⟩:=Yc hq H1.o H2.o H3.o;have hA:=(Below.refl w3.heap.size w3).alloc yk (.cells (rC gv ga tr.length gc) 40);have F3:=(F2.call hb).alloc (rC gv ga tr.length gc) 40;replace hg:=hg.below hA;replace d0:=d0.below hA;replace a0:=(a0.below hb).below hA;replace b0:=(b0.below hb).below hA;replace hp:=(hp.below hb).below hA;clear hq hb hA F2 q;go_upto_region 6 with fail;obtain⟨W3,hW,F3,hg,d0,a0,b0,hp⟩:∃y,y=w3.alloc (.cells (rC gv ga tr.length gc) 40)/\Fr w y [.blk w3.heap.size (rC gv ga tr.length gc) 40,.blk k2 (rC x ar tr.length cr) 40,.blk k1 (zF v) 26]/\yZ y gv GL s/\Rd y ga (zf tr)/\yZ y x M s/\Rd y ar (zf tr)/\yK y v p:=⟨_,rfl,F3,hg,d0,a0,b0,hp⟩
 rw[<-hW];obtain⟨k3,hk⟩:=jy w3.heap.size;rw[<-hk] at F3⊢;clear hW hk;have q:=F3.c10 0 rfl;have q2:=F3.c10 1 rfl;go_wp2_with fail;refine(xT x gv M GL s ar ga _ cr gc tr _ a0 hg p0.out.1 rfl jq b0 d0).mono ?_;rintro e w4 ⟨rfl,hb⟩;have F4:=F3.call hb;replace hg:=hg.below hb;replace d0:=d0.below hb;replace a0:=a0.below hb;replace b0:=b0.below hb;replace hp:=hp.below hb;clear hb F3 q q2;have t0:(sb !=sb)=false:=jv;have t1:(sb==sb)=true:=jv
 cases sb with
 |false=>
  have q:=F4.c10 0 rfl;have q2:=F4.c10 1 rfl;go_wp2_with fail;refine(xT x gv M GL s ar ga _ cr gc tr _ a0 hg p0.out.1 rfl jq b0 d0).mono ?_;rintro e w5 ⟨rfl,hb⟩;have HB:=zd (F4.call hb).bel;clear hb F4 q q2;go_wp2;go_ret;exact⟨rfl,HB.o⟩
 |true=>
  have c0:=zd (K0.o rfl);have HV:=zd (vN c0.out).1;have o0:=zd (vN c0.out).2;clear t0 t1 hg d0;have J0:=zd (Q7 c0.out);have G0:=zd (QB c0.out).2.2;have F:=F4;clear F4;have q:=F.c5 2 rfl;have q2:=F.c10 1 rfl;go_wp2_with fail;refine(V5 v p ar tr.length cr tr s _ hp HZ.o b0 rfl J0.o).mono ?_;rintro e w5 ⟨ai,ci,l,rfl,D0,y0,v0,hb⟩;have H0:=zd (Rd.of_owns D0);have E0:=zd v0;have s0:=zd y0;have F5:=zd (F.call hb);have I0:=zd (hp.below hb);have M0:=zd (a0.below hb);have f0:=zd hp.lt;clear hb F q q2 hp a0 b0 D0 v0 y0;go_wp2
  go_loopw [10] (λi wr=>∃k:Nat,k<=v.nt/\i=uy k/\xW w5 wr) (λi _=>v.nt-(intOf i).toNat)
  case atStart=>exact⟨0,jq,rfl,Below.refl _ _⟩
  case round=>
   obtain⟨k,hk,rfl,hb⟩:=hrel;have F:=F5.o.call hb;have q:=F.c5 2 rfl;by_cases j0:k<v.nt
   ·have i0:(0:Int)<=(k:Int):=jq;have i1:(k:Int)<(v.nt:Int):=jq;have N0:v.nt<=1048576:=HZ.o.lt;have q0:=(M0.o.below hb).st;obtain⟨b1,o1,e1,g1⟩:=q0.rd.int (by rw[o0.out.fits.nst,f0.out];omega);have g1:=g1 k (by rw[o0.out.fits.nst,f0.out];exact j0);obtain⟨b2,o2,rfl,g2⟩:=H0.o.int (by rw[s0.out];omega);have g2:=ze hb (g2 k (by rw[s0.out];exact j0));obtain⟨R0,hT⟩:=(I0.o.below hb).rt;obtain⟨b3,o3,e3,g3⟩:=hT.thread (by rw[f0.out];omega);obtain⟨a3,c3,g3,-⟩:=g3 k (by rw[f0.out];exact j0);have y1:wr.cell? ⟨k2,1,none⟩=some (.slice x.st.a x.st.n x.st.c):=F.cell 1 1 rfl rfl;have y4:wr.cell? ⟨k1,4,none⟩=some (.slice v.t v.nt v.ct):=F.cell 2 4 rfl rfl;rw[e1,q0.len,o0.out.fits.nst,f0.out] at y1;rw[e3] at y4;have m0:uH (s.status.getD k 0=3->¬(l.getD k 0<(((p.threads.getD k []).length:Nat):Int))):=zd (λe=>by
     have:=dk HV.o G0.o (i:=k) (by rw[f0.out];exact j0) e;have h2:=E0.o k j0;unfold vJ at this;rw[Int.toNat_natCast] at this;omega)
    obtain⟨sk,B0⟩:=jy (s.status.getD k 0);obtain⟨lk,x0⟩:=jy (l.getD k 0);obtain⟨tk,C0⟩:=jy ((p.threads.getD k []).length);rw[<-B0] at g1 m0;rw[<-x0] at g2 m0;rw[<-C0] at g3 m0;clear q0 hT B0 x0 C0 e1 e3;have l0:=zd hb;clear hb;go_upto_region 12 with fail;have r1:=cell_regrown g1;have r2:=cell_regrown g2;have r3:=cell_regrown g3;have s1:=cell_regrown y1;have s4:=cell_regrown y4;by_cases h3:sk=3
    ·have h4:=m0.out h3;refine wp_region_quiet_below (by kernel_rfl) (by kernel_rfl) ?_
     repeat (go_big_quiet_step (fail))
     refine wpQuiet_nil ?_;intro w6 k0;have g0:xW wr w6:=by
      obtain⟨pq,rfl⟩:=k0;exact below_regrown _ _ _
     have n0:=zd (l0.out.trans (g0.mono l0.out.size));clear k0 g0 F g1 g2 g3 y1 y4 q r1 r2 r3 s1 s4;go_wp2
     go_roundw
     case rel=>exact⟨k+1,jq,by go_num,n0.out⟩
     case measure=>exact uq
    ·have t3:(sk==3)=false:=(by simpa using h3);refine wp_region_quiet_below (by kernel_rfl) (by kernel_rfl) ?_
     repeat (go_big_quiet_step (fail))
     refine wpQuiet_nil ?_;intro w6 k0;have g0:xW wr w6:=by
      obtain⟨pq,rfl⟩:=k0;exact below_regrown _ _ _
     have n0:=zd (l0.out.trans (g0.mono l0.out.size));clear k0 g0 F g1 g2 g3 y1 y4 q r1 r2 r3 s1 s4;go_wp2
     go_roundw
     case rel=>exact⟨k+1,jq,by go_num,n0.out⟩
     case measure=>exact uq
   ·have Q0:¬((k:Int)<(v.nt:Int)):=jq;have q2:=F.c5 2 rfl;have HB:=zd F.bel;clear F hb;go_wp2;go_ret;exact⟨rfl,HB.o⟩
end Go.Proofs.YtfclolgfegdfjaaGreat
