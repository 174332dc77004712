/- Part of a proof: FnRunFirstW. -/
import Derived.Lib.QuietBelow
import Derived.BigQuiet
import Derived.IntWalk
import Derived.Deep.RegionHeld3
import Derived.Deep.AppendLies
import Derived.Test.YtfclolgfegdfjaaGreatVRRun8
import Derived.Test.YtfclolgfegdfjaaGreatVIRunX
import Derived.Test.YtfclolgfegdfjaaGreatVRunS
import Derived.Test.YtfclolgfegdfjaaGreatVISame
import Derived.Test.YtfclolgfegdfjaaGreatVDraws3
import Derived.Test.YtfclolgfegdfjaaGreatVIChoF
import Derived.Test.YtfclolgfegdfjaaGreatVFst
set_option maxRecDepth 100000
set_option maxHeartbeats 16000000
namespace Go.Proofs.YtfclolgfegdfjaaGreat
open Go.RowKit Go.Sort
theorem pt (a:uQ) (n c:Nat) (bs:List Int) (w:World) (hl:bs.length=n) (h1:Rd w a (uf bs)) (n0:n<=maxLen) (f0:n<=c) (m0:∀b∈bs,0<=b/\b<=255):
  Calls Tryz.prog 10 #[.slice a n c] w λe w'=>e= .returned (.bool true)/\xW w w':=by
 unfold maxLen at n0;have HL:=zd hl;have k0:=zd m0;clear hl m0;by_cases hn:1048576<n
 ·have o0:(1048576:Int)<(n:Int):=jq;go_enter Tryz.func10,Tryz.ntmps10;go_wp2;go_ret;exact⟨rfl,Below.refl _ _⟩
 have o0:¬((1048576:Int)<(n:Int)):=jq;have hC:=zd (qw.mk HL.o h1 f0 k0.out jq);clear HL k0 h1 f0 n0;go_enter Tryz.func10,Tryz.ntmps10;go_wp2_with fail;refine(JG a n c bs w hC.out).mono ?_;rintro e w1 ⟨v,vs,p,rfl,o1,hb⟩;have hA:=(Below.refl w1.heap.size w1).alloc yk (.cells (zF v) 26);have F1:=((Fr.start w).call hb).alloc (zF v) 26;have HZ:=zd (o1.small jq);have s0:=zd o1.few;have C0:uH (v.nt<=v.ct):=zd (yB o1.own.ot.out).1;have hp:=o1.own.rd.below hA;clear hb o1 hC hn o0 hA;go_upto_region 4 with fail;obtain⟨W1,hW,F1,hp⟩:∃y,y=w1.alloc (.cells (zF v) 26)/\Fr w y [.blk w1.heap.size (zF v) 26]/\yK y v p:=⟨_,rfl,F1,hp⟩
 rw[<-hW];obtain⟨k1,hk⟩:=jy w1.heap.size;rw[<-hk] at F1⊢;clear hW hk;obtain⟨o,ho⟩:=jy (xn p (xh false));obtain⟨sb,h1⟩:∃y,o.isSome=y:=⟨_,rfl⟩
 obtain⟨s,h2⟩:∃y,(qN o).1=y:=⟨_,rfl⟩
 obtain⟨tr,h3⟩:∃y,(qN o).2=y:=⟨_,rfl⟩
 have h0:uH (X5 s/\tr.length<=100):=zd (Yg ho h2 h3);have A0:uH (sb=true->xn p (xh false)=some (s,tr)):=zd (λe=>by rw[<-ho,<-h2,<-h3];exact Zm (h1.trans e));have HO:=zd ho;have H1:=zd h1;have H2:=zd h2;have H3:=zd h3;have hN:=h0.out.2;clear ho h1 h2 h3;have q:=F1.c5 0 rfl;go_wp2_with fail;refine(Xx v p _ hp HZ.o).mono ?_;rintro e w2 hq;rw[<-HO.o] at hq;obtain⟨x,M,ar,cr,rfl,hb,hx,-⟩:=ud hq H1.o H2.o H3.o;have hA:=(Below.refl w2.heap.size w2).alloc yk (.cells (rC x ar tr.length cr) 40);have F2:=(F1.call hb).alloc (rC x ar tr.length cr) 40;have D0:uH (x.sa.n<=x.sa.c):=zd (yB hx.st.sa).1;have a0:=hx.st.rd.below hA;have b0:=(Rd.of_owns hx.tr).below hA;replace hp:=(hp.below hb).below hA;have j0:uH (tr.length<=cr):=zd (yB hx.tr).1;clear hq hb hx hA F1 q;go_upto_region 5 with fail;obtain⟨W2,hW,F2,a0,b0,hp⟩:∃y,y=w2.alloc (.cells (rC x ar tr.length cr) 40)/\Fr w y [.blk w2.heap.size (rC x ar tr.length cr) 40,.blk k1 (zF v) 26]/\yZ y x M s/\Rd y ar (zf tr)/\yK y v p:=⟨_,rfl,F2,a0,b0,hp⟩
 rw[<-hW];obtain⟨k2,hk⟩:=jy w2.heap.size;rw[<-hk] at F2⊢;clear hW hk;have q:=F2.c5 1 rfl;go_wp2_with fail;refine(QR v p _ hp HZ.o).mono ?_;rintro e w3 hq;rw[<-HO.o] at hq;obtain⟨gv,GL,ga,gc,rfl,hb,hg,d0⟩:=Yc hq H1.o H2.o H3.o;have hA:=(Below.refl w3.heap.size w3).alloc yk (.cells (rC gv ga tr.length gc) 40);have F3:=(F2.call hb).alloc (rC gv ga tr.length gc) 40;replace hg:=hg.below hA;replace d0:=d0.below hA;replace a0:=(a0.below hb).below hA;replace b0:=(b0.below hb).below hA;replace hp:=(hp.below hb).below hA;clear hq hb hA F2 q;go_upto_region 6 with fail;obtain⟨W3,hW,F3,hg,d0,a0,b0,hp⟩:∃y,y=w3.alloc (.cells (rC gv ga tr.length gc) 40)/\Fr w y [.blk w3.heap.size (rC gv ga tr.length gc) 40,.blk k2 (rC x ar tr.length cr) 40,.blk k1 (zF v) 26]/\yZ y gv GL s/\Rd y ga (zf tr)/\yZ y x M s/\Rd y ar (zf tr)/\yK y v p:=⟨_,rfl,F3,hg,d0,a0,b0,hp⟩
 rw[<-hW];obtain⟨k3,hk⟩:=jy w3.heap.size;rw[<-hk] at F3⊢;clear hW hk;have q:=F3.c10 0 rfl;have q2:=F3.c10 1 rfl;go_wp2_with fail;refine(xT x gv M GL s ar ga _ cr gc tr _ a0 hg h0.out.1 rfl jq b0 d0).mono ?_;rintro e w4 ⟨rfl,hb⟩;have F4:=F3.call hb;replace hg:=hg.below hb;replace d0:=d0.below hb;replace a0:=a0.below hb;replace b0:=b0.below hb;replace hp:=hp.below hb;clear hb F3 q q2;have t0:(sb !=sb)=false:=jv;have t1:(sb==sb)=true:=jv
 cases sb with
 |false=>
  have q:=F4.c10 0 rfl;have q2:=F4.c10 1 rfl;go_wp2_with fail;refine(xT x gv M GL s ar ga _ cr gc tr _ a0 hg h0.out.1 rfl jq b0 d0).mono ?_;rintro e w5 ⟨rfl,hb⟩;have HB:=zd (F4.call hb).bel;clear hb F4 q q2;go_wp2;go_ret;exact⟨rfl,HB.o⟩
 |true=>
  have c0:=zd (A0.o rfl);have HV:=zd (vN c0.out).1;have z0:=zd (vN c0.out).2;clear t0 t1 hg d0;have y0:=zd (Q7 c0.out);have r0:=zd (Gl (UD c0.out));have u0:=zd (GR c0.out);have g0:uH ((jm p (zI p) tr).length=tr.length):=zd (Zt _ _);have F:=F4;clear F4;have q:=F.c5 2 rfl;have q2:=F.c10 1 rfl;go_wp2_with fail;refine(YH v p ar tr.length cr tr s _ hp HZ.o b0 rfl j0.out y0.out).mono ?_;rintro e w5 ⟨ai,ci,rfl,p0,hb⟩;have v0:=zd (Rd.of_owns p0);have F5:=zd (F.call hb);have x0:=zd (hp.below hb);have B0:=zd (a0.below hb);clear hb F q q2 hp a0 b0 p0;go_wp2
  go_loopw [10] (λi wr=>∃k:Nat,k<=tr.length/\i=uy k/\xW w5 wr) (λi _=>tr.length-(intOf i).toNat)
  case atStart=>exact⟨0,jq,rfl,Below.refl _ _⟩
  case round=>
   obtain⟨k,hk,rfl,hb⟩:=hrel;by_cases G0:k<tr.length
   ·obtain⟨b1,o1,rfl,g'⟩:=v0.out.int (by rw[g0.out];omega);have g:=ze hb (g' k (by rw[g0.out];omega));rw[u0.out ((jm p (zI p) tr).getD k 0) (by rw[xm,xV (by rw[g0.out];omega)];exact List.getElem_mem _)] at g;have i0:(0:Int)<=(k:Int):=jq;have i1:(k:Int)<(tr.length:Int):=jq;have q0:=zd hb;clear g' hb;go_wp2
    go_roundw
    case rel=>exact⟨k+1,jq,by go_num,q0.out⟩
    case measure=>exact uq
   ·have F0:¬((k:Int)<(tr.length:Int)):=jq;have F:=F5.o.call hb;have q:=F.c5 2 rfl;have q2:=F.c10 1 rfl;have hp:=x0.out.below hb;have a0:=B0.o.below hb;go_wp2_with fail;refine(VF v p x M s _ hp a0 z0.out.fits).mono ?_;rintro e w8 ⟨rfl,l0⟩;have HB:=zd (F.call l0).bel;have E0:=r0.out;clear F q q2 hp a0 hb l0;go_wp2;go_ret;exact⟨rfl,HB.o⟩
end Go.Proofs.YtfclolgfegdfjaaGreat
