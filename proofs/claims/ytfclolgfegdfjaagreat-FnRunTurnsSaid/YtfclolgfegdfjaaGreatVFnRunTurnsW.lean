/- Part of a proof: FnRunTurnsW. -/
import Derived.Lib.QuietBelow
import Derived.BigQuiet
import Derived.IntWalk
import Derived.Deep.RegionHeld3
import Derived.Deep.AppendLies
import Derived.Test.YtfclolgfegdfjaaGreatVRRun8
import Derived.Test.YtfclolgfegdfjaaGreatVIRunX
import Derived.Test.YtfclolgfegdfjaaGreatVRunS
import Derived.Test.YtfclolgfegdfjaaGreatVISame
import Derived.Test.YtfclolgfegdfjaaGreatVDraws3
import Derived.Test.YtfclolgfegdfjaaGreatVSlTo
import Derived.Test.YtfclolgfegdfjaaGreatVRpJ
import Derived.Test.YtfclolgfegdfjaaGreatVIPlay
import Derived.Test.YtfclolgfegdfjaaGreatVTrn
import Derived.Test.YtfclolgfegdfjaaGreatVIRdT
set_option maxRecDepth 100000
set_option maxHeartbeats 16000000
namespace Go.Proofs.YtfclolgfegdfjaaGreat
open Go.RowKit Go.Sort
theorem pn (a:uQ) (n c:Nat) (bs:List Int) (w:World) (hl:bs.length=n) (h1:Rd w a (uf bs)) (K0:n<=maxLen) (n0:n<=c) (I0:∀b∈bs,0<=b/\b<=255):
  Calls Tryz.prog 11 #[.slice a n c] w λe w'=>e= .returned (.bool true)/\xW w w':=by
 unfold maxLen at K0;have HL:=zd hl;have E0:=zd I0;clear hl I0;by_cases hn:1048576<n
 ·have L0:(1048576:Int)<(n:Int):=jq;go_enter Tryz.func11,Tryz.ntmps11;go_wp2;go_ret;exact⟨rfl,Below.refl _ _⟩
 have L0:¬((1048576:Int)<(n:Int)):=jq;have hC:=zd (qw.mk HL.o h1 n0 E0.o jq);clear HL E0 h1 n0 K0;go_enter Tryz.func11,Tryz.ntmps11;go_wp2_with fail;refine(YC a n c bs w hC.out).mono ?_;rintro e w1 ⟨v,vs,p,rfl,o1,hb⟩;have hA:=(Below.refl w1.heap.size w1).alloc yk (.cells (zF v) 26);have F1:=((Fr.start w).call hb).alloc (zF v) 26;have HZ:=zd (o1.small jq);have R0:=zd o1.few;have l1:uH (v.nt<=v.ct):=zd (yB o1.own.ot.out).1;have hp:=o1.own.rd.below hA;clear hb o1 hC hn L0 hA;go_upto_region 4 with fail;obtain⟨W1,hW,F1,hp⟩:∃y,y=w1.alloc (.cells (zF v) 26)/\Fr w y [.blk w1.heap.size (zF v) 26]/\yK y v p:=⟨_,rfl,F1,hp⟩
 rw[<-hW];obtain⟨k1,hk⟩:=jy w1.heap.size;rw[<-hk] at F1⊢;clear hW hk;obtain⟨o,ho⟩:=jy (xn p (xh true));obtain⟨sb,h1⟩:∃y,o.isSome=y:=⟨_,rfl⟩
 obtain⟨s,h2⟩:∃y,(qN o).1=y:=⟨_,rfl⟩
 obtain⟨tr,h3⟩:∃y,(qN o).2=y:=⟨_,rfl⟩
 have u0:uH (X5 s/\tr.length<=100):=zd (Yg ho h2 h3);have V0:uH (sb=true->xn p (xh true)=some (s,tr)):=zd (λe=>by rw[<-ho,<-h2,<-h3];exact Zm (h1.trans e));have HO:=zd ho;have H1:=zd h1;have H2:=zd h2;have H3:=zd h3;have hN:=u0.out.2;clear ho h1 h2 h3;have q:=F1.c5 0 rfl;go_wp2_with fail;refine(Yj v p _ hp HZ.o).mono ?_;rintro e w2 hq;rw[<-HO.o] at hq;obtain⟨x,M,ar,cr,rfl,hb,hx,-⟩:=ud hq H1.o H2.o H3.o;have hA:=(Below.refl w2.heap.size w2).alloc yk (.cells (rC x ar tr.length cr) 40);have F2:=(F1.call hb).alloc (rC x ar tr.length cr) 40;have m1:uH (x.sa.n<=x.sa.c):=zd (yB hx.st.sa).1;have a0:=hx.st.rd.below hA;have b0:=(Rd.of_owns hx.tr).below hA;replace hp:=(hp.below hb).below hA;have m0:uH (tr.length<=cr):=zd (yB hx.tr).1;clear hq hb hx hA F1 q;go_upto_region 5 with fail;obtain⟨W2,hW,F2,a0,b0,hp⟩:∃y,y=w2.alloc (.cells (rC x ar tr.length cr) 40)/\Fr w y [.blk w2.heap.size (rC x ar tr.length cr) 40,.blk k1 (zF v) 26]/\yZ y x M s/\Rd y ar (zf tr)/\yK y v p:=⟨_,rfl,F2,a0,b0,hp⟩
 rw[<-hW];obtain⟨k2,hk⟩:=jy w2.heap.size;rw[<-hk] at F2⊢;clear hW hk;have q:=F2.c5 1 rfl;go_wp2_with fail;refine(XC v p _ hp HZ.o).mono ?_;rintro e w3 hq;rw[<-HO.o] at hq;obtain⟨gv,GL,ga,gc,rfl,hb,hg,h0⟩:=Yc hq H1.o H2.o H3.o;have hA:=(Below.refl w3.heap.size w3).alloc yk (.cells (rC gv ga tr.length gc) 40);have F3:=(F2.call hb).alloc (rC gv ga tr.length gc) 40;replace hg:=hg.below hA;replace h0:=h0.below hA;replace a0:=(a0.below hb).below hA;replace b0:=(b0.below hb).below hA;replace hp:=(hp.below hb).below hA;clear hq hb hA F2 q;go_upto_region 6 with fail;obtain⟨W3,hW,F3,hg,h0,a0,b0,hp⟩:∃y,y=w3.alloc (.cells (rC gv ga tr.length gc) 40)/\Fr w y [.blk w3.heap.size (rC gv ga tr.length gc) 40,.blk k2 (rC x ar tr.length cr) 40,.blk k1 (zF v) 26]/\yZ y gv GL s/\Rd y ga (zf tr)/\yZ y x M s/\Rd y ar (zf tr)/\yK y v p:=⟨_,rfl,F3,hg,h0,a0,b0,hp⟩
 rw[<-hW];obtain⟨k3,hk⟩:=jy w3.heap.size;rw[<-hk] at F3⊢;clear hW hk;have q:=F3.c10 0 rfl;have q2:=F3.c10 1 rfl;go_wp2_with fail;refine(xT x gv M GL s ar ga _ cr gc tr _ a0 hg u0.out.1 rfl jq b0 h0).mono ?_;rintro e w4 ⟨rfl,hb⟩;have F4:=F3.call hb;replace hg:=hg.below hb;replace h0:=h0.below hb;replace a0:=a0.below hb;replace b0:=b0.below hb;replace hp:=hp.below hb;clear hb F3 q q2;have t0:(sb !=sb)=false:=jv;have t1:(sb==sb)=true:=jv
 cases sb with
 |false=>
  have q:=F4.c10 0 rfl;have q2:=F4.c10 1 rfl;go_wp2_with fail;refine(xT x gv M GL s ar ga _ cr gc tr _ a0 hg u0.out.1 rfl jq b0 h0).mono ?_;rintro e w5 ⟨rfl,hb⟩;have HB:=zd (F4.call hb).bel;clear hb F4 q q2;go_wp2;go_ret;exact⟨rfl,HB.o⟩
 |true=>
  have c0:=zd (V0.o rfl);have HV:=zd (vN c0.out).1;have U0:=zd (vN c0.out).2;clear t0 t1 hg h0;have H0:=zd (Q7 c0.out);have Q0:=zd (Gl (UD c0.out));have F:=F4;clear F4;have q:=F.c5 2 rfl;have q2:=F.cell 1 9 rfl rfl;go_wp2_with fail;refine(jA v p ar tr.length cr tr _ hp HZ.o b0 rfl jq).mono ?_;rintro e w5 hq;rw[H0.o] at hq;obtain⟨z,Mz,az,cz,rfl,hb,hx,-⟩:=ud hq (show(some (s,tr)).isSome=true from rfl) (show _=s from rfl) (show _=tr from rfl);have j0:=hx.st.rd;have k0:=Rd.of_owns hx.tr;clear hq hx;replace F:=F.call hb;replace hp:=hp.below hb;replace a0:=a0.below hb;replace b0:=b0.below hb;clear hb;have hA:=(Below.refl w5.heap.size w5).alloc yk (.cells (rC z az tr.length cz) 40);replace F:=F.alloc (rC z az tr.length cz) 40;replace hp:=hp.below hA;replace a0:=a0.below hA;replace b0:=b0.below hA;replace j0:=j0.below hA;replace k0:=k0.below hA;clear hA;go_upto_region 9 with fail
  obtain⟨W5,hW,F,hp,a0,b0,j0,k0⟩:∃y_,y_=w5.alloc (.cells (rC z az tr.length cz) 40)/\Fr w y_ (.blk w5.heap.size (rC z az tr.length cz) 40::[.blk k3 (rC gv ga tr.length gc) 40,.blk k2 (rC x ar tr.length cr) 40,.blk k1 (zF v) 26])/\yK y_ v p/\yZ y_ x M s/\Rd y_ ar (zf tr)/\yZ y_ z Mz s/\Rd y_ az (zf tr):=⟨_,rfl,F,hp,a0,b0,j0,k0⟩
  rw[<-hW];obtain⟨k5,hk⟩:=jy w5.heap.size;rw[<-hk] at F⊢;clear hW hk;have F5:=zd F;have G0:=zd hp;have f1:=zd a0;have y0:=zd b0;have j1:=zd j0;have z0:=zd k0;clear F hp a0 b0 j0 k0 q q2;go_wp2
  go_loopw [10] (λi wr=>∃j:Nat,j<=tr.length/\i=uy ((j:Int)+1)/\xW W5 wr) (λi _=>tr.length+1-(intOf i).toNat)
  case atStart=>exact⟨0,jq,rfl,Below.refl _ _⟩
  case round=>
   obtain⟨j,hj,rfl,hb⟩:=hrel;have F:=F5.o.call hb;have q:=F.cell 2 9 rfl rfl;have i0:(0:Int)<=(j:Int)+1:=jq;by_cases J0:j+1<tr.length
   ·have i1:(j:Int)+1<(tr.length:Int):=jq;obtain⟨b1,o1,ea,g'⟩:=y0.out.int jq;have g1:=ze hb (g' (j+1) J0);have g0:=ze hb (g' j jq);have f0:uH (tr.getD (j+1) 0=tr.getD j 0->∀y,qz p (zI p) (tr.take (j+1))=some y->(zq y).length=1):=zd (λe y hy=>Dc c0.out J0 e hy);obtain⟨xa,M0⟩:=jy (tr.getD (j+1) 0);obtain⟨xb,N0⟩:=jy (tr.getD j 0);rw[<-M0] at g1 f0;rw[<-N0] at g0 f0;have s0:=zd hb;have a1:uH (Rd wr ar (zf tr)):=zd (y0.out.below hb);have hp:=G0.o.below hb;rw[ea] at q;clear ea g' M0 N0 hb;go_upto_region 12 with fail;have r1:=cell_regrown g1;have r0:=cell_regrown g0;have rq:=cell_regrown q;by_cases he:xa=xb
    ·subst he;refine wp_region_quiet_below (by kernel_rfl) (by kernel_rfl) ?_
     repeat (go_big_quiet_step (fail))
     refine wpQuiet_nil ?_;intro w6 p0;have l0:xW wr w6:=by
      obtain⟨pq,rfl⟩:=p0;exact below_regrown _ _ _
     clear p0;clear g1 g0 q r1 r0 rq;obtain⟨y,hy,-⟩:=Zk H0.o (j+1);have T0:uH ((zq y).length=1):=zd (f0.out rfl y (xf hy).2.2.2);obtain⟨tk,v0⟩:=jy (tr.take (j+1));rw[<-v0] at hy;have F0:uH (tk.length=j+1):=zd (by rw[v0,jO];omega);have Z0:uH (Rd w6 ar (zf tk)):=zd (by rw[v0];exact(a1.out.below l0).takei (j+1));have S0:=zd hy;have X0:uH (xF p y):=zd (uA tk (xF.start HV.o) (xf hy).2.2.2);have Y0:uH (∀W:World,(Instr.slice 23 (.slice ar tr.length cr) none (some (uy ((j:Int)+1))) none).run Tryz.prog W= .ok (.slice ar (j+1) cr) W):=zd (λW=>XB ar tr.length cr (j+1) (jQ m0.out) m0.out W);replace F:=F.call l0;replace hp:=hp.below l0;have q0:=zd (s0.out.trans (l0.mono s0.out.size));clear hy v0 l0;go_upto_region 13 with fail;refine jd 11 (jP 5 40 yS w6 w6 ([]) [.agg (zF v),.pointer (some ⟨k2,9,none⟩),.slice ar tr.length cr,uy ((j:Int)+1),.slice ar (j+1) cr] true (λcs bx w'=>∃(v':zu) (L':zQ) (a3:uQ) (c3:Nat),cs=rC v' a3 ((j+1)) c3/\Sf w6 w' (.row a3 ((j+1)) c3 3 1 (zf tk)::(bx++[])) v' L' y)) (jP.cong 11 jk) (λσ=>jP.start σ (Fr.start w6)) ?_ ?_
     ·refine⟨?_,?_,?_,?_,?_,?_,?_,?_,?_,?_,?_,trivial⟩<;>intro ρ w2 L2 hI hw hny ho
      ·obtain⟨bx,F1⟩:=hI.fr (λ_ _ _ h=>by obtain⟨_,_,_,_,_,h⟩:=h;exact h.fr.sub (.cons _ (.refl _)));have c:=(F.call F1.bel).c5 3 rfl;have d:ρ (.tmp 3)=_:=ho (.tmp 3) rfl;exact zh (by go_simp<;>rfl) (hI.val 0 _ jk rfl)
      ·have d:ρ (.tmp 4)=_:=ho (.tmp 4) rfl;exact zh (by go_simp<;>rfl) (hI.val 1 _ jk rfl)
      ·obtain⟨bx,F1⟩:=hI.fr (λ_ _ _ h=>by obtain⟨_,_,_,_,_,h⟩:=h;exact h.fr.sub (.cons _ (.refl _)));have c:=(F.call F1.bel).cell 2 9 rfl rfl;have d:ρ (.tmp 77)=_:=hI.k 1 jk (hw 1 jk);simp only[List.getD_cons_zero,List.getD_cons_succ] at d;exact zh (by go_simp<;>rfl) (hI.val 2 _ jk rfl)
      ·have d:ρ (.tmp 10)=_:=ho (.tmp 10) rfl;exact zh (by go_simp<;>rfl) (hI.val 3 _ jk rfl)
      ·have d1:ρ (.tmp 78)=_:=hI.k 2 jk (hw 2 jk);have d2:ρ (.tmp 79)=_:=hI.k 3 jk (hw 3 jk);simp only[List.getD_cons_zero,List.getD_cons_succ] at d1 d2;have s1:=Y0.o w2;exact zh (by go_simp) (hI.val 4 _ jk rfl)
      ·obtain⟨bx,F,hB,hk⟩:=hI.cl (hny 5 _ rfl rfl);have d0:ρ (.tmp 76)=_:=hI.k 0 jk (hw 0 jk);have d4:ρ (.tmp 80)=_:=hI.k 4 jk (hw 4 jk);have df:ρ (.func 16)=_:=ho (.func 16) rfl;simp only[List.getD_cons_zero,List.getD_cons_succ] at d0 d4;exact zU (by go_simp<;>rfl) ((jA v p ar ((j+1)) cr tk w2 (hp.below hB) HZ.o (Z0.o.below hB) F0.o jq).mono λe w' h=>by
        rw[S0.o] at h;obtain⟨hb,⟨h,-⟩|⟨p2,s2,u1,v',L',a3,c3,h,-,rfl,ho,-⟩⟩:=h
        ·cases h
        obtain⟨rfl,rfl⟩:=Prod.mk.inj (Option.some.inj h);have G:=Sf.gainR F hb ho.tr ho.st ho.nw;rw[F0.o] at G⊢;exact⟨_,rfl,hk _ w' ⟨v',L',a3,c3,rfl,G⟩⟩)
      ·obtain⟨cs,d,hk⟩:=hI.mv (hw 5 jk);replace d:ρ (.tmp 81)=_:=d;exact zh (by go_simp<;>rfl) hk
      ·obtain⟨cs,d,hk,-⟩:=hI.ex (hw 6 jk);replace d:ρ (.tmp 75)=_:=d;exact zh (by go_simp<;>rfl) hk
      ·obtain⟨cs,d,-,hk⟩:=hI.ex (hw 6 jk);replace d:ρ (.tmp 75)=_:=d;exact zh (by go_simp<;>rfl) hk
      ·exact zh (by go_simp<;>rfl) (hI.al (hny 9 _ rfl rfl) (λ_ _ h=>by obtain⟨v',L',a3,c3,e,h⟩:=h;exact⟨v',L',a3,c3,e,(h.alloc yS 40).pull 1 rfl⟩))
      ·obtain⟨cs,g,d8,A0,hn,hk⟩:=hI.st (hw 5 jk) (hw 7 jk) (hw 9 jk) (hny 10 _ rfl rfl) (λ_ _ _ h=>by obtain⟨v',L',a3,c3,e,h⟩:=h;exact⟨v',L',a3,c3,e,(Sf.over (h.pull 1 rfl)).pull 1 rfl⟩);replace d8:ρ (.tmp 82)=_:=d8;replace A0:ρ (.tmp 11)=_:=A0;obtain⟨kb,h9,h1⟩:zm w2 g yS 40/\cs.size=10/\cs.all (·.oneCell')=true:=by
        obtain⟨v',L',a3,c3,rfl,h⟩:=hn;exact⟨h.fr.blk 1 rfl,rfl,by simp[rC,Value.oneCell']⟩
       refine qj (w':=w2.setRow g cs) ?_ (hk _);simp[execOp,d8,A0,Instr.storeAt,Instr.sureAddr,run_storeVar_row (P:=Tryz.prog) w2 g 40 40 yS cs kb (show(Tryz.prog.info? 40).map (·.size)=some cs.size by rw[h9];kernel_rfl) h9.symm h1]
     intro O0 W3 o0 hI;obtain⟨x0,x1,x2,x3,x4,x5,x6,x7,x8,x9,C0,rfl⟩:∃x0 x1 x2 x3 x4 x5 x6 x7 x8 x9 C0,O0=[x0,x1,x2,x3,x4,x5,x6,x7,x8,x9,C0]:=by
      match O0,o0 with
      |[x0,x1,x2,x3,x4,x5,x6,x7,x8,x9,C0],_=>exact⟨_,_,_,_,_,_,_,_,_,_,_,rfl⟩
     obtain⟨cs,g,e9,B0,hn⟩:=hI.fin;replace e9:x8=_:=e9;replace B0:x9=_:=B0;subst e9 B0;clear hI o0;refine yv ?_;obtain⟨v',L',a3,c3,rfl,h⟩:=hn;replace F:=F.call h.bel;replace hp:=hp.below h.bel;have D0:=zd (q0.out.trans (h.bel.mono q0.out.size));have q:=F.c5 3 rfl;have q2:=h.fr.c10 1 rfl;go_wp2_with fail;refine(Xu v p v' L' y _ hp h.rd X0.o.fits).mono ?_;rintro e w8 ⟨a8,c8,rfl,-,hb⟩;have P0:=zd (D0.o.trans (hb.mono D0.o.size));rw[T0.o];clear hb F hp h q q2;go_wp2
     go_roundw
     case rel=>exact⟨j+1,jq,by go_num,P0.o⟩
     case measure=>exact uq
    ·have t1:(xa==xb)=false:=(by simpa using he);clear he;refine wp_region_quiet_below (by kernel_rfl) (by kernel_rfl) ?_
     repeat (go_big_quiet_step (fail))
     refine wpQuiet_nil ?_;intro w6 p0;have l0:xW wr w6:=by
      obtain⟨pq,rfl⟩:=p0;exact below_regrown _ _ _
     clear p0;have q0:=zd (s0.out.trans (l0.mono s0.out.size));clear l0 F hp g1 g0 q r1 r0 rq;go_wp2
     go_roundw
     case rel=>exact⟨j+1,jq,by go_num,q0.out⟩
     case measure=>exact uq
   ·have p1:¬((j:Int)+1<(tr.length:Int)):=jq;have hp:=G0.o.below hb;have a0:=f1.out.below hb;have b0:=y0.out.below hb;have j0:=j1.out.below hb;have k0:=z0.out.below hb;have q5:=F.c10 0 rfl;have q2:=F.c10 2 rfl;clear hb q;go_wp2_with fail;refine(xT z x Mz M s az ar _ cz cr tr _ j0 a0 u0.out.1 rfl jq k0 b0).mono ?_;rintro e w8 ⟨rfl,hb⟩;replace F:=F.call hb;replace hp:=hp.below hb;replace a0:=a0.below hb;clear hb q5 q2 b0 j0 k0;have q2:=F.c10 2 rfl;have q1:=F.c5 3 rfl;go_wp2_with fail;refine(VF v p x M s _ hp a0 U0.o.fits).mono ?_;rintro e w9 ⟨rfl,hb⟩;have HB:=zd (F.call hb).bel;have n1:=Q0.o;clear F hb hp a0 q2 q1;go_wp2;go_ret;exact⟨rfl,HB.o⟩
end Go.Proofs.YtfclolgfegdfjaaGreat
