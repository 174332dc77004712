/- Part of a proof: FnReplayTraceW. -/
import Derived.Lib.QuietBelow
import Derived.BigQuiet
import Derived.IntWalk
import Derived.Test.YtfclolgfegdfjaaGreatVRunS
import Derived.Test.YtfclolgfegdfjaaGreatVISame
import Derived.Test.YtfclolgfegdfjaaGreatVSlTo
import Derived.Test.YtfclolgfegdfjaaGreatVDraws4
import Derived.Test.YtfclolgfegdfjaaGreatVGoN
import Derived.Test.YtfclolgfegdfjaaGreatVIPlay
set_option maxRecDepth 100000
set_option maxHeartbeats 16000000
namespace Go.Proofs.YtfclolgfegdfjaaGreat
open Go.RowKit Go.Sort
theorem Dx (a:uQ) (n c:Nat) (bs:List Int) (w:World) (hl:bs.length=n) (h1:Rd w a (uf bs)) (D0:n<=maxLen) (m0:n<=c) (C0:∀b∈bs,0<=b/\b<=255):
  Calls Tryz.prog 7 #[.slice a n c] w λe w'=>e= .returned (.bool true)/\xW w w':=by
 unfold maxLen at D0;have HL:=zd hl;have v0:=zd C0;clear hl C0;by_cases hn:1048576<n
 ·have E0:(1048576:Int)<(n:Int):=jq;go_enter Tryz.func7,Tryz.ntmps7;go_wp2;go_ret;exact⟨rfl,Below.refl _ _⟩
 have E0:¬((1048576:Int)<(n:Int)):=jq;have hC:=zd (qw.mk HL.o h1 m0 v0.out jq);clear HL v0 h1 m0 D0;go_enter Tryz.func7,Tryz.ntmps7;go_wp2_with fail;refine(Xq a n c bs w hC.out).mono ?_;rintro e w1 ⟨v,vs,p,xL,nt,ct,T,rfl,o1,ow,Z0,hb⟩;have hA:=(Below.refl w1.heap.size w1).alloc yk (.cells (zF v) 26);have F1:=((Fr.start w).call hb).alloc (zF v) 26;have HZ:=zd (o1.small jq);have I0:=zd o1.few;have R0:uH (v.nt<=v.ct):=zd (yB o1.own.ot.out).1;have hp:=o1.own.rd.below hA;have a0:=(Rd.of_owns ow).below hA;have j0:uH (T.length=nt):=zd (by have:=ow.1;simpa using this);have B0:uH (nt<=ct):=zd (yB ow).1;clear hb o1 hC hn E0 hA ow;go_upto_region 4 with fail;obtain⟨W1,hW,F1,hp,a0⟩:∃y,y=w1.alloc (.cells (zF v) 26)/\Fr w y [.blk w1.heap.size (zF v) 26]/\yK y v p/\Rd y xL (zf T):=⟨_,rfl,F1,hp,a0⟩
 rw[<-hW];obtain⟨k1,hk⟩:=jy w1.heap.size;rw[<-hk] at F1⊢;clear hW hk;obtain⟨o,ho⟩:=jy (xx p T);obtain⟨sb,h1⟩:∃y,o.isSome=y:=⟨_,rfl⟩
 obtain⟨s,h2⟩:∃y,(qN o).1=y:=⟨_,rfl⟩
 obtain⟨tr,h3⟩:∃y,(qN o).2=y:=⟨_,rfl⟩
 have o0:uH (X5 s/\tr.length<=100):=zd (Up ho h2 h3);have J0:uH (sb=true->xx p T=some (s,tr)):=zd (λe=>by rw[<-ho,<-h2,<-h3];exact Zm (h1.trans e));have HO:=zd ho;have H1:=zd h1;have H2:=zd h2;have H3:=zd h3;have hN:=o0.out.2;clear ho h1 h2 h3;have q:=F1.c5 0 rfl;go_wp2_with fail;refine(jA v p xL nt ct T _ hp HZ.o a0 j0.out jq).mono ?_;rintro e w2 hq;rw[<-HO.o] at hq;obtain⟨x,M,ar,cr,rfl,hb,hx,-⟩:=ud hq H1.o H2.o H3.o;have hA:=(Below.refl w2.heap.size w2).alloc yk (.cells (rC x ar tr.length cr) 40);have F2:=(F1.call hb).alloc (rC x ar tr.length cr) 40;have U0:uH (x.sa.n<=x.sa.c):=zd (yB hx.st.sa).1;have b0:=hx.st.rd.below hA;have f0:=(Rd.of_owns hx.tr).below hA;replace hp:=(hp.below hb).below hA;replace a0:=(a0.below hb).below hA;have O0:uH (tr.length<=cr):=zd (yB hx.tr).1;clear hq hb hx hA F1 q;go_upto_region 5 with fail;obtain⟨W2,hW,F2,b0,f0,hp,a0⟩:∃y,y=w2.alloc (.cells (rC x ar tr.length cr) 40)/\Fr w y [.blk w2.heap.size (rC x ar tr.length cr) 40,.blk k1 (zF v) 26]/\yZ y x M s/\Rd y ar (zf tr)/\yK y v p/\Rd y xL (zf T):=⟨_,rfl,F2,b0,f0,hp,a0⟩
 rw[<-hW];obtain⟨k2,hk⟩:=jy w2.heap.size;rw[<-hk] at F2⊢;clear hW hk;have q:=F2.c5 1 rfl;go_wp2_with fail;refine(Y4 v p xL nt ct T _ hp HZ.o a0 j0.out jq).mono ?_;rintro e w3 hq;rw[<-HO.o] at hq;obtain⟨gv,GL,ga,gc,rfl,hb,hg,h0⟩:=Yc hq H1.o H2.o H3.o;have hA:=(Below.refl w3.heap.size w3).alloc yk (.cells (rC gv ga tr.length gc) 40);have F3:=(F2.call hb).alloc (rC gv ga tr.length gc) 40;replace hg:=hg.below hA;replace h0:=h0.below hA;replace b0:=(b0.below hb).below hA;replace f0:=(f0.below hb).below hA;replace hp:=(hp.below hb).below hA;replace a0:=(a0.below hb).below hA;clear hq hb hA F2 q;go_upto_region 6 with fail;obtain⟨W3,hW,F3,hg,h0,b0,f0,hp,a0⟩:∃y,y=w3.alloc (.cells (rC gv ga tr.length gc) 40)/\Fr w y [.blk w3.heap.size (rC gv ga tr.length gc) 40,.blk k2 (rC x ar tr.length cr) 40,.blk k1 (zF v) 26]/\yZ y gv GL s/\Rd y ga (zf tr)/\yZ y x M s/\Rd y ar (zf tr)/\yK y v p/\Rd y xL (zf T):=⟨_,rfl,F3,hg,h0,b0,f0,hp,a0⟩
 rw[<-hW];obtain⟨k3,hk⟩:=jy w3.heap.size;rw[<-hk] at F3⊢;clear hW hk;have q:=F3.c10 0 rfl;have q2:=F3.c10 1 rfl;go_wp2_with fail;refine(xT x gv M GL s ar ga _ cr gc tr _ b0 hg o0.out.1 rfl jq f0 h0).mono ?_;rintro e w4 ⟨rfl,hb⟩;have F4:=F3.call hb;replace hg:=hg.below hb;replace h0:=h0.below hb;replace b0:=b0.below hb;replace f0:=f0.below hb;replace hp:=hp.below hb;replace a0:=a0.below hb;clear hb F3 q q2;have t0:(sb !=sb)=false:=jv;have t1:(sb==sb)=true:=jv
 cases sb with
 |false=>
  have q:=F4.c10 0 rfl;have q2:=F4.c10 1 rfl;go_wp2_with fail;refine(xT x gv M GL s ar ga _ cr gc tr _ b0 hg o0.out.1 rfl jq f0 h0).mono ?_;rintro e w5 ⟨rfl,hb⟩;have HB:=zd (F4.call hb).bel;clear hb F4 q q2;go_wp2;go_ret;exact⟨rfl,HB.o⟩
 |true=>
  have g0:=zd (J0.o rfl);have HV:=zd (Yw g0.out).1;have S0:=zd (Yw g0.out).2;clear t0 t1 hg h0;obtain rfl:tr=T:=(xf g0.out).1;have q0:=zd g0.out;have F:=F4;have HX:=zd b0;have M0:=zd a0;have z0:=zd hp;clear F4 hp b0 f0;obtain⟨k,Q0,hk⟩:∃k:Nat,(nt:Int)/2=k/\k<=nt:=⟨nt/2,jq,jq⟩
  go_upto_region 9 with fail;clear Q0;have h2:=F;obtain⟨y,hy,F0⟩:=Zk q0.out k;obtain⟨tk,n0⟩:=jy (tr.take k);rw[<-n0] at hy;have y0:uH (tk.length=k):=zd (by rw[n0,jO];have:=j0.out;omega);have N0:uH (Rd w4 xL (zf tk)):=zd (by rw[n0];exact a0.takei k);have A0:=zd hy;have V0:=zd F0;have T0:uH (xF p y):=zd (uA tk (xF.start HV.o) (xf hy).2.2.2);have L0:uH (∀W:World,(Instr.slice 23 (.slice xL nt ct) none (some (uy (k:Int))) none).run Tryz.prog W= .ok (.slice xL k ct) W):=zd (λW=>XB xL nt ct k (jQ B0.o) B0.o W);have r0:=zd n0;clear hy F0 n0;clear a0;refine jd 10 (jP 4 40 yS w4 w4 ([]) [.agg (zF v),.slice xL nt ct,uy (k:Int),.slice xL k ct] true (λcs bx w'=>∃(v':zu) (L':zQ) (a3:uQ) (c3:Nat),cs=rC v' a3 (k) c3/\Sf w4 w' (.row a3 (k) c3 3 1 (zf tk)::(bx++[])) v' L' y)) (jP.cong 10 jk) (λσ=>jP.start σ (Fr.start w4)) ?_ ?_
  ·refine⟨?_,?_,?_,?_,?_,?_,?_,?_,?_,?_,trivial⟩<;>intro ρ w2 L2 hI hw hny ho
   ·obtain⟨bx,F⟩:=hI.fr (λ_ _ _ h=>by obtain⟨_,_,_,_,_,h⟩:=h;exact h.fr.sub (.cons _ (.refl _)));have c:=(h2.call F.bel).c5 2 rfl;have d:ρ (.tmp 3)=_:=ho (.tmp 3) rfl;exact zh (by go_simp<;>rfl) (hI.val 0 _ jk rfl)
   ·have d:ρ (.tmp 4)=_:=ho (.tmp 4) rfl;exact zh (by go_simp<;>rfl) (hI.val 1 _ jk rfl)
   ·have d:ρ (.tmp 9)=_:=ho (.tmp 9) rfl;exact zh (by go_simp<;>rfl) (hI.val 2 _ jk rfl)
   ·have d1:ρ (.tmp 62)=_:=hI.k 1 jk (hw 1 jk);have d2:ρ (.tmp 63)=_:=hI.k 2 jk (hw 2 jk);simp only[List.getD_cons_zero,List.getD_cons_succ] at d1 d2;have a1:=L0.o w2;exact zh (by go_simp) (hI.val 3 _ jk rfl)
   ·obtain⟨bx,F,hB,hk⟩:=hI.cl (hny 4 _ rfl rfl);have d0:ρ (.tmp 61)=_:=hI.k 0 jk (hw 0 jk);have d3:ρ (.tmp 64)=_:=hI.k 3 jk (hw 3 jk);have df:ρ (.func 16)=_:=ho (.func 16) rfl;simp only[List.getD_cons_zero,List.getD_cons_succ] at d0 d3;exact zU (by go_simp<;>rfl) ((jA v p xL (k) ct tk w2 (z0.out.below hB) HZ.o (N0.o.below hB) y0.out jq).mono λe w' h=>by
     rw[A0.o] at h;obtain⟨hb,⟨h,-⟩|⟨p2,s2,f1,v',L',a3,c3,h,-,rfl,ho,-⟩⟩:=h
     ·cases h
     obtain⟨rfl,rfl⟩:=Prod.mk.inj (Option.some.inj h);have G:=Sf.gainR F hb ho.tr ho.st ho.nw;rw[y0.out] at G⊢;exact⟨_,rfl,hk _ w' ⟨v',L',a3,c3,rfl,G⟩⟩)
   ·obtain⟨cs,d,hk⟩:=hI.mv (hw 4 jk);replace d:ρ (.tmp 65)=_:=d;exact zh (by go_simp<;>rfl) hk
   ·obtain⟨cs,d,hk,-⟩:=hI.ex (hw 5 jk);replace d:ρ (.tmp 60)=_:=d;exact zh (by go_simp<;>rfl) hk
   ·obtain⟨cs,d,-,hk⟩:=hI.ex (hw 5 jk);replace d:ρ (.tmp 60)=_:=d;exact zh (by go_simp<;>rfl) hk
   ·exact zh (by go_simp<;>rfl) (hI.al (hny 8 _ rfl rfl) (λ_ _ h=>by obtain⟨v',L',a3,c3,e,h⟩:=h;exact⟨v',L',a3,c3,e,(h.alloc yS 40).pull 1 rfl⟩))
   ·obtain⟨cs,g,d8,k0,hn,hk⟩:=hI.st (hw 4 jk) (hw 6 jk) (hw 8 jk) (hny 9 _ rfl rfl) (λ_ _ _ h=>by obtain⟨v',L',a3,c3,e,h⟩:=h;exact⟨v',L',a3,c3,e,(Sf.over (h.pull 1 rfl)).pull 1 rfl⟩);replace d8:ρ (.tmp 66)=_:=d8;replace k0:ρ (.tmp 10)=_:=k0;obtain⟨kb,h9,h1⟩:zm w2 g yS 40/\cs.size=10/\cs.all (·.oneCell')=true:=by
     obtain⟨v',L',a3,c3,rfl,h⟩:=hn;exact⟨h.fr.blk 1 rfl,rfl,by simp[rC,Value.oneCell']⟩
    refine qj (w':=w2.setRow g cs) ?_ (hk _);simp[execOp,d8,k0,Instr.storeAt,Instr.sureAddr,run_storeVar_row (P:=Tryz.prog) w2 g 40 40 yS cs kb (show(Tryz.prog.info? 40).map (·.size)=some cs.size by rw[h9];kernel_rfl) h9.symm h1]
  intro H0 W3 c0 hI;obtain⟨x0,x1,x2,x3,x4,x5,x6,x7,x8,x9,rfl⟩:∃x0 x1 x2 x3 x4 x5 x6 x7 x8 x9,H0=[x0,x1,x2,x3,x4,x5,x6,x7,x8,x9]:=by
   match H0,c0 with
   |[x0,x1,x2,x3,x4,x5,x6,x7,x8,x9],_=>exact⟨_,_,_,_,_,_,_,_,_,_,rfl⟩
  obtain⟨cs,g,e9,l0,hn⟩:=hI.fin;replace e9:x7=_:=e9;replace l0:x8=_:=l0;subst e9 l0;clear hI c0;refine yv ?_;obtain⟨v',L',a3,c3,rfl,h⟩:=hn;have c10:=h.fr.c10 1 rfl;have h3:=h.alloc (yN v') 38;clear h h2;go_upto_region 11 with fail;obtain⟨W5,hW,h3⟩:=h3.named;rw[<-hW];obtain⟨B,hB⟩:=jy W3.heap.size;rw[<-hB] at h3⊢;replace h3:=h3.sub (l':=[.blk B (yN v') 38]) (.cons_cons _ (.cons _ (.cons _ (.slnil))));clear hW hB c10;go_wp2
  go_loopw [13] (λi wr=>∃(k:Nat) (v1:zu) (L1:zQ) (z:zp),k<=nt/\i=uy k/\xx p (tr.take k)=some (z,tr.take k)/\Sf w4 wr [.blk B (yN v1) 38] v1 L1 z) (λi _=>nt-(intOf i).toNat)
  case atStart=>exact⟨k,v',L',y,hk,rfl,by rw[<-r0.out];exact A0.o,h3⟩
  case round=>
   clear h3;obtain⟨k,v1,L1,z,hk,rfl,hz,h⟩:=hrel;by_cases Y0:k<nt
   ·obtain⟨b1,o1,rfl,g'⟩:=M0.o.int (by rw[j0.out];omega);have G0:=zd (g' k (by rw[j0.out];omega));obtain⟨hm,s0⟩:=VI q0.out (by rw[j0.out];omega) hz;have K0:uH (xF p z):=zd (uA (tr.take k) (xF.start HV.o) (xf hz).2.2.2);obtain⟨xt,hx⟩:=jy (tr.getD k 0);rw[<-hx] at G0 hm s0;have HM:=zd hm;have P0:=zd s0;have i0:(0:Int)<=(k:Int):=jq;have i1:(k:Int)<(nt:Int):=jq;clear g' hx hm s0 hz;go_upto_region 14 with fail;obtain⟨W2,hw,h3⟩:=h.named;rw[<-hw];clear hw h;refine jd 12 (jP 6 38 zC w4 W2 [.blk B (yN v1) 38] [.agg (zF v),v1.val,.slice (some ⟨b1,o1,none⟩) nt ct,uy (k:Int),.pointer (some ⟨b1,o1+k,none⟩),uy xt] true (λcs bx w'=>∃(v':zu) (L':zQ),cs=yN v'/\Sf w4 w' (bx++[.blk B (yN v1) 38]) v' L' (zJ p z xt))) (jP.cong 12 jk) (λσ=>jP.start σ h3.fr) ?_ ?_
    ·refine⟨?_,?_,?_,?_,?_,?_,?_,?_,?_,?_,?_,?_,trivial⟩<;>intro ρ w2 L2 hI hw hny ho
     ·obtain⟨bx,F1⟩:=hI.fr (λ_ _ _ h=>by obtain⟨_,_,_,h⟩:=h;exact h.fr);have c:=(F.call F1.bel).c5 2 rfl;have d:ρ (.tmp 3)=_:=ho (.tmp 3) rfl;exact zh (by go_simp<;>rfl) (hI.val 0 _ jk rfl)
     ·obtain⟨bx,F1⟩:=hI.fr (λ_ _ _ h=>by obtain⟨_,_,_,h⟩:=h;exact h.fr);have c:=F1.c9 _ ((Kv bx _ 0).trans rfl);have d:ρ (.tmp 12)=_:=ho (.tmp 12) rfl;exact zh (by go_simp<;>rfl) (hI.val 1 _ jk rfl)
     ·have d:ρ (.tmp 4)=_:=ho (.tmp 4) rfl;exact zh (by go_simp<;>rfl) (hI.val 2 _ jk rfl)
     ·have d:ρ (.tmp 13)=_:=ho (.tmp 13) rfl;exact zh (by go_simp<;>rfl) (hI.val 3 _ jk rfl)
     ·have d:ρ (.tmp 80)=_:=hI.k 2 jk (hw 2 jk);have d':ρ (.tmp 81)=_:=hI.k 3 jk (hw 3 jk);simp only[List.getD_cons_zero,List.getD_cons_succ] at d d';exact zh (by go_simp<;>rfl) (hI.val 4 _ jk rfl)
     ·obtain⟨bx,F1⟩:=hI.fr (λ_ _ _ h=>by obtain⟨_,_,_,h⟩:=h;exact h.fr);have g:=ze F1.bel G0.o;have d:ρ (.tmp 82)=_:=hI.k 4 jk (hw 4 jk);simp only[List.getD_cons_zero,List.getD_cons_succ] at d;exact zh (by go_simp<;>rfl) (hI.val 5 _ jk rfl)
     ·obtain⟨bx,F1,hB,hk⟩:=hI.cl (hny 6 _ rfl rfl);have d0:ρ (.tmp 78)=_:=hI.k 0 jk (hw 0 jk);have d1:ρ (.tmp 79)=_:=hI.k 1 jk (hw 1 jk);have d5:ρ (.tmp 83)=_:=hI.k 5 jk (hw 5 jk);have df:ρ (.func 28)=_:=ho (.func 28) rfl;simp only[List.getD_cons_zero,List.getD_cons_succ] at d0 d1 d5;exact zU (by go_simp<;>rfl) ((Uj v p v1 L1 z xt w2 (z0.out.below F1.bel) (h3.rd.below hB) K0.o HM.o).mono λe w' h=>by
       obtain⟨v',L',rfl,ho,hn,hb⟩:=h;exact⟨_,rfl,hk (yN v') w' ⟨v',L',rfl,Sf.gain F1 ho hn hb⟩⟩)
     ·obtain⟨cs,d,hk⟩:=hI.mv (hw 6 jk);replace d:ρ (.tmp 84)=_:=d;exact zh (by go_simp<;>rfl) hk
     ·obtain⟨cs,d,hk,-⟩:=hI.ex (hw 7 jk);replace d:ρ (.tmp 77)=_:=d;exact zh (by go_simp<;>rfl) hk
     ·obtain⟨cs,d,-,hk⟩:=hI.ex (hw 7 jk);replace d:ρ (.tmp 77)=_:=d;exact zh (by go_simp<;>rfl) hk
     ·exact zh (by go_simp<;>rfl) (hI.al (hny 10 _ rfl rfl) (λ_ _ h=>by obtain⟨v',L',e,h⟩:=h;exact⟨v',L',e,h.alloc zC 38⟩))
     ·obtain⟨cs,g,d8,k0,hn,hk⟩:=hI.st (hw 6 jk) (hw 8 jk) (hw 10 jk) (hny 11 _ rfl rfl) (λ_ _ _ h=>by obtain⟨v',L',e,h⟩:=h;exact⟨v',L',e,Sf.over h⟩);replace d8:ρ (.tmp 85)=_:=d8;replace k0:ρ (.tmp 14)=_:=k0;obtain⟨kb,h9,h1⟩:zm w2 g zC 38/\cs.size=9/\cs.all (·.oneCell')=true:=(by obtain⟨v',L',rfl,h⟩:=hn;exact⟨h.fr.blk 0 rfl,rfl,by simp[yN,Value.oneCell']⟩)
      refine qj (w':=w2.setRow g cs) ?_ (hk _);simp[execOp,d8,k0,Instr.storeAt,Instr.sureAddr,run_storeVar_row (P:=Tryz.prog) w2 g 38 38 zC cs kb (show(Tryz.prog.info? 38).map (·.size)=some cs.size by rw[h9];kernel_rfl) h9.symm h1]
    intro vs w3 c0 hI;obtain⟨x0,x1,x2,x3,x4,x5,x6,x7,x8,x9,p0,u0,rfl⟩:∃x0 x1 x2 x3 x4 x5 x6 x7 x8 x9 p0 u0,vs=[x0,x1,x2,x3,x4,x5,x6,x7,x8,x9,p0,u0]:=by
     match vs,c0 with
     |[x0,x1,x2,x3,x4,x5,x6,x7,x8,x9,p0,u0],_=>exact⟨_,_,_,_,_,_,_,_,_,_,_,_,rfl⟩
    obtain⟨cs,g,e9,l0,hn⟩:=hI.fin;replace e9:x9=_:=e9;replace l0:p0=_:=l0;subst e9 l0;clear hI c0;refine yv ?_;obtain⟨v',L',rfl,h4⟩:=hn;have c9:=h4.c9 0 rfl;have c8:=h4.c9 1 rfl;have h5:=(h4.setV 1 rfl v').sub (l':=[.blk B (yN v') 38]) (.cons _ (.refl _));clear h3 h4;go_wp2
    go_roundw
    case rel=>exact⟨k+1,v',L',_,jq,by go_num,P0.o,h5⟩
    case measure=>exact uq
   ·have X0:¬((k:Int)<(nt:Int)):=jq;rw[Jh (by rw[j0.out];omega),q0.out] at hz;obtain⟨rfl,-⟩:=Prod.mk.inj (Option.some.inj hz);have c9:=h.c9 0 rfl;have FB:=F.call h.bel;have q:=FB.c10 1 rfl;have b0:=HX.o.below h.bel;go_wp2_with fail;refine(Kl _ _ _ _ _ _ h.rd b0 o0.out.1).mono ?_;rintro e w8 ⟨rfl,hb⟩;have HB:=zd (FB.call hb).bel;clear hb FB h F q c9 b0;go_wp2;go_ret;exact⟨rfl,HB.o⟩
end Go.Proofs.YtfclolgfegdfjaaGreat
