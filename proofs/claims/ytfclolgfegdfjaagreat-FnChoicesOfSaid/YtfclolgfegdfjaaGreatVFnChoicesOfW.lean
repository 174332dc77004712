/- Part of a proof: FnChoicesOfW. -/
import Derived.Lib.QuietBelow
import Derived.BigQuiet
import Derived.IntWalk
import Derived.Test.YtfclolgfegdfjaaGreatVRunS
import Derived.Test.YtfclolgfegdfjaaGreatVWkIntB
import Derived.Test.YtfclolgfegdfjaaGreatVDraws4
import Derived.Test.YtfclolgfegdfjaaGreatVIRdT
import Derived.Test.YtfclolgfegdfjaaGreatVRChoF
set_option maxRecDepth 100000
set_option maxHeartbeats 16000000
namespace Go.Proofs.YtfclolgfegdfjaaGreat
open Go.RowKit Go.Sort
theorem pa (a:uQ) (n c:Nat) (bs:List Int) (w:World) (hl:bs.length=n) (h1:Rd w a (uf bs)) (G0:n<=maxLen) (g0:n<=c) (E0:∀b∈bs,0<=b/\b<=255):
  Calls Tryz.prog 3 #[.slice a n c] w λe w'=>e= .returned (.bool true)/\xW w w':=by
 unfold maxLen at G0;have HL:=zd hl;have z0:=zd E0;clear hl E0;by_cases hn:1048576<n
 ·have H0:(1048576:Int)<(n:Int):=jq;go_enter Tryz.func3,Tryz.ntmps3;go_wp2;go_ret;exact⟨rfl,Below.refl _ _⟩
 have H0:¬((1048576:Int)<(n:Int)):=jq;have hC:=zd (qw.mk HL.o h1 g0 z0.out jq);clear HL z0 h1 g0 G0;go_enter Tryz.func3,Tryz.ntmps3;go_wp2_with fail;refine(VW a n c bs w hC.out).mono ?_;rintro e w1 ⟨v,vs,p,xL,nt,ct,T,rfl,o1,ow,Z0,hb⟩;have hA:=(Below.refl w1.heap.size w1).alloc yk (.cells (zF v) 26);have F:=((Fr.start w).call hb).alloc (zF v) 26;have HZ:=zd (o1.small jq);have hp:=o1.own.rd.below hA;have a0:=(Rd.of_owns ow).below hA;have b0:uH (T.length=nt):=zd (by have:=ow.1;simpa using this);have s0:uH (nt<=ct):=zd (yB ow).1;clear hb o1 hC hn H0 hA ow;go_upto_region 4 with fail;obtain⟨W1,hW,F,hp,a0⟩:∃y,y=w1.alloc (.cells (zF v) 26)/\Fr w y [.blk w1.heap.size (zF v) 26]/\yK y v p/\Rd y xL (zf T):=⟨_,rfl,F,hp,a0⟩
 rw[<-hW];obtain⟨k1,hk⟩:=jy w1.heap.size;rw[<-hk] at F⊢;clear hW hk;have q:=F.c5 0 rfl
 cases hpl:xx p T with
 |none=>
  have B0:=zd hpl;clear hpl;go_wp2_with fail;refine(UR v p xL nt ct T _ hp HZ.o a0 b0.out jq B0.o).mono ?_;rintro e w2 ⟨rfl,hb⟩;replace F:=F.call hb;replace hp:=hp.below hb;replace a0:=a0.below hb;clear hb q;have q:=F.c5 0 rfl;go_wp2_with fail;refine(UT v p xL nt ct T _ hp HZ.o a0 b0.out jq B0.o).mono ?_;rintro e w3 ⟨a3,rfl,hb⟩;replace F:=F.call hb;clear hb q;go_wp2_with fail;refine(Xd none a3 0 0 0 [] _ jq rfl (.inl rfl) (.inl rfl)).mono ?_;rintro e w4 ⟨rfl,hb⟩;replace F:=F.call hb;clear hb;go_wp2_with fail;refine(Xd none a3 0 0 0 [] _ jq rfl (.inl rfl) (.inl rfl)).mono ?_;rintro e w5 ⟨rfl,hb⟩;have HB:=zd (F.call hb).bel;clear hb F hp a0;go_wp2;go_ret;exact⟨rfl,HB.o⟩
 |some r=>
  obtain⟨s,U⟩:=r;obtain rfl:=(xf hpl).1;have l0:=zd hpl;have HV:=zd (xf hpl).2.2.1;have hN:nt<=100:=by have:=(xf hpl).2.1;have:=b0.out;omega
  have q0:uH ((jm p (zI p) U).length=nt):=zd (by rw[Zt,b0.out]);clear hpl;go_wp2_with fail;refine(YH v p xL nt ct U s _ hp HZ.o a0 b0.out s0.out l0.out).mono ?_;rintro e w2 ⟨a2,c2,rfl,L0,hb⟩;have h0:=Rd.of_owns L0;replace F:=F.call hb;replace hp:=hp.below hb;replace a0:=a0.below hb;clear hb q L0;have q:=F.c5 0 rfl;go_wp2_with fail;refine(UF v p xL nt ct U s _ hp HZ.o a0 b0.out l0.out).mono ?_;rintro e w3 ⟨a3,c3,rfl,M0,hb⟩;have F0:=Rd.of_owns M0;replace F:=F.call hb;replace hp:=hp.below hb;replace a0:=a0.below hb;replace h0:=h0.below hb;clear hb q M0;go_wp2_with fail;refine(Xd a2 a3 nt c2 c3 (jm p (zI p) U) _ jq q0.out h0 F0).mono ?_;rintro e w4 ⟨rfl,hb⟩;have F4:=zd (F.call hb);have S0:=zd (hp.below hb);have C0:=zd (a0.below hb);have R0:=zd (h0.below hb);clear hb F hp a0 h0 F0;go_wp2
  go_loopw [9] (λi wr=>∃k:Nat,k<=nt/\i=uy k/\xW w4 wr) (λi _=>nt-(intOf i).toNat)
  case atStart=>exact⟨0,jq,rfl,Below.refl _ _⟩
  case round=>
   obtain⟨k,hk,rfl,hb⟩:=hrel;have F:=F4.o.call hb;have hp:=S0.o.below hb;have a0:=C0.o.below hb;by_cases o0:k<nt
   ·obtain⟨b1,o1,e1,g1⟩:=C0.o.int (by rw[b0.out];omega);have g1:=ze hb (g1 k (by rw[b0.out];exact o0));obtain⟨b2,o2,e2,g2⟩:=R0.o.int (by rw[q0.out];omega);have g2:=ze hb (g2 k (by rw[q0.out];exact o0));have E1:=zd e1;have E2:=zd e2;clear e1 e2;obtain⟨y,hy,K0⟩:=Zk l0.out k;obtain⟨tk,k0⟩:=jy (U.take k);rw[<-k0] at hy;have A0:uH (tk.length=k):=zd (by rw[k0,jO];have:=b0.out;omega);have V0:uH (Rd wr xL (zf tk)):=zd (by rw[k0];exact a0.takei k);have r0:=zd hy;have X0:=zd K0;have T0:uH (xF p y):=zd (uA tk (xF.start HV.o) (xf hy).2.2.2);have U0:uH (∀W:World,(Instr.slice 23 (.slice xL nt ct) none (some (uy (k:Int))) none).run Tryz.prog W= .ok (.slice xL k ct) W):=zd (λW=>XB xL nt ct k (jQ s0.out) s0.out W);have f0:=zd k0;clear hy K0 k0;obtain⟨hm,-⟩:=VI l0.out (by rw[b0.out];exact o0) (by rw[<-f0.out];exact r0.out);have n0:=vE hm;have c0:=UB hm;rw[ph (by rw[<-f0.out];exact r0.out) (by rw[b0.out];exact o0)] at g2;obtain⟨x,hx⟩:=jy (U.getD k 0);rw[<-hx] at g1 g2 hm n0 c0;obtain⟨d,hd⟩:∃d:Nat,d=(yO (zq y) x).toNat:=⟨_,rfl⟩
    rw[<-hd] at c0 n0;rw[show yO (zq y) x=(d:Int) by omega] at g2;have Q0:=zd n0.2;have p0:=zd c0;clear hx hd hm n0 c0;go_upto_region 11 with fail;have h2:=F;refine jd 10 (jP 4 40 yS wr wr ([]) [.agg (zF v),.slice xL nt ct,uy (k:Int),.slice xL k ct] true (λcs bx w'=>∃(v':zu) (L':zQ) (a3:uQ) (c3:Nat),cs=rC v' a3 (k) c3/\Sf wr w' (.row a3 (k) c3 3 1 (zf tk)::(bx++[])) v' L' y)) (jP.cong 10 jk) (λσ=>jP.start σ (Fr.start wr)) ?_ ?_
    ·refine⟨?_,?_,?_,?_,?_,?_,?_,?_,?_,?_,trivial⟩<;>intro ρ w2 L2 hI hw hny ho
     ·obtain⟨bx,F⟩:=hI.fr (λ_ _ _ h=>by obtain⟨_,_,_,_,_,h⟩:=h;exact h.fr.sub (.cons _ (.refl _)));have c:=(h2.call F.bel).c5 0 rfl;have d:ρ (.tmp 3)=_:=ho (.tmp 3) rfl;exact zh (by go_simp<;>rfl) (hI.val 0 _ jk rfl)
     ·have d:ρ (.tmp 4)=_:=ho (.tmp 4) rfl;exact zh (by go_simp<;>rfl) (hI.val 1 _ jk rfl)
     ·have d:ρ (.tmp 9)=_:=ho (.tmp 9) rfl;exact zh (by go_simp<;>rfl) (hI.val 2 _ jk rfl)
     ·have d1:ρ (.tmp 62)=_:=hI.k 1 jk (hw 1 jk);have d2:ρ (.tmp 63)=_:=hI.k 2 jk (hw 2 jk);simp only[List.getD_cons_zero,List.getD_cons_succ] at d1 d2;have a1:=U0.o w2;exact zh (by go_simp) (hI.val 3 _ jk rfl)
     ·obtain⟨bx,F,hB,hk⟩:=hI.cl (hny 4 _ rfl rfl);have d0:ρ (.tmp 61)=_:=hI.k 0 jk (hw 0 jk);have d3:ρ (.tmp 64)=_:=hI.k 3 jk (hw 3 jk);have df:ρ (.func 16)=_:=ho (.func 16) rfl;simp only[List.getD_cons_zero,List.getD_cons_succ] at d0 d3;exact zU (by go_simp<;>rfl) ((jA v p xL (k) ct tk w2 (hp.below hB) HZ.o (V0.o.below hB) A0.o jq).mono λe w' h=>by
       rw[r0.out] at h;obtain⟨hb,⟨h,-⟩|⟨p2,s2,f1,v',L',a3,c3,h,-,rfl,ho,-⟩⟩:=h
       ·cases h
       obtain⟨rfl,rfl⟩:=Prod.mk.inj (Option.some.inj h);have G:=Sf.gainR F hb ho.tr ho.st ho.nw;rw[A0.o] at G⊢;exact⟨_,rfl,hk _ w' ⟨v',L',a3,c3,rfl,G⟩⟩)
     ·obtain⟨cs,d,hk⟩:=hI.mv (hw 4 jk);replace d:ρ (.tmp 65)=_:=d;exact zh (by go_simp<;>rfl) hk
     ·obtain⟨cs,d,hk,-⟩:=hI.ex (hw 5 jk);replace d:ρ (.tmp 60)=_:=d;exact zh (by go_simp<;>rfl) hk
     ·obtain⟨cs,d,-,hk⟩:=hI.ex (hw 5 jk);replace d:ρ (.tmp 60)=_:=d;exact zh (by go_simp<;>rfl) hk
     ·exact zh (by go_simp<;>rfl) (hI.al (hny 8 _ rfl rfl) (λ_ _ h=>by obtain⟨v',L',a3,c3,e,h⟩:=h;exact⟨v',L',a3,c3,e,(h.alloc yS 40).pull 1 rfl⟩))
     ·obtain⟨cs,g,d8,u0,hn,hk⟩:=hI.st (hw 4 jk) (hw 6 jk) (hw 8 jk) (hny 9 _ rfl rfl) (λ_ _ _ h=>by obtain⟨v',L',a3,c3,e,h⟩:=h;exact⟨v',L',a3,c3,e,(Sf.over (h.pull 1 rfl)).pull 1 rfl⟩);replace d8:ρ (.tmp 66)=_:=d8;replace u0:ρ (.tmp 10)=_:=u0;obtain⟨kb,h9,h1⟩:zm w2 g yS 40/\cs.size=10/\cs.all (·.oneCell')=true:=by
       obtain⟨v',L',a3,c3,rfl,h⟩:=hn;exact⟨h.fr.blk 1 rfl,rfl,by simp[rC,Value.oneCell']⟩
      refine qj (w':=w2.setRow g cs) ?_ (hk _);simp[execOp,d8,u0,Instr.storeAt,Instr.sureAddr,run_storeVar_row (P:=Tryz.prog) w2 g 40 40 yS cs kb (show(Tryz.prog.info? 40).map (·.size)=some cs.size by rw[h9];kernel_rfl) h9.symm h1]
    intro O0 W3 j0 hI;obtain⟨x0,x1,x2,x3,x4,x5,x6,x7,x8,x9,rfl⟩:∃x0 x1 x2 x3 x4 x5 x6 x7 x8 x9,O0=[x0,x1,x2,x3,x4,x5,x6,x7,x8,x9]:=by
     match O0,j0 with
     |[x0,x1,x2,x3,x4,x5,x6,x7,x8,x9],_=>exact⟨_,_,_,_,_,_,_,_,_,_,rfl⟩
    obtain⟨cs,g,e9,v0,hn⟩:=hI.fin;replace e9:x7=_:=e9;replace v0:x8=_:=v0;subst e9 v0;clear hI j0;refine yv ?_;obtain⟨v',L',a3,c3,rfl,h⟩:=hn;replace F:=F.call h.bel;replace hb:=hb.trans (h.bel.mono hb.size);replace hp:=hp.below h.bel;replace g1:=ze h.bel g1;replace g2:=ze h.bel g2;clear h2 a0;have q:=F.c5 0 rfl;have q2:=h.fr.c10 1 rfl;go_wp2_with fail;refine(Xu v p v' L' y _ hp h.rd T0.o.fits).mono ?_;rintro e w5 ⟨a5,c5,rfl,N0,m0⟩;obtain⟨b5,o5,e5,g5⟩:=(Rd.of_owns N0).int (jQ p0.out);have g5:=g5 d p0.out;rw[Q0.o] at g5;replace g1:=ze m0 g1;replace g2:=ze m0 g2;have y0:=zd (hb.trans (m0.mono hb.size));have c0:=p0.out;obtain⟨rl,I0⟩:=jy ((zq y).length);rw[<-I0] at c0⊢;have d0:¬((d:Int)<0):=jq;have d1:¬((rl:Int)<=(d:Int)):=jq;have t0:decide ((d:Int)<0)=false:=xr d0;have t1:decide (rl<=d)=false:=xr jq;have d2:(0:Int)<=(d:Int):=jq;have d3:(d:Int)<(rl:Int):=jq;have i0:(0:Int)<=(k:Int):=jq;have i1:(k:Int)<(nt:Int):=jq;clear hb m0 N0 F hp h q q2 c0 I0;have e1:=E1.o;have e2:=E2.o;clear E1 E2;subst e1 e2 e5;go_upto_region 13 with fail;have r1:=cell_regrown g1;have r2:=cell_regrown g2;have r5:=cell_regrown g5;refine wp_region_quiet_below (by kernel_rfl) (by kernel_rfl) ?_
    repeat (go_big_quiet_step (fail))
    refine wpQuiet_nil ?_;intro w6 J0;have D0:xW w5 w6:=by
     obtain⟨pq,rfl⟩:=J0;exact below_regrown _ _ _
    have P0:=zd (y0.out.trans (D0.mono y0.out.size));clear J0 D0 g1 g2 g5 r1 r2 r5;go_wp2
    go_roundw
    case rel=>exact⟨k+1,jq,by go_num,P0.o⟩
    case measure=>exact uq
   ·have Y0:¬((k:Int)<(nt:Int)):=jq;have HB:=zd F.bel;clear F hp a0 hb;go_wp2;go_ret;exact⟨rfl,HB.o⟩
end Go.Proofs.YtfclolgfegdfjaaGreat
