/- Part of a proof: FnTraceSaidW. -/
import Derived.Lib.QuietBelow
import Derived.BigQuiet
import Derived.IntWalk
import Derived.Test.YtfclolgfegdfjaaGreatVRunS
import Derived.Test.YtfclolgfegdfjaaGreatVISame
import Derived.Test.YtfclolgfegdfjaaGreatVSlTo
import Derived.Test.YtfclolgfegdfjaaGreatVDraws4
import Derived.Test.YtfclolgfegdfjaaGreatVRPlay
import Derived.Test.YtfclolgfegdfjaaGreatVIPlay
set_option maxRecDepth 100000
set_option maxHeartbeats 16000000
namespace Go.Proofs.YtfclolgfegdfjaaGreat
open Go.RowKit Go.Sort
theorem pj (a:uQ) (n c:Nat) (bs:List Int) (w:World) (hl:bs.length=n) (h1:Rd w a (uf bs)) (B0:n<=maxLen) (i0:n<=c) (A0:∀b∈bs,0<=b/\b<=255):
  Calls Tryz.prog 8 #[.slice a n c] w λe w'=>e= .returned (.bool true)/\xW w w':=by
 unfold maxLen at B0;have HL:=zd hl;have u0:=zd A0;clear hl A0;by_cases hn:1048576<n
 ·have C0:(1048576:Int)<(n:Int):=jq;go_enter Tryz.func8,Tryz.ntmps8;go_wp2;go_ret;exact⟨rfl,Below.refl _ _⟩
 have C0:¬((1048576:Int)<(n:Int)):=jq;have hC:=zd (qw.mk HL.o h1 i0 u0.out jq);clear HL u0 h1 i0 B0;go_enter Tryz.func8,Tryz.ntmps8;go_wp2_with fail;refine(Xq a n c bs w hC.out).mono ?_;rintro e w1 ⟨v,vs,p,xL,nt,ct,T,rfl,o1,ow,i1,hb⟩;have hA:=(Below.refl w1.heap.size w1).alloc yk (.cells (zF v) 26);have F1:=((Fr.start w).call hb).alloc (zF v) 26;have HZ:=zd (o1.small jq);have J0:=zd o1.few;have Z0:uH (v.nt<=v.ct):=zd (yB o1.own.ot.out).1;have hp:=o1.own.rd.below hA;have a0:=(Rd.of_owns ow).below hA;have n0:uH (T.length=nt):=zd (by have:=ow.1;simpa using this);have y0:uH (nt<=ct):=zd (yB ow).1;clear hb o1 hC hn C0 hA ow;go_upto_region 4 with fail;obtain⟨W1,hW,F1,hp,a0⟩:∃y,y=w1.alloc (.cells (zF v) 26)/\Fr w y [.blk w1.heap.size (zF v) 26]/\yK y v p/\Rd y xL (zf T):=⟨_,rfl,F1,hp,a0⟩
 rw[<-hW];obtain⟨k1,hk⟩:=jy w1.heap.size;rw[<-hk] at F1⊢;clear hW hk;obtain⟨o,ho⟩:=jy (xx p T);obtain⟨sb,h1⟩:∃y,o.isSome=y:=⟨_,rfl⟩
 obtain⟨s,h2⟩:∃y,(qN o).1=y:=⟨_,rfl⟩
 obtain⟨tr,h3⟩:∃y,(qN o).2=y:=⟨_,rfl⟩
 have h0:uH (X5 s/\tr.length<=100):=zd (Up ho h2 h3);have N0:uH (sb=true->xx p T=some (s,tr)):=zd (λe=>by rw[<-ho,<-h2,<-h3];exact Zm (h1.trans e));have HO:=zd ho;have H1:=zd h1;have H2:=zd h2;have H3:=zd h3;have hN:=h0.out.2;clear ho h1 h2 h3;have q:=F1.c5 0 rfl;go_wp2_with fail;refine(jA v p xL nt ct T _ hp HZ.o a0 n0.out jq).mono ?_;rintro e w2 hq;rw[<-HO.o] at hq;obtain⟨x,M,ar,cr,rfl,hb,hx,-⟩:=ud hq H1.o H2.o H3.o;have hA:=(Below.refl w2.heap.size w2).alloc yk (.cells (rC x ar tr.length cr) 40);have F2:=(F1.call hb).alloc (rC x ar tr.length cr) 40;have z0:uH (x.sa.n<=x.sa.c):=zd (yB hx.st.sa).1;have b0:=hx.st.rd.below hA;have c0:=(Rd.of_owns hx.tr).below hA;replace hp:=(hp.below hb).below hA;replace a0:=(a0.below hb).below hA;have S0:uH (tr.length<=cr):=zd (yB hx.tr).1;clear hq hb hx hA F1 q;go_upto_region 5 with fail;obtain⟨W2,hW,F2,b0,c0,hp,a0⟩:∃y,y=w2.alloc (.cells (rC x ar tr.length cr) 40)/\Fr w y [.blk w2.heap.size (rC x ar tr.length cr) 40,.blk k1 (zF v) 26]/\yZ y x M s/\Rd y ar (zf tr)/\yK y v p/\Rd y xL (zf T):=⟨_,rfl,F2,b0,c0,hp,a0⟩
 rw[<-hW];obtain⟨k2,hk⟩:=jy w2.heap.size;rw[<-hk] at F2⊢;clear hW hk;have q:=F2.c5 1 rfl;go_wp2_with fail;refine(Y4 v p xL nt ct T _ hp HZ.o a0 n0.out jq).mono ?_;rintro e w3 hq;rw[<-HO.o] at hq;obtain⟨gv,GL,ga,gc,rfl,hb,hg,g0⟩:=Yc hq H1.o H2.o H3.o;have hA:=(Below.refl w3.heap.size w3).alloc yk (.cells (rC gv ga tr.length gc) 40);have F3:=(F2.call hb).alloc (rC gv ga tr.length gc) 40;replace hg:=hg.below hA;replace g0:=g0.below hA;replace b0:=(b0.below hb).below hA;replace c0:=(c0.below hb).below hA;replace hp:=(hp.below hb).below hA;replace a0:=(a0.below hb).below hA;clear hq hb hA F2 q;go_upto_region 6 with fail;obtain⟨W3,hW,F3,hg,g0,b0,c0,hp,a0⟩:∃y,y=w3.alloc (.cells (rC gv ga tr.length gc) 40)/\Fr w y [.blk w3.heap.size (rC gv ga tr.length gc) 40,.blk k2 (rC x ar tr.length cr) 40,.blk k1 (zF v) 26]/\yZ y gv GL s/\Rd y ga (zf tr)/\yZ y x M s/\Rd y ar (zf tr)/\yK y v p/\Rd y xL (zf T):=⟨_,rfl,F3,hg,g0,b0,c0,hp,a0⟩
 rw[<-hW];obtain⟨k3,hk⟩:=jy w3.heap.size;rw[<-hk] at F3⊢;clear hW hk;have q:=F3.c10 0 rfl;have q2:=F3.c10 1 rfl;go_wp2_with fail;refine(xT x gv M GL s ar ga _ cr gc tr _ b0 hg h0.out.1 rfl jq c0 g0).mono ?_;rintro e w4 ⟨rfl,hb⟩;have F4:=F3.call hb;replace hg:=hg.below hb;replace g0:=g0.below hb;replace b0:=b0.below hb;replace c0:=c0.below hb;replace hp:=hp.below hb;replace a0:=a0.below hb;clear hb F3 q q2;have t0:(sb !=sb)=false:=jv;have t1:(sb==sb)=true:=jv
 cases sb with
 |false=>
  have q:=F4.c10 0 rfl;have q2:=F4.c10 1 rfl;go_wp2_with fail;refine(xT x gv M GL s ar ga _ cr gc tr _ b0 hg h0.out.1 rfl jq c0 g0).mono ?_;rintro e w5 ⟨rfl,hb⟩;have HB:=zd (F4.call hb).bel;clear hb F4 q q2;go_wp2;go_ret;exact⟨rfl,HB.o⟩
 |true=>
  have f0:=zd (N0.o rfl);have HV:=zd (Yw f0.out).1;have a1:=zd (Yw f0.out).2;clear t0 t1 hg g0;obtain rfl:tr=T:=(xf f0.out).1;have M0:=zd f0.out;have F4:=zd F4;have K0:=zd hp;have Q0:=zd a0;have T0:=zd b0;clear hp a0 b0 c0;go_wp2
  go_loopw [9] (λi wr=>∃k:Nat,k<=nt/\i=uy k/\xW w4 wr) (λi _=>nt-(intOf i).toNat)
  case atStart=>exact⟨0,jq,rfl,Below.refl _ _⟩
  case round=>
   obtain⟨k,hk,rfl,hb⟩:=hrel;have F:=F4.o.call hb;have hp:=K0.o.below hb;have a0:=Q0.o.below hb;by_cases g1:k<nt
   ·obtain⟨y,hy,G0⟩:=Zk M0.o k;obtain⟨tk,k0⟩:=jy (tr.take k);rw[<-k0] at hy;have v0:uH (tk.length=k):=zd (by rw[k0,jO];have:=n0.out;omega);have R0:uH (Rd wr xL (zf tk)):=zd (by rw[k0];exact a0.takei k);have L0:=zd hy;have U0:=zd G0;have b1:uH (xF p y):=zd (uA tk (xF.start HV.o) (xf hy).2.2.2);have O0:uH (∀W:World,(Instr.slice 23 (.slice xL nt ct) none (some (uy (k:Int))) none).run Tryz.prog W= .ok (.slice xL k ct) W):=zd (λW=>XB xL nt ct k (jQ y0.out) y0.out W);clear hy G0 k0;have l0:uH (y.said.length<=s.said.length/\s.said.take y.said.length=y.said):=zd (by
     obtain⟨l,e⟩:=tQ _ U0.o;rw[e];simp)
    go_upto_region 11 with fail;have h2:=F;refine jd 10 (jP 4 40 yS wr wr ([]) [.agg (zF v),.slice xL nt ct,uy (k:Int),.slice xL k ct] true (λcs bx w'=>∃(v':zu) (L':zQ) (a3:uQ) (c3:Nat),cs=rC v' a3 (k) c3/\Sf wr w' (.row a3 (k) c3 3 1 (zf tk)::(bx++[])) v' L' y)) (jP.cong 10 jk) (λσ=>jP.start σ (Fr.start wr)) ?_ ?_
    ·refine⟨?_,?_,?_,?_,?_,?_,?_,?_,?_,?_,trivial⟩<;>intro ρ w2 L2 hI hw hny ho
     ·obtain⟨bx,F⟩:=hI.fr (λ_ _ _ h=>by obtain⟨_,_,_,_,_,h⟩:=h;exact h.fr.sub (.cons _ (.refl _)));have c:=(h2.call F.bel).c5 2 rfl;have d:ρ (.tmp 3)=_:=ho (.tmp 3) rfl;exact zh (by go_simp<;>rfl) (hI.val 0 _ jk rfl)
     ·have d:ρ (.tmp 4)=_:=ho (.tmp 4) rfl;exact zh (by go_simp<;>rfl) (hI.val 1 _ jk rfl)
     ·have d:ρ (.tmp 9)=_:=ho (.tmp 9) rfl;exact zh (by go_simp<;>rfl) (hI.val 2 _ jk rfl)
     ·have d1:ρ (.tmp 62)=_:=hI.k 1 jk (hw 1 jk);have d2:ρ (.tmp 63)=_:=hI.k 2 jk (hw 2 jk);simp only[List.getD_cons_zero,List.getD_cons_succ] at d1 d2;have E0:=O0.o w2;exact zh (by go_simp) (hI.val 3 _ jk rfl)
     ·obtain⟨bx,F,hB,hk⟩:=hI.cl (hny 4 _ rfl rfl);have d0:ρ (.tmp 61)=_:=hI.k 0 jk (hw 0 jk);have d3:ρ (.tmp 64)=_:=hI.k 3 jk (hw 3 jk);have df:ρ (.func 16)=_:=ho (.func 16) rfl;simp only[List.getD_cons_zero,List.getD_cons_succ] at d0 d3;exact zU (by go_simp<;>rfl) ((jA v p xL (k) ct tk w2 (hp.below hB) HZ.o (R0.o.below hB) v0.out jq).mono λe w' h=>by
       rw[L0.o] at h;obtain⟨hb,⟨h,-⟩|⟨p2,s2,m1,v',L',a3,c3,h,-,rfl,ho,-⟩⟩:=h
       ·cases h
       obtain⟨rfl,rfl⟩:=Prod.mk.inj (Option.some.inj h);have G:=Sf.gainR F hb ho.tr ho.st ho.nw;rw[v0.out] at G⊢;exact⟨_,rfl,hk _ w' ⟨v',L',a3,c3,rfl,G⟩⟩)
     ·obtain⟨cs,d,hk⟩:=hI.mv (hw 4 jk);replace d:ρ (.tmp 65)=_:=d;exact zh (by go_simp<;>rfl) hk
     ·obtain⟨cs,d,hk,-⟩:=hI.ex (hw 5 jk);replace d:ρ (.tmp 60)=_:=d;exact zh (by go_simp<;>rfl) hk
     ·obtain⟨cs,d,-,hk⟩:=hI.ex (hw 5 jk);replace d:ρ (.tmp 60)=_:=d;exact zh (by go_simp<;>rfl) hk
     ·exact zh (by go_simp<;>rfl) (hI.al (hny 8 _ rfl rfl) (λ_ _ h=>by obtain⟨v',L',a3,c3,e,h⟩:=h;exact⟨v',L',a3,c3,e,(h.alloc yS 40).pull 1 rfl⟩))
     ·obtain⟨cs,g,d8,o0,hn,hk⟩:=hI.st (hw 4 jk) (hw 6 jk) (hw 8 jk) (hny 9 _ rfl rfl) (λ_ _ _ h=>by obtain⟨v',L',a3,c3,e,h⟩:=h;exact⟨v',L',a3,c3,e,(Sf.over (h.pull 1 rfl)).pull 1 rfl⟩);replace d8:ρ (.tmp 66)=_:=d8;replace o0:ρ (.tmp 10)=_:=o0;obtain⟨kb,h9,h1⟩:zm w2 g yS 40/\cs.size=10/\cs.all (·.oneCell')=true:=by
       obtain⟨v',L',a3,c3,rfl,h⟩:=hn;exact⟨h.fr.blk 1 rfl,rfl,by simp[rC,Value.oneCell']⟩
      refine qj (w':=w2.setRow g cs) ?_ (hk _);simp[execOp,d8,o0,Instr.storeAt,Instr.sureAddr,run_storeVar_row (P:=Tryz.prog) w2 g 40 40 yS cs kb (show(Tryz.prog.info? 40).map (·.size)=some cs.size by rw[h9];kernel_rfl) h9.symm h1]
    intro H0 W3 j0 hI;obtain⟨x0,x1,x2,x3,x4,x5,x6,x7,x8,x9,rfl⟩:∃x0 x1 x2 x3 x4 x5 x6 x7 x8 x9,H0=[x0,x1,x2,x3,x4,x5,x6,x7,x8,x9]:=by
     match H0,j0 with
     |[x0,x1,x2,x3,x4,x5,x6,x7,x8,x9],_=>exact⟨_,_,_,_,_,_,_,_,_,_,rfl⟩
    obtain⟨cs,g,e9,p0,hn⟩:=hI.fin;replace e9:x7=_:=e9;replace p0:x8=_:=p0;subst e9 p0;clear hI j0;refine yv ?_;obtain⟨v',L',a3,c3,rfl,h⟩:=hn;replace F:=F.call h.bel;replace hb:=hb.trans (h.bel.mono hb.size);clear h2 hp a0;have q7:=h.fr.cell 1 7 rfl rfl;have x7:=F.cell 1 7 rfl rfl;have r0:=(T0.o.below hb).sa;have s0:=h.rd.sa;have X0:v'.sa.n<=x.sa.n:=by rw[r0.len,s0.len];exact l0.out.1
    have q0:¬((x.sa.n:Int)<(v'.sa.n:Int)):=jq;have D0:s.said.length<=1048576:=h0.out.1.sa;have E0:∀W:World,(Instr.slice 23 (.slice x.sa.a x.sa.n x.sa.c) none (some (uy (v'.sa.n:Int))) none).run Tryz.prog W= .ok (.slice x.sa.a v'.sa.n x.sa.c) W:=λW=>XB _ _ _ _ (jQ z0.out) z0.out W;have P0:=zd r0;have m0:=zd s0;have cW:uH (∀d os,Calls Tryz.prog 15 #[.slice x.sa.a v'.sa.n x.sa.c,.slice v'.sa.a v'.sa.n v'.sa.c] (grow (redrawn W3 d) os) λe Y0=>e= .returned (.bool true)/\∃p:Regrown,Y0=grow (redrawn W3 p.d) p.os):=zd (λd os=>Calls.regrown_of (Xd _ _ _ _ _ y.said _ (by have:=l0.out.1;have:=m0.out.len;have:=h0.out.1.sa;omega) m0.out.len.symm (by have:=(P0.o.rd.below (below_regrown W3 d os)).takei y.said.length;rw[l0.out.2] at this;exact this) (m0.out.rd.below (below_regrown W3 d os))));go_upto_region 13 with fail;have j1:=cell_regrown q7;have l1:=cell_regrown x7;refine wp_region_quiet_below (by kernel_rfl) (by kernel_rfl) ?_
    repeat (go_big_quiet_step (first|(with_reducible exact cW.out _ _)))
    refine wpQuiet_nil ?_;intro w6 F0;have V0:xW W3 w6:=by
     obtain⟨pq,rfl⟩:=F0;exact below_regrown _ _ _
    clear F0;have I0:=zd (hb.trans (V0.mono hb.size));clear E0 X0 q0 r0 s0;go_wp2
    go_roundw
    case rel=>exact⟨k+1,jq,by go_num,I0.o⟩
    case measure=>exact uq
   ·have f1:¬((k:Int)<(nt:Int)):=jq;have HB:=zd F.bel;clear F;go_wp2;go_ret;exact⟨rfl,HB.o⟩
end Go.Proofs.YtfclolgfegdfjaaGreat
