/- Part of a proof: FnReplayShortW. -/
import Derived.Lib.QuietBelow
import Derived.BigQuiet
import Derived.IntWalk
import Derived.Deep.RegionHeld3
import Derived.Deep.AppendLies
import Derived.Test.YtfclolgfegdfjaaGreatVRRun8
import Derived.Test.YtfclolgfegdfjaaGreatVIRunX
import Derived.Test.YtfclolgfegdfjaaGreatVRunS
import Derived.Test.YtfclolgfegdfjaaGreatVISame
import Derived.Test.YtfclolgfegdfjaaGreatVDraws3
import Derived.Test.YtfclolgfegdfjaaGreatVIPlay
import Derived.Test.YtfclolgfegdfjaaGreatVTrn
import Derived.Test.YtfclolgfegdfjaaGreatVShI
set_option maxRecDepth 100000
set_option maxHeartbeats 16000000
namespace Go.Proofs.YtfclolgfegdfjaaGreat
open Go.RowKit Go.Sort
theorem Do (a:uQ) (n c:Nat) (bs:List Int) (w:World) (hl:bs.length=n) (h1:Rd w a (uf bs)) (s0:n<=maxLen) (g0:n<=c) (r0:∀b∈bs,0<=b/\b<=255):
  Calls Tryz.prog 5 #[.slice a n c] w λe w'=>e= .returned (.bool true)/\xW w w':=by
 unfold maxLen at s0;have HL:=zd hl;have q0:=zd r0;clear hl r0;by_cases hn:1048576<n
 ·have f0:(1048576:Int)<(n:Int):=jq;go_enter Tryz.func5,Tryz.ntmps5;go_wp2;go_ret;exact⟨rfl,Below.refl _ _⟩
 have f0:¬((1048576:Int)<(n:Int)):=jq;have hC:=zd (qw.mk HL.o h1 g0 q0.out jq);clear HL q0 h1 g0 s0;go_enter Tryz.func5,Tryz.ntmps5;go_wp2_with fail;refine(YC a n c bs w hC.out).mono ?_;rintro e w1 ⟨v,vs,p,rfl,o1,hb⟩;have hA:=(Below.refl w1.heap.size w1).alloc yk (.cells (zF v) 26);have F1:=((Fr.start w).call hb).alloc (zF v) 26;have HZ:=zd (o1.small jq);have v0:=zd o1.few;have H0:uH (v.nt<=v.ct):=zd (yB o1.own.ot.out).1;have hp:=o1.own.rd.below hA;clear hb o1 hC hn f0 hA;go_upto_region 4 with fail;obtain⟨W1,hW,F1,hp⟩:∃y,y=w1.alloc (.cells (zF v) 26)/\Fr w y [.blk w1.heap.size (zF v) 26]/\yK y v p:=⟨_,rfl,F1,hp⟩
 rw[<-hW];obtain⟨k1,hk⟩:=jy w1.heap.size;rw[<-hk] at F1⊢;clear hW hk;obtain⟨o,ho⟩:=jy (xn p (xh true));obtain⟨sb,h1⟩:∃y,o.isSome=y:=⟨_,rfl⟩
 obtain⟨s,h2⟩:∃y,(qN o).1=y:=⟨_,rfl⟩
 obtain⟨tr,h3⟩:∃y,(qN o).2=y:=⟨_,rfl⟩
 have l0:uH (X5 s/\tr.length<=100):=zd (Yg ho h2 h3);have A0:uH (sb=true->xn p (xh true)=some (s,tr)):=zd (λe=>by rw[<-ho,<-h2,<-h3];exact Zm (h1.trans e));have HO:=zd ho;have H1:=zd h1;have H2:=zd h2;have H3:=zd h3;have hN:=l0.out.2;clear ho h1 h2 h3;have q:=F1.c5 0 rfl;go_wp2_with fail;refine(Yj v p _ hp HZ.o).mono ?_;rintro e w2 hq;rw[<-HO.o] at hq;obtain⟨x,M,ar,cr,rfl,hb,hx,-⟩:=ud hq H1.o H2.o H3.o;have hA:=(Below.refl w2.heap.size w2).alloc yk (.cells (rC x ar tr.length cr) 40);have F2:=(F1.call hb).alloc (rC x ar tr.length cr) 40;have K0:uH (x.sa.n<=x.sa.c):=zd (yB hx.st.sa).1;have b0:=hx.st.rd.below hA;have a0:=(Rd.of_owns hx.tr).below hA;replace hp:=(hp.below hb).below hA;have D0:uH (tr.length<=cr):=zd (yB hx.tr).1;clear hq hb hx hA F1 q;go_upto_region 5 with fail;obtain⟨W2,hW,F2,b0,a0,hp⟩:∃y,y=w2.alloc (.cells (rC x ar tr.length cr) 40)/\Fr w y [.blk w2.heap.size (rC x ar tr.length cr) 40,.blk k1 (zF v) 26]/\yZ y x M s/\Rd y ar (zf tr)/\yK y v p:=⟨_,rfl,F2,b0,a0,hp⟩
 rw[<-hW];obtain⟨k2,hk⟩:=jy w2.heap.size;rw[<-hk] at F2⊢;clear hW hk;have q:=F2.c5 1 rfl;go_wp2_with fail;refine(XC v p _ hp HZ.o).mono ?_;rintro e w3 hq;rw[<-HO.o] at hq;obtain⟨gv,GL,ga,gc,rfl,hb,hg,c0⟩:=Yc hq H1.o H2.o H3.o;have hA:=(Below.refl w3.heap.size w3).alloc yk (.cells (rC gv ga tr.length gc) 40);have F3:=(F2.call hb).alloc (rC gv ga tr.length gc) 40;replace hg:=hg.below hA;replace c0:=c0.below hA;replace b0:=(b0.below hb).below hA;replace a0:=(a0.below hb).below hA;replace hp:=(hp.below hb).below hA;clear hq hb hA F2 q;go_upto_region 6 with fail;obtain⟨W3,hW,F3,hg,c0,b0,a0,hp⟩:∃y,y=w3.alloc (.cells (rC gv ga tr.length gc) 40)/\Fr w y [.blk w3.heap.size (rC gv ga tr.length gc) 40,.blk k2 (rC x ar tr.length cr) 40,.blk k1 (zF v) 26]/\yZ y gv GL s/\Rd y ga (zf tr)/\yZ y x M s/\Rd y ar (zf tr)/\yK y v p:=⟨_,rfl,F3,hg,c0,b0,a0,hp⟩
 rw[<-hW];obtain⟨k3,hk⟩:=jy w3.heap.size;rw[<-hk] at F3⊢;clear hW hk;have q:=F3.c10 0 rfl;have q2:=F3.c10 1 rfl;go_wp2_with fail;refine(xT x gv M GL s ar ga _ cr gc tr _ b0 hg l0.out.1 rfl jq a0 c0).mono ?_;rintro e w4 ⟨rfl,hb⟩;have F4:=F3.call hb;replace hg:=hg.below hb;replace c0:=c0.below hb;replace b0:=b0.below hb;replace a0:=a0.below hb;replace hp:=hp.below hb;clear hb F3 q q2;have t0:(sb !=sb)=false:=jv;have t1:(sb==sb)=true:=jv
 cases sb with
 |false=>
  have q:=F4.c10 0 rfl;have q2:=F4.c10 1 rfl;go_wp2_with fail;refine(xT x gv M GL s ar ga _ cr gc tr _ b0 hg l0.out.1 rfl jq a0 c0).mono ?_;rintro e w5 ⟨rfl,hb⟩;have HB:=zd (F4.call hb).bel;clear hb F4 q q2;go_wp2;go_ret;exact⟨rfl,HB.o⟩
 |true=>
  have d0:=zd (A0.o rfl);have HV:=zd (vN d0.out).1;have J0:=zd (vN d0.out).2;clear t0 t1 hg c0;have y0:uH (∀i:Int,xx p (tr++[i])=none):=zd (λi=>dS d0.out i);have F4:=zd F4;have z0:=zd hp;have B0:=zd a0;have I0:=zd hp.lt;clear hp b0 a0;go_wp2
  go_loopw [8] (λi wr=>∃k:Nat,k<=v.nt/\i=uy k/\xW w4 wr) (λi _=>v.nt-(intOf i).toNat)
  case atStart=>exact⟨0,jq,rfl,Below.refl _ _⟩
  case round=>
   obtain⟨k,hk,rfl,hb⟩:=hrel;have F:=F4.o.call hb;have q:=F.cell 2 4 rfl rfl;have hp:=z0.out.below hb;have C0:uH (Rd wr ar (zf tr)):=zd (B0.o.below hb);have p0:=zd hb;clear hb;by_cases N0:k<v.nt
   ·have i1:(k:Int)<(v.nt:Int):=jq;have F0:v.nt<=1048576:=HZ.o.lt;go_upto_region 11 with fail;refine jd 14 (qv wr [some (.agg (zF v)),none,some (.pointer (some ⟨k2,9,none⟩)),some (.slice ar tr.length cr),none,some (uy (k:Int)),none,none,some (.tuple #[.agg yS,.bool false]),some (.tuple #[.agg yS,.bool false]),some (.agg yS),some (.bool false),none,none] tr.length tr (k:Int)) (qv.cong rfl) qv.start ?_ ?_
    ·refine⟨?_,?_,?_,?_,?_,?_,?_,?_,?_,?_,?_,?_,?_,?_,trivial⟩<;>intro ρ w2 L2 hI hw hny ho
     ·have c:=(F.call hI.bel).c5 2 rfl;have d:ρ (.tmp 3)=_:=ho (.tmp 3) rfl;exact zh (by go_simp<;>rfl) (hI.val 0 _ jk (λ_ h=>Option.some.inj h))
     ·exact zh (by go_simp<;>rfl) (hI.al1 rfl (hny 4 _ rfl rfl))
     ·have d:ρ (.tmp 4)=_:=ho (.tmp 4) rfl;exact zh (by go_simp<;>rfl) (hI.val 2 _ jk (λ_ h=>Option.some.inj h))
     ·have c:=(F.call hI.bel).cell 1 9 rfl rfl;have d:ρ (.tmp 57)=_:=hI.k 2 _ rfl (hw 2 jk);exact zh (by go_simp<;>rfl) (hI.val 3 _ jk (λ_ h=>Option.some.inj h))
     ·obtain⟨a,s1,ow,h0⟩:=hI.ap4 rfl (hw 1 jk) (hny 4 _ rfl rfl) (hny 7 _ rfl rfl);have d:ρ (.tmp 56)=_:=s1;have d':ρ (.tmp 58)=_:=hI.k 3 _ rfl (hw 3 jk);obtain⟨a',c',w',hr,j0,hg,f0⟩:=uw (P:=Tryz.prog) 23 23 Tryz.underlying23 yb rfl jk ow (a2:=ar) (c2:=cr) (by rw[yG,Nat.mul_one]) (C0.o.below hI.bel) (yA tr) jq jk hI.bel.size;simp only[Nat.zero_add,qZ] at hr j0;refine zh (u:= .slice a' tr.length c') (w':=w') ?_ (h0 a' c' w' j0 hg f0);unfold execOp;simp only[resolve,invoke,builtin,Sem.run_bind,Sem.run_pure,Result.andThen_ok,List.map_toArray,List.map_cons,List.map_nil,d,d',hr]
     ·have d:ρ (.tmp 8)=_:=ho (.tmp 8) rfl;exact zh (by go_simp<;>rfl) (hI.val 5 _ jk (λ_ h=>Option.some.inj h))
     ·have d:ρ (.tmp 60)=_:=hI.k 5 _ rfl (hw 5 jk);exact zh (by go_simp<;>rfl) (hI.al6 rfl (hny 7 _ rfl rfl))
     ·obtain⟨a,c,g,s4,s6,ow,hd,h0⟩:=hI.ap7 rfl (hw 4 jk) (hw 6 jk) (hny 7 _ rfl rfl);have d:ρ (.tmp 59)=_:=s4;have d':ρ (.tmp 61)=_:=s6;obtain⟨a',c',w',hr,j0,hg,f0⟩:=uw (P:=Tryz.prog) (c2:=1) 23 23 Tryz.underlying23 yb rfl jk ow (a2:=some ⟨g,0,none⟩) (m:=1) (news:=zf [(k:Int)]) rfl hd (yA [(k:Int)]) jq jk hI.bel.size;refine zh (u:= .slice a' (tr.length+1) c') (w':=w') ?_ (h0 a' c' w' (by rw[xy];exact j0) hg f0);unfold execOp;simp only[resolve,invoke,builtin,Sem.run_bind,Sem.run_pure,Result.andThen_ok,List.map_toArray,List.map_cons,List.map_nil,d,d',hr]
     ·obtain⟨a,c,s7,ow⟩:=hI.row7 (hw 7 jk);have d:ρ (.tmp 55)=_:=hI.k 0 _ rfl (hw 0 jk);have d':ρ (.tmp 62)=_:=s7;have df:ρ (.func 16)=_:=ho (.func 16) rfl;exact zU (by go_simp<;>rfl) ((jA v p a (tr.length+1) c (tr++[(k:Int)]) w2 (hp.below hI.bel) HZ.o (Rd.of_owns ow) jv jq).mono λe w' h=>by
       rw[y0.out] at h;obtain⟨hb,⟨-,rfl⟩|⟨_,_,_,_,_,_,_,h,-⟩⟩:=h
       ·exact⟨_,rfl,(hI.call hb).val 8 _ jk (λ_ h=>Option.some.inj h)⟩
       ·cases h)
     ·have d:ρ (.tmp 63)=_:=hI.k 8 _ rfl (hw 8 jk);exact zh (by go_simp<;>rfl) (hI.val 9 _ jk (λ_ h=>Option.some.inj h))
     ·have d:ρ (.tmp 54)=_:=hI.k 9 _ rfl (hw 9 jk);exact zh (by go_simp<;>rfl) (hI.val 10 _ jk (λ_ h=>Option.some.inj h))
     ·have d:ρ (.tmp 54)=_:=hI.k 9 _ rfl (hw 9 jk);exact zh (by go_simp<;>rfl) (hI.val 11 _ jk (λ_ h=>Option.some.inj h))
     ·exact zh (by go_simp<;>rfl) (hI.al12 rfl)
     ·obtain⟨g,G0,kb,h0⟩:=hI.st rfl (hw 12 jk);have d:ρ (.tmp 64)=_:=hI.k 10 _ rfl (hw 10 jk);have d':ρ (.tmp 9)=_:=G0;refine qj (w':=w2.setRow g yS) ?_ (h0 _);simp[execOp,d,d',Instr.storeAt,Instr.sureAddr,run_storeVar_row (P:=Tryz.prog) w2 g 40 40 yS yS kb (by kernel_rfl) rfl (by simp[yS,Value.oneCell'])]
    intro vs w3 i0 hI;obtain⟨x0,x1,x2,x3,x4,x5,x6,x7,x8,x9,m0,k0,n0,o0,rfl⟩:∃x0 x1 x2 x3 x4 x5 x6 x7 x8 x9 m0 k0 n0 o0,vs=[x0,x1,x2,x3,x4,x5,x6,x7,x8,x9,m0,k0,n0,o0]:=by
     match vs,i0 with
     |[x0,x1,x2,x3,x4,x5,x6,x7,x8,x9,m0,k0,n0,o0],_=>exact⟨_,_,_,_,_,_,_,_,_,_,_,_,_,_,rfl⟩
    obtain⟨hk,-⟩:=id hI;have E0:k0=_:=hk 11 _ rfl rfl;have u0:=zd (p0.out.trans (hI.bel.mono p0.out.size));clear hI i0 hk;subst E0;refine yv ?_;clear F hp q;go_wp2
    go_roundw
    case rel=>exact⟨k+1,jq,by go_num,u0.out⟩
    case measure=>exact uq
   ·have M0:¬((k:Int)<(v.nt:Int)):=jq;have q2:=F.cell 1 9 rfl rfl;have L0:(tr.length:Int)<=100:=jq;have HB:=zd F.bel;clear F hp;go_wp2;go_ret;exact⟨rfl,HB.o⟩
end Go.Proofs.YtfclolgfegdfjaaGreat
