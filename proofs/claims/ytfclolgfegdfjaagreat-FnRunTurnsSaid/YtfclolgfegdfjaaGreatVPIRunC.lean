/- Part of a proof: IWalk. -/
import Derived.Test.YtfclolgfegdfjaaGreatVPStart
import Derived.Test.YtfclolgfegdfjaaGreatVIStepT
set_option maxRecDepth 100000
set_option maxHeartbeats 16000000
namespace Go.Proofs.YtfclolgfegdfjaaGreat
open Go.RowKit
variable {s:zp} {n:Nat} {p:Pg} {tr:List Int}
theorem gw (u:PV) (p:Pg) (v:zu) (L:zQ) (s:zp) (t:Int) (w:World) (hp:yK w u p) (hr:yZ w v L s) (hf:xF p s) (ht:t∉zq s):
  Calls Tryz.prog 28 #[.agg (zF u),v.val,uy t] w λe w'=>e= .returned (.tuple #[.agg zC,.bool false])/\xW w w':=by
 have HS:=zd hr;have HP:=zd hp;have HF:=zd hf.fits;have a0:=zd ht;have r8:(zq s).length<=8/\s.status.length<=8:=by
  have h1:=hf.fits.nst;have h2:=(yf hf.fits.prog).2.2.2.2.1;refine⟨?_,jq⟩;rw[vh];split
  ·have:=vW s s.status.length;omega
  ·simp
 clear hr hp hf ht;have F:=(((Fr.start w).alloc (zF u) 26).alloc (yN v) 38).alloc zC 38;simp only[yY] at F;have cs:=F.c9 1 rfl;have cp:=F.c5 2 rfl;go_enter Tryz.func28,Tryz.ntmps28;go_wp2_with fail;refine(qE u p v L s _ (HP.o.below F.bel) (HS.o.below F.bel) HF.o).mono ?_;rintro e w1 ⟨rfl,hb⟩;replace F:=F.call hb;replace cs:=F.c9 1 rfl;replace cp:=F.c5 2 rfl;clear hb;clear cp;go_wp2_with fail;refine(uY v L s _ (HS.o.below F.bel) r8.2).mono ?_;rintro e w1 ⟨a1,c1,rfl,ho,hb⟩;have F2:=F.row hb ho;clear hb ho F cs;go_wp2_with fail;refine(jK a1 _ c1 (zq s) t _ rfl (by have:=r8.1;unfold maxLen;omega) (F2.rdRow 0 rfl)).mono ?_;rintro e wz ⟨rfl,hw⟩;obtain rfl:=hw;rw[vX a0.out];replace F:=F2.sub (.cons _ (.refl _));clear F2 r8;have cz:=F.c9 0 rfl;have F2:=F.setZ 0 rfl;go_wp2;exact zM (v:= .tuple #[.agg zC,.bool false]) (by simp[results,Tryz.results28,go_sem,F2.c9 0 rfl]) rfl ⟨rfl,F2.bel⟩
abbrev DN (w:World) (R:Nat) (v:zu) (a:uQ) (n c:Nat) (tr:List Int) (u:PV):List It:=[.blk R (rC v a n c) 40,.row a n c 3 1 (zf tr),.blk (w.heap.size+1) yS 40,.blk w.heap.size (zF u) 26]
theorem Gs (v:zu) (a:uQ) (n c:Nat) (w:World):(Instr.build 40 #[(0,v.val),(1,.slice a n c)]).run Tryz.prog w= .ok (.agg (rC v a n c)) w:=run_build w 40 _ _ (by kernel_rfl)
def Pd (R:Nat) (wr:World):Nat:=match wr.cell? ⟨R,9,none⟩ with|some (.slice _ n _)=>101-n|_=>0
theorem fW {ch:zp->List Int->Option Int} (h:ch s tr=none) (hn:n<=100):xg p ch (101-n) s tr=some (s,tr):=by
 rw[show 101-n=(100-n)+1 by omega];exact ZQ h
def Qx (w:World) (fn:FuncId) (caps:Array Value) (p:Pg) (ch:zp->List Int->Option Int) (J:List Int->Prop):Prop:=
 ∀(v:zu) (L:zQ) (s:zp) (a b:uQ) (n c m d:Nat) (tr:List Int) (W:World),xW w W->yZ W v L s->xF p s->tr.length=n->n<=100->J tr->Rd W a (zf tr)->(zq s).length=m->m<=8->Rd W b (zf (zq s))->
  Calls Tryz.prog fn (#[.agg (rC v a n c),.slice b m d]++caps) W λe w'=>e= .returned (.tuple #[uy ((ch s tr).getD 0),.bool (ch s tr).isSome])/\xW W w'
structure Jb (B:Nat) (w:World) (v:zu) (L:zQ) (a:Option Addr) (c:Nat) (s:zp) (ts:List Int):Prop where
 st:yr (zj a).toList B w v L s
 nw:yz B L
 tr:w.ownsRow B 3 1 (.slice a ts.length c) ts.length (zf ts)
 inn:uN B w a ts.length c ts v s L
theorem XG (u:PV) (p:Pg) (w:World) (fn:FuncId) (m0:Array Value) (ch:zp->List Int->Option Int) (hp:yK w u p) (hv:zD p=true) (G0:∀(xs:Array Value) (W:World),(callFunc fn xs).run Tryz.prog W= .ok (.enter fn xs) W) (J:List Int->Prop) (D0:J []) (E0:∀s tr t,J tr->ch s tr=some t->J (tr++[t])) (hc:Qx w fn m0 p ch J) (b0:∀s tr,J tr->100<=tr.length->ch s tr=none):
  Calls Tryz.prog 42 #[.agg (zF u),.func (.func fn) #[] m0] w λe w'=>xW w w'/\((xg p ch 101 (zI p) []=none/\e= .returned (.tuple #[.agg yS,.bool false]))\/∃(s:zp) (tr:List Int) (v:zu) (L:zQ) (a:uQ) (c:Nat),xg p ch 101 (zI p) []=some (s,tr)/\e= .returned (.tuple #[.agg (rC v a tr.length c),.bool true])/\Jb w.heap.size w' v L a c s tr/\xF p s):=by
 have HP:=zd hp;have HV:=zd hv;have HC:=zd hc;have N0:=zd G0;have s0:=zd b0;have P0:=zd D0;have Q0:=zd E0;clear hp hv hc b0 G0 D0 E0;have F:=((Fr.start w).alloc (zF u) 26).alloc yS 40;simp only[yY] at F;have cp:=F.c5 1 rfl;go_enter Tryz.func42,Tryz.ntmps42;go_wp2_with fail;refine(gf u p _ (HP.o.below F.bel) HV.o).mono ?_;rintro e w1 ⟨v0,L0,rfl,ho,hn,hb⟩;have HN:=yz.lower hn F.bel.size;have h0:=((Sf.gain F ho hn hb).nil 3 1).alloc (yN v0) 38;clear F ho hn hb cp;go_upto_region 4 with fail;obtain⟨W0,hw,h1⟩:=h0.named;rw[<-hw];clear h0 hw;have h2:=(h1.alloc (rC v0 none 0 0) 40).sub (l':=DN w W0.heap.size v0 none 0 0 [] u) (.cons_cons _ (.cons _ (.refl _)));have c0:=h1.c9 0 rfl;obtain⟨R,hR⟩:=jy W0.heap.size;go_wp2_with fail;rw[<-hR] at h2⊢;clear hR
 go_loopw [9] (λ_ wr=>∃(v:zu) (L:zQ) (s:zp) (a:uQ) (c:Nat) (tr:List Int),Sf w wr (DN w R v a tr.length c tr u) v L s/\xF p s/\tr.length<=100/\uH (J tr)/\yz w.heap.size L/\xg p ch 101 (zI p) []=xg p ch (101-tr.length) s tr) (λ_ wr=>Pd R wr)
 case atStart=>exact⟨v0,L0,zI p,none,0,[],h2,xF.start HV.o,jv,P0,HN,rfl⟩
 case round=>
  clear h2 h1 HN c0;obtain⟨v,L,s,a,c,tr,h,g0,b0,HJ,HN,a0⟩:=hrel;have HR:=zd g0;have y0:=zd a0;have r8:(zq s).length<=8/\s.status.length<=8:=by
   have h1:=g0.fits.nst;have h2:=(yf g0.fits.prog).2.2.2.2.1;refine⟨?_,jq⟩;rw[vh];split
   ·have:=vW s s.status.length;omega
   ·simp
  have T0:uH (wr.cell? ⟨R,9,none⟩=some (.slice a tr.length c)):=zd (h.fr.cell 0 9 rfl rfl);obtain⟨u1,rfl⟩:=jy wr;clear g0 a0;go_wp2_with fail;apply xZ 11 [.k _,.k _,.k _,.k _,.r λdz uz wz=>∃(a1:uQ) (c1:Nat),uz= .slice a1 (zq s).length c1/\wz.ownsRow u1.heap.size 3 1 (.slice a1 (zq s).length c1) (zq s).length (zf (zq s)),.r λdz uz wz=>uz= .tuple #[uy ((ch s tr).getD 0),.bool (ch s tr).isSome],.k _,.k _,.k _,.k _,.k _] ⟨λ_ _ _ _ hb ⟨a,c,e,h⟩=>⟨a,c,e,zl h hb⟩,λ_ _ _ _ _ h=>h,trivial⟩ ?s1 ?e1
  case s1=>
   repeat' apply And.intro
   all_goals first|trivial|(intro ρ w1 hG hfr hd;obtain⟨fc,ff⟩:=xu hfr;have f1:=hfr (.tmp 1) rfl;have f8:=hfr (.tmp 8) rfl;have F1:=h.fr.call hG;have cr:=F1.c10 0 rfl;clear F1)
   exact yj;exact yj;exact yj;exact yI
   ·obtain⟨d0,-⟩:=hd;have d0:ρ (.tmp 27)=_:=d0;refine zU (by go_simp;exact⟨⟨rfl,rfl⟩,rfl⟩) ?_;refine(uY v L s _ ((h.call hG).rd) r8.2).mono ?_;rintro e w2 ⟨a1,c1,rfl,ho,hb⟩;exact⟨_,rfl,hb,⟨a1,c1,rfl,zw ho hG.size⟩,yn,hG.trans (hb.mono hG.size)⟩
   ·obtain⟨d0,d1,d2,-⟩:=hd;have d0:ρ (.tmp 24)=_:=d0;have d1:ρ (.tmp 25)=_:=d1;have d2:∃(a1:uQ) (c1:Nat),(ρ (.tmp 28))= .slice a1 (zq s).length c1/\w1.ownsRow u1.heap.size 3 1 (.slice a1 (zq s).length c1) (zq s).length (zf (zq s)):=d2;obtain⟨a1,c1,d2,ho⟩:=d2;refine zU (by go_simp;exact N0.o _ _) ?_;refine(HC.o v L s a a1 tr.length c (zq s).length c1 tr w1 ((h.call hG).bel) ((h.call hG).rd) HR.o rfl b0 HJ.o ((h.call hG).fr.rdRow 1 rfl) rfl r8.1 (Rd.of_owns ho)).mono ?_;rintro e w2 ⟨rfl,hb⟩;exact⟨_,rfl,hb,rfl,yn,hG.trans (hb.mono hG.size)⟩
   exact yI;exact yI;exact yI;exact yI;exact yI
  intro w2 hG;refine yv ?_;intro K0 p0 r0 i0;clear p0;obtain⟨oc,B0⟩:=jy (ch s tr);rw[<-B0];have k0:=zd B0;replace h:=h.call hG;clear B0 hG;obtain⟨u2,rfl⟩:=jy w2
  cases oc with
  |none=>
   have a0:=y0.out;rw[fW k0.out.symm b0] at a0;have x0:=zd a0;clear a0;go_wp2_with fail;apply xZ 7 [.k _,.k _,.r λdz uz wz=>∃(v':zu) (L':zQ),uz=v'.val/\yr [] u2.heap.size wz v' L' s/\yz u2.heap.size L'/\XW u2.heap.size wz v' s L',.k _,.k _,.r λdz uz wz=>∃(v':zu) (L':zQ) (a':uQ) (c':Nat),(dz.getD 1 undef)=v'.val/\uz= .slice a' tr.length c'/\yr (zj a').toList u2.heap.size wz v' L' s/\yz u2.heap.size L'/\wz.ownsRow u2.heap.size 3 1 (.slice a' tr.length c') tr.length (zf tr)/\uN u2.heap.size wz a' tr.length c' tr v' s L',.r λdz uz wz=>∃(v':zu) (L':zQ) (a':uQ) (c':Nat),uz= .agg (rC v' a' tr.length c')/\yr (zj a').toList u2.heap.size wz v' L' s/\yz u2.heap.size L'/\wz.ownsRow u2.heap.size 3 1 (.slice a' tr.length c') tr.length (zf tr)/\uN u2.heap.size wz a' tr.length c' tr v' s L'] ⟨λ_ _ _ _ hb ⟨v',L',e,h,hn,hi⟩=>⟨v',L',e,h.below hb,hn,hi.below hb⟩,λ_ _ _ _ hb ⟨v',L',a',c',e1,e2,h,hn,ho,hi⟩=>⟨v',L',a',c',e1,e2,h.below hb,hn,zl ho hb,hi.below hb⟩,λ_ _ _ _ hb ⟨v',L',a',c',e2,h,hn,ho,hi⟩=>⟨v',L',a',c',e2,h.below hb,hn,zl ho hb,hi.below hb⟩,trivial⟩ ?s2 ?e2
   case s2=>
    repeat' apply And.intro
    all_goals first|trivial|(intro ρ w1 hG hfr hd;obtain⟨fc,ff⟩:=xu hfr;have f8:=hfr (.tmp 8) rfl;have F1:=h.fr.call hG;have cr:=F1.c10 0 rfl;clear F1)
    exact yj;exact yI
    ·obtain⟨d0,-⟩:=hd;have d0:ρ (.tmp 35)=_:=d0;refine zU (by go_simp;exact⟨⟨rfl,rfl⟩,rfl⟩) ?_;refine(JL v L s _ ((h.call hG).rd) HR.o.fits.sm).mono ?_;rintro e w2 ⟨v',L',rfl,ho,hn,F9⟩;exact⟨_,rfl,F9.bel,⟨v',L',rfl,ho.lower hG.size,yz.lower hn hG.size,(XW.of F9).lower hG.size⟩,yn,hG.trans (F9.bel.mono hG.size)⟩
    exact yj;exact yI
    ·obtain⟨d0,d1,-⟩:=hd;have d0:ρ (.tmp 38)=_:=d0;have d1:∃(v':zu) (L':zQ),(ρ (.tmp 36))=v'.val/\yr [] u2.heap.size w1 v' L' s/\yz u2.heap.size L'/\XW u2.heap.size w1 v' s L':=d1;obtain⟨v',L',d1,j1,g1,b1⟩:=d1;refine zU (by go_simp;exact⟨⟨rfl,rfl⟩,rfl⟩) ?_;refine(yV a tr.length c tr w1 rfl jq ((h.call hG).fr.rdRow 1 rfl)).mono ?_;rintro e w2 ⟨a1,c1,rfl,ho,hb⟩;exact⟨_,rfl,hb,⟨v',L',a1,c1,d1,rfl,j1.newer hb (λq hq=>zy ho q (by simpa using hq)),g1,zw ho hG.size,b1.trace hb ho hG.size⟩,yn,hG.trans (hb.mono hG.size)⟩
    ·obtain⟨d0,d1,-⟩:=hd;have d0:∃(v':zu) (L':zQ),(ρ (.tmp 36))=v'.val/\yr [] u2.heap.size w1 v' L' s/\yz u2.heap.size L'/\XW u2.heap.size w1 v' s L':=d0;have d1:∃(v':zu) (L':zQ) (a':uQ) (c':Nat),(ρ (.tmp 36))=v'.val/\(ρ (.tmp 39))= .slice a' tr.length c'/\yr (zj a').toList u2.heap.size w1 v' L' s/\yz u2.heap.size L'/\w1.ownsRow u2.heap.size 3 1 (.slice a' tr.length c') tr.length (zf tr)/\uN u2.heap.size w1 a' tr.length c' tr v' s L':=d1;clear d0;obtain⟨v',L',a',c',e1,e2,ho,hn,hr,hi⟩:=d1;have Y0:=Gs v' a' tr.length c' w1;exact Zh hG (by go_simp) ⟨v',L',a',c',rfl,ho,hn,hr,hi⟩ yn
   intro w2 hG;refine yv ?_;intro p1 l1 r0 i0 M0 q0;replace i0:∃(v':zu) (L':zQ) (a':uQ) (c':Nat),p1=v'.val/\r0= .slice a' tr.length c'/\yr (zj a').toList u2.heap.size w2 v' L' s/\yz u2.heap.size L'/\w2.ownsRow u2.heap.size 3 1 (.slice a' tr.length c') tr.length (zf tr)/\uN u2.heap.size w2 a' tr.length c' tr v' s L':=i0;obtain⟨v',L',a',c',rfl,ho,hn,hr,hi⟩:=q0;clear l1 i0;have S0:=zd (yz.lower hn h.bel.size);have G:=Sf.gainR h.fr hG hr ho hn;have O0:=zd ((hi.lower h.bel.size).set (G.fr.blk 3 rfl) ⟨jk,jk,jk⟩ ((((((((((((zo.refl _ _).set (j:=0) (v:= .slice v'.pl.a v'.pl.n v'.pl.c) yl).set (j:=1) (v:= .slice v'.st.a v'.st.n v'.st.c) yl).set (j:=2) (v:= .slice v'.se.a v'.se.n v'.se.c) yl).set (j:=3) (v:= .slice v'.on.a v'.on.n v'.on.c) yl).set (j:=4) (v:= .slice v'.gr.a v'.gr.n v'.gr.c) yl).set (j:=5) (v:= .slice v'.ba.a v'.ba.n v'.ba.c) yl).set (j:=6) (v:= .slice v'.ch.a v'.ch.n v'.ch.c) yl).set (j:=7) (v:= .slice v'.sa.a v'.sa.n v'.sa.c) yl).set (j:=8) (v:=uy v'.fl) yl).set (j:=9) (v:= .slice a' tr.length c') yl)));clear ho hn hr h hG hi;have cz:=G.fr.c10 3 rfl;have G2:=G.setR 3 rfl v' a' tr.length c';go_wp2
   exact zM (v:= .tuple #[.agg (rC v' a' tr.length c'),.bool true]) (by simp[results,Tryz.results42,go_sem,G2.fr.c10 3 rfl]) rfl ⟨G2.bel,.inr ⟨s,tr,v',L',a',c',x0.out,rfl,⟨G2.st.sub λq hq=>yW (.inl hq),S0.o,G2.fr.own 0 rfl,O0.o⟩,HR.o⟩⟩
  |some t=>
   have I0:tr.length<100:=Nat.lt_of_not_le λh=>by
    have h1:=s0.out s tr HJ.o h;rw[<-k0.out] at h1
    cases h1
   by_cases j0:t∈zq s
   ·have a0:=y0.out;rw[show 101-tr.length=(100-tr.length)+1 by omega,Zs k0.out.symm j0] at a0;have U0:=zd a0;have HT:=zd (HR.o.fits.turn j0);have t0:=zd j0;have cr:=h.fr.c10 0 rfl;have cp:=h.fr.c5 3 rfl;have u0:uH (u1.cell? ⟨R,9,none⟩=some (.slice a tr.length c)):=T0;clear a0 j0;go_wp2_with fail;refine(Uj u p v L s t _ (HP.o.below h.bel) h.rd HR.o t0.out).mono ?_;rintro e w2 ⟨v',L',rfl,ho,hn,hb⟩;have R0:=zd (yz.lower hn h.bel.size);have h2:=(Sf.gain h.fr ho hn hb).alloc (yN v') 38;clear ho hn hb h cr cp HN;go_upto_region 11 with fail;obtain⟨u3,hw,h3⟩:=h2.named;rw[<-hw];clear hw h2;obtain⟨N,hN⟩:=jy w2.heap.size;rw[<-hN] at h3⊢;clear hN;have f0:N∉(zj a).toList:=h3.fr.apart 0 2 rfl rfl jk N yl;have F0:R∉(zj a).toList:=h3.fr.apart 1 2 rfl rfl jk R yl;have l0:=zd (h3.fr.own 2 rfl);have m1:=h3.bel.size;have r9:=h3.fr.cell 1 9 rfl rfl;go_wp2_with fail;have n0:=h3.fr.cell 0 0 rfl rfl;have n1:=h3.fr.cell 0 1 rfl rfl;have n2:=h3.fr.cell 0 2 rfl rfl;have n3:=h3.fr.cell 0 3 rfl rfl;have n4:=h3.fr.cell 0 4 rfl rfl;have n5:=h3.fr.cell 0 5 rfl rfl;have n6:=h3.fr.cell 0 6 rfl rfl;have n7:=h3.fr.cell 0 7 rfl rfl;have n8:=h3.fr.cell 0 8 rfl rfl
    apply fG 7 5 ((zj a).toList) [.k _,.k _,.k _,.k _,.r λdz uz wz=>(∃gz:Nat,uz= .slice (some ⟨gz,0,none⟩) 1 1/\zm wz gz #[uy t] 3/\u3.heap.size<=gz),.r λdz uz wz=>(∃(a':uQ) (c':Nat),uz= .slice a' (tr.length+1) c'/\wz.ownsRow w.heap.size 3 1 (.slice a' (tr.length+1) c') (tr.length+1) (zf tr++zf [t])/\(∀q,zj a'=some q->zj a=some q\/u3.heap.size<=q)),.r λdz uz wz=>(∃(a':uQ) (c':Nat),(dz.getD 1 undef)= .slice a' (tr.length+1) c'/\uz= .agg (rC v' a' (tr.length+1) c'))] ⟨λ_ _ _ _ hb ⟨g,e,h,hs⟩=>⟨g,e,h.below hb,hs⟩,λ_ _ _ _ hb ⟨a,c,e,h,g⟩=>⟨a,c,e,zl h hb,g⟩,λ_ _ _ _ _ h=>h,trivial⟩ ⟨.inr (λ_ _ _ _ hT ⟨g,e,h,hs⟩=>⟨g,e,(hT.block g h.lt (λhm=>by have:=(zy l0.out g (by simpa using hm)).2;omega)).trans h,hs⟩),.inl rfl,.inr (λ_ _ _ _ _ h=>h),trivial⟩ ?s3 ?e3
    case s3=>
     repeat' apply And.intro
     all_goals first|trivial|(intro ρ w1 L hG hny hfr hd;obtain⟨fc,ff⟩:=xu hfr;have f8:=hfr (.tmp 8) rfl;have f9:=hfr (.tmp 9) rfl;have q1:=hfr (.tmp 11) rfl;have n0:=zZ hG.2 n0 (f0);have n1:=zZ hG.2 n1 (f0);have n2:=zZ hG.2 n2 (f0);have n3:=zZ hG.2 n3 (f0);have n4:=zZ hG.2 n4 (f0);have n5:=zZ hG.2 n5 (f0);have n6:=zZ hG.2 n6 (f0);have n7:=zZ hG.2 n7 (f0);have n8:=zZ hG.2 n8 (f0);have r9:=zZ hG.2 r9 (F0))
     exact Ym;exact Ym;exact XU;exact Ym
     ·obtain⟨d0,-⟩:=hd;have d0:(ρ (.tmp 55))=uy t:=d0;refine zh (u:= .slice (some ⟨w1.heap.size,0,none⟩) 1 1) (w':=w1.alloc (.cells #[uy t] 3)) (by go_simp) ⟨xk jk (zY),⟨_,rfl,zm.new _ _ _,hG.2.size⟩,yn,hG.step jk (zY)⟩
     ·obtain⟨d0,d1,-⟩:=hd;have d0:(ρ (.tmp 54))= .slice a tr.length c:=d0;have d1:(∃gz:Nat,(ρ (.tmp 56))= .slice (some ⟨gz,0,none⟩) 1 1/\zm w1 gz #[uy t] 3/\u3.heap.size<=gz):=d1;have hL:=hny 5 _ rfl (by kernel_rfl);have z0:=hG.1 hL;have ho:=zl l0.out z0;obtain⟨gz,d1,Z0,r1⟩:=d1;refine Kn (m:=1) (news:=zf [t]) _ _ 23 rfl Tryz.underlying23 yb rfl jk d0 ho d1 rfl (Rd.of_blk Z0) (yA _) jq jk (Nat.le_trans m1 z0.size) ?_;intro a' c' o1 k1 hg i1;have hT:zo (zj a).toList w1 o1:=zo.of_grown hg (λq hq=>by simpa using hq);exact⟨Xw hT,⟨a',c',rfl,k1,λq hq=>(i1 q hq).imp id (λh=>Nat.le_trans z0.size h)⟩,yn,hG.own hT⟩
     ·obtain⟨d0,d1,-⟩:=hd;have d0:(ρ (.tmp 52))=v'.val:=d0;have d1:(∃(a':uQ) (c':Nat),(ρ (.tmp 57))= .slice a' (tr.length+1) c'/\w1.ownsRow w.heap.size 3 1 (.slice a' (tr.length+1) c') (tr.length+1) (zf tr++zf [t])/\(∀q,zj a'=some q->zj a=some q\/u3.heap.size<=q)):=d1;obtain⟨a',c',d1,-,-⟩:=d1;have Y0:=Gs v' a' (tr.length+1) c' w1;refine zh (u:= .agg (rC v' a' (tr.length+1) c')) (w':=w1) (by go_simp) ⟨xk jk xd,⟨a',c',d1,rfl⟩,yn,hG.step jk xd⟩
    intro w2 X0;have hG:=And.intro trivial X0;refine yv ?_;intro K0 p0 r0 i0 M0 q0;replace p0:(∃gz:Nat,K0= .slice (some ⟨gz,0,none⟩) 1 1/\zm w2 gz #[uy t] 3/\u3.heap.size<=gz):=p0;replace i0:(∃(a':uQ) (c':Nat),r0= .slice a' (tr.length+1) c'/\w2.ownsRow w.heap.size 3 1 (.slice a' (tr.length+1) c') (tr.length+1) (zf tr++zf [t])/\(∀q,zj a'=some q->zj a=some q\/u3.heap.size<=q)):=i0;replace q0:(∃(a':uQ) (c':Nat),r0= .slice a' (tr.length+1) c'/\M0= .agg (rC v' a' (tr.length+1) c')):=q0;obtain⟨a',c',rfl,o0,H0⟩:=i0;obtain⟨a2,c2,e1,rfl⟩:=q0;obtain⟨rfl,rfl⟩:a'=a2/\c'=c2:=by simpa using e1
    clear e1 p0 r9 f0 F0 n0 n1 n2 n3 n4 n5 n6 n7 n8;have h4:=h3.appT 2 rfl hG.2 o0 H0;clear o0 H0 hG h3;have cr:=h4.fr.c10 1 rfl;have h5:=h4.setR 1 rfl v' a' (tr.length+1) c';have e:(tr++[t]).length=tr.length+1:=by rw[xp];rfl
    obtain⟨W5,J0,C0⟩:=h5.named;have h6:Sf w W5 (DN w R v' a' (tr++[t]).length c' (tr++[t]) u) v' L' (zJ p s t):=by rw[e];unfold DN;rw[xy];exact C0.sub (.cons _ (.refl _))
    have E:=zd e;have V0:=zd J0;clear h5 C0 h4 e J0;go_wp2;rw[<-V0.o];have A0:=h6.fr.cell 0 9 rfl rfl
    go_roundw
    case rel=>exact⟨v',L',zJ p s t,a',c',tr++[t],h6,HR.o.step HT.o,by rw[E.o];omega,zd (Q0.o s tr t HJ.o k0.out.symm),R0.o,by rw[U0.o,E.o];congr 1;omega⟩
    case measure=>
     unfold Pd;rw[u0.out,A0];show 101-(tr++[t]).length<101-tr.length;rw[E.o];omega
   ·have a0:=y0.out;rw[show 101-tr.length=(100-tr.length)+1 by omega,JE k0.out.symm j0] at a0;have x0:=zd a0;have t0:=zd j0;have cr:=h.fr.c10 0 rfl;have cp:=h.fr.c5 3 rfl;clear a0 j0;go_wp2_with fail;refine(gw u p v L s t _ (HP.o.below h.bel) h.rd HR.o t0.out).mono ?_;rintro e w2 ⟨rfl,hb⟩;have h2:=(h.call hb).alloc zC 38;clear hb h cr cp HN;go_upto_region 9 with fail;obtain⟨u3,hw,h3⟩:=h2.named;rw[<-hw];clear hw h2;have cz:=h3.fr.c10 3 rfl;have F2:=h3.setY 3 rfl;go_wp2;exact zM (v:= .tuple #[.agg yS,.bool false]) (by simp[results,Tryz.results42,go_sem,F2.fr.c10 3 rfl]) rfl ⟨F2.bel,.inl ⟨x0.out,rfl⟩⟩
end Go.Proofs.YtfclolgfegdfjaaGreat
