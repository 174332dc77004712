/- Part of a proof: IWalk IRunX IChoi IPlay. -/
import Derived.Test.YtnlijgjpgdjpiaaGreatQIStepT
import Derived.Test.YtnlijgjpgdjpiaaGreatQPRunC
set_option maxRecDepth 100000
set_option maxHeartbeats 16000000
namespace Go.Proofs.YtnlijgjpgdjpiaaGreat
open Go.RowKit
theorem ziS (u:PV) (p:Pg) (v:StV) (L:StL) (s:StD) (t:Int) (w:World) (hp:RdP w u p) (hr:StR w v L s) (hf:Run p s) (ht:t∉zD s):
  Calls Tryz.prog 63 #[.agg (pvC u),v.val,.int .i64 t] w λe w'=>e= .returned (.tuple #[.agg zC,.bool false])/\xW w w':=by
 have HS:=xH1 hr;have HP:=xH1 hp;have HF:=xH1 hf.fits;have HRD:=xH1 ht;have r8:(zD s).length<=8/\s.status.length<=8:=by
  have h1:=hf.fits.nst;have h2:=(zR hf.fits.prog).2.2.2.2.1;refine⟨?_,by omega⟩;rw[zcl];split
  ·have:=zc8 s s.status.length;omega
  ·simp
 clear hr hp hf ht;have F:=(((Fr.start w).alloc (pvC u) 40).alloc (svC v) 33).alloc zC 33;simp only[xDe] at F;have cs:=F.c9 1 rfl;have cp:=F.c5 2 rfl;go_enter Tryz.func63,Tryz.ntmps63;go_wp2_with fail;refine(zej u p v L s _ (HP.out.below F.bel) (HS.out.below F.bel) HF.out).mono ?_;rintro e w1 ⟨rfl,hb⟩;replace F:=F.call hb;replace cs:=F.c9 1 rfl;replace cp:=F.c5 2 rfl;clear hb;clear cp;go_wp2_with fail;refine(zed v L s _ (HS.out.below F.bel) r8.2).mono ?_;rintro e w1 ⟨a1,c1,rfl,ho,hb⟩;have F2:=F.row hb ho;clear hb ho F cs;go_wp2_with fail;refine(zaP a1 _ c1 (zD s) t _ rfl (by have:=r8.1;unfold maxLen;omega) (F2.rdRow 0 rfl)).mono ?_;rintro e wz ⟨rfl,hw⟩;obtain rfl:=hw;rw[zbI HRD.out];replace F:=F2.sub (.cons _ (.refl _));clear F2 r8;have cz:=F.c9 0 rfl;have F2:=F.setZ 0 rfl;go_wp2;exact xDd (v:= .tuple #[.agg zC,.bool false]) (by simp[results,Tryz.results63,go_sem,F2.c9 0 rfl]) rfl ⟨rfl,F2.bel⟩
abbrev wk4 (w:World) (R:Nat) (v:StV) (a:Option Addr) (n c:Nat) (tr:List Int) (u:PV):List It:=[.blk R (rC v a n c) 35,.row a n c 3 1 (ints tr),.blk (w.heap.size+1) z10 35,.blk w.heap.size (pvC u) 40]
theorem zhd (v:StV) (a:Option Addr) (n c:Nat) (w:World):(Instr.build 35 #[(0,v.val),(1,.slice a n c)]).run Tryz.prog w= .ok (.agg (rC v a n c)) w:=run_build w 35 _ _ (by kernel_rfl)
def trN (R:Nat) (wr:World):Nat:=match wr.cell? ⟨R,9,none⟩ with|some (.slice _ n _)=>101-n|_=>0
theorem zju {p:Pg} {ch:StD->List Int->Option Int} {n:Nat} {s:StD} {tr:List Int} (h:ch s tr=none) (hn:n<=100):zbb p ch (101-n) s tr=some (s,tr):=by
 rw[show 101-n=(100-n)+1 by omega];exact zfg h
def zi9 (w:World) (fn:FuncId) (caps:Array Value) (p:Pg) (ch:StD->List Int->Option Int) (J:List Int->Prop):Prop:=
 ∀(v:StV) (L:StL) (s:StD) (a b:Option Addr) (n c m d:Nat) (tr:List Int) (W:World),xW w W->StR W v L s->Run p s->tr.length=n->n<=100->J tr->Rd W a (ints tr)->(zD s).length=m->m<=8->Rd W b (ints (zD s))->
  Calls Tryz.prog fn (#[.agg (rC v a n c),.slice b m d]++caps) W λe w'=>e= .returned (.tuple #[.int .i64 ((ch s tr).getD 0),.bool (ch s tr).isSome])/\xW W w'
structure RunO (B:Nat) (w:World) (v:StV) (L:StL) (a:Option Addr) (c:Nat) (s:StD) (ts:List Int):Prop where
 st:StO (ze a).toList B w v L s
 nw:NewB B L
 tr:w.ownsRow B 3 1 (.slice a ts.length c) ts.length (ints ts)
 inn:InnT B w a ts.length c ts v s L
theorem zi1 (u:PV) (p:Pg) (w:World) (fn:FuncId) (caps:Array Value) (ch:StD->List Int->Option Int) (hp:RdP w u p) (hv:zu p=true) (hcf:∀(xs:Array Value) (W:World),(callFunc fn xs).run Tryz.prog W= .ok (.enter fn xs) W) (J:List Int->Prop) (hJ0:J []) (hJs:∀s tr t,J tr->ch s tr=some t->J (tr++[t])) (hc:zi9 w fn caps p ch J) (h100:∀s tr,J tr->100<=tr.length->ch s tr=none):
  Calls Tryz.prog 33 #[.agg (pvC u),.func (.func fn) #[] caps] w λe w'=>xW w w'/\((zbb p ch 101 (zae p) []=none/\e= .returned (.tuple #[.agg z10,.bool false]))\/∃(s:StD) (tr:List Int) (v:StV) (L:StL) (a:Option Addr) (c:Nat),zbb p ch 101 (zae p) []=some (s,tr)/\e= .returned (.tuple #[.agg (rC v a tr.length c),.bool true])/\RunO w.heap.size w' v L a c s tr/\Run p s):=by
 have HP:=xH1 hp;have HV:=xH1 hv;have HC:=xH1 hc;have HCF:=xH1 hcf;have H100:=xH1 h100;have HJ0:=xH1 hJ0;have HJS:=xH1 hJs;clear hp hv hc h100 hcf hJ0 hJs;have F:=((Fr.start w).alloc (pvC u) 40).alloc z10 35;simp only[xDe] at F;have cp:=F.c5 1 rfl;go_enter Tryz.func33,Tryz.ntmps33;go_wp2_with fail;refine(zhY u p _ (HP.out.below F.bel) HV.out).mono ?_;rintro e w1 ⟨v0,L0,rfl,ho,hn,hb⟩;have HN:=NewB.lower hn F.bel.size;have h0:=((Sf.gain F ho hn hb).nil 3 1).alloc (svC v0) 33;clear F ho hn hb cp;go_upto_region 4 with fail;obtain⟨W0,hw,h1⟩:=h0.named;rw[<-hw];clear h0 hw;have h2:=(h1.alloc (rC v0 none 0 0) 35).sub (l':=wk4 w W0.heap.size v0 none 0 0 [] u) (.cons_cons _ (.cons _ (.refl _)));have c0:=h1.c9 0 rfl;obtain⟨R,hR⟩:∃R,R=W0.heap.size:=⟨_,rfl⟩
 go_wp2_with fail;rw[<-hR] at h2⊢;clear hR
 go_loopw [9] (λ_ wr=>∃(v:StV) (L:StL) (s:StD) (a:Option Addr) (c:Nat) (tr:List Int),Sf w wr (wk4 w R v a tr.length c tr u) v L s/\Run p s/\tr.length<=100/\Hid (J tr)/\NewB w.heap.size L/\zbb p ch 101 (zae p) []=zbb p ch (101-tr.length) s tr) (λ_ wr=>trN R wr)
 case atStart=>exact⟨v0,L0,zae p,none,0,[],h2,Run.start HV.out,by simp,HJ0,HN,rfl⟩
 case round=>
  clear h2 h1 HN c0;obtain⟨v,L,s,a,c,tr,h,hrun,h100,HJ,HN,hwk⟩:=hrel;have HR:=xH1 hrun;have HWK:=xH1 hwk;have r8:(zD s).length<=8/\s.status.length<=8:=by
   have h1:=hrun.fits.nst;have h2:=(zR hrun.fits.prog).2.2.2.2.1;refine⟨?_,by omega⟩;rw[zcl];split
   ·have:=zc8 s s.status.length;omega
   ·simp
  have HO9:Hid (wr.cell? ⟨R,9,none⟩=some (.slice a tr.length c)):=xH1 (h.fr.cell 0 9 rfl rfl);obtain⟨u1,rfl⟩:∃x,x=wr:=⟨_,rfl⟩
  clear hrun hwk;go_wp2_with fail;apply zbc 11 [.k _,.k _,.k _,.k _,.r λdz uz wz=>∃(a1:Option Addr) (c1:Nat),uz= .slice a1 (zD s).length c1/\wz.ownsRow u1.heap.size 3 1 (.slice a1 (zD s).length c1) (zD s).length (ints (zD s)),.r λdz uz wz=>uz= .tuple #[.int .i64 ((ch s tr).getD 0),.bool (ch s tr).isSome],.k _,.k _,.k _,.k _,.k _] ⟨λ_ _ _ _ hb ⟨a,c,e,h⟩=>⟨a,c,e,zf h hb⟩,λ_ _ _ _ _ h=>h,trivial⟩ ?s1 ?e1
  case s1=>
   repeat' apply And.intro
   all_goals first|trivial|(intro ρ w1 hG hfr hd;obtain⟨fc,ff⟩:=fcff hfr;have f1:=hfr (.tmp 1) rfl;have f8:=hfr (.tmp 8) rfl;have F1:=h.fr.call hG;have cr:=F1.c10 0 rfl;clear F1)
   exact rk0;exact rk0;exact rk0;exact rk1
   ·obtain⟨d0,-⟩:=hd;have d0:ρ (.tmp 27)=_:=d0;refine zac (by go_simp;exact⟨⟨rfl,rfl⟩,rfl⟩) ?_;refine(zed v L s _ ((h.call hG).rd) r8.2).mono ?_;rintro e w2 ⟨a1,c1,rfl,ho,hb⟩;exact⟨_,rfl,hb,⟨a1,c1,rfl,zl ho hG.size⟩,xN1,hG.trans (hb.mono hG.size)⟩
   ·obtain⟨d0,d1,d2,-⟩:=hd;have d0:ρ (.tmp 24)=_:=d0;have d1:ρ (.tmp 25)=_:=d1;have d2:∃(a1:Option Addr) (c1:Nat),(ρ (.tmp 28))= .slice a1 (zD s).length c1/\w1.ownsRow u1.heap.size 3 1 (.slice a1 (zD s).length c1) (zD s).length (ints (zD s)):=d2;obtain⟨a1,c1,d2,ho⟩:=d2;refine zac (by go_simp;exact HCF.out _ _) ?_;refine(HC.out v L s a a1 tr.length c (zD s).length c1 tr w1 ((h.call hG).bel) ((h.call hG).rd) HR.out rfl h100 HJ.out ((h.call hG).fr.rdRow 1 rfl) rfl r8.1 (Rd.of_owns ho)).mono ?_;rintro e w2 ⟨rfl,hb⟩;exact⟨_,rfl,hb,rfl,xN1,hG.trans (hb.mono hG.size)⟩
   exact rk1;exact rk1;exact rk1;exact rk1;exact rk1
  intro w2 hG;refine zao ?_;intro xv4 hv4 xv5 hv5;clear hv4;obtain⟨oc,hoc⟩:∃o,o=ch s tr:=⟨_,rfl⟩
  rw[<-hoc];have HOC:=xH1 hoc;replace h:=h.call hG;clear hoc hG;obtain⟨u2,rfl⟩:∃x,x=w2:=⟨_,rfl⟩
  cases oc with
  |none=>
   have hwk:=HWK.out;rw[zju HOC.out.symm h100] at hwk;have HWE:=xH1 hwk;clear hwk;go_wp2_with fail;apply zbc 7 [.k _,.k _,.r λdz uz wz=>∃(v':StV) (L':StL),uz=v'.val/\StO [] u2.heap.size wz v' L' s/\NewB u2.heap.size L'/\Inn u2.heap.size wz v' s L',.k _,.k _,.r λdz uz wz=>∃(v':StV) (L':StL) (a':Option Addr) (c':Nat),(dz.getD 1 undef)=v'.val/\uz= .slice a' tr.length c'/\StO (ze a').toList u2.heap.size wz v' L' s/\NewB u2.heap.size L'/\wz.ownsRow u2.heap.size 3 1 (.slice a' tr.length c') tr.length (ints tr)/\InnT u2.heap.size wz a' tr.length c' tr v' s L',.r λdz uz wz=>∃(v':StV) (L':StL) (a':Option Addr) (c':Nat),uz= .agg (rC v' a' tr.length c')/\StO (ze a').toList u2.heap.size wz v' L' s/\NewB u2.heap.size L'/\wz.ownsRow u2.heap.size 3 1 (.slice a' tr.length c') tr.length (ints tr)/\InnT u2.heap.size wz a' tr.length c' tr v' s L'] ⟨λ_ _ _ _ hb ⟨v',L',e,h,hn,hi⟩=>⟨v',L',e,h.below hb,hn,hi.below hb⟩,λ_ _ _ _ hb ⟨v',L',a',c',e1,e2,h,hn,ho,hi⟩=>⟨v',L',a',c',e1,e2,h.below hb,hn,zf ho hb,hi.below hb⟩,λ_ _ _ _ hb ⟨v',L',a',c',e2,h,hn,ho,hi⟩=>⟨v',L',a',c',e2,h.below hb,hn,zf ho hb,hi.below hb⟩,trivial⟩ ?s2 ?e2
   case s2=>
    repeat' apply And.intro
    all_goals first|trivial|(intro ρ w1 hG hfr hd;obtain⟨fc,ff⟩:=fcff hfr;have f8:=hfr (.tmp 8) rfl;have F1:=h.fr.call hG;have cr:=F1.c10 0 rfl;clear F1)
    exact rk0;exact rk1
    ·obtain⟨d0,-⟩:=hd;have d0:ρ (.tmp 35)=_:=d0;refine zac (by go_simp;exact⟨⟨rfl,rfl⟩,rfl⟩) ?_;refine(zef v L s _ ((h.call hG).rd) HR.out.fits.sm).mono ?_;rintro e w2 ⟨v',L',rfl,ho,hn,F9⟩;exact⟨_,rfl,F9.bel,⟨v',L',rfl,ho.lower hG.size,NewB.lower hn hG.size,(Inn.of F9).lower hG.size⟩,xN1,hG.trans (F9.bel.mono hG.size)⟩
    exact rk0;exact rk1
    ·obtain⟨d0,d1,-⟩:=hd;have d0:ρ (.tmp 38)=_:=d0;have d1:∃(v':StV) (L':StL),(ρ (.tmp 36))=v'.val/\StO [] u2.heap.size w1 v' L' s/\NewB u2.heap.size L'/\Inn u2.heap.size w1 v' s L':=d1;obtain⟨v',L',d1,ho',hn',hi'⟩:=d1;refine zac (by go_simp;exact⟨⟨rfl,rfl⟩,rfl⟩) ?_;refine(z9 a tr.length c tr w1 rfl (by omega) ((h.call hG).fr.rdRow 1 rfl)).mono ?_;rintro e w2 ⟨a1,c1,rfl,ho,hb⟩;exact⟨_,rfl,hb,⟨v',L',a1,c1,d1,rfl,ho'.newer hb (λq hq=>zp ho q (by simpa using hq)),hn',zl ho hG.size,hi'.trace hb ho hG.size⟩,xN1,hG.trans (hb.mono hG.size)⟩
    ·obtain⟨d0,d1,-⟩:=hd;have d0:∃(v':StV) (L':StL),(ρ (.tmp 36))=v'.val/\StO [] u2.heap.size w1 v' L' s/\NewB u2.heap.size L'/\Inn u2.heap.size w1 v' s L':=d0;have d1:∃(v':StV) (L':StL) (a':Option Addr) (c':Nat),(ρ (.tmp 36))=v'.val/\(ρ (.tmp 39))= .slice a' tr.length c'/\StO (ze a').toList u2.heap.size w1 v' L' s/\NewB u2.heap.size L'/\w1.ownsRow u2.heap.size 3 1 (.slice a' tr.length c') tr.length (ints tr)/\InnT u2.heap.size w1 a' tr.length c' tr v' s L':=d1;clear d0;obtain⟨v',L',a',c',e1,e2,ho,hn,hr,hi⟩:=d1;have hbd:=zhd v' a' tr.length c' w1;exact gvF hG (by go_simp) ⟨v',L',a',c',rfl,ho,hn,hr,hi⟩ xN1
   intro w2 hG;refine zao ?_;intro xv2 hv2 xv5 hv5 xv6 hv6;replace hv5:∃(v':StV) (L':StL) (a':Option Addr) (c':Nat),xv2=v'.val/\xv5= .slice a' tr.length c'/\StO (ze a').toList u2.heap.size w2 v' L' s/\NewB u2.heap.size L'/\w2.ownsRow u2.heap.size 3 1 (.slice a' tr.length c') tr.length (ints tr)/\InnT u2.heap.size w2 a' tr.length c' tr v' s L':=hv5;obtain⟨v',L',a',c',rfl,ho,hn,hr,hi⟩:=hv6;clear hv2 hv5;have HNN:=xH1 (NewB.lower hn h.bel.size);have G:=Sf.gainR h.fr hG hr ho hn;have HII:=xH1 ((hi.lower h.bel.size).set (G.fr.blk 3 rfl) ⟨by decide,by decide,by decide⟩ ((((((((((((zi.refl _ _).set (j:=0) (v:= .slice v'.pl.a v'.pl.n v'.pl.c) xS2).set (j:=1) (v:= .slice v'.st.a v'.st.n v'.st.c) xS2).set (j:=2) (v:= .slice v'.se.a v'.se.n v'.se.c) xS2).set (j:=3) (v:= .slice v'.on.a v'.on.n v'.on.c) xS2).set (j:=4) (v:= .slice v'.gr.a v'.gr.n v'.gr.c) xS2).set (j:=5) (v:= .slice v'.ba.a v'.ba.n v'.ba.c) xS2).set (j:=6) (v:= .slice v'.ch.a v'.ch.n v'.ch.c) xS2).set (j:=7) (v:= .slice v'.sa.a v'.sa.n v'.sa.c) xS2).set (j:=8) (v:= .int .i64 v'.fl) xS2).set (j:=9) (v:= .slice a' tr.length c') xS2)));clear ho hn hr h hG hi;have cz:=G.fr.c10 3 rfl;have G2:=G.setR 3 rfl v' a' tr.length c';go_wp2
   exact xDd (v:= .tuple #[.agg (rC v' a' tr.length c'),.bool true]) (by simp[results,Tryz.results33,go_sem,G2.fr.c10 3 rfl]) rfl ⟨G2.bel,.inr ⟨s,tr,v',L',a',c',HWE.out,rfl,⟨G2.st.sub λq hq=>xQ1 (.inl hq),HNN.out,G2.fr.own 0 rfl,HII.out⟩,HR.out⟩⟩
  |some t=>
   have ht100:tr.length<100:=Nat.lt_of_not_le λh=>by
    have h1:=H100.out s tr HJ.out h;rw[<-HOC.out] at h1
    cases h1
   by_cases hin:t∈zD s
   ·have hwk:=HWK.out;rw[show 101-tr.length=(100-tr.length)+1 by omega,zeW HOC.out.symm hin] at hwk;have HW2:=xH1 hwk;have HT:=xH1 (HR.out.fits.turn hin);have HIN:=xH1 hin;have cr:=h.fr.c10 0 rfl;have cp:=h.fr.c5 3 rfl;have HOLD:Hid (u1.cell? ⟨R,9,none⟩=some (.slice a tr.length c)):=HO9;clear hwk hin;go_wp2_with fail;refine(ziU u p v L s t _ (HP.out.below h.bel) h.rd HR.out HIN.out).mono ?_;rintro e w2 ⟨v',L',rfl,ho,hn,hb⟩;have HN2:=xH1 (NewB.lower hn h.bel.size);have h2:=(Sf.gain h.fr ho hn hb).alloc (svC v') 33;clear ho hn hb h cr cp HN;go_upto_region 11 with fail;obtain⟨u3,hw,h3⟩:=h2.named;rw[<-hw];clear hw h2;obtain⟨N,hN⟩:∃N,N=w2.heap.size:=⟨_,rfl⟩
    rw[<-hN] at h3⊢;clear hN;have hNS:N∉(ze a).toList:=h3.fr.apart 0 2 rfl rfl (by decide) N xS2;have hRS:R∉(ze a).toList:=h3.fr.apart 1 2 rfl rfl (by decide) R xS2;have HROW:=xH1 (h3.fr.own 2 rfl);have hwb:=h3.bel.size;have r9:=h3.fr.cell 1 9 rfl rfl;go_wp2_with fail;have n0:=h3.fr.cell 0 0 rfl rfl;have n1:=h3.fr.cell 0 1 rfl rfl;have n2:=h3.fr.cell 0 2 rfl rfl;have n3:=h3.fr.cell 0 3 rfl rfl;have n4:=h3.fr.cell 0 4 rfl rfl;have n5:=h3.fr.cell 0 5 rfl rfl;have n6:=h3.fr.cell 0 6 rfl rfl;have n7:=h3.fr.cell 0 7 rfl rfl;have n8:=h3.fr.cell 0 8 rfl rfl
    refine za1 7 (by kernel_rfl) (by kernel_rfl) [λdz uz wz=>uz=v'.val,λdz uz wz=>uz= .pointer (some ⟨R,9,none⟩),λdz uz wz=>uz= .slice a tr.length c,λdz uz wz=>uz= .int .i64 t,λdz uz wz=>(∃gz:Nat,uz= .slice (some ⟨gz,0,none⟩) 1 1/\Blk wz gz #[.int .i64 t] 3/\u3.heap.size<=gz),λdz uz wz=>(∃(a':Option Addr) (c':Nat),uz= .slice a' (tr.length+1) c'/\wz.ownsRow w.heap.size 3 1 (.slice a' (tr.length+1) c') (tr.length+1) (ints tr++ints [t])/\(∀q,ze a'=some q->ze a=some q\/u3.heap.size<=q)),λdz uz wz=>(∃(a':Option Addr) (c':Nat),(dz.getD 1 undef)= .slice a' (tr.length+1) c'/\uz= .agg (rC v' a' (tr.length+1) c'))] (St1 5 (zi (ze a).toList)) (λ_ _=>none) (za2 5 (ze a).toList u3) (za2.start _ _ _) (zcZ (λ_ _ h=>h.size)) (zc1 ⟨λ_ _ _ _ _ h=>h,λ_ _ _ _ _ h=>h,λ_ _ _ _ _ h=>h,λ_ _ _ _ _ h=>h,λ_ _ _ _ hb ⟨g,e,h,hs⟩=>⟨g,e,h.below hb,hs⟩,λ_ _ _ _ hb ⟨a,c,e,h,g⟩=>⟨a,c,e,zf h hb,g⟩,λ_ _ _ _ _ h=>h,trivial⟩ ⟨.inr (λ_ _ _ _ _ h=>h),.inr (λ_ _ _ _ _ h=>h),.inr (λ_ _ _ _ _ h=>h),.inr (λ_ _ _ _ _ h=>h),.inr (λ_ _ _ _ hT ⟨g,e,h,hs⟩=>⟨g,e,(hT.block g h.lt (λhm=>by have:=(zp HROW.out g (by simpa using hm)).2;omega)).trans h,hs⟩),.inl rfl,.inr (λ_ _ _ _ _ h=>h),trivial⟩) ?_ ?_
    ·simp only[List.take_succ_cons,List.take_zero];refine⟨?_,?_,?_,?_,?_,?_,?_,trivial⟩
     ·intro ρ w1 L hG hny hfr hd;obtain⟨fc,ff⟩:=xF1 hfr;have f11:ρ (.tmp 11)= .pointer (some ⟨N,0,none⟩):=hfr _ rfl;have n0:=zB hG.2 n0 (hNS);have n1:=zB hG.2 n1 (hNS);have n2:=zB hG.2 n2 (hNS);have n3:=zB hG.2 n3 (hNS);have n4:=zB hG.2 n4 (hNS);have n5:=zB hG.2 n5 (hNS);have n6:=zB hG.2 n6 (hNS);have n7:=zB hG.2 n7 (hNS);have n8:=zB hG.2 n8 (hNS);refine zh (u:=v'.val) (w':=w1) (by go_simp) ⟨zI (by decide) xB1,rfl,xN1,hG.step (by decide) xB1⟩
     ·intro ρ w1 L hG hny hfr hd;obtain⟨fc,ff⟩:=xF1 hfr;have f8:ρ (.tmp 8)= .pointer (some ⟨R,0,none⟩):=hfr _ rfl;refine zh (u:= .pointer (some ⟨R,9,none⟩)) (w':=w1) (by go_simp) ⟨zI (by decide) xB1,rfl,xN1,hG.step (by decide) xB1⟩
     ·intro ρ w1 L hG hny hfr hd;obtain⟨fc,ff⟩:=xF1 hfr;obtain⟨d0,-⟩:=hd;have d0:(ρ (.tmp 53))= .pointer (some ⟨R,9,none⟩):=d0;have r9:=zB hG.2 r9 (hRS);refine zh (u:= .slice a tr.length c) (w':=w1) (by go_simp) ⟨zI (by decide) xB1,rfl,xN1,hG.step (by decide) xB1⟩
     ·intro ρ w1 L hG hny hfr hd;obtain⟨fc,ff⟩:=xF1 hfr;have f9:ρ (.tmp 9)= .int .i64 t:=hfr _ rfl;refine zh (u:= .int .i64 t) (w':=w1) (by go_simp) ⟨zI (by decide) xB1,rfl,xN1,hG.step (by decide) xB1⟩
     ·intro ρ w1 L hG hny hfr hd;obtain⟨fc,ff⟩:=xF1 hfr;obtain⟨d0,-⟩:=hd;have d0:(ρ (.tmp 55))= .int .i64 t:=d0;refine zh (u:= .slice (some ⟨w1.heap.size,0,none⟩) 1 1) (w':=w1.alloc (.cells #[.int .i64 t] 3)) (by go_simp) ⟨zI (by decide) (xA1),⟨_,rfl,Blk.new _ _ _,hG.2.size⟩,xN1,hG.step (by decide) (xA1)⟩
     ·intro ρ w1 L hG hny hfr hd;obtain⟨fc,ff⟩:=xF1 hfr;obtain⟨d0,d1,-⟩:=hd;have d0:(ρ (.tmp 54))= .slice a tr.length c:=d0;have d1:(∃gz:Nat,(ρ (.tmp 56))= .slice (some ⟨gz,0,none⟩) 1 1/\Blk w1 gz #[.int .i64 t] 3/\u3.heap.size<=gz):=d1;have hL:=hny 5 _ rfl (by kernel_rfl);have hbe:=hG.1 hL;have ho:=zf HROW.out hbe;obtain⟨gz,d1,hgz,hgs⟩:=d1;refine zgb (m:=1) (news:=ints [t]) _ _ 22 rfl Tryz.underlying22 zM rfl (by decide) d0 ho d1 rfl (Rd.of_blk hgz) (zaa _) (by omega) (by decide) (Nat.le_trans hwb hbe.size) ?_;intro a' c' w2' ho2 hg hn2;have hT:zi (ze a).toList w1 w2':=zi.of_grown hg (λq hq=>by simpa using hq);exact⟨zdw hT,⟨a',c',rfl,ho2,λq hq=>(hn2 q hq).imp id (λh=>Nat.le_trans hbe.size h)⟩,xN1,hG.own hT⟩
     ·intro ρ w1 L hG hny hfr hd;obtain⟨fc,ff⟩:=xF1 hfr;obtain⟨d0,d1,-⟩:=hd;have d0:(ρ (.tmp 52))=v'.val:=d0;have d1:(∃(a':Option Addr) (c':Nat),(ρ (.tmp 57))= .slice a' (tr.length+1) c'/\w1.ownsRow w.heap.size 3 1 (.slice a' (tr.length+1) c') (tr.length+1) (ints tr++ints [t])/\(∀q,ze a'=some q->ze a=some q\/u3.heap.size<=q)):=d1;obtain⟨a',c',d1,-,-⟩:=d1;have hbd:=zhd v' a' (tr.length+1) c' w1;refine zh (u:= .agg (rC v' a' (tr.length+1) c')) (w':=w1) (by go_simp) ⟨zI (by decide) xB1,⟨a',c',d1,rfl⟩,xN1,hG.step (by decide) xB1⟩
    intro vs w2 LL hG hlen hall hap hbd;obtain⟨xv0,vs0,rfl,hl0⟩:=zk hlen;obtain⟨xv1,vs1,rfl,hl1⟩:=zk hl0;obtain⟨xv2,vs2,rfl,hl2⟩:=zk hl1;obtain⟨xv3,vs3,rfl,hl3⟩:=zk hl2;obtain⟨xv4,vs4,rfl,hl4⟩:=zk hl3;obtain⟨xv5,vs5,rfl,hl5⟩:=zk hl4;obtain⟨xv6,vs6,rfl,hl6⟩:=zk hl5;obtain rfl:=zcD hl6;clear hlen hl0 hl1 hl2 hl3 hl4 hl5 hl6;simp only[List.take_succ_cons,List.take_zero,List.drop_succ_cons,List.drop_zero] at hall⊢;obtain⟨t0',t1',t2',t3',t4',t5',t6',-⟩:=hall;have hv0:xv0=v'.val:=t0';have hv1:xv1= .pointer (some ⟨R,9,none⟩):=t1';have hv2:xv2= .slice a tr.length c:=t2';have hv3:xv3= .int .i64 t:=t3';have hv4:(∃gz:Nat,xv4= .slice (some ⟨gz,0,none⟩) 1 1/\Blk w2 gz #[.int .i64 t] 3/\u3.heap.size<=gz):=t4';have hv5:(∃(a':Option Addr) (c':Nat),xv5= .slice a' (tr.length+1) c'/\w2.ownsRow w.heap.size 3 1 (.slice a' (tr.length+1) c') (tr.length+1) (ints tr++ints [t])/\(∀q,ze a'=some q->ze a=some q\/u3.heap.size<=q)):=t5';have hv6:(∃(a':Option Addr) (c':Nat),xv5= .slice a' (tr.length+1) c'/\xv6= .agg (rC v' a' (tr.length+1) c')):=t6';clear t0' t1' t2' t3' t4' t5' t6';clear hap hbd;subst hv0 hv1 hv2 hv3;obtain⟨a',c',rfl,hrow,hnr⟩:=hv5;obtain⟨a2,c2,e1,rfl⟩:=hv6;obtain⟨rfl,rfl⟩:a'=a2/\c'=c2:=by simpa using e1
    clear e1 hv4 r9 hNS hRS n0 n1 n2 n3 n4 n5 n6 n7 n8;have h4:=h3.appT 2 rfl hG.2 hrow hnr;clear hrow hnr hG h3;simp only[zap,Act.put,List.setIfInBounds_toArray,List.set_cons_succ,List.set_cons_zero];have cr:=h4.fr.c10 1 rfl;have h5:=h4.setR 1 rfl v' a' (tr.length+1) c';have e:(tr++[t]).length=tr.length+1:=by rw[xDh];rfl
    obtain⟨W5,hw5,h5b⟩:=h5.named;have h6:Sf w W5 (wk4 w R v' a' (tr++[t]).length c' (tr++[t]) u) v' L' (zx p s t):=by rw[e];unfold wk4;rw[zaw];exact h5b.sub (.cons _ (.refl _))
    have E:=xH1 e;have HW5:=xH1 hw5;clear h5 h5b h4 e hw5;go_wp2;rw[<-HW5.out];have hnew:=h6.fr.cell 0 9 rfl rfl
    go_roundw
    case rel=>exact⟨v',L',zx p s t,a',c',tr++[t],h6,HR.out.step HT.out,by rw[E.out];omega,xH1 (HJS.out s tr t HJ.out HOC.out.symm),HN2.out,by rw[HW2.out,E.out];congr 1;omega⟩
    case measure=>
     unfold trN;rw[HOLD.out,hnew];show 101-(tr++[t]).length<101-tr.length;rw[E.out];omega
   ·have hwk:=HWK.out;rw[show 101-tr.length=(100-tr.length)+1 by omega,zj7 HOC.out.symm hin] at hwk;have HWE:=xH1 hwk;have HIN:=xH1 hin;have cr:=h.fr.c10 0 rfl;have cp:=h.fr.c5 3 rfl;clear hwk hin;go_wp2_with fail;refine(ziS u p v L s t _ (HP.out.below h.bel) h.rd HR.out HIN.out).mono ?_;rintro e w2 ⟨rfl,hb⟩;have h2:=(h.call hb).alloc zC 33;clear hb h cr cp HN;go_upto_region 9 with fail;obtain⟨u3,hw,h3⟩:=h2.named;rw[<-hw];clear hw h2;have cz:=h3.fr.c10 3 rfl;have F2:=h3.setY 3 rfl;go_wp2;exact xDd (v:= .tuple #[.agg z10,.bool false]) (by simp[results,Tryz.results33,go_sem,F2.fr.c10 3 rfl]) rfl ⟨F2.bel,.inl ⟨HWE.out,rfl⟩⟩
def rsW (o:Option (StD×List Int)) (w:World) (e:Ending) (w':World):Prop:=xW w w'/\((o=none/\e= .returned (.tuple #[.agg z10,.bool false]))\/∃(p:Pg) (s:StD) (tr:List Int) (v:StV) (L:StL) (a:Option Addr) (c:Nat),o=some (s,tr)/\tr.length<=100/\e= .returned (.tuple #[.agg (rC v a tr.length c),.bool true])/\RunO w.heap.size w' v L a c s tr/\Run p s)
theorem zi3 (u:PV) (p:Pg) (w:World) (g:Value) (hp:RdP w u p) (hz:zbB u p) (hv:zu p=false):
  Calls Tryz.prog 33 #[.agg (pvC u),g] w λe w'=>e= .returned (.tuple #[.agg z10,.bool false])/\xW w w':=by
 have HP:=xH1 hp;have HV:=xH1 hv;have HZ:=xH1 hz;clear hp hv hz;have F:=((Fr.start w).alloc (pvC u) 40).alloc z10 35;simp only[xDe] at F;have cp:=F.c5 1 rfl;go_enter Tryz.func33,Tryz.ntmps33;go_wp2_with fail;refine(zh3 u p _ (HP.out.below F.bel) HZ.out HV.out).mono ?_;rintro e w1 ⟨rfl,hb⟩;have F1:=(F.call hb).alloc zC 33;clear F hb cp;go_upto_region 2 with fail;obtain⟨W1,hw,F2⟩:=F1.named;rw[<-hw];clear hw F1;have c10:=F2.c10 1 rfl;have F3:=F2.setY 1 rfl;go_wp2;exact xDd (v:= .tuple #[.agg z10,.bool false]) (by simp[results,Tryz.results33,go_sem,F3.c10 1 rfl]) rfl ⟨rfl,F3.bel⟩
theorem zlj (x:Int) (w:World):
  Calls Tryz.prog 32 #[.int .i64 x] w λe w'=>e= .returned (.bool (decide (x<0)))/\w'=w:=by
 go_enter Tryz.func32,Tryz.ntmps32;go_wp2;go_ret;exact⟨rfl,rfl⟩
theorem zld (a:Option Addr) (n c:Nat) (l:List Int) (w:World) (hl:l.length=n) (hn:n<=100) (hr:Rd w a (ints l)):
  Calls Tryz.prog 44 #[.slice a n c,.func (.func 32) #[] #[]] w λe w'=>w'=w/\((e= .returned (.int .i64 (-1))/\∀j,j<n->¬l.getD j 0<0)\/∃k:Nat,e= .returned (.int .i64 k)/\k<n/\l.getD k 0<0):=by
 have HL:=xH1 hl;clear hl;go_enter Tryz.func44,Tryz.ntmps44;go_wp2
 go_loopw [8] (λi wr=>∃k:Nat,k<=n/\i= .int .i64 k/\Hid (∀j,j<k->¬l.getD j 0<0)/\wr=w) (λi _=>n-(intOf i).toNat)
 case atStart=>exact⟨0,by omega,rfl,xH1 (by omega),rfl⟩
 case round=>
  obtain⟨k,hk,rfl,hall,rfl⟩:=hrel;by_cases hlt:k<n
  ·obtain⟨b,o,rfl,hcc⟩:=hr.int (by have:=HL.out;omega);have g:=hcc k (by have:=HL.out;omega);obtain⟨x,hx⟩:∃x,x=l.getD k 0:=⟨_,rfl⟩
   rw[<-hx] at g;have HX:=xH1 hx;clear hcc hx;go_wp2_with fail;refine(zlj x _).mono ?_;rintro e wz ⟨rfl,hw⟩;obtain rfl:=hw;by_cases e:x<0
   ·rw[xDk e];have HE:=xH1 e;clear e;go_wp2;go_ret;exact⟨rfl,.inr ⟨k,rfl,hlt,by have h1:=HX.out;have h2:=HE.out;rw[xDa] at h1;omega⟩⟩
   ·rw[xDj e];have HE:=xH1 e;clear e;go_wp2
    go_roundw
    case rel=>exact⟨k+1,by omega,by go_num,xH1 (λj hj=>by
      rcases Nat.lt_or_ge j k with h|h
      ·have:=hall.out j h;omega
      ·have:j=k:=(by omega);subst this;have h1:=HX.out;have h2:=HE.out;omega),trivial⟩
    case measure=>simp[intOf];omega
  ·have hkm:k=n:=(by omega);subst hkm;go_wp2;go_ret;exact⟨rfl,.inl ⟨rfl,hall.out⟩⟩
theorem zle (a:Option Addr) (n c:Nat) (l:List Int) (w:World) (hl:l.length=n) (hn:n<=100) (hr:Rd w a (ints l)):
  Calls Tryz.prog 31 #[.slice a n c,.func (.func 32) #[] #[]] w λe w'=>w'=w/\e= .returned (.bool (!l.all (λx=>decide (0<=x)))):=by
 have HL:=xH1 hl;clear hl;go_enter Tryz.func31,Tryz.ntmps31;go_wp2_with fail;refine(zld a n c l w HL.out hn hr).mono ?_;rintro e wz ⟨hw,h⟩;obtain rfl:=hw;rcases h with ⟨rfl,hall⟩|⟨k,rfl,hk,hne⟩
 ·have t1:l.all (λx=>decide (0<=x))=true:=by
   rw[List.all_eq_true];intro x hx;obtain⟨j,hj,rfl⟩:=List.mem_iff_getElem.1 hx;have:=hall j (by have:=HL.out;omega);rw[xDa,xDb hj] at this;simpa using this
  have T1:=xH1 t1;clear t1 hall;go_wp2;go_ret;exact⟨rfl,by rw[T1.out];rfl⟩
 ·have t1:l.all (λx=>decide (0<=x))=false:=by
   rw[List.all_eq_false];have hj:k<l.length:=by have:=HL.out;omega
   rw[xDa,xDb hj] at hne;exact⟨_,List.getElem_mem hj,by simpa using hne⟩
  have T1:=xH1 t1;have k0:(0:Int)<=(k:Int):=by omega
  clear t1 hne;go_wp2;go_ret;exact⟨rfl,by rw[T1.out];rfl⟩
theorem zla (T:List Int) (B N c0:Nat) (a0:Option Addr) (w:World) (p:Pg) (hb:w.cell? ⟨B,0,none⟩=some (.slice a0 N c0)) (hT:Rd w a0 (ints T)) (hl0:T.length=N) (hN:N<=100) (h0:∀i,i<N->0<=T.getD i 0):zi9 w 34 #[.pointer (some ⟨B,0,none⟩)] p (zk2 T) (λtr=>tr.length<=N):=by
 intro v L s a b n c m d tr W hbw hs hr hl h100 hJ hrd hm hm8 hrl;show Calls Tryz.prog 34 #[.agg (rC v a n c),.slice b m d,.pointer (some ⟨B,0,none⟩)] W _;obtain⟨l,el⟩:∃l,l=zD s:=⟨_,rfl⟩
 unfold zk2;rw[<-el] at hm hrl⊢;have F:=(Fr.start W).alloc (rC v a n c) 35;have cr:=F.c10 0 rfl;have HB:=xH1 F.bel;have hc:=zd HB.out (zd hbw hb);have HT:=xH1 ((hT.below hbw).below HB.out);have HRL:=xH1 (hrl.below HB.out);have HL:=xH1 hl;have HL0:=xH1 hl0;have HM:=xH1 hm;have H0:=xH1 h0;clear hs hr hrd hm hrl hb hT hbw hl hl0 F el h0;replace hJ:tr.length<=N:=hJ;go_enter Tryz.func34,Tryz.ntmps34;by_cases h0:m=0
 ·subst h0;rw[if_pos (.inl HM.out)];go_wp2;exact xDd (v:= .tuple #[.int .i64 0,.bool false]) (by simp[results,Tryz.results34,go_sem]) rfl ⟨rfl,HB.out⟩
 have t0:((m:Int)==0)=false:=by simpa using h0
 by_cases hn:n=N
 ·have t1:((n:Int)==(N:Int))=true:=by simp;omega
  rw[if_pos (.inr (by rw[HL.out,HL0.out,hn]))];clear hn h0;go_wp2;exact xDd (v:= .tuple #[.int .i64 0,.bool false]) (by simp[results,Tryz.results34,go_sem]) rfl ⟨rfl,HB.out⟩
 ·have t1:((n:Int)==(N:Int))=false:=by simp;omega
  have hlt:n<N:=by have:=HL.out;omega
  rw[if_neg (by have:=HL.out;have:=HL0.out;have:=HM.out;omega),HL.out];obtain⟨b1,o1,rfl,g'⟩:=HT.out.int (by have:=HL0.out;omega);have g:World.cell? _ ⟨b1,o1+n,none⟩=some (.int .i64 (T.getD n 0)):=g' n (by have:=HL0.out;omega);have hx0:=H0.out n hlt;obtain⟨x,hx⟩:∃x,x=T.getD n 0:=⟨_,rfl⟩
  rw[<-hx] at g hx0⊢;clear hx g';obtain⟨y,rfl⟩:∃y:Nat,x=y:=⟨x.toNat,by omega⟩
  rw[HM.out];have hy:y% m<m:=Nat.mod_lt _ (by omega);obtain⟨b2,o2,rfl,g2'⟩:=HRL.out.int (by have:=HM.out;omega);have g2:World.cell? _ ⟨b2,o2+y% m,none⟩=some (.int .i64 (l.getD (y% m) 0)):=g2' (y% m) (by have:=HM.out;omega);obtain⟨z,hz⟩:∃z,z=l.getD (y% m) 0:=⟨_,rfl⟩
  rw[<-hz] at g2;have l0:(0:Int)<=(n:Int):=by omega
  have l1:(n:Int)<(N:Int):=by omega
  have m0:((m:Int)=0)=False:=by simp;omega
  have HZ:=xH1 hz;clear hn h0 hx0 g2' hz hlt hJ;have e1:Int.tmod (y:Int) (m:Int)=((y% m:Nat):Int):=rfl;have l2:(0:Int)<=((y% m:Nat):Int):=by omega
  have l3:((y% m:Nat):Int)<(m:Int):=by omega
  go_wp2;exact xDd (v:= .tuple #[.int .i64 z,.bool true]) (by simp[results,Tryz.results34,go_sem]) rfl ⟨by rw[HZ.out];rfl,HB.out⟩
theorem zln {T:List Int} (hT:T.length<=100) {p:Pg} {s:StD} {tr:List Int} (h:zbb p (zk2 T) 101 (zae p) []=some (s,tr)):tr.length<=100:=by
 have key:∀(n:Nat) (s0:StD) (t0:List Int),zbb p (zk2 T) n s0 t0=some (s,tr)->t0.length<=T.length->tr.length<=T.length:=by
  intro n
  induction n with
  |zero=>intro s0 t0 h;cases h
  |succ n ih=>
   intro s0 t0 h hl;unfold zbb at h;split at h
   ·obtain⟨-,rfl⟩:=Prod.mk.inj (Option.some.inj h);exact hl
   ·next t e=>
    split at h
    ·refine ih _ _ h ?_;unfold zk2 at e;split at e
     ·cases e
     ·next hq=>rw[xDh];show t0.length+1<=T.length;omega
    ·cases h
 exact Nat.le_trans (key 101 _ _ h (Nat.zero_le _)) hT
theorem zk5 (u:PV) (p:Pg) (a0:Option Addr) (N c0:Nat) (T:List Int) (w:World) (hp:RdP w u p) (hz:zbB u p) (hT:Rd w a0 (ints T)) (hl:T.length=N) (hN:N<=1048576):
  Calls Tryz.prog 11 #[.agg (pvC u),.slice a0 N c0] w (rsW (zk4 p T) w):=by
 have HP:=xH1 hp;have HZ:=xH1 hz;have F:=(((Fr.start w).alloc (pvC u) 40).alloc #[.slice a0 N c0] 22).alloc z10 35;simp only[xDe] at F;have HT:=xH1 (hT.below F.bel);have HL:=xH1 hl;have cp:=F.c5 2 rfl;have ct:=F.cell 1 0 rfl rfl;clear hp hz hT hl;have cz:=F.c10 0 rfl;have F0:=F.setY 0 rfl;by_cases hbig:100<N
 ·have t1:decide ((100:Int)<(N:Int))=true:=xDk (by omega);have hno:zk4 p T=none:=if_neg (by have:=HL.out;omega);have HNO:=xH1 hno;clear hno F0;go_enter Tryz.func11,Tryz.ntmps11;go_wp2;exact xDd (v:= .tuple #[.agg z10,.bool false]) (by simp[results,Tryz.results11,go_sem,F.c10 0 rfl]) rfl ⟨F.bel,.inl ⟨HNO.out,rfl⟩⟩
 have t1:decide ((100:Int)<(N:Int))=false:=xDj (by omega);go_enter Tryz.func11,Tryz.ntmps11;go_wp2_with fail;refine(zle a0 N c0 T _ HL.out (by omega) HT.out).mono ?_;rintro e wz ⟨hw,rfl⟩;obtain rfl:=hw
 cases hall:T.all (λx=>decide (0<=x)) with
 |false=>
  have hno:zk4 p T=none:=if_neg (by rw[hall];simp);have HNO:=xH1 hno;clear hno F0 hall;go_wp2;exact xDd (v:= .tuple #[.agg z10,.bool false]) (by simp[results,Tryz.results11,go_sem,F.c10 0 rfl]) rfl ⟨F.bel,.inl ⟨HNO.out,rfl⟩⟩
 |true=>
  have h0:∀i,i<N->0<=T.getD i 0:=λi hi=>by
   have hj:i<T.length:=by rw[HL.out];exact hi
   rw[xDa,xDb hj];simpa using List.all_eq_true.1 hall _ (List.getElem_mem hj)
  have hyes:zk4 p T=runD p (zk2 T):=if_pos ⟨by rw[HL.out];omega,hall⟩;have HY:=xH1 hyes;have H0:=xH1 h0;clear hyes hall h0 F0 cz;go_wp2_with fail
  cases hv:zu p with
  |false=>
   have hno:zk4 p T=none:=by rw[HY.out];unfold runD;rw[hv];rfl
   have HNO:=xH1 hno;have HV:=xH1 hv;clear hno hv;refine(zi3 u p _ _ (HP.out.below F.bel) HZ.out HV.out).mono ?_;rintro e w1 ⟨rfl,hb⟩;have F1:=F.call hb;clear F hb cp ct;have cz:=F1.c10 0 rfl;have F0:=F1.setY 0 rfl;go_wp2;exact xDd (v:= .tuple #[.agg z10,.bool false]) (by simp[results,Tryz.results11,go_sem,F0.c10 0 rfl]) rfl ⟨F0.bel,.inl ⟨HNO.out,rfl⟩⟩
  |true=>
   have hyes:zk4 p T=zbb p (zk2 T) 101 (zae p) []:=by rw[HY.out];unfold runD;rw[if_pos hv]
   have HW:=xH1 hyes;have HV:=xH1 hv;clear hyes hv;refine(zi1 u p _ 34 #[.pointer (some ⟨w.heap.size+1,0,none⟩)] (zk2 T) (HP.out.below F.bel) HV.out (λ_ _=>rfl) (λtr=>tr.length<=N) (Nat.zero_le _) (λs tr t h1 h2=> ?_) (zla T _ N c0 a0 _ p ct HT.out HL.out (by omega) H0.out) (λs tr h1 h2=>if_pos (.inr (by have:=HL.out;replace h1:tr.length<=N:=h1;omega)))).mono ?_
   ·replace h1:tr.length<=N:=h1;show(tr++[t]).length<=N;have:=HL.out;unfold zk2 at h2;split at h2
    ·cases h2
    ·next hq=>rw[xDh];show tr.length+1<=N;omega
   rintro e w1 ⟨hb,⟨hn,rfl⟩|⟨s,tr,v,L,a,c,hwk,rfl,ho,hr⟩⟩
   ·have HNO:=xH1 (HW.out.trans hn);have F1:=F.call hb;clear F hb hn cp ct;have cz:=F1.c10 0 rfl;have F0:=F1.setY 0 rfl;go_wp2;exact xDd (v:= .tuple #[.agg z10,.bool false]) (by simp[results,Tryz.results11,go_sem,F0.c10 0 rfl]) rfl ⟨F0.bel,.inl ⟨HNO.out,rfl⟩⟩
   have HWK:=xH1 (HW.out.trans hwk);have HR:=xH1 hr;have HL2:=xH1 (zln (by have:=HL.out;omega) hwk);have HN:=xH1 (NewB.lower ho.nw F.bel.size);have G:=Sf.gainR F hb ho.tr ho.st ho.nw;have HII:=xH1 ((ho.inn.lower F.bel.size).set (G.fr.blk 1 rfl) ⟨by decide,by decide,by decide⟩ (((((((((((zi.refl _ _).set (j:=0) (v:= .slice v.pl.a v.pl.n v.pl.c) xS2).set (j:=1) (v:= .slice v.st.a v.st.n v.st.c) xS2).set (j:=2) (v:= .slice v.se.a v.se.n v.se.c) xS2).set (j:=3) (v:= .slice v.on.a v.on.n v.on.c) xS2).set (j:=4) (v:= .slice v.gr.a v.gr.n v.gr.c) xS2).set (j:=5) (v:= .slice v.ba.a v.ba.n v.ba.c) xS2).set (j:=6) (v:= .slice v.ch.a v.ch.n v.ch.c) xS2).set (j:=7) (v:= .slice v.sa.a v.sa.n v.sa.c) xS2).set (j:=8) (v:= .int .i64 v.fl) xS2).set (j:=9) (v:= .slice a tr.length c) xS2));clear hb hwk ho hr F cp ct;have cz:=G.fr.c10 1 rfl;have G2:=G.setR 1 rfl v a tr.length c;go_wp2;exact xDd (v:= .tuple #[.agg (rC v a tr.length c),.bool true]) (by simp[results,Tryz.results11,go_sem,G2.fr.c10 1 rfl]) rfl ⟨G2.bel,.inr ⟨p,s,tr,v,L,a,c,HWK.out,HL2.out,rfl,⟨G2.st.sub λq hq=>xQ1 (.inl hq),HN.out,G2.fr.own 0 rfl,HII.out⟩,HR.out⟩⟩
theorem zlc (T:List Int) (B N c0:Nat) (a0:Option Addr) (w:World) (p:Pg) (hb:w.cell? ⟨B,0,none⟩=some (.slice a0 N c0)) (hT:Rd w a0 (ints T)) (hl0:T.length=N) (hN:N<=100):zi9 w 46 #[.pointer (some ⟨B,0,none⟩)] p (zk1 T) (λtr=>tr.length<=N):=by
 intro v L s a b n c m d tr W hbw hs hr hl h100 hJ hrd hm hm8 hrl;show Calls Tryz.prog 46 #[.agg (rC v a n c),.slice b m d,.pointer (some ⟨B,0,none⟩)] W _;have F:=(Fr.start W).alloc (rC v a n c) 35;have cr:=F.c10 0 rfl;have HB:=xH1 F.bel;have hc:=zd HB.out (zd hbw hb);have HT:=xH1 ((hT.below hbw).below HB.out);have HL:=xH1 hl;have HL0:=xH1 hl0;clear hs hr hrd hm hrl hm8 hb hT hbw hl hl0 F;replace hJ:tr.length<=N:=hJ;go_enter Tryz.func46,Tryz.ntmps46;by_cases hn:n=N
 ·have t1:((n:Int)==(N:Int))=true:=by simp;omega
  have HN:=xH1 hn;clear hn;go_wp2;exact xDd (v:= .tuple #[.int .i64 0,.bool false]) (by simp[results,Tryz.results46,go_sem]) rfl ⟨by unfold zk1;rw[if_pos (by rw[HL.out,HL0.out,HN.out])];rfl,HB.out⟩
 ·have t1:((n:Int)==(N:Int))=false:=by simp;omega
  have hlt:n<N:=by have:=HL.out;omega
  obtain⟨b1,o1,rfl,g'⟩:=HT.out.int (by have:=HL0.out;omega);have g:World.cell? _ ⟨b1,o1+n,none⟩=some (.int .i64 (T.getD n 0)):=g' n (by have:=HL0.out;omega);have l0:(0:Int)<=(n:Int):=by omega
  have l1:(n:Int)<(N:Int):=by omega
  obtain⟨x,hx⟩:∃x,x=T.getD n 0:=⟨_,rfl⟩
  rw[<-hx] at g;have HX:=xH1 hx;have HN:=xH1 hn;clear hx g' hn;go_wp2;exact xDd (v:= .tuple #[.int .i64 x,.bool true]) (by simp[results,Tryz.results46,go_sem]) rfl ⟨by unfold zk1;rw[HL.out,HL0.out,if_neg HN.out,HX.out];rfl,HB.out⟩
theorem zlk {T:List Int} (hT:T.length<=100) {p:Pg} {s:StD} {tr:List Int} (h:zbb p (zk1 T) 101 (zae p) []=some (s,tr)):tr.length<=100:=by
 have key:∀(n:Nat) (s0:StD) (t0:List Int),zbb p (zk1 T) n s0 t0=some (s,tr)->t0.length<=T.length->tr.length<=T.length:=by
  intro n
  induction n with
  |zero=>intro s0 t0 h;cases h
  |succ n ih=>
   intro s0 t0 h hl;unfold zbb at h;split at h
   ·obtain⟨-,rfl⟩:=Prod.mk.inj (Option.some.inj h);exact hl
   ·next t e=>
    split at h
    ·refine ih _ _ h ?_;unfold zk1 at e;split at e
     ·cases e
     ·next hq=>rw[xDh];show t0.length+1<=T.length;omega
    ·cases h
 exact Nat.le_trans (key 101 _ _ h (Nat.zero_le _)) hT
theorem zk6 (u:PV) (p:Pg) (a0:Option Addr) (N c0:Nat) (T:List Int) (w:World) (hp:RdP w u p) (hz:zbB u p) (hT:Rd w a0 (ints T)) (hl:T.length=N) (hN:N<=1048576):
  Calls Tryz.prog 24 #[.agg (pvC u),.slice a0 N c0] w (rsW (zk3 p T) w):=by
 have HP:=xH1 hp;have HZ:=xH1 hz;have F:=(((Fr.start w).alloc (pvC u) 40).alloc #[.slice a0 N c0] 22).alloc z10 35;simp only[xDe] at F;have HT:=xH1 (hT.below F.bel);have HL:=xH1 hl;have cp:=F.c5 2 rfl;have ct:=F.cell 1 0 rfl rfl;clear hp hz hT hl;by_cases hbig:100<N
 ·have t1:decide ((100:Int)<(N:Int))=true:=xDk (by omega);have HNO:Hid (zk3 p T=none):=xH1 (if_neg (by have:=HL.out;omega));go_enter Tryz.func24,Tryz.ntmps24;go_wp2;exact xDd (v:= .tuple #[.agg z10,.bool false]) (by simp[results,Tryz.results24,go_sem,F.c10 0 rfl]) rfl ⟨F.bel,.inl ⟨HNO.out,rfl⟩⟩
 have t1:decide ((100:Int)<(N:Int))=false:=xDj (by omega);go_enter Tryz.func24,Tryz.ntmps24;go_wp2_with fail
 cases hv:zu p with
 |false=>
  have HNO:Hid (zk3 p T=none):=xH1 (by unfold zk3 runD;rw[hv];simp);have HV:=xH1 hv;clear hv;refine(zi3 u p _ _ (HP.out.below F.bel) HZ.out HV.out).mono ?_;rintro e w1 ⟨rfl,hb⟩;have F1:=F.call hb;clear F hb cp ct;have cz:=F1.c10 0 rfl;have F0:=F1.setY 0 rfl;go_wp2;exact xDd (v:= .tuple #[.agg z10,.bool false]) (by simp[results,Tryz.results24,go_sem,F0.c10 0 rfl]) rfl ⟨F0.bel,.inl ⟨HNO.out,rfl⟩⟩
 |true=>
  have HW:Hid (zk3 p T=zbb p (zk1 T) 101 (zae p) []):=xH1 (by unfold zk3 runD;rw[if_pos (by have:=HL.out;omega),if_pos hv]);have HV:=xH1 hv;clear hv;refine(zi1 u p _ 46 #[.pointer (some ⟨w.heap.size+1,0,none⟩)] (zk1 T) (HP.out.below F.bel) HV.out (λ_ _=>rfl) (λtr=>tr.length<=N) (Nat.zero_le _) (λs tr t h1 h2=> ?_) (zlc T _ N c0 a0 _ p ct HT.out HL.out (by omega)) (λs tr h1 h2=>if_pos (by have:=HL.out;replace h1:tr.length<=N:=h1;omega))).mono ?_
  ·replace h1:tr.length<=N:=h1;show(tr++[t]).length<=N;have:=HL.out;unfold zk1 at h2;split at h2
   ·cases h2
   ·next hq=>rw[xDh];show tr.length+1<=N;omega
  rintro e w1 ⟨hb,⟨hn,rfl⟩|⟨s,tr,v,L,a,c,hwk,rfl,ho,hr⟩⟩
  ·have HNO:=xH1 (HW.out.trans hn);have F1:=F.call hb;clear F hb hn cp ct;have cz:=F1.c10 0 rfl;have F0:=F1.setY 0 rfl;go_wp2;exact xDd (v:= .tuple #[.agg z10,.bool false]) (by simp[results,Tryz.results24,go_sem,F0.c10 0 rfl]) rfl ⟨F0.bel,.inl ⟨HNO.out,rfl⟩⟩
  have HWK:=xH1 (HW.out.trans hwk);have HR:=xH1 hr;have HL2:=xH1 (zlk (by have:=HL.out;omega) hwk);have HN:=xH1 (NewB.lower ho.nw F.bel.size);have G:=Sf.gainR F hb ho.tr ho.st ho.nw;have HII:=xH1 ((ho.inn.lower F.bel.size).set (G.fr.blk 1 rfl) ⟨by decide,by decide,by decide⟩ (((((((((((zi.refl _ _).set (j:=0) (v:= .slice v.pl.a v.pl.n v.pl.c) xS2).set (j:=1) (v:= .slice v.st.a v.st.n v.st.c) xS2).set (j:=2) (v:= .slice v.se.a v.se.n v.se.c) xS2).set (j:=3) (v:= .slice v.on.a v.on.n v.on.c) xS2).set (j:=4) (v:= .slice v.gr.a v.gr.n v.gr.c) xS2).set (j:=5) (v:= .slice v.ba.a v.ba.n v.ba.c) xS2).set (j:=6) (v:= .slice v.ch.a v.ch.n v.ch.c) xS2).set (j:=7) (v:= .slice v.sa.a v.sa.n v.sa.c) xS2).set (j:=8) (v:= .int .i64 v.fl) xS2).set (j:=9) (v:= .slice a tr.length c) xS2));clear hb hwk ho hr F cp ct;have cz:=G.fr.c10 1 rfl;have G2:=G.setR 1 rfl v a tr.length c;go_wp2;exact xDd (v:= .tuple #[.agg (rC v a tr.length c),.bool true]) (by simp[results,Tryz.results24,go_sem,G2.fr.c10 1 rfl]) rfl ⟨G2.bel,.inr ⟨p,s,tr,v,L,a,c,HWK.out,HL2.out,rfl,⟨G2.st.sub λq hq=>xQ1 (.inl hq),HN.out,G2.fr.own 0 rfl,HII.out⟩,HR.out⟩⟩
end Go.Proofs.YtnlijgjpgdjpiaaGreat
