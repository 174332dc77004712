/- Part of a proof: IWalk. -/
import Derived.Test.YtjmpejaifmopnaaGreatQIStepT
import Derived.Test.YtjmpejaifmopnaaGreatQPStart
set_option maxRecDepth 100000
set_option maxHeartbeats 16000000
namespace Go.Proofs.YtjmpejaifmopnaaGreat
open Go.RowKit
theorem implStep_no (u:PV) (p:Pg) (v:StV) (L:StL) (s:StD) (t:Int) (w:World) (hp:RdP w u p) (hr:StR w v L s) (hf:Run p s) (ht:t∉readyOf s):
  Calls Tryz.prog 43 #[.agg #[.slice u.s u.ns u.cs,.slice u.g u.ng u.cg,.slice u.b u.nb u.cb,.slice u.r u.nr u.cr,.slice u.t u.nt u.ct],.agg #[.slice v.pl.a v.pl.n v.pl.c,.slice v.st.a v.st.n v.st.c,.slice v.se.a v.se.n v.se.c,.slice v.on.a v.on.n v.on.c,.slice v.gr.a v.gr.n v.gr.c,.slice v.ba.a v.ba.n v.ba.c,.slice v.ch.a v.ch.n v.ch.c,.slice v.sa.a v.sa.n v.sa.c,.int .i64 v.fl],.int .i64 t] w fun e w'=>e= .returned (.tuple #[.agg #[.slice none 0 0,.slice none 0 0,.slice none 0 0,.slice none 0 0,.slice none 0 0,.slice none 0 0,.slice none 0 0,.slice none 0 0,.int .i64 0],.bool false])∧Below w.heap.size w w':=by
 have HS:=xH1 hr
 have HP:=xH1 hp
 have HF:=xH1 hf.fits
 have HRD:=xH1 ht
 have r8:(readyOf s).length≤8∧s.status.length≤8:=by
  have h1:=hf.fits.nst
  have h2:=(valid_small hf.fits.prog).2.2.2.2.1
  refine⟨?_,by omega⟩
  rw[ready_eq]
  split
  ·have:=rdyTo_len s s.status.length;omega
  ·simp
 clear hr hp hf ht
 have F:=(((Fr.start w).alloc (pvC u) 26).alloc (svC v) 38).alloc zC 38
 simp only[World.size_alloc] at F
 have cs:=F.c9 1 rfl
 have cp:=F.c5 2 rfl
 go_enter Tryz.func43,Tryz.ntmps43
 go_wp2_with fail
 refine(implStateFits_ok u p v L s _ (HP.out.below F.bel) (HS.out.below F.bel) HF.out).mono ?_
 rintro e w1 ⟨rfl,hb⟩
 replace F:=F.call hb
 replace cs:=F.c9 1 rfl
 replace cp:=F.c5 2 rfl
 clear hb
 clear cp
 go_wp2_with fail
 refine(implReady_ok v L s _ (HS.out.below F.bel) r8.2).mono ?_
 rintro e w1 ⟨a1,c1,rfl,ho,hb⟩
 have F2:=F.row hb ho
 clear hb ho F cs
 go_wp2_with fail
 refine(implContains_any a1 _ c1 (readyOf s) t _ rfl (by have:=r8.1;unfold maxLen;omega) (F2.rdRow 0 rfl)).mono ?_
 rintro e wz ⟨rfl,hw⟩
 obtain rfl:=hw
 rw[contains_no HRD.out]
 replace F:=F2.sub (.cons _ (.refl _))
 clear F2 r8
 have cz:=F.c9 0 rfl
 have F2:=F.set9 0 rfl (.slice none 0 0) (.slice none 0 0) (.slice none 0 0) (.slice none 0 0) (.slice none 0 0) (.slice none 0 0) (.slice none 0 0) (.slice none 0 0) (.int .i64 0)
 go_wp2
 exact bodyPost_ret (v:= .tuple #[.agg #[.slice none 0 0,.slice none 0 0,.slice none 0 0,.slice none 0 0,.slice none 0 0,.slice none 0 0,.slice none 0 0,.slice none 0 0,.int .i64 0],.bool false]) (by simp[results,Tryz.results43,go_sem,F2.c9 0 rfl]) rfl ⟨rfl,F2.bel⟩
abbrev rC (v:StV) (a:Option Addr) (n c:Nat):Array Value:= #[.slice v.pl.a v.pl.n v.pl.c,.slice v.st.a v.st.n v.st.c,.slice v.se.a v.se.n v.se.c,.slice v.on.a v.on.n v.on.c,.slice v.gr.a v.gr.n v.gr.c,.slice v.ba.a v.ba.n v.ba.c,.slice v.ch.a v.ch.n v.ch.c,.slice v.sa.a v.sa.n v.sa.c,.int .i64 v.fl,.slice a n c]
abbrev z10:Array Value:= #[.slice none 0 0,.slice none 0 0,.slice none 0 0,.slice none 0 0,.slice none 0 0,.slice none 0 0,.slice none 0 0,.slice none 0 0,.int .i64 0,.slice none 0 0]
abbrev wk4 (w:World) (R:Nat) (v:StV) (a:Option Addr) (n c:Nat) (tr:List Int) (u:PV):List It:=[.blk R (rC v a n c) 40,.row a n c 3 1 (ints tr),.blk (w.heap.size+1) z10 40,.blk w.heap.size (pvC u) 26]
theorem build_run (v:StV) (a:Option Addr) (n c:Nat) (w:World):(Instr.build 40 #[(0,v.val),(1,.slice a n c)]).run Tryz.prog w= .ok (.agg (rC v a n c)) w:=run_build w 40 _ _ (by kernel_rfl)
def trN (R:Nat) (wr:World):Nat:=match wr.cell? ⟨R,9,none⟩ with|some (.slice _ n _)=>101-n|_=>0
theorem walkD_end' {p:Pg} {ch:StD→List Int→Option Int} {n:Nat} {s:StD} {tr:List Int} (h:ch s tr=none) (hn:n≤100):walkD p ch (101-n) s tr=some (s,tr):=by
 rw[show 101-n=(100-n)+1 by omega];exact walkD_end h
def Chooses (w:World) (fn:FuncId) (caps:Array Value) (p:Pg) (ch:StD→List Int→Option Int) (J:List Int→Prop):Prop:=
 ∀(v:StV) (L:StL) (s:StD) (a b:Option Addr) (n c m d:Nat) (tr:List Int) (W:World),Below w.heap.size w W→StR W v L s→Run p s→tr.length=n→n≤100→J tr→Rd W a (ints tr)→(readyOf s).length=m→m≤8→Rd W b (ints (readyOf s))→
  Calls Tryz.prog fn (#[.agg #[.slice v.pl.a v.pl.n v.pl.c,.slice v.st.a v.st.n v.st.c,.slice v.se.a v.se.n v.se.c,.slice v.on.a v.on.n v.on.c,.slice v.gr.a v.gr.n v.gr.c,.slice v.ba.a v.ba.n v.ba.c,.slice v.ch.a v.ch.n v.ch.c,.slice v.sa.a v.sa.n v.sa.c,.int .i64 v.fl,.slice a n c],.slice b m d]++caps) W fun e w'=>e= .returned (.tuple #[.int .i64 ((ch s tr).getD 0),.bool (ch s tr).isSome])∧Below W.heap.size W w'
structure RunO (B:Nat) (w:World) (v:StV) (L:StL) (a:Option Addr) (c:Nat) (s:StD) (tr:List Int):Prop where
 st:StO (rowOf a).toList B w v L s
 nw:NewB B L
 tr:w.ownsRow B 3 1 (.slice a tr.length c) tr.length (ints tr)
theorem implWalk_ok (u:PV) (p:Pg) (w:World) (fn:FuncId) (caps:Array Value) (ch:StD→List Int→Option Int) (hp:RdP w u p) (hv:progValid p=true) (hcf:∀(xs:Array Value) (W:World),(callFunc fn xs).run Tryz.prog W= .ok (.enter fn xs) W) (J:List Int→Prop) (hJ0:J []) (hJs:∀s tr t,J tr→ch s tr=some t→J (tr++[t])) (hc:Chooses w fn caps p ch J) (h100:∀s tr,J tr→100≤tr.length→ch s tr=none):
  Calls Tryz.prog 23 #[.agg #[.slice u.s u.ns u.cs,.slice u.g u.ng u.cg,.slice u.b u.nb u.cb,.slice u.r u.nr u.cr,.slice u.t u.nt u.ct],.func (.func fn) #[] caps] w fun e w'=>Below w.heap.size w w'∧((walkD p ch 101 (startOf p) []=none∧e= .returned (.tuple #[.agg #[.slice none 0 0,.slice none 0 0,.slice none 0 0,.slice none 0 0,.slice none 0 0,.slice none 0 0,.slice none 0 0,.slice none 0 0,.int .i64 0,.slice none 0 0],.bool false]))∨∃(s:StD) (tr:List Int) (v:StV) (L:StL) (a:Option Addr) (c:Nat),walkD p ch 101 (startOf p) []=some (s,tr)∧e= .returned (.tuple #[.agg #[.slice v.pl.a v.pl.n v.pl.c,.slice v.st.a v.st.n v.st.c,.slice v.se.a v.se.n v.se.c,.slice v.on.a v.on.n v.on.c,.slice v.gr.a v.gr.n v.gr.c,.slice v.ba.a v.ba.n v.ba.c,.slice v.ch.a v.ch.n v.ch.c,.slice v.sa.a v.sa.n v.sa.c,.int .i64 v.fl,.slice a tr.length c],.bool true])∧RunO w.heap.size w' v L a c s tr∧Run p s):=by
 have HP:=xH1 hp
 have HV:=xH1 hv
 have HC:=xH1 hc
 have HCF:=xH1 hcf
 have H100:=xH1 h100
 have HJ0:=xH1 hJ0
 have HJS:=xH1 hJs
 clear hp hv hc h100 hcf hJ0 hJs
 have F:=((Fr.start w).alloc (pvC u) 26).alloc z10 40
 simp only[World.size_alloc] at F
 have cp:=F.c5 1 rfl
 go_enter Tryz.func23,Tryz.ntmps23
 go_wp2_with fail
 refine(implStart_ok u p _ (HP.out.below F.bel) HV.out).mono ?_
 rintro e w1 ⟨v0,L0,rfl,ho,hn,hb⟩
 have HN:=NewB.lower hn F.bel.size
 have h0:=((Sf.gain F ho hn hb).nil 3 1).alloc (svC v0) 38
 clear F ho hn hb cp
 go_upto_region 4 with fail
 obtain⟨W0,hw,h1⟩:=h0.named
 rw[←hw]
 clear h0 hw
 have h2:=(h1.alloc (rC v0 none 0 0) 40).sub (l':=wk4 w W0.heap.size v0 none 0 0 [] u) (.cons_cons _ (.cons _ (.refl _)))
 have c0:=h1.c9 0 rfl
 obtain⟨R,hR⟩:∃R,R=W0.heap.size:=⟨_,rfl⟩
 go_wp2_with fail
 rw[←hR] at h2⊢
 clear hR
 go_loopw [9] (fun _ wr=>∃(v:StV) (L:StL) (s:StD) (a:Option Addr) (c:Nat) (tr:List Int),Sf w wr (wk4 w R v a tr.length c tr u) v L s∧Run p s∧tr.length≤100∧Hid (J tr)∧NewB w.heap.size L∧walkD p ch 101 (startOf p) []=walkD p ch (101-tr.length) s tr) (fun _ wr=>trN R wr)
 case atStart=>exact⟨v0,L0,startOf p,none,0,[],h2,Run.start HV.out,by simp,HJ0,HN,rfl⟩
 case round=>
  clear h2 h1 HN c0
  obtain⟨v,L,s,a,c,tr,h,hrun,h100,HJ,HN,hwk⟩:=hrel
  have HR:=xH1 hrun
  have HWK:=xH1 hwk
  have r8:(readyOf s).length≤8∧s.status.length≤8:=by
   have h1:=hrun.fits.nst
   have h2:=(valid_small hrun.fits.prog).2.2.2.2.1
   refine⟨?_,by omega⟩
   rw[ready_eq]
   split
   ·have:=rdyTo_len s s.status.length;omega
   ·simp
  have HO9:Hid (wr.cell? ⟨R,9,none⟩=some (.slice a tr.length c)):=xH1 (h.fr.cell 0 9 rfl rfl)
  obtain⟨u1,rfl⟩:∃x,x=wr:=⟨_,rfl⟩
  clear hrun hwk
  go_wp2_with fail
  apply wp_rk 11 [.k _,.k _,.k _,.k _,.r fun dz uz wz=>∃(a1:Option Addr) (c1:Nat),uz= .slice a1 (readyOf s).length c1∧wz.ownsRow u1.heap.size 3 1 (.slice a1 (readyOf s).length c1) (readyOf s).length (ints (readyOf s)),.r fun dz uz wz=>uz= .tuple #[.int .i64 ((ch s tr).getD 0),.bool (ch s tr).isSome],.k _,.k _,.k _,.k _,.k _] ⟨fun _ _ _ _ hb ⟨a,c,e,h⟩=>⟨a,c,e,owns_below h hb⟩,fun _ _ _ _ _ h=>h,trivial⟩ ?s1 ?e1
  case s1=>
   repeat' apply And.intro
   all_goals first|trivial|(intro ρ w1 hG hfr hd;obtain⟨fc,ff⟩:=fcff hfr;have f1:=hfr (.tmp 1) rfl;have f8:=hfr (.tmp 8) rfl;have F1:=h.fr.call hG;have cr:=F1.c10 0 rfl;clear F1)
   exact rk0;exact rk0;exact rk0;exact rk1
   ·obtain⟨d0,-⟩:=hd
    have d0:ρ (.tmp 27)=_:=d0
    refine gives_call (by go_simp;exact⟨⟨rfl,rfl⟩,rfl⟩) ?_
    refine(implReady_ok v L s _ ((h.call hG).rd) r8.2).mono ?_
    rintro e w2 ⟨a1,c1,rfl,ho,hb⟩
    exact⟨_,rfl,hb,⟨a1,c1,rfl,owns_mono ho hG.size⟩,xN1,hG.trans (hb.mono hG.size)⟩
   ·obtain⟨d0,d1,d2,-⟩:=hd
    have d0:ρ (.tmp 24)=_:=d0
    have d1:ρ (.tmp 25)=_:=d1
    have d2:∃(a1:Option Addr) (c1:Nat),(ρ (.tmp 28))= .slice a1 (readyOf s).length c1∧w1.ownsRow u1.heap.size 3 1 (.slice a1 (readyOf s).length c1) (readyOf s).length (ints (readyOf s)):=d2
    obtain⟨a1,c1,d2,ho⟩:=d2
    refine gives_call (by go_simp;exact HCF.out _ _) ?_
    refine(HC.out v L s a a1 tr.length c (readyOf s).length c1 tr w1 ((h.call hG).bel) ((h.call hG).rd) HR.out rfl h100 HJ.out ((h.call hG).fr.rdRow 1 rfl) rfl r8.1 (Rd.of_owns ho)).mono ?_
    rintro e w2 ⟨rfl,hb⟩
    exact⟨_,rfl,hb,rfl,xN1,hG.trans (hb.mono hG.size)⟩
   exact rk1;exact rk1;exact rk1;exact rk1;exact rk1
  intro w2 hG
  refine rk_end ?_
  intro xv4 hv4 xv5 hv5
  clear hv4
  obtain⟨oc,hoc⟩:∃o,o=ch s tr:=⟨_,rfl⟩
  rw[←hoc]
  have HOC:=xH1 hoc
  replace h:=h.call hG
  clear hoc hG
  obtain⟨u2,rfl⟩:∃x,x=w2:=⟨_,rfl⟩
  cases oc with
  |none=>
   have hwk:=HWK.out
   rw[walkD_end' HOC.out.symm h100] at hwk
   have HWE:=xH1 hwk
   clear hwk
   go_wp2_with fail
   apply wp_rk 7 [.k _,.k _,.r fun dz uz wz=>∃(v':StV) (L':StL),uz=v'.val∧StO [] u2.heap.size wz v' L' s∧NewB u2.heap.size L',.k _,.k _,.r fun dz uz wz=>∃(v':StV) (L':StL) (a':Option Addr) (c':Nat),(dz.getD 1 undef)=v'.val∧uz= .slice a' tr.length c'∧StO (rowOf a').toList u2.heap.size wz v' L' s∧NewB u2.heap.size L'∧wz.ownsRow u2.heap.size 3 1 (.slice a' tr.length c') tr.length (ints tr),.r fun dz uz wz=>∃(v':StV) (L':StL) (a':Option Addr) (c':Nat),uz= .agg #[.slice v'.pl.a v'.pl.n v'.pl.c,.slice v'.st.a v'.st.n v'.st.c,.slice v'.se.a v'.se.n v'.se.c,.slice v'.on.a v'.on.n v'.on.c,.slice v'.gr.a v'.gr.n v'.gr.c,.slice v'.ba.a v'.ba.n v'.ba.c,.slice v'.ch.a v'.ch.n v'.ch.c,.slice v'.sa.a v'.sa.n v'.sa.c,.int .i64 v'.fl,.slice a' tr.length c']∧StO (rowOf a').toList u2.heap.size wz v' L' s∧NewB u2.heap.size L'∧wz.ownsRow u2.heap.size 3 1 (.slice a' tr.length c') tr.length (ints tr)] ⟨fun _ _ _ _ hb ⟨v',L',e,h,hn⟩=>⟨v',L',e,h.below hb,hn⟩,fun _ _ _ _ hb ⟨v',L',a',c',e1,e2,h,hn,ho⟩=>⟨v',L',a',c',e1,e2,h.below hb,hn,owns_below ho hb⟩,fun _ _ _ _ hb ⟨v',L',a',c',e2,h,hn,ho⟩=>⟨v',L',a',c',e2,h.below hb,hn,owns_below ho hb⟩,trivial⟩ ?s2 ?e2
   case s2=>
    repeat' apply And.intro
    all_goals first|trivial|(intro ρ w1 hG hfr hd;obtain⟨fc,ff⟩:=fcff hfr;have f8:=hfr (.tmp 8) rfl;have F1:=h.fr.call hG;have cr:=F1.c10 0 rfl;clear F1)
    exact rk0;exact rk1
    ·obtain⟨d0,-⟩:=hd
     have d0:ρ (.tmp 35)=_:=d0
     refine gives_call (by go_simp;exact⟨⟨rfl,rfl⟩,rfl⟩) ?_
     refine(implState_clone v L s _ ((h.call hG).rd) HR.out.fits.sm).mono ?_
     rintro e w2 ⟨v',L',rfl,ho,hn,hb⟩
     exact⟨_,rfl,hb,⟨v',L',rfl,ho.lower hG.size,NewB.lower hn hG.size⟩,xN1,hG.trans (hb.mono hG.size)⟩
    exact rk0;exact rk1
    ·obtain⟨d0,d1,-⟩:=hd
     have d0:ρ (.tmp 38)=_:=d0
     have d1:∃(v':StV) (L':StL),(ρ (.tmp 36))=v'.val∧StO [] u2.heap.size w1 v' L' s∧NewB u2.heap.size L':=d1
     obtain⟨v',L',d1,ho',hn'⟩:=d1
     refine gives_call (by go_simp;exact⟨⟨rfl,rfl⟩,rfl⟩) ?_
     refine(implCloneInts_any a tr.length c tr w1 rfl (by omega) ((h.call hG).fr.rdRow 1 rfl)).mono ?_
     rintro e w2 ⟨a1,c1,rfl,ho,hb⟩
     exact⟨_,rfl,hb,⟨v',L',a1,c1,d1,rfl,ho'.newer hb (fun q hq=>owns_row ho q (by simpa using hq)),hn',owns_mono ho hG.size⟩,xN1,hG.trans (hb.mono hG.size)⟩
    ·obtain⟨d0,d1,-⟩:=hd
     have d0:∃(v':StV) (L':StL),(ρ (.tmp 36))=v'.val∧StO [] u2.heap.size w1 v' L' s∧NewB u2.heap.size L':=d0
     have d1:∃(v':StV) (L':StL) (a':Option Addr) (c':Nat),(ρ (.tmp 36))=v'.val∧(ρ (.tmp 39))= .slice a' tr.length c'∧StO (rowOf a').toList u2.heap.size w1 v' L' s∧NewB u2.heap.size L'∧w1.ownsRow u2.heap.size 3 1 (.slice a' tr.length c') tr.length (ints tr):=d1
     clear d0
     obtain⟨v',L',a',c',e1,e2,ho,hn,hr⟩:=d1
     have hbd:=build_run v' a' tr.length c' w1
     exact gvF hG (by go_simp) ⟨v',L',a',c',rfl,ho,hn,hr⟩ xN1
   intro w2 hG
   refine rk_end ?_
   intro xv2 hv2 xv5 hv5 xv6 hv6
   replace hv5:∃(v':StV) (L':StL) (a':Option Addr) (c':Nat),xv2=v'.val∧xv5= .slice a' tr.length c'∧StO (rowOf a').toList u2.heap.size w2 v' L' s∧NewB u2.heap.size L'∧w2.ownsRow u2.heap.size 3 1 (.slice a' tr.length c') tr.length (ints tr):=hv5
   obtain⟨v',L',a',c',rfl,ho,hn,hr⟩:=hv6
   clear hv2 hv5
   have HNN:=xH1 (NewB.lower hn h.bel.size)
   have G:=Sf.gainR h.fr hG hr ho hn
   clear ho hn hr h hG
   have cz:=G.fr.c10 3 rfl
   have G2:=G.set10 3 rfl (.slice v'.pl.a v'.pl.n v'.pl.c) (.slice v'.st.a v'.st.n v'.st.c) (.slice v'.se.a v'.se.n v'.se.c) (.slice v'.on.a v'.on.n v'.on.c) (.slice v'.gr.a v'.gr.n v'.gr.c) (.slice v'.ba.a v'.ba.n v'.ba.c) (.slice v'.ch.a v'.ch.n v'.ch.c) (.slice v'.sa.a v'.sa.n v'.sa.c) (.int .i64 v'.fl) (.slice a' tr.length c')
   go_wp2
   exact bodyPost_ret (v:= .tuple #[.agg #[.slice v'.pl.a v'.pl.n v'.pl.c,.slice v'.st.a v'.st.n v'.st.c,.slice v'.se.a v'.se.n v'.se.c,.slice v'.on.a v'.on.n v'.on.c,.slice v'.gr.a v'.gr.n v'.gr.c,.slice v'.ba.a v'.ba.n v'.ba.c,.slice v'.ch.a v'.ch.n v'.ch.c,.slice v'.sa.a v'.sa.n v'.sa.c,.int .i64 v'.fl,.slice a' tr.length c'],.bool true]) (by simp[results,Tryz.results23,go_sem,G2.fr.c10 3 rfl]) rfl ⟨G2.bel,.inr ⟨s,tr,v',L',a',c',HWE.out,rfl,⟨G2.st.sub fun q hq=>xQ1 (.inl hq),HNN.out,G2.fr.own 0 rfl⟩,HR.out⟩⟩
  |some t=>
   have ht100:tr.length<100:=Nat.lt_of_not_le fun h=>by
    have h1:=H100.out s tr HJ.out h
    rw[←HOC.out] at h1
    cases h1
   by_cases hin:t∈readyOf s
   ·have hwk:=HWK.out
    rw[show 101-tr.length=(100-tr.length)+1 by omega,walkD_step HOC.out.symm hin] at hwk
    have HW2:=xH1 hwk
    have HT:=xH1 (HR.out.fits.turn hin)
    have HIN:=xH1 hin
    have cr:=h.fr.c10 0 rfl
    have cp:=h.fr.c5 3 rfl
    have HOLD:Hid (u1.cell? ⟨R,9,none⟩=some (.slice a tr.length c)):=HO9
    clear hwk hin
    go_wp2_with fail
    refine(implStep_ok u p v L s t _ (HP.out.below h.bel) h.rd HR.out HIN.out).mono ?_
    rintro e w2 ⟨v',L',rfl,ho,hn,hb⟩
    have HN2:=xH1 (NewB.lower hn h.bel.size)
    have h2:=(Sf.gain h.fr ho hn hb).alloc #[.slice v'.pl.a v'.pl.n v'.pl.c,.slice v'.st.a v'.st.n v'.st.c,.slice v'.se.a v'.se.n v'.se.c,.slice v'.on.a v'.on.n v'.on.c,.slice v'.gr.a v'.gr.n v'.gr.c,.slice v'.ba.a v'.ba.n v'.ba.c,.slice v'.ch.a v'.ch.n v'.ch.c,.slice v'.sa.a v'.sa.n v'.sa.c,.int .i64 v'.fl] 38
    clear ho hn hb h cr cp HN
    go_upto_region 11 with fail
    obtain⟨u3,hw,h3⟩:=h2.named
    rw[←hw]
    clear hw h2
    obtain⟨N,hN⟩:∃N,N=w2.heap.size:=⟨_,rfl⟩
    rw[←hN] at h3⊢
    clear hN
    have hNS:N∉(rowOf a).toList:=h3.fr.apart 0 2 rfl rfl (by decide) N (List.mem_singleton.2 rfl)
    have hRS:R∉(rowOf a).toList:=h3.fr.apart 1 2 rfl rfl (by decide) R (List.mem_singleton.2 rfl)
    have HROW:=xH1 (h3.fr.own 2 rfl)
    have hwb:=h3.bel.size
    have r9:=h3.fr.cell 1 9 rfl rfl
    go_wp2_with fail
    have n0:=h3.fr.cell 0 0 rfl rfl
    have n1:=h3.fr.cell 0 1 rfl rfl
    have n2:=h3.fr.cell 0 2 rfl rfl
    have n3:=h3.fr.cell 0 3 rfl rfl
    have n4:=h3.fr.cell 0 4 rfl rfl
    have n5:=h3.fr.cell 0 5 rfl rfl
    have n6:=h3.fr.cell 0 6 rfl rfl
    have n7:=h3.fr.cell 0 7 rfl rfl
    have n8:=h3.fr.cell 0 8 rfl rfl
    refine wp_region_steps 7 (by kernel_rfl) (by kernel_rfl) [fun dz uz wz=>uz= .agg #[.slice v'.pl.a v'.pl.n v'.pl.c,.slice v'.st.a v'.st.n v'.st.c,.slice v'.se.a v'.se.n v'.se.c,.slice v'.on.a v'.on.n v'.on.c,.slice v'.gr.a v'.gr.n v'.gr.c,.slice v'.ba.a v'.ba.n v'.ba.c,.slice v'.ch.a v'.ch.n v'.ch.c,.slice v'.sa.a v'.sa.n v'.sa.c,.int .i64 v'.fl],fun dz uz wz=>uz= .pointer (some ⟨R,9,none⟩),fun dz uz wz=>uz= .slice a tr.length c,fun dz uz wz=>uz= .int .i64 t,fun dz uz wz=>(∃gz:Nat,uz= .slice (some ⟨gz,0,none⟩) 1 1∧Blk wz gz #[.int .i64 t] 3∧u3.heap.size≤gz),fun dz uz wz=>(∃(a':Option Addr) (c':Nat),uz= .slice a' (tr.length+1) c'∧wz.ownsRow w.heap.size 3 1 (.slice a' (tr.length+1) c') (tr.length+1) (ints tr++ints [t])∧(∀q,rowOf a'=some q→rowOf a=some q∨u3.heap.size≤q)),fun dz uz wz=>(∃(a':Option Addr) (c':Nat),(dz.getD 1 undef)= .slice a' (tr.length+1) c'∧uz= .agg #[.slice v'.pl.a v'.pl.n v'.pl.c,.slice v'.st.a v'.st.n v'.st.c,.slice v'.se.a v'.se.n v'.se.c,.slice v'.on.a v'.on.n v'.on.c,.slice v'.gr.a v'.gr.n v'.gr.c,.slice v'.ba.a v'.ba.n v'.ba.c,.slice v'.ch.a v'.ch.n v'.ch.c,.slice v'.sa.a v'.sa.n v'.sa.c,.int .i64 v'.fl,.slice a' (tr.length+1) c'])] (St1 5 (Touch (rowOf a).toList)) (fun _ _=>none) (Stage 5 (rowOf a).toList u3) (Stage.start _ _ _) (st1_size (fun _ _ h=>h.size)) (stab1_of ⟨fun _ _ _ _ _ h=>h,fun _ _ _ _ _ h=>h,fun _ _ _ _ _ h=>h,fun _ _ _ _ _ h=>h,fun _ _ _ _ hb ⟨g,e,h,hs⟩=>⟨g,e,h.below hb,hs⟩,fun _ _ _ _ hb ⟨a,c,e,h,g⟩=>⟨a,c,e,owns_below h hb,g⟩,fun _ _ _ _ _ h=>h,trivial⟩ ⟨.inr (fun _ _ _ _ _ h=>h),.inr (fun _ _ _ _ _ h=>h),.inr (fun _ _ _ _ _ h=>h),.inr (fun _ _ _ _ _ h=>h),.inr (fun _ _ _ _ hT ⟨g,e,h,hs⟩=>⟨g,e,(hT.block g h.lt (fun hm=>by have:=(owns_row HROW.out g (by simpa using hm)).2;omega)).trans h,hs⟩),.inl rfl,.inr (fun _ _ _ _ _ h=>h),trivial⟩) ?_ ?_
    ·simp only[List.take_succ_cons,List.take_zero]
     refine⟨?_,?_,?_,?_,?_,?_,?_,trivial⟩
     ·intro ρ w1 L hG hny hfr hd
      obtain⟨fc,ff⟩:=xF1 hfr
      have f11:ρ (.tmp 11)= .pointer (some ⟨N,0,none⟩):=hfr _ rfl
      have n0:=cell_touch hG.2 n0 (hNS)
      have n1:=cell_touch hG.2 n1 (hNS)
      have n2:=cell_touch hG.2 n2 (hNS)
      have n3:=cell_touch hG.2 n3 (hNS)
      have n4:=cell_touch hG.2 n4 (hNS)
      have n5:=cell_touch hG.2 n5 (hNS)
      have n6:=cell_touch hG.2 n6 (hNS)
      have n7:=cell_touch hG.2 n7 (hNS)
      have n8:=cell_touch hG.2 n8 (hNS)
      refine gives_val (u:= .agg #[.slice v'.pl.a v'.pl.n v'.pl.c,.slice v'.st.a v'.st.n v'.st.c,.slice v'.se.a v'.se.n v'.se.c,.slice v'.on.a v'.on.n v'.on.c,.slice v'.gr.a v'.gr.n v'.gr.c,.slice v'.ba.a v'.ba.n v'.ba.c,.slice v'.ch.a v'.ch.n v'.ch.c,.slice v'.sa.a v'.sa.n v'.sa.c,.int .i64 v'.fl]) (w':=w1) (by go_simp) ⟨st1_below (by decide) xB1,rfl,xN1,hG.step (by decide) xB1⟩
     ·intro ρ w1 L hG hny hfr hd
      obtain⟨fc,ff⟩:=xF1 hfr
      have f8:ρ (.tmp 8)= .pointer (some ⟨R,0,none⟩):=hfr _ rfl
      refine gives_val (u:= .pointer (some ⟨R,9,none⟩)) (w':=w1) (by go_simp) ⟨st1_below (by decide) xB1,rfl,xN1,hG.step (by decide) xB1⟩
     ·intro ρ w1 L hG hny hfr hd
      obtain⟨fc,ff⟩:=xF1 hfr
      obtain⟨d0,-⟩:=hd
      have d0:(ρ (.tmp 53))= .pointer (some ⟨R,9,none⟩):=d0
      have r9:=cell_touch hG.2 r9 (hRS)
      refine gives_val (u:= .slice a tr.length c) (w':=w1) (by go_simp) ⟨st1_below (by decide) xB1,rfl,xN1,hG.step (by decide) xB1⟩
     ·intro ρ w1 L hG hny hfr hd
      obtain⟨fc,ff⟩:=xF1 hfr
      have f9:ρ (.tmp 9)= .int .i64 t:=hfr _ rfl
      refine gives_val (u:= .int .i64 t) (w':=w1) (by go_simp) ⟨st1_below (by decide) xB1,rfl,xN1,hG.step (by decide) xB1⟩
     ·intro ρ w1 L hG hny hfr hd
      obtain⟨fc,ff⟩:=xF1 hfr
      obtain⟨d0,-⟩:=hd
      have d0:(ρ (.tmp 55))= .int .i64 t:=d0
      refine gives_val (u:= .slice (some ⟨w1.heap.size,0,none⟩) 1 1) (w':=w1.alloc (.cells #[.int .i64 t] 3)) (by go_simp) ⟨st1_below (by decide) (xA1),⟨_,rfl,Blk.new _ _ _,hG.2.size⟩,xN1,hG.step (by decide) (xA1)⟩
     ·intro ρ w1 L hG hny hfr hd
      obtain⟨fc,ff⟩:=xF1 hfr
      obtain⟨d0,d1,-⟩:=hd
      have d0:(ρ (.tmp 54))= .slice a tr.length c:=d0
      have d1:(∃gz:Nat,(ρ (.tmp 56))= .slice (some ⟨gz,0,none⟩) 1 1∧Blk w1 gz #[.int .i64 t] 3∧u3.heap.size≤gz):=d1
      have hL:=hny 5 _ rfl (by kernel_rfl)
      have hbe:=hG.1 hL
      have ho:=owns_below HROW.out hbe
      obtain⟨gz,d1,hgz,hgs⟩:=d1
      refine gives_append_hn (m:=1) (news:=ints [t]) _ _ 23 rfl Tryz.underlying23 info_int rfl (by decide) d0 ho d1 rfl (Rd.of_blk hgz) (ints_one _) (by omega) (by decide) (Nat.le_trans hwb hbe.size) ?_
      intro a' c' w2' ho2 hg hn2
      have hT:Touch (rowOf a).toList w1 w2':=Touch.of_grown hg (fun q hq=>by simpa using hq)
      exact⟨st1_own hT,⟨a',c',rfl,ho2,fun q hq=>(hn2 q hq).imp id (fun h=>Nat.le_trans hbe.size h)⟩,xN1,hG.own hT⟩
     ·intro ρ w1 L hG hny hfr hd
      obtain⟨fc,ff⟩:=xF1 hfr
      obtain⟨d0,d1,-⟩:=hd
      have d0:(ρ (.tmp 52))= .agg #[.slice v'.pl.a v'.pl.n v'.pl.c,.slice v'.st.a v'.st.n v'.st.c,.slice v'.se.a v'.se.n v'.se.c,.slice v'.on.a v'.on.n v'.on.c,.slice v'.gr.a v'.gr.n v'.gr.c,.slice v'.ba.a v'.ba.n v'.ba.c,.slice v'.ch.a v'.ch.n v'.ch.c,.slice v'.sa.a v'.sa.n v'.sa.c,.int .i64 v'.fl]:=d0
      have d1:(∃(a':Option Addr) (c':Nat),(ρ (.tmp 57))= .slice a' (tr.length+1) c'∧w1.ownsRow w.heap.size 3 1 (.slice a' (tr.length+1) c') (tr.length+1) (ints tr++ints [t])∧(∀q,rowOf a'=some q→rowOf a=some q∨u3.heap.size≤q)):=d1
      obtain⟨a',c',d1,-,-⟩:=d1
      have hbd:=build_run v' a' (tr.length+1) c' w1
      refine gives_val (u:= .agg #[.slice v'.pl.a v'.pl.n v'.pl.c,.slice v'.st.a v'.st.n v'.st.c,.slice v'.se.a v'.se.n v'.se.c,.slice v'.on.a v'.on.n v'.on.c,.slice v'.gr.a v'.gr.n v'.gr.c,.slice v'.ba.a v'.ba.n v'.ba.c,.slice v'.ch.a v'.ch.n v'.ch.c,.slice v'.sa.a v'.sa.n v'.sa.c,.int .i64 v'.fl,.slice a' (tr.length+1) c']) (w':=w1) (by go_simp) ⟨st1_below (by decide) xB1,⟨a',c',d1,rfl⟩,xN1,hG.step (by decide) xB1⟩
    intro vs w2 LL hG hlen hall hap hbd
    obtain⟨xv0,vs0,rfl,hl0⟩:=len_cons hlen
    obtain⟨xv1,vs1,rfl,hl1⟩:=len_cons hl0
    obtain⟨xv2,vs2,rfl,hl2⟩:=len_cons hl1
    obtain⟨xv3,vs3,rfl,hl3⟩:=len_cons hl2
    obtain⟨xv4,vs4,rfl,hl4⟩:=len_cons hl3
    obtain⟨xv5,vs5,rfl,hl5⟩:=len_cons hl4
    obtain⟨xv6,vs6,rfl,hl6⟩:=len_cons hl5
    obtain rfl:=len_nil hl6
    clear hlen hl0 hl1 hl2 hl3 hl4 hl5 hl6
    simp only[List.take_succ_cons,List.take_zero,List.drop_succ_cons,List.drop_zero] at hall⊢
    obtain⟨t0',t1',t2',t3',t4',t5',t6',-⟩:=hall
    have hv0:xv0= .agg #[.slice v'.pl.a v'.pl.n v'.pl.c,.slice v'.st.a v'.st.n v'.st.c,.slice v'.se.a v'.se.n v'.se.c,.slice v'.on.a v'.on.n v'.on.c,.slice v'.gr.a v'.gr.n v'.gr.c,.slice v'.ba.a v'.ba.n v'.ba.c,.slice v'.ch.a v'.ch.n v'.ch.c,.slice v'.sa.a v'.sa.n v'.sa.c,.int .i64 v'.fl]:=t0'
    have hv1:xv1= .pointer (some ⟨R,9,none⟩):=t1'
    have hv2:xv2= .slice a tr.length c:=t2'
    have hv3:xv3= .int .i64 t:=t3'
    have hv4:(∃gz:Nat,xv4= .slice (some ⟨gz,0,none⟩) 1 1∧Blk w2 gz #[.int .i64 t] 3∧u3.heap.size≤gz):=t4'
    have hv5:(∃(a':Option Addr) (c':Nat),xv5= .slice a' (tr.length+1) c'∧w2.ownsRow w.heap.size 3 1 (.slice a' (tr.length+1) c') (tr.length+1) (ints tr++ints [t])∧(∀q,rowOf a'=some q→rowOf a=some q∨u3.heap.size≤q)):=t5'
    have hv6:(∃(a':Option Addr) (c':Nat),xv5= .slice a' (tr.length+1) c'∧xv6= .agg #[.slice v'.pl.a v'.pl.n v'.pl.c,.slice v'.st.a v'.st.n v'.st.c,.slice v'.se.a v'.se.n v'.se.c,.slice v'.on.a v'.on.n v'.on.c,.slice v'.gr.a v'.gr.n v'.gr.c,.slice v'.ba.a v'.ba.n v'.ba.c,.slice v'.ch.a v'.ch.n v'.ch.c,.slice v'.sa.a v'.sa.n v'.sa.c,.int .i64 v'.fl,.slice a' (tr.length+1) c']):=t6'
    clear t0' t1' t2' t3' t4' t5' t6'
    clear hap hbd
    subst hv0 hv1 hv2 hv3
    obtain⟨a',c',rfl,hrow,hnr⟩:=hv5
    obtain⟨a2,c2,e1,rfl⟩:=hv6
    obtain⟨rfl,rfl⟩:a'=a2∧c'=c2:=by simpa using e1
    clear e1 hv4 r9 hNS hRS n0 n1 n2 n3 n4 n5 n6 n7 n8
    have h4:=h3.appT 2 rfl hG.2 hrow hnr
    clear hrow hnr hG h3
    simp only[putAll,Act.put,List.setIfInBounds_toArray,List.set_cons_succ,List.set_cons_zero]
    have cr:=h4.fr.c10 1 rfl
    have h5:=h4.set10 1 rfl (.slice v'.pl.a v'.pl.n v'.pl.c) (.slice v'.st.a v'.st.n v'.st.c) (.slice v'.se.a v'.se.n v'.se.c) (.slice v'.on.a v'.on.n v'.on.c) (.slice v'.gr.a v'.gr.n v'.gr.c) (.slice v'.ba.a v'.ba.n v'.ba.c) (.slice v'.ch.a v'.ch.n v'.ch.c) (.slice v'.sa.a v'.sa.n v'.sa.c) (.int .i64 v'.fl) (.slice a' (tr.length+1) c')
    have e:(tr++[t]).length=tr.length+1:=by rw[List.length_append];rfl
    obtain⟨W5,hw5,h5b⟩:=h5.named
    have h6:Sf w W5 (wk4 w R v' a' (tr++[t]).length c' (tr++[t]) u) v' L' (stepD p s t):=by rw[e];unfold wk4;rw[ints_app];exact h5b.sub (.cons _ (.refl _))
    have E:=xH1 e
    have HW5:=xH1 hw5
    clear h5 h5b h4 e hw5
    go_wp2
    rw[←HW5.out]
    have hnew:=h6.fr.cell 0 9 rfl rfl
    go_roundw
    case rel=>exact⟨v',L',stepD p s t,a',c',tr++[t],h6,HR.out.step HT.out,by rw[E.out];omega,xH1 (HJS.out s tr t HJ.out HOC.out.symm),HN2.out,by rw[HW2.out,E.out];congr 1;omega⟩
    case measure=>
     unfold trN
     rw[HOLD.out,hnew]
     show 101-(tr++[t]).length<101-tr.length
     rw[E.out]
     omega
   ·have hwk:=HWK.out
    rw[show 101-tr.length=(100-tr.length)+1 by omega,walkD_no HOC.out.symm hin] at hwk
    have HWE:=xH1 hwk
    have HIN:=xH1 hin
    have cr:=h.fr.c10 0 rfl
    have cp:=h.fr.c5 3 rfl
    clear hwk hin
    go_wp2_with fail
    refine(implStep_no u p v L s t _ (HP.out.below h.bel) h.rd HR.out HIN.out).mono ?_
    rintro e w2 ⟨rfl,hb⟩
    have h2:=(h.call hb).alloc #[.slice none 0 0,.slice none 0 0,.slice none 0 0,.slice none 0 0,.slice none 0 0,.slice none 0 0,.slice none 0 0,.slice none 0 0,.int .i64 0] 38
    clear hb h cr cp HN
    go_upto_region 9 with fail
    obtain⟨u3,hw,h3⟩:=h2.named
    rw[←hw]
    clear hw h2
    have cz:=h3.fr.c10 3 rfl
    have F2:=h3.set10 3 rfl (.slice none 0 0) (.slice none 0 0) (.slice none 0 0) (.slice none 0 0) (.slice none 0 0) (.slice none 0 0) (.slice none 0 0) (.slice none 0 0) (.int .i64 0) (.slice none 0 0)
    go_wp2
    exact bodyPost_ret (v:= .tuple #[.agg #[.slice none 0 0,.slice none 0 0,.slice none 0 0,.slice none 0 0,.slice none 0 0,.slice none 0 0,.slice none 0 0,.slice none 0 0,.int .i64 0,.slice none 0 0],.bool false]) (by simp[results,Tryz.results23,go_sem,F2.fr.c10 3 rfl]) rfl ⟨F2.bel,.inl ⟨HWE.out,rfl⟩⟩
end Go.Proofs.YtjmpejaifmopnaaGreat
