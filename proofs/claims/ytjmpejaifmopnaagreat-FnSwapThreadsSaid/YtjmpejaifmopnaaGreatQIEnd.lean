/- Part of a proof: IEnd. -/
import Derived.Test.YtjmpejaifmopnaaGreatQPRun
set_option maxRecDepth 100000
set_option maxHeartbeats 16000000
namespace Go.Proofs.YtjmpejaifmopnaaGreat
open Go.RowKit
def stuckB (s:StD):Bool:=decide (s.fault=0)&&decide ((readyOf s).length=0)&& !s.status.all (fun x=>decide (x=3))
def endS (s:StD):ByteArray:=if s.fault=0 then (if overB s=true then ⟨#[111,118,101,114]⟩ else if stuckB s=true then ⟨#[115,116,117,99,107]⟩ else ⟨#[111,112,101,110]⟩) else ⟨#[102,97,117,108,116]⟩
theorem implIsStuck_ok (u:PV) (p:Pg) (v:StV) (L:StL) (s:StD) (w:World) (hp:RdP w u p) (hr:StR w v L s) (hf:Fits p s):
  Calls Tryz.prog 32 #[.agg #[.slice u.s u.ns u.cs,.slice u.g u.ng u.cg,.slice u.b u.nb u.cb,.slice u.r u.nr u.cr,.slice u.t u.nt u.ct],.agg #[.slice v.pl.a v.pl.n v.pl.c,.slice v.st.a v.st.n v.st.c,.slice v.se.a v.se.n v.se.c,.slice v.on.a v.on.n v.on.c,.slice v.gr.a v.gr.n v.gr.c,.slice v.ba.a v.ba.n v.ba.c,.slice v.ch.a v.ch.n v.ch.c,.slice v.sa.a v.sa.n v.sa.c,.int .i64 v.fl]] w fun e w'=>e= .returned (.bool (stuckB s))∧Below w.heap.size w w':=by
 have HS:=xH1 hr
 have HP:=xH1 hp
 have HF:=xH1 hf
 have N8:Hid (s.status.length≤8):=xH1 (by have h1:=hf.nst;have h2:=(valid_small hf.prog).2.2.2.2.1;omega)
 have HFL:Hid (v.fl=s.fault):=xH1 hr.fl
 clear hr hp hf
 have F:=((Fr.start w).alloc (pvC u) 26).alloc (svC v) 38
 simp only[World.size_alloc] at F
 have cs:=F.c9 0 rfl
 have cp:=F.c5 1 rfl
 go_enter Tryz.func32,Tryz.ntmps32
 go_wp2_with fail
 refine(implStateFits_ok u p v L s _ (HP.out.below F.bel) (HS.out.below F.bel) HF.out).mono ?_
 rintro e w1 ⟨rfl,hb⟩
 replace F:=F.call hb
 replace cs:=F.c9 0 rfl
 replace cp:=F.c5 1 rfl
 clear hb
 by_cases h0:v.fl=0
 ·have t1:((v.fl:Int)==0)=true:=by simpa using h0
  have H0:=xH1 h0
  clear h0
  go_wp2_with fail
  refine(implReady_ok v L s _ (HS.out.below F.bel) N8.out).mono ?_
  rintro e w2 ⟨a1,c1,rfl,-,hb⟩
  replace F:=F.call hb
  replace cs:=F.c9 0 rfl
  replace cp:=F.c5 1 rfl
  clear hb t1
  obtain⟨m,hm⟩:∃m,m=(readyOf s).length:=⟨_,rfl⟩
  rw[←hm]
  have HM:=xH1 hm
  clear hm
  by_cases hr0:m=0
  ·have t2:((m:Int)==0)=true:=by rw[hr0];rfl
   have HR0:=xH1 hr0
   clear hr0
   go_wp2_with fail
   refine(implAllDone_ok v L s _ (HS.out.below F.bel) N8.out).mono ?_
   rintro e w3 ⟨rfl,hb⟩
   have HB:=xH1 (F.call hb).bel
   clear F hb cs cp
   go_wp2
   go_ret
   exact⟨by unfold stuckB;rw[←HFL.out,H0.out,←HM.out,HR0.out];simp,HB.out⟩
  ·have t2:((m:Int)==0)=false:=by simpa using hr0
   have HR0:=xH1 hr0
   have HB:=xH1 F.bel
   clear hr0 F
   go_wp2
   go_ret
   exact⟨by unfold stuckB;rw[←HFL.out,H0.out,←HM.out,decide_eq_false HR0.out];simp,HB.out⟩
 ·have t1:((v.fl:Int)==0)=false:=by simpa using h0
  have H0:=xH1 h0
  have HB:=xH1 F.bel
  clear h0 F
  go_wp2
  go_ret
  exact⟨by unfold stuckB;rw[←HFL.out,decide_eq_false H0.out];rfl,HB.out⟩
theorem implEndOf_ok (u:PV) (p:Pg) (v:StV) (L:StL) (s:StD) (w:World) (hp:RdP w u p) (hr:StR w v L s) (hf:Fits p s):
  Calls Tryz.prog 13 #[.agg #[.slice u.s u.ns u.cs,.slice u.g u.ng u.cg,.slice u.b u.nb u.cb,.slice u.r u.nr u.cr,.slice u.t u.nt u.ct],.agg #[.slice v.pl.a v.pl.n v.pl.c,.slice v.st.a v.st.n v.st.c,.slice v.se.a v.se.n v.se.c,.slice v.on.a v.on.n v.on.c,.slice v.gr.a v.gr.n v.gr.c,.slice v.ba.a v.ba.n v.ba.c,.slice v.ch.a v.ch.n v.ch.c,.slice v.sa.a v.sa.n v.sa.c,.int .i64 v.fl]] w fun e w'=>e= .returned (.string (endS s))∧Below w.heap.size w w':=by
 have HS:=xH1 hr
 have HP:=xH1 hp
 have HF:=xH1 hf
 have N8:Hid (s.status.length≤8):=xH1 (by have h1:=hf.nst;have h2:=(valid_small hf.prog).2.2.2.2.1;omega)
 have HFL:Hid (v.fl=s.fault):=xH1 hr.fl
 clear hr hp hf
 have F:=((Fr.start w).alloc (pvC u) 26).alloc (svC v) 38
 simp only[World.size_alloc] at F
 have cs:=F.c9 0 rfl
 have cp:=F.c5 1 rfl
 go_enter Tryz.func13,Tryz.ntmps13
 go_wp2_with fail
 refine(implStateFits_ok u p v L s _ (HP.out.below F.bel) (HS.out.below F.bel) HF.out).mono ?_
 rintro e w1 ⟨rfl,hb⟩
 replace F:=F.call hb
 replace cs:=F.c9 0 rfl
 replace cp:=F.c5 1 rfl
 clear hb
 by_cases h0:v.fl=0
 ·have t1:((v.fl:Int) !=0)=false:=by simpa using h0
  have H0:=xH1 (HFL.out.symm.trans h0)
  clear h0
  go_wp2_with fail
  refine(implIsOver_ok u p v L s _ (HP.out.below F.bel) (HS.out.below F.bel) HF.out).mono ?_
  rintro e w1 ⟨rfl,hb⟩
  replace F:=F.call hb
  replace cs:=F.c9 0 rfl
  replace cp:=F.c5 1 rfl
  clear hb
  obtain⟨o,ho⟩:∃o,o=overB s:=⟨_,rfl⟩
  rw[←ho]
  have HO:=xH1 ho
  clear ho
  cases o with
  |true=>
   have HB:=xH1 F.bel
   clear F
   go_wp2
   go_ret
   exact⟨by unfold endS;rw[if_pos H0.out,if_pos HO.out.symm];rfl,HB.out⟩
  |false=>
   go_wp2_with fail
   refine(implIsStuck_ok u p v L s _ (HP.out.below F.bel) (HS.out.below F.bel) HF.out).mono ?_
   rintro e w1 ⟨rfl,hb⟩
   replace F:=F.call hb
   replace cs:=F.c9 0 rfl
   replace cp:=F.c5 1 rfl
   clear hb
   obtain⟨k,hk⟩:∃o,o=stuckB s:=⟨_,rfl⟩
   rw[←hk]
   have HK:=xH1 hk
   clear hk
   cases k with
   |true=>
    have HB:=xH1 F.bel
    clear F
    go_wp2
    go_ret
    exact⟨by unfold endS;rw[if_pos H0.out,if_neg (by rw[←HO.out];simp),if_pos HK.out.symm];rfl,HB.out⟩
   |false=>
    have HB:=xH1 F.bel
    clear F
    go_wp2
    go_ret
    exact⟨by unfold endS;rw[if_pos H0.out,if_neg (by rw[←HO.out];simp),if_neg (by rw[←HK.out];simp)];rfl,HB.out⟩
 ·have t1:((v.fl:Int) !=0)=true:=by simpa using h0
  have H0:=xH1 (fun e=>h0 (HFL.out.trans e))
  clear h0
  have HB:=xH1 F.bel
  clear F
  go_wp2
  go_ret
  exact⟨by unfold endS;rw[if_neg H0.out];rfl,HB.out⟩
end Go.Proofs.YtjmpejaifmopnaaGreat
