/- Part of a proof: IEnd. -/
import Derived.Deep.RegionHeld3
import Derived.Deep.AppendLies
import Derived.Test.YtfclolgfegdfjaaGreatVIOver
set_option maxRecDepth 100000
set_option maxHeartbeats 16000000
namespace Go.Proofs.YtfclolgfegdfjaaGreat
open Go.RowKit
def XT (s:zp):Bool:=decide (s.fault=0)&&decide ((zq s).length=0)&& !s.status.all (λx=>decide (x=3))
def UH (s:zp):ByteArray:=if s.fault=0 then (if Vb s=true then ⟨#[111,118,101,114]⟩ else if XT s=true then ⟨#[115,116,117,99,107]⟩ else ⟨#[111,112,101,110]⟩) else ⟨#[102,97,117,108,116]⟩
theorem K6 (u:PV) (p:Pg) (v:zu) (L:zQ) (s:zp) (w:World) (hp:yK w u p) (hr:yZ w v L s) (hf:yp p s):
  Calls Tryz.prog 93 #[.agg (zF u),v.val] w λe w'=>e= .returned (.bool (XT s))/\xW w w':=by
 have HS:=zd hr;have HP:=zd hp;have HF:=zd hf;have N8:uH (s.status.length<=8):=zd (by have h1:=hf.nst;have h2:=(yf hf.prog).2.2.2.2.1;omega);have b0:uH (v.fl=s.fault):=zd hr.fl;clear hr hp hf;have F:=((Fr.start w).alloc (zF u) 26).alloc (yN v) 38;simp only[yY] at F;have cs:=F.c9 0 rfl;have cp:=F.c5 1 rfl;go_enter Tryz.func93,Tryz.ntmps93;go_wp2_with fail;refine(qE u p v L s _ (HP.o.below F.bel) (HS.o.below F.bel) HF.o).mono ?_;rintro e w1 ⟨rfl,hb⟩;replace F:=F.call hb;replace cs:=F.c9 0 rfl;replace cp:=F.c5 1 rfl;clear hb;by_cases h0:v.fl=0
 ·have t1:((v.fl:Int)==0)=true:=by simpa using h0
  have H0:=zd h0;clear h0;go_wp2_with fail;refine(uY v L s _ (HS.o.below F.bel) N8.o).mono ?_;rintro e w2 ⟨a1,c1,rfl,-,hb⟩;replace F:=F.call hb;replace cs:=F.c9 0 rfl;replace cp:=F.c5 1 rfl;clear hb t1;obtain⟨m,hm⟩:=jy ((zq s).length);rw[<-hm];have HM:=zd hm;clear hm;by_cases a0:m=0
  ·have t2:((m:Int)==0)=true:=by rw[a0];rfl
   have c0:=zd a0;clear a0;go_wp2_with fail;refine(QJ v L s _ (HS.o.below F.bel) N8.o).mono ?_;rintro e w3 ⟨rfl,hb⟩;have HB:=zd (F.call hb).bel;clear F hb cs cp;go_wp2;go_ret;exact⟨by unfold XT;rw[<-b0.out,H0.o,<-HM.o,c0.out];simp,HB.o⟩
  ·have t2:((m:Int)==0)=false:=(by simpa using a0);have c0:=zd a0;have HB:=zd F.bel;clear a0 F;go_wp2;go_ret;exact⟨by unfold XT;rw[<-b0.out,H0.o,<-HM.o,xr c0.out];simp,HB.o⟩
 ·have t1:((v.fl:Int)==0)=false:=by simpa using h0
  have H0:=zd h0;have HB:=zd F.bel;clear h0 F;go_wp2;go_ret;exact⟨by unfold XT;rw[<-b0.out,xr H0.o];rfl,HB.o⟩
theorem VF (u:PV) (p:Pg) (v:zu) (L:zQ) (s:zp) (w:World) (hp:yK w u p) (hr:yZ w v L s) (hf:yp p s):
  Calls Tryz.prog 34 #[.agg #[.slice u.s u.ns u.cs,.slice u.g u.ng u.cg,.slice u.b u.nb u.cb,.slice u.r u.nr u.cr,.slice u.t u.nt u.ct],.agg #[.slice v.pl.a v.pl.n v.pl.c,.slice v.st.a v.st.n v.st.c,.slice v.se.a v.se.n v.se.c,.slice v.on.a v.on.n v.on.c,.slice v.gr.a v.gr.n v.gr.c,.slice v.ba.a v.ba.n v.ba.c,.slice v.ch.a v.ch.n v.ch.c,.slice v.sa.a v.sa.n v.sa.c,.int .i64 v.fl]] w λe w'=>e= .returned (.string (UH s))/\Below w.heap.size w w':=by
 have HS:=zd hr;have HP:=zd hp;have HF:=zd hf;have N8:uH (s.status.length<=8):=zd (by have h1:=hf.nst;have h2:=(yf hf.prog).2.2.2.2.1;omega);have a0:uH (v.fl=s.fault):=zd hr.fl;clear hr hp hf;have F:=((Fr.start w).alloc (zF u) 26).alloc (yN v) 38;simp only[World.size_alloc] at F;have cs:=F.c9 0 rfl;have cp:=F.c5 1 rfl;go_enter Tryz.func34,Tryz.ntmps34;go_wp2_with fail;refine(qE u p v L s _ (HP.o.below F.bel) (HS.o.below F.bel) HF.o).mono ?_;rintro e w1 ⟨rfl,hb⟩;replace F:=F.call hb;replace cs:=F.c9 0 rfl;replace cp:=F.c5 1 rfl;clear hb;by_cases h0:v.fl=0
 ·have t1:((v.fl:Int) !=0)=false:=by simpa using h0
  have H0:=zd (a0.out.symm.trans h0);clear h0;go_wp2_with fail;refine(GJ u p v L s _ (HP.o.below F.bel) (HS.o.below F.bel) HF.o).mono ?_;rintro e w1 ⟨rfl,hb⟩;replace F:=F.call hb;replace cs:=F.c9 0 rfl;replace cp:=F.c5 1 rfl;clear hb;obtain⟨o,ho⟩:∃o,o=Vb s:=⟨_,rfl⟩
  rw[<-ho];have HO:=zd ho;clear ho
  cases o with
  |true=>
   have HB:=zd F.bel;clear F;go_wp2;go_ret;exact⟨by unfold UH;rw[if_pos H0.o,if_pos HO.o.symm];rfl,HB.o⟩
  |false=>
   go_wp2_with fail;refine(K6 u p v L s _ (HP.o.below F.bel) (HS.o.below F.bel) HF.o).mono ?_;rintro e w1 ⟨rfl,hb⟩;replace F:=F.call hb;replace cs:=F.c9 0 rfl;replace cp:=F.c5 1 rfl;clear hb;obtain⟨k,hk⟩:∃o,o=XT s:=⟨_,rfl⟩
   rw[<-hk];have HK:=zd hk;clear hk
   cases k with
   |true=>
    have HB:=zd F.bel;clear F;go_wp2;go_ret;exact⟨by unfold UH;rw[if_pos H0.o,if_neg (by rw[<-HO.o];simp),if_pos HK.o.symm];rfl,HB.o⟩
   |false=>
    have HB:=zd F.bel;clear F;go_wp2;go_ret;exact⟨by unfold UH;rw[if_pos H0.o,if_neg (by rw[<-HO.o];simp),if_neg (by rw[<-HK.o];simp)];rfl,HB.o⟩
 ·have t1:((v.fl:Int) !=0)=true:=by simpa using h0
  have H0:=zd (λe=>h0 (a0.out.trans e));clear h0;have HB:=zd F.bel;clear F;go_wp2;go_ret;exact⟨by unfold UH;rw[if_neg H0.o];rfl,HB.o⟩
end Go.Proofs.YtfclolgfegdfjaaGreat
