/- Part of a proof: IOver. -/
import Derived.Deep.RegionHeld3
import Derived.Deep.AppendLies
import Derived.Test.YtfclolgfegdfjaaGreatVPIFit
set_option maxRecDepth 100000
set_option maxHeartbeats 16000000
namespace Go.Proofs.YtfclolgfegdfjaaGreat
open Go.RowKit
def Vb (s:zp):Bool:=decide (s.fault=0)&&s.status.all (λx=>decide (x=3))
theorem kX (x:Int) (w:World):
  Calls Tryz.prog 153 #[uy x] w λe w'=>e= .returned (.bool (x !=3))/\w'=w:=by
 go_enter Tryz.func153,Tryz.ntmps153;go_wp2;go_ret;exact⟨rfl,rfl⟩
theorem tU (a:uQ) (n c:Nat) (l:List Int) (w:World) (hl:l.length=n) (hn:n<=8) (hr:Rd w a (zf l)):
  Calls Tryz.prog 48 #[.slice a n c,.func (.func 153) #[] #[]] w λe w'=>w'=w/\((e= .returned (uy (-1))/\∀j,j<n->l.getD j 0=3)\/∃k:Nat,e= .returned (uy k)/\k<n/\l.getD k 0≠3):=by
 have HL:=zd hl;clear hl;go_enter Tryz.func48,Tryz.ntmps48;go_wp2
 go_loopw [8] (λi wr=>∃k:Nat,k<=n/\i=uy k/\uH (∀j,j<k->l.getD j 0=3)/\wr=w) (λi _=>n-(intOf i).toNat)
 case atStart=>exact⟨0,jq,rfl,zd jq,rfl⟩
 case round=>
  obtain⟨k,hk,rfl,a0,rfl⟩:=hrel;by_cases d0:k<n
  ·obtain⟨b,o,rfl,b0⟩:=hr.int (jQ HL.o);have g:=b0 k (jQ HL.o);obtain⟨x,hx⟩:=jy (l.getD k 0);rw[<-hx] at g;have HX:=zd hx;clear b0 hx;go_wp2_with fail;refine(kX x _).mono ?_;rintro e wz ⟨rfl,hw⟩;obtain rfl:=hw;by_cases e:x=3
   ·have t1:(x !=3)=false:=(by simpa using e);rw[t1];have HE:=zd e;clear e t1;go_wp2
    go_roundw
    case rel=>exact⟨k+1,jq,by go_num,zd (λj hj=>by
      rcases Nat.lt_or_ge j k with h|h
      ·exact a0.out j h
      ·have:j=k:=jq;subst this;rw[<-HX.o];exact HE.o),trivial⟩
    case measure=>exact uq
   ·have t1:(x !=3)=true:=(by simpa using e);rw[t1];have HE:=zd e;clear e t1;go_wp2;go_ret;exact⟨rfl,.inr ⟨k,rfl,d0,by rw[<-HX.o];exact HE.o⟩⟩
  ·have c0:k=n:=jq;subst c0;go_wp2;go_ret;exact⟨rfl,.inl ⟨rfl,a0.out⟩⟩
theorem tu (a:uQ) (n c:Nat) (l:List Int) (w:World) (hl:l.length=n) (hn:n<=8) (hr:Rd w a (zf l)):
  Calls Tryz.prog 81 #[.slice a n c,.func (.func 153) #[] #[]] w λe w'=>w'=w/\e= .returned (.bool (!l.all (λx=>decide (x=3)))):=by
 have HL:=zd hl;clear hl;go_enter Tryz.func81,Tryz.ntmps81;go_wp2_with fail;refine(tU a n c l w HL.o hn hr).mono ?_;rintro e wz ⟨hw,h⟩;obtain rfl:=hw;rcases h with ⟨rfl,a0⟩|⟨k,rfl,hk,b0⟩
 ·have t1:l.all (λx=>decide (x=3))=true:=by
   rw[List.all_eq_true];intro x hx;obtain⟨j,hj,rfl⟩:=List.mem_iff_getElem.1 hx;have:=a0 j (jQ HL.o);rw[xm,xV hj] at this;simpa using this
  have T1:=zd t1;clear t1 a0;go_wp2;go_ret;exact⟨rfl,by rw[T1.o];rfl⟩
 ·have t1:l.all (λx=>decide (x=3))=false:=by
   rw[List.all_eq_false];have hj:k<l.length:=by have:=HL.o;omega
   rw[xm,xV hj] at b0;exact⟨_,List.getElem_mem hj,by simpa using b0⟩
  have T1:=zd t1;have k0:(0:Int)<=(k:Int):=jq;clear t1 b0;go_wp2;go_ret;exact⟨rfl,by rw[T1.o];rfl⟩
theorem QJ (v:zu) (L:zQ) (s:zp) (w:World) (hr:yZ w v L s) (hn:s.status.length<=8):
  Calls Tryz.prog 125 #[v.val] w λe w'=>e= .returned (.bool (s.status.all (λx=>decide (x=3))))/\xW w w':=by
 have HS:=zd hr;clear hr;have F:=(Fr.start w).alloc (yN v) 38;have cs:=F.c9 0 rfl;have HB:=zd F.bel;go_enter Tryz.func125,Tryz.ntmps125;go_wp2_with fail;refine(tu v.st.a v.st.n v.st.c s.status _ HS.o.st.len.symm (by rw[HS.o.st.len];exact hn) (HS.o.st.rd.below HB.o)).mono ?_;rintro e wz ⟨hw,rfl⟩;obtain rfl:=hw;clear F cs;go_wp2;go_ret;exact⟨jv,HB.o⟩
theorem GJ (u:PV) (p:Pg) (v:zu) (L:zQ) (s:zp) (w:World) (hp:yK w u p) (hr:yZ w v L s) (hf:yp p s):
  Calls Tryz.prog 92 #[.agg (zF u),v.val] w λe w'=>e= .returned (.bool (Vb s))/\xW w w':=by
 have HS:=zd hr;have HP:=zd hp;have HF:=zd hf;have N8:uH (s.status.length<=8):=zd (by have h1:=hf.nst;have h2:=(yf hf.prog).2.2.2.2.1;omega);have a0:uH (v.fl=s.fault):=zd hr.fl;clear hr hp hf;have F:=((Fr.start w).alloc (zF u) 26).alloc (yN v) 38;simp only[yY] at F;have cs:=F.c9 0 rfl;have cp:=F.c5 1 rfl;go_enter Tryz.func92,Tryz.ntmps92;go_wp2_with fail;refine(qE u p v L s _ (HP.o.below F.bel) (HS.o.below F.bel) HF.o).mono ?_;rintro e w1 ⟨rfl,hb⟩;replace F:=F.call hb;replace cs:=F.c9 0 rfl;replace cp:=F.c5 1 rfl;clear hb;by_cases h0:v.fl=0
 ·have t1:((v.fl:Int)==0)=true:=by simpa using h0
  have H0:=zd h0;clear h0;go_wp2_with fail;refine(QJ v L s _ (HS.o.below F.bel) N8.o).mono ?_;rintro e w2 ⟨rfl,hb⟩;have HB:=zd (F.call hb).bel;clear F hb cs cp;go_wp2;go_ret;exact⟨by unfold Vb;rw[<-a0.out,H0.o];simp,HB.o⟩
 ·have t1:((v.fl:Int)==0)=false:=by simpa using h0
  have H0:=zd h0;have HB:=zd F.bel;clear h0 F;go_wp2;go_ret;exact⟨by unfold Vb;rw[<-a0.out,xr H0.o];rfl,HB.o⟩
end Go.Proofs.YtfclolgfegdfjaaGreat
