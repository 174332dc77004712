/- Part of a proof: ISame. -/
import Derived.Test.YtfclolgfegdfjaaGreatVEqZ
import Derived.Test.YtfclolgfegdfjaaGreatVWkIntB
set_option maxRecDepth 100000
set_option maxHeartbeats 16000000
namespace Go.Proofs.YtfclolgfegdfjaaGreat
open Go.RowKit
theorem ZU (a1 a2:uQ) (n c1 c2:Nat) (xs:List Int) (w:World) (hn:n<=1048576) (hl:xs.length=n) (h1:Rd w a1 (zf xs)) (h2:Rd w a2 (zf xs)):
  Calls Tryz.prog 67 #[.slice a1 n c1,.slice a2 n c2] w λe w'=>e= .returned (.bool true)/\xW w w':=by
 have HL:=zd hl;have t0:((n:Int) !=(n:Int))=false:=jv;clear hl;go_enter Tryz.func67,Tryz.ntmps67;go_wp2
 go_loopw [5,13] (λ_ i wr=>∃k:Nat,k<=n/\i=uy k/\xW w wr) (λ_ i _=>n-(intOf i).toNat)
 case atStart=>exact⟨0,jq,rfl,Below.refl _ _⟩
 case round=>
  obtain⟨k,hk,rfl,hb⟩:=hrel;by_cases d0:k<n
  ·obtain⟨b1,o1,rfl,a0⟩:=(h1.below hb).int (jQ HL.o);obtain⟨b2,o2,rfl,b0⟩:=(h2.below hb).int (jQ HL.o);have g1:=a0 k (jQ HL.o);have g2:=b0 k (jQ HL.o);obtain⟨x,hx⟩:=jy (xs.getD k 0);rw[<-hx] at g1 g2;have t1:(x !=x)=false:=jv;clear a0 b0 hx;go_wp2
   go_quiet (fail)
   go_wp2
   go_roundw
   case rel=>exact⟨k+1,jq,by go_num,hb.trans ((j7 _ _).mono hb.size)⟩
   case measure=>exact uq
  ·have c0:k=n:=jq;subst c0;go_wp2;go_ret;exact⟨rfl,hb⟩
theorem Dr (a1 a2:uQ) (n c1 c2:Nat) (xs:List (Int×Int)) (w:World) (hn:n<=1048576) (hl:xs.length=n) (h1:Rd w a1 (zK xs)) (h2:Rd w a2 (zK xs)):
  Calls Tryz.prog 114 #[.slice a1 n c1,.slice a2 n c2] w λe w'=>e= .returned (.bool true)/\xW w w':=by
 have HL:=zd hl;have t0:((n:Int) !=(n:Int))=false:=jv;clear hl;go_enter Tryz.func114,Tryz.ntmps114;go_wp2
 go_loopw [5,13] (λ_ i wr=>∃k:Nat,k<=n/\i=uy k/\xW w wr) (λ_ i _=>n-(intOf i).toNat)
 case atStart=>exact⟨0,jq,rfl,Below.refl _ _⟩
 case round=>
  obtain⟨k,hk,rfl,hb⟩:=hrel;by_cases i0:k<n
  ·obtain⟨b1,o1,rfl,a0⟩:=(h1.below hb).pair (jQ HL.o);obtain⟨b2,o2,rfl,b0⟩:=(h2.below hb).pair (jQ HL.o);obtain⟨c0,d0⟩:=a0 k (jQ HL.o);obtain⟨f0,g0⟩:=b0 k (jQ HL.o);obtain⟨x,hx⟩:=jy (xs.getD k (0,0));rw[<-hx] at c0 d0 f0 g0;have kn:=fE;have kg:=tY;clear a0 b0 hx;go_wp2
   go_quiet (fail)
   go_wp2
   go_roundw
   case rel=>exact⟨k+1,jq,by go_num,hb.trans ((j7 _ _).mono hb.size)⟩
   case measure=>exact uq
  ·have h0:k=n:=jq;subst h0;go_wp2;go_ret;exact⟨rfl,hb⟩
theorem Dn (a1 a2:uQ) (n c1 c2:Nat) (xs:List (Int×Int)) (w:World) (hn:n<=1048576) (hl:xs.length=n) (h1:Rd w a1 (zK xs)) (h2:Rd w a2 (zK xs)):
  Calls Tryz.prog 115 #[.slice a1 n c1,.slice a2 n c2] w λe w'=>e= .returned (.bool true)/\xW w w':=by
 have HL:=zd hl;have t0:((n:Int) !=(n:Int))=false:=jv;clear hl;go_enter Tryz.func115,Tryz.ntmps115;go_wp2
 go_loopw [5,13] (λ_ i wr=>∃k:Nat,k<=n/\i=uy k/\xW w wr) (λ_ i _=>n-(intOf i).toNat)
 case atStart=>exact⟨0,jq,rfl,Below.refl _ _⟩
 case round=>
  obtain⟨k,hk,rfl,hb⟩:=hrel;by_cases i0:k<n
  ·obtain⟨b1,o1,rfl,a0⟩:=(h1.below hb).pair (jQ HL.o);obtain⟨b2,o2,rfl,b0⟩:=(h2.below hb).pair (jQ HL.o);obtain⟨c0,d0⟩:=a0 k (jQ HL.o);obtain⟨f0,g0⟩:=b0 k (jQ HL.o);obtain⟨x,hx⟩:=jy (xs.getD k (0,0));rw[<-hx] at c0 d0 f0 g0;have kn:=fT;have kg:=kU;clear a0 b0 hx;go_wp2
   go_quiet (fail)
   go_wp2
   go_roundw
   case rel=>exact⟨k+1,jq,by go_num,hb.trans ((j7 _ _).mono hb.size)⟩
   case measure=>exact uq
  ·have h0:k=n:=jq;subst h0;go_wp2;go_ret;exact⟨rfl,hb⟩
theorem gF (x:xS) (q r:zP) (n:Nat) (w:World) (hn:n<=1048576) (hl:x.queue.length=n) (h1:Rd w q.a (zK x.queue)) (h2:Rd w r.a (zK x.queue)):
  Calls Tryz.prog 69 #[.agg #[uy x.free,uy x.limit,.slice q.a n q.c],.agg #[uy x.free,uy x.limit,.slice r.a n r.c]] w λe w'=>e= .returned (.bool true)/\xW w w':=by
 have HL:=zd hl;have HQ:=zd h1;have HR:=zd h2;have F:=((Fr.start w).alloc #[uy x.free,uy x.limit,.slice q.a n q.c] 74).alloc #[uy x.free,uy x.limit,.slice r.a n r.c] 74;simp only[yY] at F;have HB:=zd F.bel;have c1:=F.c3 1 rfl;have c2:=F.c3 0 rfl;have t0:(x.free==x.free)=true:=jv;have t1:(x.limit==x.limit)=true:=jv;clear hl h1 h2 F;go_enter Tryz.func69,Tryz.ntmps69;go_wp2_with fail;refine(Dr q.a r.a n q.c r.c x.queue _ hn HL.o (HQ.o.below HB.o) (HR.o.below HB.o)).mono ?_;rintro e w1 ⟨rfl,hb⟩;replace HB:=zd (HB.o.trans (hb.mono HB.o.size));clear hb c1 c2;go_wp2;go_ret;exact⟨rfl,HB.o⟩
theorem dH (a1 a2:uQ) (n c1 c2:Nat) (v1 v2:zu) (L1 L2:zQ) (s:zp) (w:World) (e1:v1.se=⟨a1,n,c1⟩) (e2:v2.se=⟨a2,n,c2⟩) (hn:n<=1048576) (hl:s.sems.length=n) (hm:∀k,(s.sems.getD k yi).queue.length<=1048576) (h1:yZ w v1 L1 s) (h2:yZ w v2 L2 s):
  Calls Tryz.prog 68 #[.slice a1 n c1,.slice a2 n c2,.func (.func 69) #[] #[]] w λe w'=>e= .returned (.bool true)/\xW w w':=by
 obtain⟨p1,p2,p3,p4,p5,p6,p7,p8,p9⟩:=v1;obtain⟨u1,u2,u3,u4,u5,u6,u7,u8,u9⟩:=v2;dsimp only at e1 e2;subst e1 e2;have a0:=zd hl.symm;have c0:=zd h1;have d0:=zd h2;have HM:=zd hm;clear hl h1 h2 hm;have t0:((n:Int) !=(n:Int))=false:=jv;have eg:∀args w,(callFunc 69 args).run Tryz.prog w= .ok (.enter 69 args) w:=enters_of Tryz.func69 (by kernel_rfl) rfl;go_enter Tryz.func68,Tryz.ntmps68;go_wp2
 go_loopw [17] (λi wr=>∃k:Nat,k<=n/\i=uy k/\xW w wr) (λi _=>n-(intOf i).toNat)
 case atStart=>exact⟨0,jq,rfl,Below.refl _ _⟩
 case round=>
  obtain⟨k,hk,rfl,hb⟩:=hrel;by_cases b0:k<n
  ·obtain⟨x,q,b1,o1,HX,rfl,g0,g1,g2,Q0,QL,-⟩:=(c0.out.below hb).at_se (j:=k) (by rw[<-a0.out];exact b0);obtain⟨x',r,b2,o2,f0,rfl,e0,e1,e2,R0,RL,-⟩:=(d0.out.below hb).at_se (j:=k) (by rw[<-a0.out];exact b0);obtain rfl:x=x':=HX.o.trans f0.out.symm;rw[show r.n=q.n from RL.o.trans QL.o.symm] at e2;have FA:=(Fr.start wr).alloc #[uy x.free,uy x.limit,.slice q.a q.n q.c] 74;replace e0:=ze FA.bel e0;replace e1:=ze FA.bel e1;replace e2:=ze FA.bel e2;have F:=FA.alloc #[uy x.free,uy x.limit,.slice r.a q.n r.c] 74;simp only[yY] at F;clear FA;have d1:=F.c3 1 rfl;have d2:=F.c3 0 rfl;go_wp2_with (go_at_fn 69;refine(gF x q r q.n _ (by rw[QL.o,HX.o];exact HM.o k) QL.o.symm (Q0.o.below F.bel) (R0.o.below F.bel)).mono ?_;rintro e w2 ⟨rfl,h0⟩)
   go_roundw
   case rel=>exact⟨k+1,jq,by go_num,hb.trans ((F.call h0).bel.mono hb.size)⟩
   case measure=>exact uq
  ·have i0:k=n:=jq;subst i0;go_wp2;go_ret;exact⟨rfl,hb⟩
theorem tC (x:xJ) (q r:zP) (n:Nat) (w:World) (hn:n<=1048576) (hl:x.waits.length=n) (h1:Rd w q.a (zf x.waits)) (h2:Rd w r.a (zf x.waits)):
  Calls Tryz.prog 71 #[.agg #[uy x.state,uy x.owner,uy x.value,.slice q.a n q.c],.agg #[uy x.state,uy x.owner,uy x.value,.slice r.a n r.c]] w λe w'=>e= .returned (.bool true)/\xW w w':=by
 have HL:=zd hl;have HQ:=zd h1;have HR:=zd h2;have F:=((Fr.start w).alloc #[uy x.state,uy x.owner,uy x.value,.slice q.a n q.c] 81).alloc #[uy x.state,uy x.owner,uy x.value,.slice r.a n r.c] 81;simp only[yY] at F;have HB:=zd F.bel;have c1:=F.c4 1 rfl;have c2:=F.c4 0 rfl;have t0:(x.state==x.state)=true:=jv;have t1:(x.owner==x.owner)=true:=jv;have t2:(x.value==x.value)=true:=jv;clear hl h1 h2 F;go_enter Tryz.func71,Tryz.ntmps71;go_wp2_with fail;refine(ZU q.a r.a n q.c r.c x.waits _ hn HL.o (HQ.o.below HB.o) (HR.o.below HB.o)).mono ?_;rintro e w1 ⟨rfl,hb⟩;replace HB:=zd (HB.o.trans (hb.mono HB.o.size));clear hb c1 c2;go_wp2;go_ret;exact⟨rfl,HB.o⟩
theorem de (a1 a2:uQ) (n c1 c2:Nat) (v1 v2:zu) (L1 L2:zQ) (s:zp) (w:World) (e1:v1.on=⟨a1,n,c1⟩) (e2:v2.on=⟨a2,n,c2⟩) (hn:n<=1048576) (hl:s.onces.length=n) (hm:∀k,(s.onces.getD k zH).waits.length<=1048576) (h1:yZ w v1 L1 s) (h2:yZ w v2 L2 s):
  Calls Tryz.prog 70 #[.slice a1 n c1,.slice a2 n c2,.func (.func 71) #[] #[]] w λe w'=>e= .returned (.bool true)/\xW w w':=by
 obtain⟨p1,p2,p3,p4,p5,p6,p7,p8,p9⟩:=v1;obtain⟨u1,u2,u3,u4,u5,u6,u7,u8,u9⟩:=v2;dsimp only at e1 e2;subst e1 e2;have a0:=zd hl.symm;have c0:=zd h1;have d0:=zd h2;have HM:=zd hm;clear hl h1 h2 hm;have t0:((n:Int) !=(n:Int))=false:=jv;have eg:∀args w,(callFunc 71 args).run Tryz.prog w= .ok (.enter 71 args) w:=enters_of Tryz.func71 (by kernel_rfl) rfl;go_enter Tryz.func70,Tryz.ntmps70;go_wp2
 go_loopw [17] (λi wr=>∃k:Nat,k<=n/\i=uy k/\xW w wr) (λi _=>n-(intOf i).toNat)
 case atStart=>exact⟨0,jq,rfl,Below.refl _ _⟩
 case round=>
  obtain⟨k,hk,rfl,hb⟩:=hrel;by_cases b0:k<n
  ·obtain⟨x,q,b1,o1,HX,rfl,g0,g1,g2,g3,Q0,QL,-⟩:=(c0.out.below hb).at_on (j:=k) (by rw[<-a0.out];exact b0);obtain⟨x',r,b2,o2,f0,rfl,e0,e1,e2,e3,R0,RL,-⟩:=(d0.out.below hb).at_on (j:=k) (by rw[<-a0.out];exact b0);obtain rfl:x=x':=HX.o.trans f0.out.symm;rw[show r.n=q.n from RL.o.trans QL.o.symm] at e3;have FA:=(Fr.start wr).alloc #[uy x.state,uy x.owner,uy x.value,.slice q.a q.n q.c] 81;replace e0:=ze FA.bel e0;replace e1:=ze FA.bel e1;replace e2:=ze FA.bel e2;replace e3:=ze FA.bel e3;have F:=FA.alloc #[uy x.state,uy x.owner,uy x.value,.slice r.a q.n r.c] 81;simp only[yY] at F;clear FA;have d1:=F.c4 1 rfl;have d2:=F.c4 0 rfl;go_wp2_with (go_at_fn 71;refine(tC x q r q.n _ (by rw[QL.o,HX.o];exact HM.o k) QL.o.symm (Q0.o.below F.bel) (R0.o.below F.bel)).mono ?_;rintro e w2 ⟨rfl,h0⟩)
   go_roundw
   case rel=>exact⟨k+1,jq,by go_num,hb.trans ((F.call h0).bel.mono hb.size)⟩
   case measure=>exact uq
  ·have i0:k=n:=jq;subst i0;go_wp2;go_ret;exact⟨rfl,hb⟩
theorem GV (x:ji) (q r:zP) (n:Nat) (w:World) (hn:n<=1048576) (hl:x.waits.length=n) (h1:Rd w q.a (zf x.waits)) (h2:Rd w r.a (zf x.waits)):
  Calls Tryz.prog 73 #[.agg #[uy x.count,.slice q.a n q.c],.agg #[uy x.count,.slice r.a n r.c]] w λe w'=>e= .returned (.bool true)/\xW w w':=by
 have HL:=zd hl;have HQ:=zd h1;have HR:=zd h2;have F:=((Fr.start w).alloc #[uy x.count,.slice q.a n q.c] 87).alloc #[uy x.count,.slice r.a n r.c] 87;simp only[yY] at F;have HB:=zd F.bel;have c1:=F.c2 1 rfl;have c2:=F.c2 0 rfl;have t0:(x.count==x.count)=true:=jv;clear hl h1 h2 F;go_enter Tryz.func73,Tryz.ntmps73;go_wp2_with fail;refine(ZU q.a r.a n q.c r.c x.waits _ hn HL.o (HQ.o.below HB.o) (HR.o.below HB.o)).mono ?_;rintro e w1 ⟨rfl,hb⟩;replace HB:=zd (HB.o.trans (hb.mono HB.o.size));clear hb c1 c2;go_wp2;go_ret;exact⟨rfl,HB.o⟩
theorem gn (a1 a2:uQ) (n c1 c2:Nat) (v1 v2:zu) (L1 L2:zQ) (s:zp) (w:World) (e1:v1.gr=⟨a1,n,c1⟩) (e2:v2.gr=⟨a2,n,c2⟩) (hn:n<=1048576) (hl:s.groups.length=n) (hm:∀k,(s.groups.getD k yH).waits.length<=1048576) (h1:yZ w v1 L1 s) (h2:yZ w v2 L2 s):
  Calls Tryz.prog 72 #[.slice a1 n c1,.slice a2 n c2,.func (.func 73) #[] #[]] w λe w'=>e= .returned (.bool true)/\xW w w':=by
 obtain⟨p1,p2,p3,p4,p5,p6,p7,p8,p9⟩:=v1;obtain⟨u1,u2,u3,u4,u5,u6,u7,u8,u9⟩:=v2;dsimp only at e1 e2;subst e1 e2;have a0:=zd hl.symm;have c0:=zd h1;have d0:=zd h2;have HM:=zd hm;clear hl h1 h2 hm;have t0:((n:Int) !=(n:Int))=false:=jv;have eg:∀args w,(callFunc 73 args).run Tryz.prog w= .ok (.enter 73 args) w:=enters_of Tryz.func73 (by kernel_rfl) rfl;go_enter Tryz.func72,Tryz.ntmps72;go_wp2
 go_loopw [17] (λi wr=>∃k:Nat,k<=n/\i=uy k/\xW w wr) (λi _=>n-(intOf i).toNat)
 case atStart=>exact⟨0,jq,rfl,Below.refl _ _⟩
 case round=>
  obtain⟨k,hk,rfl,hb⟩:=hrel;by_cases b0:k<n
  ·obtain⟨x,q,b1,o1,HX,rfl,g0,g1,Q0,QL,-⟩:=(c0.out.below hb).at_gr (j:=k) (by rw[<-a0.out];exact b0);obtain⟨x',r,b2,o2,f0,rfl,e0,e1,R0,RL,-⟩:=(d0.out.below hb).at_gr (j:=k) (by rw[<-a0.out];exact b0);obtain rfl:x=x':=HX.o.trans f0.out.symm;rw[show r.n=q.n from RL.o.trans QL.o.symm] at e1;have FA:=(Fr.start wr).alloc #[uy x.count,.slice q.a q.n q.c] 87;replace e0:=ze FA.bel e0;replace e1:=ze FA.bel e1;have F:=FA.alloc #[uy x.count,.slice r.a q.n r.c] 87;simp only[yY] at F;clear FA;have d1:=F.c2 1 rfl;have d2:=F.c2 0 rfl;go_wp2_with (go_at_fn 73;refine(GV x q r q.n _ (by rw[QL.o,HX.o];exact HM.o k) QL.o.symm (Q0.o.below F.bel) (R0.o.below F.bel)).mono ?_;rintro e w2 ⟨rfl,h0⟩)
   go_roundw
   case rel=>exact⟨k+1,jq,by go_num,hb.trans ((F.call h0).bel.mono hb.size)⟩
   case measure=>exact uq
  ·have i0:k=n:=jq;subst i0;go_wp2;go_ret;exact⟨rfl,hb⟩
theorem U5 (x:j6) (q r:zP) (n:Nat) (w:World) (hn:n<=1048576) (hl:x.waits.length=n) (h1:Rd w q.a (zf x.waits)) (h2:Rd w r.a (zf x.waits)):
  Calls Tryz.prog 66 #[.agg #[uy x.parties,uy x.round,.slice q.a n q.c],.agg #[uy x.parties,uy x.round,.slice r.a n r.c]] w λe w'=>e= .returned (.bool true)/\xW w w':=by
 have HL:=zd hl;have HQ:=zd h1;have HR:=zd h2;have F:=((Fr.start w).alloc #[uy x.parties,uy x.round,.slice q.a n q.c] 93).alloc #[uy x.parties,uy x.round,.slice r.a n r.c] 93;simp only[yY] at F;have HB:=zd F.bel;have c1:=F.c3 1 rfl;have c2:=F.c3 0 rfl;have t0:(x.parties==x.parties)=true:=jv;have t1:(x.round==x.round)=true:=jv;clear hl h1 h2 F;go_enter Tryz.func66,Tryz.ntmps66;go_wp2_with fail;refine(ZU q.a r.a n q.c r.c x.waits _ hn HL.o (HQ.o.below HB.o) (HR.o.below HB.o)).mono ?_;rintro e w1 ⟨rfl,hb⟩;replace HB:=zd (HB.o.trans (hb.mono HB.o.size));clear hb c1 c2;go_wp2;go_ret;exact⟨rfl,HB.o⟩
theorem GK (a1 a2:uQ) (n c1 c2:Nat) (v1 v2:zu) (L1 L2:zQ) (s:zp) (w:World) (e1:v1.ba=⟨a1,n,c1⟩) (e2:v2.ba=⟨a2,n,c2⟩) (hn:n<=1048576) (hl:s.bars.length=n) (hm:∀k,(s.bars.getD k ye).waits.length<=1048576) (h1:yZ w v1 L1 s) (h2:yZ w v2 L2 s):
  Calls Tryz.prog 74 #[.slice a1 n c1,.slice a2 n c2,.func (.func 66) #[] #[]] w λe w'=>e= .returned (.bool true)/\xW w w':=by
 obtain⟨p1,p2,p3,p4,p5,p6,p7,p8,p9⟩:=v1;obtain⟨u1,u2,u3,u4,u5,u6,u7,u8,u9⟩:=v2;dsimp only at e1 e2;subst e1 e2;have a0:=zd hl.symm;have c0:=zd h1;have d0:=zd h2;have HM:=zd hm;clear hl h1 h2 hm;have t0:((n:Int) !=(n:Int))=false:=jv;have eg:∀args w,(callFunc 66 args).run Tryz.prog w= .ok (.enter 66 args) w:=enters_of Tryz.func66 (by kernel_rfl) rfl;go_enter Tryz.func74,Tryz.ntmps74;go_wp2
 go_loopw [17] (λi wr=>∃k:Nat,k<=n/\i=uy k/\xW w wr) (λi _=>n-(intOf i).toNat)
 case atStart=>exact⟨0,jq,rfl,Below.refl _ _⟩
 case round=>
  obtain⟨k,hk,rfl,hb⟩:=hrel;by_cases b0:k<n
  ·obtain⟨x,q,b1,o1,HX,rfl,g0,g1,g2,Q0,QL,-⟩:=(c0.out.below hb).at_ba (j:=k) (by rw[<-a0.out];exact b0);obtain⟨x',r,b2,o2,f0,rfl,e0,e1,e2,R0,RL,-⟩:=(d0.out.below hb).at_ba (j:=k) (by rw[<-a0.out];exact b0);obtain rfl:x=x':=HX.o.trans f0.out.symm;rw[show r.n=q.n from RL.o.trans QL.o.symm] at e2;have FA:=(Fr.start wr).alloc #[uy x.parties,uy x.round,.slice q.a q.n q.c] 93;replace e0:=ze FA.bel e0;replace e1:=ze FA.bel e1;replace e2:=ze FA.bel e2;have F:=FA.alloc #[uy x.parties,uy x.round,.slice r.a q.n r.c] 93;simp only[yY] at F;clear FA;have d1:=F.c3 1 rfl;have d2:=F.c3 0 rfl;go_wp2_with (go_at_fn 66;refine(U5 x q r q.n _ (by rw[QL.o,HX.o];exact HM.o k) QL.o.symm (Q0.o.below F.bel) (R0.o.below F.bel)).mono ?_;rintro e w2 ⟨rfl,h0⟩)
   go_roundw
   case rel=>exact⟨k+1,jq,by go_num,hb.trans ((F.call h0).bel.mono hb.size)⟩
   case measure=>exact uq
  ·have i0:k=n:=jq;subst i0;go_wp2;go_ret;exact⟨rfl,hb⟩
theorem tq (x:xi) (q r:zP×zP×zP) (i l g:Nat) (w:World) (hi:i<=1048576) (hl:l<=1048576) (hg:g<=1048576) (li:x.items.length=i) (ll:x.senders.length=l) (lg:x.getters.length=g) (h1:Rd w q.1.a (zf x.items)) (h2:Rd w r.1.a (zf x.items)) (h3:Rd w q.2.1.a (zK x.senders)) (h4:Rd w r.2.1.a (zK x.senders)) (h5:Rd w q.2.2.a (zf x.getters)) (h6:Rd w r.2.2.a (zf x.getters)):
  Calls Tryz.prog 76 #[.agg #[uy x.room,.slice q.1.a i q.1.c,.slice q.2.1.a l q.2.1.c,.slice q.2.2.a g q.2.2.c,.bool x.closed],.agg #[uy x.room,.slice r.1.a i r.1.c,.slice r.2.1.a l r.2.1.c,.slice r.2.2.a g r.2.2.c,.bool x.closed]] w λe w'=>e= .returned (.bool true)/\xW w w':=by
 have L1:=zd li;have L2:=zd ll;have L3:=zd lg;have H1:=zd h1;have H2:=zd h2;have H3:=zd h3;have H4:=zd h4;have H5:=zd h5;have H6:=zd h6;have F:=((Fr.start w).alloc #[uy x.room,.slice q.1.a i q.1.c,.slice q.2.1.a l q.2.1.c,.slice q.2.2.a g q.2.2.c,.bool x.closed] 98).alloc #[uy x.room,.slice r.1.a i r.1.c,.slice r.2.1.a l r.2.1.c,.slice r.2.2.a g r.2.2.c,.bool x.closed] 98;simp only[yY] at F;have c1:=F.c5 0 rfl;have c2:=F.c5 1 rfl;have t0:(x.room==x.room)=true:=jv;have t1:(x.closed==x.closed)=true:=jv;clear li ll lg h1 h2 h3 h4 h5 h6;go_enter Tryz.func76,Tryz.ntmps76;go_wp2_with fail;refine(ZU q.1.a r.1.a i q.1.c r.1.c x.items _ jq L1.o (H1.o.below F.bel) (H2.o.below F.bel)).mono ?_;rintro e w1 ⟨rfl,hb⟩;replace F:=F.call hb;clear hb c1 c2;have c1:=F.c5 0 rfl;have c2:=F.c5 1 rfl;go_wp2_with fail;refine(Dn q.2.1.a r.2.1.a l q.2.1.c r.2.1.c x.senders _ jq L2.o (H3.o.below F.bel) (H4.o.below F.bel)).mono ?_;rintro e w2 ⟨rfl,hb⟩;replace F:=F.call hb;clear hb c1 c2;have c1:=F.c5 0 rfl;have c2:=F.c5 1 rfl;go_wp2_with fail;refine(ZU q.2.2.a r.2.2.a g q.2.2.c r.2.2.c x.getters _ jq L3.o (H5.o.below F.bel) (H6.o.below F.bel)).mono ?_;rintro e w3 ⟨rfl,hb⟩;replace F:=F.call hb;clear hb c1 c2
 have HB:=zd F.bel;clear F;go_wp2;go_ret;exact⟨rfl,HB.o⟩
theorem fR (a1 a2:uQ) (n c1 c2:Nat) (v1 v2:zu) (L1 L2:zQ) (s:zp) (w:World) (e1:v1.ch=⟨a1,n,c1⟩) (e2:v2.ch=⟨a2,n,c2⟩) (hn:n<=1048576) (hl:s.chans.length=n) (hm:∀k,(s.chans.getD k yq).items.length<=1048576/\(s.chans.getD k yq).senders.length<=1048576/\(s.chans.getD k yq).getters.length<=1048576) (h1:yZ w v1 L1 s) (h2:yZ w v2 L2 s):
  Calls Tryz.prog 75 #[.slice a1 n c1,.slice a2 n c2,.func (.func 76) #[] #[]] w λe w'=>e= .returned (.bool true)/\xW w w':=by
 obtain⟨p1,p2,p3,p4,p5,p6,p7,p8,p9⟩:=v1;obtain⟨u1,u2,u3,u4,u5,u6,u7,u8,u9⟩:=v2;dsimp only at e1 e2;subst e1 e2;have d0:=zd hl.symm;have h0:=zd h1;have i0:=zd h2;have HM:=zd hm;clear hl h1 h2 hm;have t0:((n:Int) !=(n:Int))=false:=jv;have eg:∀args w,(callFunc 76 args).run Tryz.prog w= .ok (.enter 76 args) w:=enters_of Tryz.func76 (by kernel_rfl) rfl;go_enter Tryz.func75,Tryz.ntmps75;go_wp2
 go_loopw [17] (λi wr=>∃k:Nat,k<=n/\i=uy k/\xW w wr) (λi _=>n-(intOf i).toNat)
 case atStart=>exact⟨0,jq,rfl,Below.refl _ _⟩
 case round=>
  obtain⟨k,hk,rfl,hb⟩:=hrel;by_cases f0:k<n
  ·obtain⟨x,q,b1,o1,HX,rfl,g0,g1,g2,g3,g4,Q0,a0,-,Q1,b0,-,Q2,c0,-⟩:=(h0.out.below hb).at_ch (j:=k) (by rw[<-d0.out];exact f0);obtain⟨x',r,b2,o2,j0,rfl,e0,e1,e2,e3,e4,R0,k0,-,R1,l0,-,R2,m0,-⟩:=(i0.out.below hb).at_ch (j:=k) (by rw[<-d0.out];exact f0);obtain rfl:x=x':=HX.o.trans j0.out.symm;rw[show r.1.n=q.1.n from k0.out.trans a0.out.symm] at e1;rw[show r.2.1.n=q.2.1.n from l0.out.trans b0.out.symm] at e2;rw[show r.2.2.n=q.2.2.n from m0.out.trans c0.out.symm] at e3;have FA:=(Fr.start wr).alloc #[uy x.room,.slice q.1.a q.1.n q.1.c,.slice q.2.1.a q.2.1.n q.2.1.c,.slice q.2.2.a q.2.2.n q.2.2.c,.bool x.closed] 98;replace e0:=ze FA.bel e0;replace e1:=ze FA.bel e1;replace e2:=ze FA.bel e2;replace e3:=ze FA.bel e3;replace e4:=ze FA.bel e4;have F:=FA.alloc #[uy x.room,.slice r.1.a q.1.n r.1.c,.slice r.2.1.a q.2.1.n r.2.1.c,.slice r.2.2.a q.2.2.n r.2.2.c,.bool x.closed] 98;simp only[yY] at F;clear FA;have d1:=F.c5 1 rfl;have d2:=F.c5 0 rfl
   go_wp2_with (go_at_fn 76;refine(tq x q r q.1.n q.2.1.n q.2.2.n _ (by rw[a0.out,HX.o];exact(HM.o k).1) (by rw[b0.out,HX.o];exact(HM.o k).2.1) (by rw[c0.out,HX.o];exact(HM.o k).2.2) a0.out.symm b0.out.symm c0.out.symm (Q0.o.below F.bel) (R0.o.below F.bel) (Q1.o.below F.bel) (R1.o.below F.bel) (Q2.o.below F.bel) (R2.o.below F.bel)).mono ?_;rintro e w2 ⟨rfl,n0⟩)
   go_roundw
   case rel=>exact⟨k+1,jq,by go_num,hb.trans ((F.call n0).bel.mono hb.size)⟩
   case measure=>exact uq
  ·have o0:k=n:=jq;subst o0;go_wp2;go_ret;exact⟨rfl,hb⟩
theorem Kl (v u:zu) (L M:zQ) (s:zp) (w:World) (h1:yZ w v L s) (h2:yZ w u M s) (hz:X5 s):
  Calls Tryz.prog 29 #[v.val,u.val] w λe w'=>e= .returned (.bool true)/\xW w w':=by
 have HZ:=zd hz;have H1:=zd h1;have H2:=zd h2;have v0:u.pl.n=v.pl.n:=h2.pl.len.trans h1.pl.len.symm;have E0:v.pl.n<=1048576:=by rw[h1.pl.len];exact hz.pl
 have z0:u.st.n=v.st.n:=h2.st.len.trans h1.st.len.symm;have H0:v.st.n<=1048576:=by rw[h1.st.len];exact hz.st
 have y0:u.se.n=v.se.n:=h2.se.len.trans h1.se.len.symm;have G0:v.se.n<=1048576:=by rw[h1.se.len];exact hz.se
 have u0:u.on.n=v.on.n:=h2.on.len.trans h1.on.len.symm;have D0:v.on.n<=1048576:=by rw[h1.on.len];exact hz.on
 have t0:u.gr.n=v.gr.n:=h2.gr.len.trans h1.gr.len.symm;have C0:v.gr.n<=1048576:=by rw[h1.gr.len];exact hz.gr
 have r0:u.ba.n=v.ba.n:=h2.ba.len.trans h1.ba.len.symm;have A0:v.ba.n<=1048576:=by rw[h1.ba.len];exact hz.ba
 have s0:u.ch.n=v.ch.n:=h2.ch.len.trans h1.ch.len.symm;have B0:v.ch.n<=1048576:=by rw[h1.ch.len];exact hz.ch
 have x0:u.sa.n=v.sa.n:=h2.sa.len.trans h1.sa.len.symm;have F0:v.sa.n<=1048576:=by rw[h1.sa.len];exact hz.sa
 have lf:u.fl=v.fl:=h2.fl.trans h1.fl.symm;have t1:(v.fl==v.fl)=true:=jv;obtain⟨⟨f0,npl,n0⟩,⟨i0,nst,q0⟩,⟨h0,nse,p0⟩,⟨d0,non,m0⟩,⟨c0,ngr,l0⟩,⟨a0,nba,j0⟩,⟨b0,nch,k0⟩,⟨g0,nsa,o0⟩,f2⟩:=u;dsimp only at v0 z0 y0 u0 t0 r0 s0 x0 lf;subst v0 z0 y0 u0 t0 r0 s0 x0 lf;have F:=((Fr.start w).alloc (yN v) 38).alloc #[.slice f0 v.pl.n n0,.slice i0 v.st.n q0,.slice h0 v.se.n p0,.slice d0 v.on.n m0,.slice c0 v.gr.n l0,.slice a0 v.ba.n j0,.slice b0 v.ch.n k0,.slice g0 v.sa.n o0,uy v.fl] 38;simp only[yY] at F;have c1:=F.c9 0 rfl;have c2:=F.c9 1 rfl;clear hz h1 h2;go_enter Tryz.func29,Tryz.ntmps29;go_wp2_with fail;refine(ZU v.pl.a f0 v.pl.n v.pl.c n0 s.places _ jq H1.o.pl.len.symm (H1.o.pl.rd.below F.bel) (H2.o.pl.rd.below F.bel)).mono ?_;rintro e w1 ⟨rfl,hb⟩;replace F:=F.call hb;clear hb c1 c2;have c1:=F.c9 0 rfl;have c2:=F.c9 1 rfl;go_wp2_with fail;refine(ZU v.st.a i0 v.st.n v.st.c q0 s.status _ jq H1.o.st.len.symm (H1.o.st.rd.below F.bel) (H2.o.st.rd.below F.bel)).mono ?_;rintro e w2 ⟨rfl,hb⟩;replace F:=F.call hb;clear hb c1 c2;have c1:=F.c9 0 rfl;have c2:=F.c9 1 rfl;go_wp2_with fail
 refine(dH v.se.a h0 v.se.n v.se.c p0 v _ L M s _ rfl rfl jq H1.o.se.len.symm HZ.o.qse (H1.o.below F.bel) (H2.o.below F.bel)).mono ?_;rintro e w3 ⟨rfl,hb⟩;replace F:=F.call hb;clear hb c1 c2;have c1:=F.c9 0 rfl;have c2:=F.c9 1 rfl;go_wp2_with fail;refine(de v.on.a d0 v.on.n v.on.c m0 v _ L M s _ rfl rfl jq H1.o.on.len.symm HZ.o.qon (H1.o.below F.bel) (H2.o.below F.bel)).mono ?_;rintro e w4 ⟨rfl,hb⟩;replace F:=F.call hb;clear hb c1 c2;have c1:=F.c9 0 rfl;have c2:=F.c9 1 rfl;go_wp2_with fail;refine(gn v.gr.a c0 v.gr.n v.gr.c l0 v _ L M s _ rfl rfl jq H1.o.gr.len.symm HZ.o.qgr (H1.o.below F.bel) (H2.o.below F.bel)).mono ?_;rintro e w5 ⟨rfl,hb⟩;replace F:=F.call hb;clear hb c1 c2;have c1:=F.c9 0 rfl;have c2:=F.c9 1 rfl;go_wp2_with fail;refine(GK v.ba.a a0 v.ba.n v.ba.c j0 v _ L M s _ rfl rfl jq H1.o.ba.len.symm HZ.o.qba (H1.o.below F.bel) (H2.o.below F.bel)).mono ?_;rintro e w6 ⟨rfl,hb⟩;replace F:=F.call hb;clear hb c1 c2;have c1:=F.c9 0 rfl;have c2:=F.c9 1 rfl;go_wp2_with fail;refine(fR v.ch.a b0 v.ch.n v.ch.c k0 v _ L M s _ rfl rfl jq H1.o.ch.len.symm HZ.o.qch (H1.o.below F.bel) (H2.o.below F.bel)).mono ?_;rintro e w7 ⟨rfl,hb⟩;replace F:=F.call hb;clear hb c1 c2;have c1:=F.c9 0 rfl
 have c2:=F.c9 1 rfl;go_wp2_with fail;refine(ZU v.sa.a g0 v.sa.n v.sa.c o0 s.said _ jq H1.o.sa.len.symm (H1.o.sa.rd.below F.bel) (H2.o.sa.rd.below F.bel)).mono ?_;rintro e w8 ⟨rfl,hb⟩;replace F:=F.call hb;clear hb c1 c2;have c1:=F.c9 0 rfl;have c2:=F.c9 1 rfl;have HB:=zd F.bel;clear F;go_wp2;go_ret;exact⟨rfl,HB.o⟩
theorem xT (v u:zu) (L M:zQ) (s:zp) (a b:uQ) (n c d:Nat) (tr:List Int) (w:World) (h1:yZ w v L s) (h2:yZ w u M s) (hz:X5 s) (hl:tr.length=n) (hn:n<=1048576) (r1:Rd w a (zf tr)) (r2:Rd w b (zf tr)):
  Calls Tryz.prog 21 #[.agg (rC v a n c),.agg (rC u b n d)] w λe w'=>e= .returned (.bool true)/\xW w w':=by
 have HZ:=zd hz;have H1:=zd h1;have H2:=zd h2;have HL:=zd hl;have R1:=zd r1;have R2:=zd r2;have F:=((Fr.start w).alloc (rC v a n c) 40).alloc (rC u b n d) 40;simp only[yY] at F;have c1:=F.c10 0 rfl;have c2:=F.c10 1 rfl;clear hz h1 h2 hl r1 r2;go_enter Tryz.func21,Tryz.ntmps21;go_wp2_with fail;refine(Kl v u L M s _ (H1.o.below F.bel) (H2.o.below F.bel) HZ.o).mono ?_;rintro e w1 ⟨rfl,hb⟩;replace F:=F.call hb;clear hb c1 c2;have c1:=F.c10 0 rfl;have c2:=F.c10 1 rfl;go_wp2_with fail;refine(Xd a b n c d tr _ jq HL.o (R1.o.below F.bel) (R2.o.below F.bel)).mono ?_;rintro e w2 ⟨rfl,hb⟩;have HB:=zd (F.call hb).bel;clear F hb c1 c2;go_wp2;go_ret;exact⟨rfl,HB.o⟩
end Go.Proofs.YtfclolgfegdfjaaGreat
