/- Part of a proof: MListS MOnceS. -/
import Derived.Test.YtfclolgfegdfjaaGreatVPFr
set_option maxRecDepth 100000
set_option maxHeartbeats 16000000
namespace Go.Proofs.YtfclolgfegdfjaaGreat
open Go.RowKit Go.Sort
variable {w:World} {i:Nat} {a:uQ}
theorem jM (a:uQ) (n c:Nat) (l:List Int) (t:Int) (w:World) (hl:l.length=n) (hn:n<=maxLen) (hr:Rd w a (zf l)):
  Calls Tryz.prog 39 #[.slice a n c,uy t] w λe w'=>e= .returned (uy (yO l t))/\w'=w:=by
 unfold maxLen at hn;have HL:=zd hl;clear hl;go_enter Tryz.func39,Tryz.ntmps39;go_wp2
 go_loopw [5] (λi wr=>∃k:Nat,k<=n/\i=uy k/\uH (∀j,j<k->l.getD j 0≠t)/\wr=w) (λi _=>n-(intOf i).toNat)
 case atStart=>exact⟨0,jq,rfl,zd jq,rfl⟩
 case round=>
  obtain⟨k,hk,rfl,a0,rfl⟩:=hrel;by_cases c0:k<n
  ·obtain⟨b,o,rfl,hc⟩:=hr.int (jQ HL.o);have g:=hc k (jQ HL.o);obtain⟨x,hx⟩:=jy (l.getD k 0);rw[<-hx] at g;have HX:=zd hx;clear hc hx;by_cases e:x=t
   ·have t1:(x==t)=true:=(by simpa using e);have HF:uH (yO l t=k):=zd (JS (jQ HL.o) (by rw[<-HX.o];exact e) (λj hj=>a0.out j hj));clear e;go_wp2;go_ret;exact⟨Xv HF.o.symm,rfl⟩
   ·have t1:(x==t)=false:=(by simpa using e);have HE:=zd e;clear e;go_wp2
    go_roundw
    case rel=>exact⟨k+1,jq,by go_num,zd (λj hj=>by
      rcases Nat.lt_or_ge j k with h|h
      ·exact a0.out j h
      ·have:j=k:=jq;subst this;rw[<-HX.o];exact HE.o),trivial⟩
    case measure=>exact uq
  ·have b0:k=n:=jq;subst b0;have HF:uH (yO l t= -1):=zd (XE (λj hj=>a0.out j (jQ HL.o)));go_wp2;go_ret;exact⟨Xv HF.o.symm,rfl⟩
theorem Rd.takei {l:List Int} (h:Rd w a (zf l)) (k:Nat):Rd w a (zf (l.take k)):=by
 rcases h with h0|⟨b,o,e,h⟩
 ·have:l=[]:=by simpa[zf] using h0
  subst this;exact .inl jv
 ·exact .inr ⟨b,o,e,λj hj=>by
   simp only[yG,jO] at hj;rw[h j (by simp;omega)];simp[zf,List.getD,show j<k by omega]⟩
theorem dK {l:List Int} (h:l.Nodup) (hi:i<l.length):yO (l.take i) (l.getD i 0)= -1:=
 XE (λj hj=>by
  rw[jO] at hj;have e:(l.take i).getD j 0=l.getD j 0:=by simp[List.getD,show j<i by omega]
  rw[e];exact Js h hi jq)
theorem Xg (a:uQ) (n c:Nat) (l:List Int) (w:World) (hl:l.length=n) (hc:n<=c) (hr:Rd w a (zf l)) (ok:Zc l):
  Calls Tryz.prog 177 #[.slice a n c] w λe w'=>e= .returned (.bool true)/\xW w w':=by
 have h6:n<=6:=by rw[<-hl];exact ok.1
 have HL:=zd hl;have HT:=zd ok;clear hl ok;go_enter Tryz.func177,Tryz.ntmps177;go_wp2
 go_loopw [3] (λv wr=>∃i:Nat,i<=n/\v=uy i/\xW w wr) (λv _=>n-(intOf v).toNat)
 case atStart=>exact⟨0,jq,rfl,Below.refl _ _⟩
 case round=>
  obtain⟨i,hi,rfl,hb⟩:=hrel;have a0:=hr.below hb;by_cases i0:i<n
  ·obtain⟨b,o,rfl,g'⟩:=a0.int (jQ HL.o);have g:=g' i (jQ HL.o);obtain⟨t,et⟩:=jy (l.getD i 0);rw[<-et] at g;have d0:0<=t/\t<6:=by rw[et];exact HT.o.2.1 _ (qV (jQ HL.o))
   have c0:yO (l.take i) t= -1:=by rw[et];exact dK HT.o.2.2 (jQ HL.o)
   have kg:=cell_regrown g;have cT:uH (∀d os,Calls Tryz.prog 158 #[uy t] (grow (redrawn wr d) os) λe b0=>e= .returned (.bool true)/\∃p:Regrown,b0=grow (redrawn wr p.d) p.os):=zd (λd os=>Zi (jz t _ d0));have cF:uH (∀d os,Calls Tryz.prog 39 #[.slice (some ⟨b,o,none⟩) i c,uy t] (grow (redrawn wr d) os) λe b0=>e= .returned (uy (-1))/\∃p:Regrown,b0=grow (redrawn wr p.d) p.os):=zd (λd os=>Zi (by
    have:=jM (some ⟨b,o,none⟩) i c (l.take i) t (grow (redrawn wr d) os) (by rw[jO];have:=HL.o;omega) (by unfold maxLen;omega) ((a0.takei i).below (below_regrown wr d os));rw[c0] at this;exact this))
   have i1:(i:Int)<(n:Int):=jq;have i2:(i:Int)<=(c:Int):=jq;have i3:decide ((i:Int)<=6)=true:=xK jq;have i4:(0:Int)<=(i:Int):=jq;clear et d0 c0 g' a0;go_wp2;refine wp_region_quiet_below (by kernel_rfl) (by kernel_rfl) ?_
   repeat (go_big_quiet_step (first|exact cT.out _ _|exact cF.out _ _))
   refine wpQuiet_nil ?_;intro w6 f0;have g0:xW wr w6:=by
    obtain⟨pq,rfl⟩:=f0;exact below_regrown _ _ _
   clear f0;go_wp2
   go_roundw
   case rel=>exact⟨i+1,jq,by go_num,hb.trans (g0.mono hb.size)⟩
   case measure=>exact uq
  ·have h0:i=n:=jq;subst h0;have i3:decide ((i:Int)<=6)=true:=xK jq;go_wp2;go_ret;exact⟨rfl,hb⟩
end Go.Proofs.YtfclolgfegdfjaaGreat
namespace Go.Proofs.YtfclolgfegdfjaaGreat
open Go.RowKit
theorem vD (t:Int) (w:World) (h:0<=t/\t<=99):Calls Tryz.prog 141 #[uy t] w λe w'=>e= .returned (.bool true)/\w'=w:=by
 have d1:decide (0<=t)=true:=xK h.1;have d2:decide (t<=99)=true:=xK h.2;go_enter Tryz.func141,Tryz.ntmps141;go_wp2;go_ret;exact⟨rfl,rfl⟩
theorem Zr (x:xJ) (a:uQ) (n c:Nat) (w:World) (hl:x.waits.length=n) (hn:n<=1048576) (hr:Rd w a (zf x.waits)):
  Calls Tryz.prog 138 #[.agg #[uy x.state,uy x.owner,uy x.value,.slice a n c]] w λe w'=>∃(a':uQ) (c':Nat),e= .returned (.agg #[uy x.state,uy x.owner,uy x.value,.slice a' n c'])/\w'.ownsRow w.heap.size 3 1 (.slice a' n c') n (zf x.waits)/\xW w w':=by
 have HL:=zd hl;clear hl;obtain⟨W0,g0⟩:∃W0:World,W0=((w.alloc (.cells #[uy x.state,uy x.owner,uy x.value,.slice a n c] 81)).alloc (.cells #[uy 0,uy 0,uy 0,uk] 81)):=⟨_,rfl⟩
 have B0:xW w W0:=by
  rw[g0];exact((xd.alloc jv _).alloc jv _)
 have k0:zm W0 (w.heap.size) #[uy x.state,uy x.owner,uy x.value,.slice a n c] 81:=by
  rw[g0];have h:=zm.new w #[uy x.state,uy x.owner,uy x.value,.slice a n c] 81;exact h|>.alloc _
 have kR:zm W0 (w.heap.size+1) #[uy 0,uy 0,uy 0,uk] 81:=by
  rw[g0];have h:=zm.new (w.alloc (.cells #[uy x.state,uy x.owner,uy x.value,.slice a n c] 81)) #[uy 0,uy 0,uy 0,uk] 81;simp only[yY] at h;exact h
 have s0:W0.heap.size=w.heap.size+2:=by rw[g0];simp
 have q0:=k0.cell 0 rfl;have q1:=k0.cell 1 rfl;have q2:=k0.cell 2 rfl;have q3:=k0.cell 3 rfl;have j0:=zd B0;have m0:=zd (hr.below B0);have l0:=zd kR;clear B0 k0 kR hr;go_enter Tryz.func138,Tryz.ntmps138;go_wp2;rw[<-g0] at*;clear g0;apply xZ 11 [.k _,.k _,.k _,.k _,.k _,.k _,.r (Zl W0.heap.size 3 1),.k _,.k _,.r (Xi W0.heap.size 3 1 n (zf x.waits)),.r λdz uz wz=>uz=(.agg #[(dz.getD 0 undef),(dz.getD 1 undef),(dz.getD 2 undef),(dz.getD 3 undef)]:Value)] ⟨Xr,Vj,(λ_ _ _ _ _ h=>h),trivial⟩ ?s1 ?e1
 case s1=>
  repeat' apply And.intro
  all_goals first|trivial|(intro ρ w1 hG hfr hd;obtain⟨fc,ff⟩:=xu hfr;have f1:=hfr (.tmp 1) rfl;have q0:=ze hG q0;have q1:=ze hG q1;have q2:=ze hG q2;have q3:=ze hG q3)
  exact yj;exact yI;exact yj;exact yI;exact yj;exact yI;exact VB;exact yj;exact yI
  ·have d:ρ (.tmp _)=_:=hd.2.1;exact ky hG _ _ 23 rfl Tryz.underlying23 yb rfl jk hd.1 d (by rw[yG,HL.o,Nat.mul_one]) (m0.out.below hG) (yA _) jq jk (λ_ _ h=>h)
  ·obtain⟨d0,d1,d2,d3,-⟩:=hd;have d0:(ρ (.tmp 4))=uy x.state:=d0;have d1:(ρ (.tmp 6))=uy x.owner:=d1;have d2:(ρ (.tmp 8))=uy x.value:=d2;obtain⟨c0,f0,d3,-,-⟩:=d3;replace d3:ρ (.tmp 12)=_:=d3;refine zh (u:= .agg #[uy x.state,uy x.owner,uy x.value,.slice c0 n f0]) (w':=w1) (by go_simp) ⟨Below.refl _ _,?_,yn,hG⟩;show Value.agg #[uy x.state,uy x.owner,uy x.value,.slice c0 n f0]=(.agg #[(ρ (.tmp 4)),(ρ (.tmp 6)),(ρ (.tmp 8)),(ρ (.tmp 12))]:Value);rw[d0,d1,d2,d3]
 intro w2 hG;refine yv ?_;intro u0 t0 r0 p0 i0 h0;replace h0:i0=(.agg #[(uy x.state),(uy x.owner),(uy x.value),r0]:Value):=h0;obtain⟨c0,f0,rfl,b0,-⟩:=p0;have a0:=l0.out.below hG;have y0:=a0.cell 0 rfl;have y1:=a0.cell 1 rfl;have y2:=a0.cell 2 rfl;have y3:=a0.cell 3 rfl;have x0:=a0.fz 0;have x1:=a0.fz 1;have x2:=a0.fz 2;have x3:=a0.fz 3;clear a0;go_wp2;have hT:=(((((zo.refl [w.heap.size+1] w2).set (v:=uy x.state) (b:=w.heap.size+1) (j:=0) jv).set (v:=uy x.owner) (b:=w.heap.size+1) (j:=1) jv).set (v:=uy x.value) (b:=w.heap.size+1) (j:=2) jv).set (v:= .slice c0 n f0) (b:=w.heap.size+1) (j:=3) jv)
 have n0:=hT.below (B:=w.heap.size) (jQ hG.size) (λk hk=>by simp only[List.mem_singleton] at hk;omega);have o0:=zE b0 hT (λq hq hm=>by have h1:=(zy b0 q hq).1;simp only[List.mem_singleton] at hm;omega);refine zM (v:= .agg #[uy x.state,uy x.owner,uy x.value,.slice c0 n f0]) (by simp[results,Tryz.results138,go_sem,y0,y1,y2,y3]) rfl ?_;exact⟨c0,f0,rfl,zw o0 jq,(j0.out.trans (hG.mono j0.out.size)).trans n0⟩
theorem ui (x:xJ) (a:uQ) (n c:Nat) (w:World) (hl:x.waits.length=n) (hc:n<=c) (hr:Rd w a (zf x.waits)) (ok:uF x):
  Calls Tryz.prog 168 #[.agg #[uy x.state,uy x.owner,uy x.value,.slice a n c]] w λe w'=>e= .returned (.bool true)/\xW w w':=by
 obtain⟨st,ow,va,ws⟩:=x;rcases ok with ⟨h1,h2,h3,h4⟩|⟨h1,h2,h3,h4,h5⟩|⟨h1,h2,h3,h4⟩
 ·dsimp only at*;subst h1 h2 h3 h4;obtain rfl:0=n:=by simpa using hl
  have B0:xW w (w.alloc (.cells #[uy 0,uy 0,uy 0,.slice a 0 c] 81)):=zY;have k0:zm (w.alloc (.cells #[uy 0,uy 0,uy 0,.slice a 0 c] 81)) w.heap.size #[uy 0,uy 0,uy 0,.slice a 0 c] 81:=zm.new _ _ _;have q0:(w.alloc (.cells #[uy 0,uy 0,uy 0,.slice a 0 c] 81)).cell? ⟨w.heap.size,0,none⟩=some (uy 0):=k0.cell 0 rfl;have q1:(w.alloc (.cells #[uy 0,uy 0,uy 0,.slice a 0 c] 81)).cell? ⟨w.heap.size,1,none⟩=some (uy 0):=k0.cell 1 rfl;have q2:(w.alloc (.cells #[uy 0,uy 0,uy 0,.slice a 0 c] 81)).cell? ⟨w.heap.size,2,none⟩=some (uy 0):=k0.cell 2 rfl;have q3:(w.alloc (.cells #[uy 0,uy 0,uy 0,.slice a 0 c] 81)).cell? ⟨w.heap.size,3,none⟩=some (.slice a 0 c):=k0.cell 3 rfl;clear k0;have d0:=hr.below B0;have c0:=zd B0;clear hr B0;go_enter Tryz.func168,Tryz.ntmps168;go_wp2;go_ret;exact⟨rfl,c0.out⟩
 ·dsimp only at*;subst h1 h3;have B0:xW w (w.alloc (.cells #[uy 1,uy ow,uy 0,.slice a n c] 81)):=zY;have k0:zm (w.alloc (.cells #[uy 1,uy ow,uy 0,.slice a n c] 81)) w.heap.size #[uy 1,uy ow,uy 0,.slice a n c] 81:=zm.new _ _ _;have q0:(w.alloc (.cells #[uy 1,uy ow,uy 0,.slice a n c] 81)).cell? ⟨w.heap.size,0,none⟩=some (uy 1):=k0.cell 0 rfl;have q1:(w.alloc (.cells #[uy 1,uy ow,uy 0,.slice a n c] 81)).cell? ⟨w.heap.size,1,none⟩=some (uy ow):=k0.cell 1 rfl;have q2:(w.alloc (.cells #[uy 1,uy ow,uy 0,.slice a n c] 81)).cell? ⟨w.heap.size,2,none⟩=some (uy 0):=k0.cell 2 rfl;have q3:(w.alloc (.cells #[uy 1,uy ow,uy 0,.slice a n c] 81)).cell? ⟨w.heap.size,3,none⟩=some (.slice a n c):=k0.cell 3 rfl;clear k0;have d0:=hr.below B0;have c0:=zd B0;clear hr B0;go_enter Tryz.func168,Tryz.ntmps168;go_wp2_with fail;refine(jz ow _ h2).mono ?_;rintro e w3 ⟨rfl,b0⟩;have a0:=b0.symm;subst a0;go_wp2_with fail;refine(Xg a n c ws _ hl hc d0 h4).mono ?_;rintro e w2 ⟨rfl,hb⟩;have i0:=ze hb q1;have j0:=ze hb q3;have h0:=d0.below hb;have f0:=zd (c0.out.trans (hb.mono c0.out.size));have g0:=uJ h5;clear q0 q1 q2 q3 hb;go_wp2_with fail;refine(jM a n c ws ow _ hl (by have h6:=h4.1;unfold maxLen;omega) h0).mono ?_
  rintro e w3 ⟨rfl,b0⟩;have a0:=b0.symm;subst a0;rw[g0];go_wp2;go_ret;exact⟨rfl,f0.out⟩
 ·dsimp only at*;subst h1 h4;obtain rfl:0=n:=by simpa using hl
  have B0:xW w (w.alloc (.cells #[uy 2,uy ow,uy va,.slice a 0 c] 81)):=zY;have k0:zm (w.alloc (.cells #[uy 2,uy ow,uy va,.slice a 0 c] 81)) w.heap.size #[uy 2,uy ow,uy va,.slice a 0 c] 81:=zm.new _ _ _;have q0:(w.alloc (.cells #[uy 2,uy ow,uy va,.slice a 0 c] 81)).cell? ⟨w.heap.size,0,none⟩=some (uy 2):=k0.cell 0 rfl;have q1:(w.alloc (.cells #[uy 2,uy ow,uy va,.slice a 0 c] 81)).cell? ⟨w.heap.size,1,none⟩=some (uy ow):=k0.cell 1 rfl;have q2:(w.alloc (.cells #[uy 2,uy ow,uy va,.slice a 0 c] 81)).cell? ⟨w.heap.size,2,none⟩=some (uy va):=k0.cell 2 rfl;have q3:(w.alloc (.cells #[uy 2,uy ow,uy va,.slice a 0 c] 81)).cell? ⟨w.heap.size,3,none⟩=some (.slice a 0 c):=k0.cell 3 rfl;clear k0;have d0:=hr.below B0;have c0:=zd B0;clear hr B0;go_enter Tryz.func168,Tryz.ntmps168;go_wp2_with fail;refine(jz ow _ h2).mono ?_;rintro e w3 ⟨rfl,b0⟩;have a0:=b0.symm;subst a0;go_wp2_with fail;refine(vD va _ h3).mono ?_;rintro e w3 ⟨rfl,b0⟩;have a0:=b0.symm;subst a0;go_wp2;go_ret;exact⟨rfl,c0.out⟩
end Go.Proofs.YtfclolgfegdfjaaGreat
