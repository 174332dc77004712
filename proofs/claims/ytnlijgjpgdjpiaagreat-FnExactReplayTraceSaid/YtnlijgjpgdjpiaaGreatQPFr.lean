/- Part of a proof: MSemS Fr MPart Sf MRegT Rc NewB InnI Sb Elem InnT. -/
import Derived.Test.YtnlijgjpgdjpiaaGreatQPState
import Derived.Deep.Cut
import Derived.BigQuiet
import Derived.Lib.QuietBelow
set_option maxRecDepth 100000
set_option maxHeartbeats 16000000
namespace Go.Proofs.YtnlijgjpgdjpiaaGreat
open Go.RowKit
def zay:List Int->Int->Int
 |[],_=> -1
 |x::l,t=>if x=t then 0 else if zay l t<0 then-1 else zay l t+1
theorem zeh {t:Int}:∀{l:List Int} {k:Nat},k<l.length->l.getD k 0=t->(∀j,j<k->l.getD j 0≠t)->zay l t=k
 |[],_,h,_,_=>by simp at h
 |x::l,0,_,h,_=>by
  have h':x=t:=by simpa using h
  unfold zay;rw[if_pos h'];rfl
 |x::l,k+1,hk,h,hj=>by
  have h0:x≠t:=by simpa using hj 0 (by omega)
  have:=zeh (l:=l) (k:=k) (by simpa using hk) (by simpa using h) (λj hjk=>by simpa using hj (j+1) (by omega));unfold zay;rw[if_neg h0,this,if_neg (by omega)];omega
theorem zdt {t:Int}:∀{l:List Int},(∀j,j<l.length->l.getD j 0≠t)->zay l t= -1
 |[],_=>rfl
 |x::l,h=>by
  have h0:x≠t:=by simpa using h 0 (by simp)
  have:=zdt (l:=l) (λj hj=>by simpa using h (j+1) (by simpa using hj));unfold zay;rw[if_neg h0,this,if_pos (by omega)]
theorem zcb {l:List Int} {t:Int} (h:t∉l):zay l t= -1:=
 zdt λj hj e=>h (by rw[<-e,xDa,xDb hj];exact List.getElem_mem hj)
theorem zcx:∀{l:List Int} {t:Int},t∈l->0<=zay l t/\l.getD (zay l t).toNat 0=t
 |[],_,h=>by simp at h
 |x::l,t,h=>by
  unfold zay;by_cases hx:x=t
  ·rw[if_pos hx];simp[hx]
  ·have h':t∈l:=by
    rcases List.mem_cons.1 h with e|e
    ·exact absurd e.symm hx
    ·exact e
   have⟨h0,h1⟩:=zcx h';rw[if_neg hx,if_neg (by omega)];refine⟨by omega,?_⟩;rw[show(zay l t+1).toNat=(zay l t).toNat+1 by omega];simpa using h1
theorem zdx (l:List (Int×Int)) (j:Nat):(l.map (·.1)).getD j 0=(l.getD j (0,0)).1:=by
 simp only[xDa,List.getElem?_map]
 cases l[j]? <;>rfl
theorem zbl {α:Type} {l:List α} {j:Nat} {d:α} (h:j<l.length):l.getD j d∈l:=by
 rw[xDa,xDb h];exact List.getElem_mem h
theorem zdY {l:List Int} (h:l.Nodup) {i k:Nat} (hi:i<l.length) (hk:k<i):l.getD k 0≠l.getD i 0:=by
 intro e;rw[xDa,xDa,xDb hi,xDb (by omega)] at e;have:=(List.getElem_inj h).1 (by simpa using e);omega
theorem zc7 (l:List (Int×Int)):∀u∈zt l,u.oneCell'=true:=by
 intro u hu;obtain⟨x,_,hx⟩:=List.mem_flatMap.1 hu;simp only[pair,List.mem_cons,xDm,or_false] at hx;rcases hx with rfl|rfl<;>rfl
theorem zbw (l:List (Int×Int)):(zt l).length=l.length*2:=zc2 zeY l
theorem zeb:(Tryz.prog.info? 167).map (λi=>(i.zero,i.size,i.bytes))=some (some (.agg #[.int .i64 0,.int .i64 0]),2,16):=by kernel_rfl
theorem zds {a b:Int} (h:a=b):Ending.returned (.int .i64 a)= .returned (.int .i64 b):=by rw[h]
theorem zaG (t:Int) (w:World) (h:0<=t/\t<6):Calls Tryz.prog 135 #[.int .i64 t] w λe w'=>e= .returned (.bool true)/\w'=w:=by
 have d1:decide (0<=t)=true:=xDk h.1;have d2:decide (t<6)=true:=xDk h.2;go_enter Tryz.func135,Tryz.ntmps135;go_wp2;go_ret;exact⟨rfl,rfl⟩
theorem zfe (a:Option Addr) (n c:Nat) (l:List (Int×Int)) (t:Int) (w:World) (hl:l.length=n) (hn:n<=maxLen) (hr:Rd w a (zt l)):
  Calls Tryz.prog 136 #[.slice a n c,.int .i64 t] w λe w'=>e= .returned (.int .i64 (zay (l.map (·.1)) t))/\w'=w:=by
 unfold maxLen at hn;have HL:=xH1 hl;clear hl;go_enter Tryz.func136,Tryz.ntmps136;go_wp2
 go_loopw [5] (λi wr=>∃k:Nat,k<=n/\i= .int .i64 k/\Hid (∀j,j<k->(l.getD j (0,0)).1≠t)/\wr=w) (λi _=>n-(intOf i).toNat)
 case atStart=>exact⟨0,by omega,rfl,xH1 (by omega),rfl⟩
 case round=>
  obtain⟨k,hk,rfl,hall,rfl⟩:=hrel;by_cases hlt:k<n
  ·obtain⟨b,o,rfl,hc⟩:=hr.pair (by have:=HL.out;omega);obtain⟨g,-⟩:=hc k (by have:=HL.out;omega);obtain⟨x,hx⟩:∃x,x=(l.getD k (0,0)).1:=⟨_,rfl⟩
   rw[<-hx] at g;have HX:=xH1 hx;clear hc hx;by_cases e:x=t
   ·have t1:(x==t)=true:=(by simpa using e);have HF:Hid (zay (l.map (·.1)) t=k):=xH1 (zeh (by have:=HL.out;simp;omega) (by rw[zdx,<-HX.out];exact e) (λj hj=>by rw[zdx];exact hall.out j hj));clear e;go_wp2;go_ret;exact⟨zds HF.out.symm,rfl⟩
   ·have t1:(x==t)=false:=(by simpa using e);have HE:=xH1 e;clear e;go_wp2
    go_roundw
    case rel=>exact⟨k+1,by omega,by go_num,xH1 (λj hj=>by
      rcases Nat.lt_or_ge j k with h|h
      ·exact hall.out j h
      ·have:j=k:=(by omega);subst this;rw[<-HX.out];exact HE.out),trivial⟩
    case measure=>simp[intOf];omega
  ·have hkm:k=n:=(by omega);subst hkm;have HF:Hid (zay (l.map (·.1)) t= -1):=xH1 (zdt (λj hj=>by rw[zdx];exact hall.out j (by have:=HL.out;simp at hj;omega)));go_wp2;go_ret;exact⟨zds HF.out.symm,rfl⟩
theorem zct (x:SemD) (a:Option Addr) (n c:Nat) (w:World) (hl:x.queue.length=n) (hn:n<=1048576) (hr:Rd w a (zt x.queue)):
  Calls Tryz.prog 92 #[.agg #[.int .i64 x.free,.int .i64 x.limit,.slice a n c]] w λe w'=>∃(a':Option Addr) (c':Nat),e= .returned (.agg #[.int .i64 x.free,.int .i64 x.limit,.slice a' n c'])/\w'.ownsRow w.heap.size 167 2 (.slice a' n c') n (zt x.queue)/\xW w w':=by
 obtain⟨f,lim,q⟩:=x;dsimp only at*;have HL:=xH1 hl;clear hl;obtain⟨W0,hW0⟩:∃W0:World,W0=(w.alloc (.cells #[.int .i64 f,.int .i64 lim,.slice a n c] 74)).alloc (.cells #[.int .i64 0,.int .i64 0,.slice none 0 0] 74):=⟨_,rfl⟩
 have B0:xW w W0:=by
  rw[hW0];exact(xA1).alloc (by simp) _
 have k0:Blk W0 w.heap.size #[.int .i64 f,.int .i64 lim,.slice a n c] 74:=by
  rw[hW0];exact(Blk.new _ _ _).alloc _
 have kR:Blk W0 (w.heap.size+1) #[.int .i64 0,.int .i64 0,.slice none 0 0] 74:=by
  rw[hW0];simpa using Blk.new (w.alloc (.cells #[.int .i64 f,.int .i64 lim,.slice a n c] 74)) #[.int .i64 0,.int .i64 0,.slice none 0 0] 74
 have q0:W0.cell? ⟨w.heap.size,0,none⟩=some (.int .i64 f):=k0.cell 0 rfl;have q1:W0.cell? ⟨w.heap.size,1,none⟩=some (.int .i64 lim):=k0.cell 1 rfl;have q2:W0.cell? ⟨w.heap.size,2,none⟩=some (.slice a n c):=k0.cell 2 rfl;have HB0:=xH1 B0;have HR0:=xH1 (hr.below B0);have hS0:W0.heap.size=w.heap.size+2:=by rw[hW0];simp
 have HKR:=xH1 kR;clear B0 k0 kR hr;go_enter Tryz.func92,Tryz.ntmps92;go_wp2;rw[<-hW0] at*;clear hW0;refine zaJ 9 (by kernel_rfl) (by kernel_rfl) [λdz uz wz=>uz= .pointer (some ⟨w.heap.size,0,none⟩),λdz uz wz=>uz= .int .i64 f,λdz uz wz=>uz= .pointer (some ⟨w.heap.size,1,none⟩),λdz uz wz=>uz= .int .i64 lim,λdz uz wz=>∃gz:Nat,uz= .slice (some ⟨gz,0,none⟩) 0 0/\wz.ownsRow W0.heap.size 167 2 (.slice (some ⟨gz,0,none⟩) 0 0) 0 [],λdz uz wz=>uz= .pointer (some ⟨w.heap.size,2,none⟩),λdz uz wz=>uz= .slice a n c,λdz uz wz=>∃(az:Option Addr) (cz:Nat),uz= .slice az n cz/\wz.ownsRow W0.heap.size 167 2 (.slice az n cz) n (zt q)/\(n=0->cz=0),λdz uz wz=>uz=(.agg #[(dz.getD 0 undef),(dz.getD 1 undef),(dz.getD 2 undef)]:Value)] (λi=>match i with|_=>λ_=>none) (λw'=>xW W0 w') xB1.drew (zbT ⟨λ_ _ _ _ _ h=>h,λ_ _ _ _ _ h=>h,λ_ _ _ _ _ h=>h,λ_ _ _ _ _ h=>h,λ_ _ _ _ hb ⟨g,e,h⟩=>⟨g,e,zf h hb⟩,λ_ _ _ _ _ h=>h,λ_ _ _ _ _ h=>h,λ_ _ _ _ hb ⟨a,c,e,h,h0⟩=>⟨a,c,e,zf h hb,h0⟩,λ_ _ _ _ _ h=>h,trivial⟩) ?_ ?_
 ·simp only[List.take_succ_cons,List.take_zero];refine⟨?_,?_,?_,?_,?_,?_,?_,?_,?_,trivial⟩
  ·intro ρ w1 hG hfr hd;obtain⟨fc,ff⟩:=xF1 hfr;have f1:ρ (.tmp 1)= .pointer (some ⟨w.heap.size,0,none⟩):=hfr _ rfl;refine zh (u:= .pointer (some ⟨w.heap.size,0,none⟩)) (w':=w1) (by go_simp) ⟨Below.refl _ _,rfl,xN1,hG⟩
  ·intro ρ w1 hG hfr hd;obtain⟨fc,ff⟩:=xF1 hfr;obtain⟨d0,-⟩:=hd;have d0:(ρ (.tmp 3))= .pointer (some ⟨w.heap.size,0,none⟩):=d0;have q0:=zd hG q0;refine zh (u:= .int .i64 f) (w':=w1) (by go_simp) ⟨Below.refl _ _,rfl,xN1,hG⟩
  ·intro ρ w1 hG hfr hd;obtain⟨fc,ff⟩:=xF1 hfr;have f1:ρ (.tmp 1)= .pointer (some ⟨w.heap.size,0,none⟩):=hfr _ rfl;refine zh (u:= .pointer (some ⟨w.heap.size,1,none⟩)) (w':=w1) (by go_simp) ⟨Below.refl _ _,rfl,xN1,hG⟩
  ·intro ρ w1 hG hfr hd;obtain⟨fc,ff⟩:=xF1 hfr;obtain⟨d0,-⟩:=hd;have d0:(ρ (.tmp 5))= .pointer (some ⟨w.heap.size,1,none⟩):=d0;have q1:=zd hG q1;refine zh (u:= .int .i64 lim) (w':=w1) (by go_simp) ⟨Below.refl _ _,rfl,xN1,hG⟩
  ·intro ρ w1 hG hfr hd;obtain⟨fc,ff⟩:=xF1 hfr;refine zh (u:= .slice (some ⟨w1.heap.size,0,none⟩) 0 0) (w':=w1.alloc (.cells #[] 167)) (by go_simp) ⟨xA1,⟨_,rfl,zl (zJ w1 167 2) hG.size⟩,xN1,hG.alloc hG.size _⟩
  ·intro ρ w1 hG hfr hd;obtain⟨fc,ff⟩:=xF1 hfr;have f1:ρ (.tmp 1)= .pointer (some ⟨w.heap.size,0,none⟩):=hfr _ rfl;refine zh (u:= .pointer (some ⟨w.heap.size,2,none⟩)) (w':=w1) (by go_simp) ⟨Below.refl _ _,rfl,xN1,hG⟩
  ·intro ρ w1 hG hfr hd;obtain⟨fc,ff⟩:=xF1 hfr;obtain⟨d0,-⟩:=hd;have d0:(ρ (.tmp 8))= .pointer (some ⟨w.heap.size,2,none⟩):=d0;have q2:=zd hG q2;refine zh (u:= .slice a n c) (w':=w1) (by go_simp) ⟨Below.refl _ _,rfl,xN1,hG⟩
  ·intro ρ w1 hG hfr hd;obtain⟨fc,ff⟩:=xF1 hfr;obtain⟨d0,d1,-⟩:=hd;have d0:∃gz:Nat,(ρ (.tmp 7))= .slice (some ⟨gz,0,none⟩) 0 0/\w1.ownsRow W0.heap.size 167 2 (.slice (some ⟨gz,0,none⟩) 0 0) 0 []:=d0;have d1:(ρ (.tmp 9))= .slice a n c:=d1;obtain⟨g,d0,hg⟩:=d0;refine zag _ _ 72 rfl Tryz.underlying72 zeb rfl (by decide) d0 hg d1 (by rw[zbw,HL.out]) (HR0.out.below hG) (zc7 _) (by omega) (by decide) hG.size ?_;intro a c w2 hown hb hf h0;exact⟨hb,⟨a,c,rfl,hown,h0⟩,xN1,hG.trans (hb.mono hG.size)⟩
  ·intro ρ w1 hG hfr hd;obtain⟨fc,ff⟩:=xF1 hfr;obtain⟨d0,d1,d2,-⟩:=hd;have d0:(ρ (.tmp 4))= .int .i64 f:=d0;have d1:(ρ (.tmp 6))= .int .i64 lim:=d1;have d2:∃(az:Option Addr) (cz:Nat),(ρ (.tmp 10))= .slice az n cz/\w1.ownsRow W0.heap.size 167 2 (.slice az n cz) n (zt q)/\(n=0->cz=0):=d2;obtain⟨azz,czz,d2,-,-⟩:=d2;refine zh (u:= .agg #[.int .i64 f,.int .i64 lim,.slice azz n czz]) (w':=w1) (by go_simp) ⟨Below.refl _ _,?_,xN1,hG⟩;show Value.agg #[.int .i64 f,.int .i64 lim,.slice azz n czz]=(.agg #[(ρ (.tmp 4)),(ρ (.tmp 6)),(ρ (.tmp 10))]:Value);rw[d0,d1,d2]
 intro vs w2 hG hlen hall hap hbd;obtain⟨xv0,vs0,rfl,hl0⟩:=zk hlen;obtain⟨xv1,vs1,rfl,hl1⟩:=zk hl0;obtain⟨xv2,vs2,rfl,hl2⟩:=zk hl1;obtain⟨xv3,vs3,rfl,hl3⟩:=zk hl2;obtain⟨xv4,vs4,rfl,hl4⟩:=zk hl3;obtain⟨xv5,vs5,rfl,hl5⟩:=zk hl4;obtain⟨xv6,vs6,rfl,hl6⟩:=zk hl5;obtain⟨xv7,vs7,rfl,hl7⟩:=zk hl6;obtain⟨xv8,vs8,rfl,hl8⟩:=zk hl7;obtain rfl:=zcD hl8;clear hlen hl0 hl1 hl2 hl3 hl4 hl5 hl6 hl7 hl8;simp only[List.take_succ_cons,List.take_zero,List.drop_succ_cons,List.drop_zero] at hall⊢;obtain⟨t0',t1',t2',t3',t4',t5',t6',t7',t8',-⟩:=hall;have hv0:xv0= .pointer (some ⟨w.heap.size,0,none⟩):=t0';have hv1:xv1= .int .i64 f:=t1';have hv2:xv2= .pointer (some ⟨w.heap.size,1,none⟩):=t2';have hv3:xv3= .int .i64 lim:=t3';have hv4:∃gz:Nat,xv4= .slice (some ⟨gz,0,none⟩) 0 0/\w2.ownsRow W0.heap.size 167 2 (.slice (some ⟨gz,0,none⟩) 0 0) 0 []:=t4';have hv5:xv5= .pointer (some ⟨w.heap.size,2,none⟩):=t5';have hv6:xv6= .slice a n c:=t6';have hv7:∃(az:Option Addr) (cz:Nat),xv7= .slice az n cz/\w2.ownsRow W0.heap.size 167 2 (.slice az n cz) n (zt q)/\(n=0->cz=0):=t7';have hv8:xv8=(.agg #[xv1,xv3,xv7]:Value):=t8';clear t0' t1' t2' t3' t4' t5' t6' t7' t8';clear hap hbd;subst hv0 hv1 hv2 hv3 hv5 hv6
 obtain⟨a',c',rfl,hown,-⟩:=hv7;simp only[zap,Act.put,List.setIfInBounds_toArray,List.set_cons_succ,List.set_cons_zero];have kR2:=HKR.out.below hG;have y0:=kR2.cell 0 rfl;have x0:=kR2.fz 0;have y1:=kR2.cell 1 rfl;have x1:=kR2.fz 1;have y2:=kR2.cell 2 rfl;have x2:=kR2.fz 2;clear kR2;go_wp2;have hrow:∀q,ze a'=some q->q∉[w.heap.size+1]:=λq hq hm=>by
  have h1:=(zp hown q hq).1;simp only[List.mem_singleton] at hm;omega
 have hT:=((zi.refl [w.heap.size+1] w2).set (v:= .int .i64 f) (j:=0) xS2).set (v:= .int .i64 lim) (j:=1) xS2|>.set (v:= .slice a' n c') (j:=2) xS2
 have hBz:=hT.below (B:=w.heap.size) (by have:=hG.size;omega) (λk hk=>by simp only[List.mem_singleton] at hk;omega);refine xDd (v:= .agg #[.int .i64 f,.int .i64 lim,.slice a' n c']) (by simp[results,Tryz.results92,go_sem,y0,y1,y2]) rfl ⟨a',c',rfl,zl (zj hown hT hrow) (by omega),(HB0.out.trans (hG.mono HB0.out.size)).trans hBz⟩
theorem zcr (x:SemD) (a:Option Addr) (n c:Nat) (w:World) (hl:x.queue.length=n) (hr:Rd w a (zt x.queue)) (ok:zdg x):
  Calls Tryz.prog 134 #[.agg #[.int .i64 x.free,.int .i64 x.limit,.slice a n c]] w λe w'=>e= .returned (.bool true)/\xW w w':=by
 obtain⟨f,lim,q⟩:=x;obtain⟨⟨l1,l2⟩,⟨f1,f2⟩,hc,ht,hf⟩:=ok;dsimp only at*;have h6:n<=6:=by rw[<-hl];simpa using ht.1
 have d1:decide (lim<1)=false:=xDj (by omega);have d2:decide (9<lim)=false:=xDj (by omega);have d3:decide (f<0)=false:=xDj (by omega);have d4:decide (lim<f)=false:=xDj (by omega);have d5:decide (6<(n:Int))=false:=xDj (by omega);have HL:=xH1 hl;have HC:=xH1 hc;have HT:=xH1 ht;have HF:=xH1 hf;clear hl hc ht hf l1 l2 f1 f2;have B0:xW w (w.alloc (.cells #[.int .i64 f,.int .i64 lim,.slice a n c] 74)):=xA1;have k0:Blk (w.alloc (.cells #[.int .i64 f,.int .i64 lim,.slice a n c] 74)) w.heap.size #[.int .i64 f,.int .i64 lim,.slice a n c] 74:=Blk.new _ _ _;have q0:(w.alloc (.cells #[.int .i64 f,.int .i64 lim,.slice a n c] 74)).cell? ⟨w.heap.size,0,none⟩=some (.int .i64 f):=k0.cell 0 rfl;have q1:(w.alloc (.cells #[.int .i64 f,.int .i64 lim,.slice a n c] 74)).cell? ⟨w.heap.size,1,none⟩=some (.int .i64 lim):=k0.cell 1 rfl;have q2:(w.alloc (.cells #[.int .i64 f,.int .i64 lim,.slice a n c] 74)).cell? ⟨w.heap.size,2,none⟩=some (.slice a n c):=k0.cell 2 rfl;clear k0;have hr0:=hr.below B0;clear hr;go_enter Tryz.func134,Tryz.ntmps134;go_wp2;obtain⟨W0,hW0⟩:∃W0:World,W0=(w.alloc (.cells #[.int .i64 f,.int .i64 lim,.slice a n c] 74)):=⟨_,rfl⟩
 rw[<-hW0] at B0 hr0 q0 q1 q2⊢;clear hW0
 go_loopw [3] (λv wr=>∃i:Nat,i<=n/\v= .int .i64 i/\xW W0 wr) (λv _=>n-(intOf v).toNat)
 case atStart=>exact⟨0,by omega,rfl,Below.refl _ _⟩
 case round=>
  obtain⟨i,hi,rfl,hb⟩:=hrel;have c0:=zd hb q0;have c1:=zd hb q1;have c2:=zd hb q2;have hr1:=hr0.below hb;by_cases hlt:i<n
  ·obtain⟨b,o,rfl,g'⟩:=hr1.pair (by have:=HL.out;omega);obtain⟨g1,g2⟩:=g' i (by have:=HL.out;omega);obtain⟨t,et⟩:∃t,t=(q.getD i (0,0)).1:=⟨_,rfl⟩
   obtain⟨m,em⟩:∃m,m=(q.getD i (0,0)).2:=⟨_,rfl⟩
   rw[<-et] at g1;rw[<-em] at g2;have hm:1<=m/\m<=lim:=by rw[em];exact HC.out _ (zbl (by have:=HL.out;omega))
   have htt:0<=t/\t<6:=by rw[et,<-zdx];exact HT.out.2.1 _ (zbl (by have:=HL.out;simp;omega))
   have e1:decide (m<1)=false:=xDj (by omega);have e2:decide (lim<m)=false:=xDj (by omega);have HNE:Hid (∀k,k<i->(q.getD k (0,0)).1≠t):=xH1 (λk hk=>by
    have:=zdY HT.out.2.2 (i:=i) (k:=k) (by have:=HL.out;simp;omega) hk;rw[zdx,zdx,<-et] at this;exact this)
   have HTT:=xH1 htt;have HG:=xH1 g';have bA:xW wr (wr.alloc (.cells #[.int .i64 t,.int .i64 m] 167)):=xA1;have kA:Blk (wr.alloc (.cells #[.int .i64 t,.int .i64 m] 167)) wr.heap.size #[.int .i64 t,.int .i64 m] 167:=Blk.new _ _ _;have a0:=kA.cell 0 rfl;have a1:=kA.cell 1 rfl;have c1':=zd bA c1;have c2':=zd bA c2;have hb2:=hb.trans (bA.mono hb.size);have hr2:=hr1.below bA;clear kA bA et em hm htt g';go_wp2_with fail;refine(zaG t _ HTT.out).mono ?_;rintro e w3 ⟨rfl,hw3⟩;have hw3':=hw3.symm;subst hw3';go_wp2;obtain⟨WI,hWI⟩:∃WI:World,WI=(wr.alloc (.cells #[.int .i64 t,.int .i64 m] 167)):=⟨_,rfl⟩
   rw[<-hWI] at a0 a1 c1' c2' hb2 hr2⊢;clear hWI
   go_loopw [5] (λv wk=>∃j:Nat,j<=i/\v= .int .i64 j/\xW WI wk) (λv _=>i-(intOf v).toNat)
   case atStart=>exact⟨0,by omega,rfl,Below.refl _ _⟩
   case round=>
    obtain⟨j,hj,rfl,hbj⟩:=hrel;have f0:=zd hbj a0;have f2:=zd hbj c2';by_cases hjl:j<i
    ·obtain⟨b',o',eb,h'⟩:=(hr2.below hbj).pair (by have:=HL.out;omega);obtain⟨rfl,rfl⟩:_/\_:=by simpa using eb
     obtain⟨u1,u2⟩:=h' j (by have:=HL.out;omega);obtain⟨t2,et2⟩:∃t2,t2=(q.getD j (0,0)).1:=⟨_,rfl⟩
     rw[<-et2] at u1;have t1:(t2==t)=false:=by rw[et2];simpa using HNE.out j hjl
     have j1:(j:Int)<(n:Int):=(by omega);clear h' et2 eb u2;go_wp2
     go_quiet (fail)
     go_wp2
     go_roundw
     case rel=>exact⟨j+1,by omega,by go_num,below_drewN hbj _⟩
     case measure=>simp[intOf];omega
    ·have hji:j=i:=(by omega);subst hji;go_wp2
     go_roundw
     case rel=>exact⟨j+1,by omega,by go_num,hb2.trans (hbj.mono hb2.size)⟩
     case measure=>simp[intOf];omega
  ·have hkm:i=n:=(by omega);subst hkm;by_cases h0:i=0
   ·subst h0;go_wp2
    go_quiet (fail)
    go_wp2;go_ret;exact⟨rfl,below_drewN (B0.trans (hb.mono B0.size)) _⟩
   ·obtain⟨b,o,rfl,g'⟩:=hr1.pair (by have:=HL.out;omega);obtain⟨g1,g2⟩:=g' 0 (by have:=HL.out;omega);have hq:f<(q.getD 0 (0,0)).2:=by
     cases hqq:q with
     |nil=>exact absurd HL.out (by rw[hqq];simpa using λh=>h0 h.symm)
     |cons x y=>exact HF.out x y hqq
    obtain⟨m,em⟩:∃m,m=(q.getD 0 (0,0)).2:=⟨_,rfl⟩
    rw[<-em] at g2 hq;rw[show o+0*2+1=o+1 by omega] at g2;have t0:((i:Int)==0)=false:=by simp;omega
    have t1:decide (f<m)=true:=xDk hq;have j1:(0:Int)<(i:Int):=(by omega);clear g' g1 em hq;go_wp2
    go_quiet (fail)
    go_wp2;go_ret;exact⟨rfl,below_drewN (B0.trans (hb.mono B0.size)) _⟩
theorem zfw {P:Program} {w:World} {ops:Array Oper} {rest:List Oper} {o:Oper} {ac:Act} {Q:Exit->Act->World->Prop} (hgd:o.guard=none) (s x:Operand) (t:TypeId)
  (ho:o.op= .call {callee:= .builtin .append,args:= #[s,x],argTypes:= #[t,t]}) {B:Nat} {e:TypeId} {z:Value} {size bytes:Nat} (ht:P.underlying t=some (.slice e)) (hinfo:(P.info? e).map (λi=>(i.zero,i.size,i.bytes))=some (some z,size,bytes))
  (hzs:z.cells.size=size) (hsz:0<size) {a:Option Addr} (hs:ac.eval s= .slice a 0 0) (hown:w.ownsRow B e size (.slice a 0 0) 0 [])
  {a2:Option Addr} {m c2:Nat} {news:List Value} (hx:ac.eval x= .slice a2 m c2) (hl:news.length=m*size) (hsrc:Rd w a2 news) (h1:∀u∈news,u.oneCell'=true) (hbytes:m*bytes<=140737488355328) (hby:0<bytes) (hbase:B<=w.heap.size)
  (h:∀a' c' w',w'.ownsRow B e size (.slice a' m c') m news->xW w w'->(m=0->c'=0)->wpList P ops Q rest (ac.put o.dst (.slice a' m c')) w'):wpList P ops Q (o::rest) ac w:=by
 obtain⟨a',c',w',hrun,k1,k2,_,k4⟩:=zeQ (P:=P) (c2:=c2) t o.type ht hinfo hzs hsz hown hl hsrc h1 hbytes hby hbase;refine wpList_plain hgd λK hK'=> ?_;unfold Oper.wp;simp[execOp,ho,resolve,invoke,builtin,hs,hx,hrun,Result.andThen];exact hK' _ _ (h a' c' w' k1 k2 k4)
inductive It where
 |blk (b:Nat) (cs:Array Value) (T:TypeId)
 |row (a:Option Addr) (n c:Nat) (E:TypeId) (sz:Nat) (cs:List Value)
def It.has (B:Nat) (W:World):It->Prop
 | .blk b cs T=>B<=b/\Blk W b cs T
 | .row a n c E sz cs=>W.ownsRow B E sz (.slice a n c) n cs
def It.foot:It->List Nat
 | .blk b _ _=>[b]
 | .row a _ _ _ _ _=>(ze a).toList
theorem It.inside {B:Nat} {W:World}:∀{i:It},i.has B W->∀k∈i.foot,B<=k/\k<W.heap.size
 | .blk b cs T,h,k,hk=>by obtain rfl:=xS1 hk;exact⟨h.1,h.2.lt⟩
 | .row a n c E sz cs,h,k,hk=>zp h k (by simpa[It.foot] using hk)
theorem It.keep {B:Nat} {W W':World}:∀{i:It},i.has B W->(∀k∈i.foot,W'.heap[k]? =W.heap[k]?)->i.has B W'
 | .blk b cs T,h,hk=>⟨h.1,(hk b xS2).trans h.2⟩
 | .row a n c E sz cs,h,hk=>za0 h λk hk' _=>hk k (by rw[zO] at hk';simpa[It.foot] using hk')
theorem It.foot_nodup:∀i:It,i.foot.Nodup
 | .blk _ _ _=>by simp[It.foot]
 | .row a _ _ _ _ _=>by cases h:ze a<;>simp[It.foot,h]
def zv (l:List It):List Nat:=l.flatMap It.foot
structure Fr (w W:World) (l:List It):Prop where
 bel:xW w W
 has:∀i∈l,i.has w.heap.size W
 ap:(zv l).Nodup
theorem zaw (a b:List Int):ints (a++b)=ints a++ints b:=xDr
theorem zes (a b:List (Int×Int)):zt (a++b)=zt a++zt b:=List.flatMap_append
namespace Fr
variable {w W W':World} {l:List It}
theorem named (F:Fr w W l):∃x,x=W/\Fr w x l:=⟨W,rfl,F⟩
theorem start (w:World):Fr w w []:=⟨Below.refl _ _,by simp,by simp[zv]⟩
theorem inside (F:Fr w W l):∀k∈zv l,w.heap.size<=k/\k<W.heap.size:=by
 intro k hk;obtain⟨i,hi,hki⟩:=List.mem_flatMap.1 hk;exact It.inside (F.has i hi) k hki
theorem call (F:Fr w W l) (hb:xW W W'):Fr w W' l:=
 ⟨F.bel.trans (hb.mono F.bel.size),λi hi=>It.keep (F.has i hi) λk hk=>hb.block k (It.inside (F.has i hi) k hk).2,F.ap⟩
theorem more (F:Fr w W l) (hb:xW W W') {i:It} (hi:i.has W.heap.size W'):Fr w W' (i::l):=by
 have F':=F.call hb;refine⟨F'.bel,λj hj=> ?_,?_⟩
 ·rcases List.mem_cons.1 hj with rfl|hj
  ·cases j with
   |blk b cs T=>exact⟨Nat.le_trans F.bel.size hi.1,hi.2⟩
   |row a n c E sz cs=>exact zl hi F.bel.size
  ·exact F'.has j hj
 ·show(i.foot++zv l).Nodup;refine List.nodup_append.2 ⟨i.foot_nodup,F.ap,λa ha b hb' e=> ?_⟩;have h1:=(It.inside hi a ha).1;have h2:=(F.inside b hb').2;omega
theorem alloc (F:Fr w W l) (cs:Array Value) (T:TypeId):Fr w (W.alloc (.cells cs T)) (.blk W.heap.size cs T::l):=
 F.more (xA1) ⟨Nat.le_refl _,Blk.new _ _ _⟩
theorem join {w0:World} {l':List It} (F:Fr w0 w l') (F':Fr w W l):Fr w0 W (l++l'):=by
 refine⟨F.bel.trans (F'.bel.mono F.bel.size),λi hi=> ?_,?_⟩
 ·rcases xP1 hi with hi|hi
  ·have h:=F'.has i hi
   cases i with
   |blk b cs T=>exact⟨Nat.le_trans F.bel.size h.1,h.2⟩
   |row a n c E sz cs=>exact zl h F.bel.size
  ·exact(F.call F'.bel).has i hi
 ·unfold zv;rw[List.flatMap_append];refine List.nodup_append.2 ⟨F'.ap,F.ap,λa ha b hb e=> ?_⟩;have h1:=(F'.inside a ha).1;have h2:=(F.inside b hb).2;omega
theorem row (F:Fr w W l) (hb:xW W W') {a:Option Addr} {n c sz:Nat} {E:TypeId} {cs:List Value} (h:W'.ownsRow W.heap.size E sz (.slice a n c) n cs):Fr w W' (.row a n c E sz cs::l):=F.more hb h
theorem nil (F:Fr w W l) (E:TypeId) (sz:Nat):Fr w W (.row none 0 0 E sz []::l):=F.more xB1 (xDi _ _ _ _)
theorem drewN (F:Fr w W l) (n:Nat):Fr w (W.drewN n) l:=F.call (zbi _ _)
theorem perm (F:Fr w W l) {l':List It} (h:l.Perm l'):Fr w W l':=⟨F.bel,λi hi=>F.has i (h.mem_iff.2 hi),(h.flatMap_right _).nodup_iff.1 F.ap⟩
theorem pull (F:Fr w W l) (k:Nat) {i:It} (hi:l[k]? =some i):Fr w W (i::l.eraseIdx k):=by
 obtain⟨hk,hik⟩:=xDs.1 hi;refine F.perm ?_;have e0:l=l.take k++i::l.drop (k+1):=by rw[<-hik,List.getElem_cons_drop,List.take_append_drop]
 rw[List.eraseIdx_eq_take_drop_succ]
 conv=>lhs;rw[e0]
 exact List.perm_middle
theorem drew (F:Fr w W l):Fr w W.drew l:=F.call xB1.drew
theorem step (F:Fr w W l) (k:Nat) {i:It} (hi:l[k]? =some i) (T:zi i.foot W W') {i':It} (h':i'.has w.heap.size W') (hf:∀q∈i'.foot,q∈i.foot\/W.heap.size<=q):Fr w W' (l.set k i'):=by
 obtain⟨hk,hik⟩:=xDs.1 hi;have e0:l=l.take k++i::l.drop (k+1):=by rw[<-hik,List.getElem_cons_drop,List.take_append_drop]
 have e1:l.set k i'=l.take k++i'::l.drop (k+1):=List.set_eq_take_append_cons_drop.trans (by rw[if_pos hk]);have ha:=F.ap;rw[e0] at ha;rw[e1];obtain⟨l1,h1⟩:∃x,x=l.take k:=⟨_,rfl⟩
 obtain⟨l2,h2⟩:∃x,x=l.drop (k+1):=⟨_,rfl⟩
 rw[<-h1,<-h2] at e0 ha⊢;have hin:=F.inside;have hhas:=F.has;rw[e0] at hin hhas;simp only[zv,List.flatMap_append,List.flatMap_cons,List.nodup_append,List.mem_append,List.mem_flatMap] at ha hin;obtain⟨a1,⟨ai,a2,a3⟩,a4⟩:=ha;refine⟨F.bel.trans (T.below F.bel.size λq hq=>(It.inside (F.has i (xDo hi)) q hq).1),?_,?_⟩
 ·intro j hj;rcases xP1 hj with hj|hj
  ·exact It.keep (hhas j (by simp[hj])) λq hq=>T.block q (It.inside (hhas j (by simp[hj])) q hq).2 λhm=>a4 q ⟨j,hj,hq⟩ q (.inl hm) rfl
  ·rcases List.mem_cons.1 hj with rfl|hj
   ·exact h'
   ·exact It.keep (hhas j (by simp[hj])) λq hq=>T.block q (It.inside (hhas j (by simp[hj])) q hq).2 λhm=>a3 q hm q ⟨j,hj,hq⟩ rfl
 ·simp only[zv,List.flatMap_append,List.flatMap_cons,List.nodup_append,List.mem_append,List.mem_flatMap];refine⟨a1,⟨i'.foot_nodup,a2,λq hq r hr e=> ?_⟩,λq hq r hr e=> ?_⟩
  ·subst e;rcases hf q hq with h|h
   ·exact a3 q h q hr rfl
   ·have:=(hin q (.inr (.inr hr))).2;omega
  ·subst e;rcases hr with hr|hr
   ·rcases hf q hr with h|h
    ·exact a4 q hq q (.inl h) rfl
    ·have:=(hin q (.inl hq)).2;omega
   ·exact a4 q hq q (.inr hr) rfl
theorem set (F:Fr w W l) (k:Nat) {b:Nat} {cs:Array Value} {T:TypeId} (hi:l[k]? =some (.blk b cs T)) (j:Nat) (v:Value):Fr w (W.setCell ⟨b,j,none⟩ v) (l.set k (.blk b (cs.setIfInBounds j v) T)):=by
 have h:=F.has _ (xDo hi);exact F.step k hi ((zi.refl _ _).set xS2) ⟨h.1,h.2.set j v⟩ λq hq=> .inl hq
theorem put (F:Fr w W l) (k:Nat) {a:Option Addr} {g n c sz:Nat} {E:TypeId} {cs:List Value} (hi:l[k]? =some (.row a n c E sz cs)) (ha:a=some ⟨g,0,none⟩) (j:Nat) (v:Value):Fr w (W.setCell ⟨g,j,none⟩ v) (l.set k (.row a n c E sz (cs.set j v))):=by
 subst ha;have h:=F.has _ (xDo hi);exact F.step k hi ((zi.refl _ _).set (by simp[It.foot,ze])) (zak h j v rfl).1 λq hq=> .inl hq
theorem app (F:Fr w W l) (k:Nat) {a a':Option Addr} {n c n' c' sz:Nat} {E:TypeId} {cs cs':List Value} (hi:l[k]? =some (.row a n c E sz cs)) (hg:W.grownBy W' (ze a)) (h':W'.ownsRow w.heap.size E sz (.slice a' n' c') n' cs') (hn:∀q,ze a'=some q->ze a=some q\/W.heap.size<=q):Fr w W' (l.set k (.row a' n' c' E sz cs')):=
 F.step k hi (zi.of_grown hg λq hq=>by simp[It.foot,hq]) h' λq hq=>(hn q (by simpa[It.foot] using hq)).imp (λh=>by simp[It.foot,h]) id
theorem blk (F:Fr w W l) (k:Nat) {b:Nat} {cs:Array Value} {T:TypeId} (hi:l[k]? =some (.blk b cs T)):Blk W b cs T:=(F.has _ (xDo hi)).2
theorem cell (F:Fr w W l) (k j:Nat) {b:Nat} {cs:Array Value} {T:TypeId} {v:Value} (hi:l[k]? =some (.blk b cs T)) (hv:cs[j]? =some v):W.cell? ⟨b,j,none⟩=some v:=(F.blk k hi).cell j hv
theorem fz (F:Fr w W l) (k j:Nat) {b:Nat} {cs:Array Value} {T:TypeId} (hi:l[k]? =some (.blk b cs T)):W.frozen? ⟨b,j,none⟩=false:=(F.blk k hi).fz j
theorem own (F:Fr w W l) (k:Nat) {a:Option Addr} {n c sz:Nat} {E:TypeId} {cs:List Value} (hi:l[k]? =some (.row a n c E sz cs)):W.ownsRow w.heap.size E sz (.slice a n c) n cs:=F.has _ (xDo hi)
theorem foots_sub:∀{l' l:List It},List.Sublist l' l->List.Sublist (zv l') (zv l)
 |_,_,.slnil=> .slnil
 |_,_,.cons i h=>(foots_sub h).trans (List.sublist_append_right _ _)
 |_,_,.cons_cons i h=>(List.Sublist.refl _).append (foots_sub h)
theorem sub (F:Fr w W l) {l':List It} (h:List.Sublist l' l):Fr w W l':=⟨F.bel,λi hi=>F.has i (h.subset hi),F.ap.sublist (foots_sub h)⟩
theorem ne (F:Fr w W l) (k k':Nat) {b b':Nat} {cs cs':Array Value} {T T':TypeId} (hi:l[k]? =some (.blk b cs T)) (hi':l[k']? =some (.blk b' cs' T')) (hk:k<k'):b≠b':=by
 intro e;subst e;obtain⟨h1,e1⟩:=xDs.1 hi;obtain⟨h2,e2⟩:=xDs.1 hi';have ha:=F.ap;rw[<-List.take_append_drop k' l] at ha;simp only[zv,List.flatMap_append,List.nodup_append,List.mem_flatMap] at ha;refine ha.2.2 b ⟨.blk b cs T,?_,List.mem_singleton.2 rfl⟩ b ⟨.blk b cs' T',?_,List.mem_singleton.2 rfl⟩ rfl
 ·exact xDo (i:=k) (by rw[List.getElem?_take];simp[hk,hi])
 ·exact xDo (i:=0) (by rw[List.getElem?_drop];simpa using hi')
theorem c2 (F:Fr w W l) (k:Nat) {b:Nat} {v0 v1:Value} {T:TypeId} (hi:l[k]? =some (.blk b #[v0,v1] T)):W.cell? ⟨b,0,none⟩=some v0/\W.frozen? ⟨b,0,none⟩=false/\W.cell? ⟨b,1,none⟩=some v1/\W.frozen? ⟨b,1,none⟩=false:=⟨F.cell k 0 hi rfl,F.fz k 0 hi,F.cell k 1 hi rfl,F.fz k 1 hi⟩
theorem c3 (F:Fr w W l) (k:Nat) {b:Nat} {v0 v1 v2:Value} {T:TypeId} (hi:l[k]? =some (.blk b #[v0,v1,v2] T)):W.cell? ⟨b,0,none⟩=some v0/\W.frozen? ⟨b,0,none⟩=false/\W.cell? ⟨b,1,none⟩=some v1/\W.frozen? ⟨b,1,none⟩=false/\W.cell? ⟨b,2,none⟩=some v2/\W.frozen? ⟨b,2,none⟩=false:=⟨F.cell k 0 hi rfl,F.fz k 0 hi,F.cell k 1 hi rfl,F.fz k 1 hi,F.cell k 2 hi rfl,F.fz k 2 hi⟩
theorem c4 (F:Fr w W l) (k:Nat) {b:Nat} {v0 v1 v2 v3:Value} {T:TypeId} (hi:l[k]? =some (.blk b #[v0,v1,v2,v3] T)):W.cell? ⟨b,0,none⟩=some v0/\W.frozen? ⟨b,0,none⟩=false/\W.cell? ⟨b,1,none⟩=some v1/\W.frozen? ⟨b,1,none⟩=false/\W.cell? ⟨b,2,none⟩=some v2/\W.frozen? ⟨b,2,none⟩=false/\W.cell? ⟨b,3,none⟩=some v3/\W.frozen? ⟨b,3,none⟩=false:=⟨F.cell k 0 hi rfl,F.fz k 0 hi,F.cell k 1 hi rfl,F.fz k 1 hi,F.cell k 2 hi rfl,F.fz k 2 hi,F.cell k 3 hi rfl,F.fz k 3 hi⟩
theorem c5 (F:Fr w W l) (k:Nat) {b:Nat} {v0 v1 v2 v3 v4:Value} {T:TypeId} (hi:l[k]? =some (.blk b #[v0,v1,v2,v3,v4] T)):W.cell? ⟨b,0,none⟩=some v0/\W.frozen? ⟨b,0,none⟩=false/\W.cell? ⟨b,1,none⟩=some v1/\W.frozen? ⟨b,1,none⟩=false/\W.cell? ⟨b,2,none⟩=some v2/\W.frozen? ⟨b,2,none⟩=false/\W.cell? ⟨b,3,none⟩=some v3/\W.frozen? ⟨b,3,none⟩=false/\W.cell? ⟨b,4,none⟩=some v4/\W.frozen? ⟨b,4,none⟩=false:=⟨F.cell k 0 hi rfl,F.fz k 0 hi,F.cell k 1 hi rfl,F.fz k 1 hi,F.cell k 2 hi rfl,F.fz k 2 hi,F.cell k 3 hi rfl,F.fz k 3 hi,F.cell k 4 hi rfl,F.fz k 4 hi⟩
theorem c9 (F:Fr w W l) (k:Nat) {b:Nat} {v0 v1 v2 v3 v4 v5 v6 v7 v8:Value} {T:TypeId} (hi:l[k]? =some (.blk b #[v0,v1,v2,v3,v4,v5,v6,v7,v8] T)):W.cell? ⟨b,0,none⟩=some v0/\W.frozen? ⟨b,0,none⟩=false/\W.cell? ⟨b,1,none⟩=some v1/\W.frozen? ⟨b,1,none⟩=false/\W.cell? ⟨b,2,none⟩=some v2/\W.frozen? ⟨b,2,none⟩=false/\W.cell? ⟨b,3,none⟩=some v3/\W.frozen? ⟨b,3,none⟩=false/\W.cell? ⟨b,4,none⟩=some v4/\W.frozen? ⟨b,4,none⟩=false/\W.cell? ⟨b,5,none⟩=some v5/\W.frozen? ⟨b,5,none⟩=false/\W.cell? ⟨b,6,none⟩=some v6/\W.frozen? ⟨b,6,none⟩=false/\W.cell? ⟨b,7,none⟩=some v7/\W.frozen? ⟨b,7,none⟩=false/\W.cell? ⟨b,8,none⟩=some v8/\W.frozen? ⟨b,8,none⟩=false:=⟨F.cell k 0 hi rfl,F.fz k 0 hi,F.cell k 1 hi rfl,F.fz k 1 hi,F.cell k 2 hi rfl,F.fz k 2 hi,F.cell k 3 hi rfl,F.fz k 3 hi,F.cell k 4 hi rfl,F.fz k 4 hi,F.cell k 5 hi rfl,F.fz k 5 hi,F.cell k 6 hi rfl,F.fz k 6 hi,F.cell k 7 hi rfl,F.fz k 7 hi,F.cell k 8 hi rfl,F.fz k 8 hi⟩
theorem set2 (F:Fr w W l) (k:Nat) {b:Nat} {u0 u1:Value} {T:TypeId} (hi:l[k]? =some (.blk b #[u0,u1] T)) (v0 v1:Value):Fr w ((W.setCell ⟨b,0,none⟩ v0).setCell ⟨b,1,none⟩ v1) (l.set k (.blk b #[v0,v1] T)):=by
 have h:=F.has _ (xDo hi);exact F.step k hi (((zi.refl _ _).set xS2).set xS2) ⟨h.1,((h.2.set 0 v0).set 1 v1)⟩ λq hq=> .inl hq
theorem set3 (F:Fr w W l) (k:Nat) {b:Nat} {u0 u1 u2:Value} {T:TypeId} (hi:l[k]? =some (.blk b #[u0,u1,u2] T)) (v0 v1 v2:Value):Fr w (((W.setCell ⟨b,0,none⟩ v0).setCell ⟨b,1,none⟩ v1).setCell ⟨b,2,none⟩ v2) (l.set k (.blk b #[v0,v1,v2] T)):=by
 have h:=F.has _ (xDo hi);exact F.step k hi ((((zi.refl _ _).set xS2).set xS2).set xS2) ⟨h.1,(((h.2.set 0 v0).set 1 v1).set 2 v2)⟩ λq hq=> .inl hq
theorem set4 (F:Fr w W l) (k:Nat) {b:Nat} {u0 u1 u2 u3:Value} {T:TypeId} (hi:l[k]? =some (.blk b #[u0,u1,u2,u3] T)) (v0 v1 v2 v3:Value):Fr w ((((W.setCell ⟨b,0,none⟩ v0).setCell ⟨b,1,none⟩ v1).setCell ⟨b,2,none⟩ v2).setCell ⟨b,3,none⟩ v3) (l.set k (.blk b #[v0,v1,v2,v3] T)):=by
 have h:=F.has _ (xDo hi);exact F.step k hi (((((zi.refl _ _).set xS2).set xS2).set xS2).set xS2) ⟨h.1,((((h.2.set 0 v0).set 1 v1).set 2 v2).set 3 v3)⟩ λq hq=> .inl hq
theorem set5 (F:Fr w W l) (k:Nat) {b:Nat} {u0 u1 u2 u3 u4:Value} {T:TypeId} (hi:l[k]? =some (.blk b #[u0,u1,u2,u3,u4] T)) (v0 v1 v2 v3 v4:Value):Fr w (((((W.setCell ⟨b,0,none⟩ v0).setCell ⟨b,1,none⟩ v1).setCell ⟨b,2,none⟩ v2).setCell ⟨b,3,none⟩ v3).setCell ⟨b,4,none⟩ v4) (l.set k (.blk b #[v0,v1,v2,v3,v4] T)):=by
 have h:=F.has _ (xDo hi);exact F.step k hi ((((((zi.refl _ _).set xS2).set xS2).set xS2).set xS2).set xS2) ⟨h.1,(((((h.2.set 0 v0).set 1 v1).set 2 v2).set 3 v3).set 4 v4)⟩ λq hq=> .inl hq
theorem set9 (F:Fr w W l) (k:Nat) {b:Nat} {u0 u1 u2 u3 u4 u5 u6 u7 u8:Value} {T:TypeId} (hi:l[k]? =some (.blk b #[u0,u1,u2,u3,u4,u5,u6,u7,u8] T)) (v0 v1 v2 v3 v4 v5 v6 v7 v8:Value):Fr w (((((((((W.setCell ⟨b,0,none⟩ v0).setCell ⟨b,1,none⟩ v1).setCell ⟨b,2,none⟩ v2).setCell ⟨b,3,none⟩ v3).setCell ⟨b,4,none⟩ v4).setCell ⟨b,5,none⟩ v5).setCell ⟨b,6,none⟩ v6).setCell ⟨b,7,none⟩ v7).setCell ⟨b,8,none⟩ v8) (l.set k (.blk b #[v0,v1,v2,v3,v4,v5,v6,v7,v8] T)):=by
 have h:=F.has _ (xDo hi);exact F.step k hi ((((((((((zi.refl _ _).set xS2).set xS2).set xS2).set xS2).set xS2).set xS2).set xS2).set xS2).set xS2) ⟨h.1,by have h9:=(((((((((h.2.set 0 v0).set 1 v1).set 2 v2).set 3 v3).set 4 v4).set 5 v5).set 6 v6).set 7 v7).set 8 v8);simpa using h9⟩ λq hq=> .inl hq
theorem setV (h:Fr w W l) (k:Nat) {b:Nat} {u0 u1 u2 u3 u4 u5 u6 u7 u8:Value} {T:TypeId} (hi:l[k]? =some (.blk b #[u0,u1,u2,u3,u4,u5,u6,u7,u8] T)) (y:StV):Fr w (((((((((W.setCell ⟨b,0,none⟩ (.slice y.pl.a y.pl.n y.pl.c)).setCell ⟨b,1,none⟩ (.slice y.st.a y.st.n y.st.c)).setCell ⟨b,2,none⟩ (.slice y.se.a y.se.n y.se.c)).setCell ⟨b,3,none⟩ (.slice y.on.a y.on.n y.on.c)).setCell ⟨b,4,none⟩ (.slice y.gr.a y.gr.n y.gr.c)).setCell ⟨b,5,none⟩ (.slice y.ba.a y.ba.n y.ba.c)).setCell ⟨b,6,none⟩ (.slice y.ch.a y.ch.n y.ch.c)).setCell ⟨b,7,none⟩ (.slice y.sa.a y.sa.n y.sa.c)).setCell ⟨b,8,none⟩ (.int .i64 y.fl)) (l.set k (.blk b (svC y) T)):=h.set9 k hi _ _ _ _ _ _ _ _ _
theorem setZ (h:Fr w W l) (k:Nat) {b:Nat} {u0 u1 u2 u3 u4 u5 u6 u7 u8:Value} {T:TypeId} (hi:l[k]? =some (.blk b #[u0,u1,u2,u3,u4,u5,u6,u7,u8] T)):Fr w (((((((((W.setCell ⟨b,0,none⟩ (.slice none 0 0)).setCell ⟨b,1,none⟩ (.slice none 0 0)).setCell ⟨b,2,none⟩ (.slice none 0 0)).setCell ⟨b,3,none⟩ (.slice none 0 0)).setCell ⟨b,4,none⟩ (.slice none 0 0)).setCell ⟨b,5,none⟩ (.slice none 0 0)).setCell ⟨b,6,none⟩ (.slice none 0 0)).setCell ⟨b,7,none⟩ (.slice none 0 0)).setCell ⟨b,8,none⟩ (.int .i64 0)) (l.set k (.blk b zC T)):=h.set9 k hi _ _ _ _ _ _ _ _ _
theorem apart (F:Fr w W l) (k k':Nat) {i i':It} (hi:l[k]? =some i) (hi':l[k']? =some i') (hk:k<k'):∀q∈i.foot,q∉i'.foot:=by
 intro q h1 h2;have ha:=F.ap;rw[<-List.take_append_drop k' l] at ha;simp only[zv,List.flatMap_append,List.nodup_append,List.mem_flatMap] at ha;refine ha.2.2 q ⟨i,?_,h1⟩ q ⟨i',?_,h2⟩ rfl
 ·exact xDo (i:=k) (by rw[List.getElem?_take];simp[hk,hi])
 ·exact xDo (i:=0) (by rw[List.getElem?_drop];simpa using hi')
theorem rd (F:Fr w W l) {a:Option Addr} {cs:List Value} (h:Rd w a cs):Rd W a cs:=h.below F.bel
theorem rdRow (F:Fr w W l) (k:Nat) {a:Option Addr} {n c sz:Nat} {E:TypeId} {cs:List Value} (hi:l[k]? =some (.row a n c E sz cs)):Rd W a cs:=Rd.of_owns (F.own k hi)
theorem sln (F:Fr w W l) (k:Nat) {a:Option Addr} {n c sz:Nat} {E:TypeId} {cs:List Value} (hi:l[k]? =some (.row a n c E sz cs)) (he:E∉zeF:=by decide):SlN w W ⟨a,n,c⟩ cs n:=SlN.of_owns (F.own k hi) xL1 he
section
variable {P:Program} {ops:Array Oper} {rest:List Oper} {o:Oper} {ac:Act} {Q:Exit->Act->World->Prop}
theorem wpApp (F:Fr w W l) (k:Nat) (hgd:o.guard=none) (s x:Operand) (t:TypeId) (ho:o.op= .call {callee:= .builtin .append,args:= #[s,x],argTypes:= #[t,t]})
  {e:TypeId} {z:Value} {size bytes:Nat} (ht:P.underlying t=some (.slice e)) (hinfo:(P.info? e).map (λi=>(i.zero,i.size,i.bytes))=some (some z,size,bytes)) (hzs:z.cells.size=size) (hsz:0<size)
  {a:Option Addr} {n c:Nat} {xs:List Value} (hi:l[k]? =some (.row a n c e size xs)) (hs:ac.eval s= .slice a n c)
  {a2:Option Addr} {m c2:Nat} {news:List Value} (hx:ac.eval x= .slice a2 m c2) (hl:news.length=m*size) (hsrc:Rd W a2 news) (h1:∀u∈news,u.oneCell'=true) (hbytes:(n+m)*bytes<=140737488355328) (hby:0<bytes)
  (h:∀a' c' W',Fr w W' (l.set k (.row a' (n+m) c' e size (xs++news)))->wpList P ops Q rest (ac.put o.dst (.slice a' (n+m) c')) W'):wpList P ops Q (o::rest) ac W:=
 zad hgd s x t ho ht hinfo hzs hsz hs (F.own k hi) hx hl hsrc h1 hbytes hby F.bel.size λa' c' W' ho' hg hn=>h a' c' W' (F.app k hi hg ho' hn)
end
end Fr
section
variable {w W:World} {l:List It} {ops:Array Oper} {rest:List Oper} {o:Oper} {ac:Act} {Q:Exit->Act->World->Prop}
theorem Fr.appI (F:Fr w W l) (k:Nat) (hgd:o.guard=none) (s x:Operand) (ho:o.op= .call {callee:= .builtin .append,args:= #[s,x],argTypes:= #[22,22]})
  {a:Option Addr} {n c:Nat} {xs:List Value} (hi:l[k]? =some (.row a n c 3 1 xs)) (hs:ac.eval s= .slice a n c) {a2:Option Addr} {m c2:Nat} (ys:List Int) (hx:ac.eval x= .slice a2 m c2) (hl:ys.length=m) (hsrc:Rd W a2 (ints ys)) (hb:n+m<=1048576)
  (h:∀a' c' W',Fr w W' (l.set k (.row a' (n+m) c' 3 1 (xs++ints ys)))->wpList Tryz.prog ops Q rest (ac.put o.dst (.slice a' (n+m) c')) W'):wpList Tryz.prog ops Q (o::rest) ac W:=
 F.wpApp k hgd s x _ ho Tryz.underlying22 zM rfl (by decide) hi hs hx (by rw[xDf,hl,Nat.mul_one]) hsrc (zaa ys) (by omega) (by decide) h
theorem Fr.appW (F:Fr w W l) (k:Nat) (hgd:o.guard=none) (s x:Operand) (ho:o.op= .call {callee:= .builtin .append,args:= #[s,x],argTypes:= #[72,72]})
  {a:Option Addr} {n c:Nat} {xs:List Value} (hi:l[k]? =some (.row a n c 167 2 xs)) (hs:ac.eval s= .slice a n c) {a2:Option Addr} {m c2:Nat} (ys:List (Int×Int)) (hx:ac.eval x= .slice a2 m c2) (hl:ys.length=m) (hsrc:Rd W a2 (zt ys)) (hb:n+m<=1048576)
  (h:∀a' c' W',Fr w W' (l.set k (.row a' (n+m) c' 167 2 (xs++zt ys)))->wpList Tryz.prog ops Q rest (ac.put o.dst (.slice a' (n+m) c')) W'):wpList Tryz.prog ops Q (o::rest) ac W:=
 F.wpApp k hgd s x _ ho Tryz.underlying72 zeb rfl (by decide) hi hs hx (by rw[zbw,hl]) hsrc (zc7 ys) (by omega) (by decide) h
theorem zhi:(Tryz.prog.info? 187).map (λi=>(i.zero,i.size,i.bytes))=some (some (.agg #[.int .i64 0,.int .i64 0]),2,16):=by kernel_rfl
theorem Fr.appL (F:Fr w W l) (k:Nat) (hgd:o.guard=none) (s x:Operand) (ho:o.op= .call {callee:= .builtin .append,args:= #[s,x],argTypes:= #[85,85]})
  {a:Option Addr} {n c:Nat} {xs:List Value} (hi:l[k]? =some (.row a n c 187 2 xs)) (hs:ac.eval s= .slice a n c) {a2:Option Addr} {m c2:Nat} (ys:List (Int×Int)) (hx:ac.eval x= .slice a2 m c2) (hl:ys.length=m) (hsrc:Rd W a2 (zt ys)) (hb:n+m<=1048576)
  (h:∀a' c' W',Fr w W' (l.set k (.row a' (n+m) c' 187 2 (xs++zt ys)))->wpList Tryz.prog ops Q rest (ac.put o.dst (.slice a' (n+m) c')) W'):wpList Tryz.prog ops Q (o::rest) ac W:=
 F.wpApp k hgd s x _ ho Tryz.underlying85 zhi rfl (by decide) hi hs hx (by rw[zbw,hl]) hsrc (zc7 ys) (by omega) (by decide) h
end
structure SmS (s:StD):Prop where
 pl:0<s.places.length/\s.places.length<=1048576
 st:0<s.status.length/\s.status.length<=1048576
 sa:s.said.length<=1048576
 se:s.sems.length<=1048576
 on:s.onces.length<=1048576
 gr:s.groups.length<=1048576
 ba:s.bars.length<=1048576
 ch:s.chans.length<=1048576
 qse:∀i,(s.sems.getD i zG).queue.length<=1048576
 qon:∀i,(s.onces.getD i zq).waits.length<=1048576
 qgr:∀i,(s.groups.getD i zQ).waits.length<=1048576
 qba:∀i,(s.bars.getD i zE).waits.length<=1048576
 qch:∀i,(s.chans.getD i zH).items.length<=1048576/\(s.chans.getD i zH).senders.length<=1048576/\(s.chans.getD i zH).getters.length<=1048576
def part (s:StD) (a b c d e:Nat):StD:=⟨s.places,s.status,s.sems.take a,s.onces.take b,s.groups.take c,s.bars.take d,s.chans.take e,s.said,s.fault⟩
theorem zas {α:Type} (l:List α) (d:α) {j:Nat} (hj:j<l.length):l.take j++[l.getD j d]=l.take (j+1):=by
 rw[List.take_add_one,xDb hj,xDa,xDb hj];rfl
theorem zhV (s:StD):part s s.sems.length s.onces.length s.groups.length s.bars.length s.chans.length=s:=by
 simp only[part,List.take_length]
theorem ziw:(Tryz.prog.info? 74).map (λi=>(i.zero,i.size,i.bytes))=some (some (.agg #[.int .i64 0,.int .i64 0,.slice none 0 0]),3,40):=by kernel_rfl
theorem zff:(Tryz.prog.info? 78).map (λi=>(i.zero,i.size,i.bytes))=some (some (.agg #[.int .i64 0,.int .i64 0,.int .i64 0,.slice none 0 0]),4,48):=by kernel_rfl
theorem zig:(Tryz.prog.info? 80).map (λi=>(i.zero,i.size,i.bytes))=some (some (.agg #[.int .i64 0,.slice none 0 0]),2,32):=by kernel_rfl
theorem zhT:(Tryz.prog.info? 82).map (λi=>(i.zero,i.size,i.bytes))=some (some (.agg #[.int .i64 0,.int .i64 0,.slice none 0 0]),3,40):=by kernel_rfl
theorem zim:(Tryz.prog.info? 87).map (λi=>(i.zero,i.size,i.bytes))=some (some (.agg #[.int .i64 0,.slice none 0 0,.slice none 0 0,.slice none 0 0,.bool false]),5,88):=by kernel_rfl
theorem zjE {w:World} {B B':Nat} {e e':TypeId} {n n' c:Nat} {a a':Option Addr} {cs cs':List Value} (h:w.ownsRow B e 1 (.slice a n c) n cs) (h':w.ownsRow B' e' 1 (.slice a' n' 0) n' cs') (hn:0<n):∀k,ze a=some k->ze a'≠some k:=by
 intro k hk hk';have h1:=(zbe h).1;rcases h.2 with ⟨e1,e2⟩|⟨g,cap,cur,e1,_,hg,_,_,hs,_⟩
 ·simp only[Value.slice.injEq] at e1;omega
 ·simp only[Value.slice.injEq,true_and] at e1;obtain⟨rfl,rfl⟩:=e1;obtain rfl:g=k:=by simpa[ze] using hk
  rcases h'.2 with ⟨e1,e2⟩|⟨g',cap',cur',e1,_,hg',_,_,hs',_⟩
  ·simp only[Value.slice.injEq] at e1;rw[e1.1] at hk';cases hk'
  ·simp only[Value.slice.injEq,true_and] at e1;obtain⟨rfl,rfl⟩:=e1;obtain rfl:g'=g:=by simpa[ze] using hk'
   rw[hg] at hg';simp only[xDn,Obj.cells.injEq] at hg';rw[hg'.1] at hs;omega
theorem zha:∀{l:List It} {k:Nat} {i i':It},l[k]? =some i->i'.foot=i.foot->zv (l.set k i')=zv l
 |[],k,_,_,h,_=>by simp at h
 |j::l,0,i,i',h,e=>by
  obtain rfl:j=i:=by simpa using h
  show i'.foot++zv l=j.foot++zv l;rw[e]
 |j::l,k+1,i,i',h,e=>by
  show j.foot++zv (l.set k i')=j.foot++zv l;rw[zha (by simpa using h) e]
theorem zc5 {l:List It} {k:Nat} {i:It} (h:l[k]? =some i):∀q∈i.foot,q∈zv l:=λ_ hq=>List.mem_flatMap.2 ⟨i,xDo h,hq⟩
theorem Fr.other {w W W':World} {l:List It} {S:List Nat} (F:Fr w W l) (T:zi S W W') (hS:∀k∈S,w.heap.size<=k/\k∉zv l):Fr w W' l:=
 ⟨F.bel.trans (T.below F.bel.size λq hq=>(hS q hq).1),λi hi=>It.keep (F.has i hi) λq hq=>T.block q (It.inside (F.has i hi) q hq).2 λhm=>(hS q hm).2 (List.mem_flatMap.2 ⟨i,hi,hq⟩),F.ap⟩
structure Sf (w W:World) (l:List It) (v:StV) (L:StL) (s:StD):Prop where
 fr:Fr w W l
 st:StO (zv l) w.heap.size W v L s
namespace Sf
variable {w W W':World} {l:List It} {v v':StV} {L L':StL} {s s':StD}
theorem named (h:Sf w W l v L s):∃x,x=W/\Sf w x l v L s:=⟨W,rfl,h⟩
theorem call (h:Sf w W l v L s) (hb:xW W W'):Sf w W' l v L s:=⟨h.fr.call hb,h.st.below hb⟩
theorem drewN (h:Sf w W l v L s) (n:Nat):Sf w (W.drewN n) l v L s:=h.call (zbi _ _)
theorem drew (h:Sf w W l v L s):Sf w W.drew l v L s:=h.call xB1.drew
theorem more (h:Sf w W l v L s) (hb:xW W W') {i:It} (hi:i.has W.heap.size W'):Sf w W' (i::l) v L s:=⟨h.fr.more hb hi,h.st.boxAll hb (It.inside hi)⟩
theorem alloc (h:Sf w W l v L s) (cs:Array Value) (T:TypeId):Sf w (W.alloc (.cells cs T)) (.blk W.heap.size cs T::l) v L s:=h.more (xA1) ⟨Nat.le_refl _,Blk.new _ _ _⟩
theorem row (h:Sf w W l v L s) (hb:xW W W') {a:Option Addr} {n c sz:Nat} {E:TypeId} {cs:List Value} (ho:W'.ownsRow W.heap.size E sz (.slice a n c) n cs):Sf w W' (.row a n c E sz cs::l) v L s:=h.more hb ho
theorem nil (h:Sf w W l v L s) (E:TypeId) (sz:Nat):Sf w W (.row none 0 0 E sz []::l) v L s:=h.more xB1 (xDi _ _ _ _)
theorem join {l':List It} (h:Sf w W l v L s) (F:Fr W W' l'):Sf w W' (l'++l) v L s:=⟨h.fr.join F,by
 have:=h.st.boxAll F.bel (A:=zv l') F.inside;rwa [show zv (l'++l)=zv l'++zv l from List.flatMap_append]⟩
theorem sub (h:Sf w W l v L s) {l':List It} (hs:List.Sublist l' l):Sf w W l' v L s:=⟨h.fr.sub hs,h.st.sub λ_ hk=>(Fr.foots_sub hs).subset hk⟩
theorem pull (h:Sf w W l v L s) (k:Nat) {i:It} (hi:l[k]? =some i):Sf w W (i::l.eraseIdx k) v L s:=⟨h.fr.pull k hi,h.st.sub λq hq=>by
 obtain⟨j,hj,hqj⟩:=List.mem_flatMap.1 hq;rcases List.mem_cons.1 hj with rfl|hj
 ·exact zc5 hi q hqj
 ·exact List.mem_flatMap.2 ⟨j,List.mem_of_mem_eraseIdx hj,hqj⟩⟩
theorem step (h:Sf w W l v L s) (k:Nat) {i:It} (hi:l[k]? =some i) (T:zi i.foot W W') {i':It} (h':i'.has w.heap.size W') (hf:i'.foot=i.foot):Sf w W' (l.set k i') v L s:=
 ⟨h.fr.step k hi T h' λq hq=> .inl (hf▸hq),by rw[zha hi hf];exact h.st.other (T.mono (zc5 hi))⟩
theorem set (h:Sf w W l v L s) (k:Nat) {b:Nat} {cs:Array Value} {T:TypeId} (hi:l[k]? =some (.blk b cs T)) (j:Nat) (x:Value):Sf w (W.setCell ⟨b,j,none⟩ x) (l.set k (.blk b (cs.setIfInBounds j x) T)) v L s:=by
 have hh:=h.fr.has _ (xDo hi);exact h.step k hi ((zi.refl _ _).set xS2) ⟨hh.1,hh.2.set j x⟩ rfl
theorem blks (h:Sf w W l v L s):∀k∈v.blks,w.heap.size<=k/\k∉zv l:=λk hk=>⟨(h.st.from k hk).1,λhm=>(h.st.xs k hm).2 hk⟩
theorem upd (h:Sf w W l v L s) (T:zi v.blks W W') (hs:StO (zv l) w.heap.size W' v' L' s'):Sf w W' l v' L' s':=⟨h.fr.other T h.blks,hs⟩
theorem bel (h:Sf w W l v L s):xW w W:=h.fr.bel
theorem rd (h:Sf w W l v L s):StR W v L s:=h.st.rd
theorem c2 (h:Sf w W l v L s) (k:Nat) {b:Nat} {v0 v1:Value} {T:TypeId} (hi:l[k]? =some (.blk b #[v0,v1] T)):W.cell? ⟨b,0,none⟩=some v0/\W.frozen? ⟨b,0,none⟩=false/\W.cell? ⟨b,1,none⟩=some v1/\W.frozen? ⟨b,1,none⟩=false:=h.fr.c2 k hi
theorem c3 (h:Sf w W l v L s) (k:Nat) {b:Nat} {v0 v1 v2:Value} {T:TypeId} (hi:l[k]? =some (.blk b #[v0,v1,v2] T)):W.cell? ⟨b,0,none⟩=some v0/\W.frozen? ⟨b,0,none⟩=false/\W.cell? ⟨b,1,none⟩=some v1/\W.frozen? ⟨b,1,none⟩=false/\W.cell? ⟨b,2,none⟩=some v2/\W.frozen? ⟨b,2,none⟩=false:=h.fr.c3 k hi
theorem c4 (h:Sf w W l v L s) (k:Nat) {b:Nat} {v0 v1 v2 v3:Value} {T:TypeId} (hi:l[k]? =some (.blk b #[v0,v1,v2,v3] T)):W.cell? ⟨b,0,none⟩=some v0/\W.frozen? ⟨b,0,none⟩=false/\W.cell? ⟨b,1,none⟩=some v1/\W.frozen? ⟨b,1,none⟩=false/\W.cell? ⟨b,2,none⟩=some v2/\W.frozen? ⟨b,2,none⟩=false/\W.cell? ⟨b,3,none⟩=some v3/\W.frozen? ⟨b,3,none⟩=false:=h.fr.c4 k hi
theorem c5 (h:Sf w W l v L s) (k:Nat) {b:Nat} {v0 v1 v2 v3 v4:Value} {T:TypeId} (hi:l[k]? =some (.blk b #[v0,v1,v2,v3,v4] T)):W.cell? ⟨b,0,none⟩=some v0/\W.frozen? ⟨b,0,none⟩=false/\W.cell? ⟨b,1,none⟩=some v1/\W.frozen? ⟨b,1,none⟩=false/\W.cell? ⟨b,2,none⟩=some v2/\W.frozen? ⟨b,2,none⟩=false/\W.cell? ⟨b,3,none⟩=some v3/\W.frozen? ⟨b,3,none⟩=false/\W.cell? ⟨b,4,none⟩=some v4/\W.frozen? ⟨b,4,none⟩=false:=h.fr.c5 k hi
theorem c9 (h:Sf w W l v L s) (k:Nat) {b:Nat} {v0 v1 v2 v3 v4 v5 v6 v7 v8:Value} {T:TypeId} (hi:l[k]? =some (.blk b #[v0,v1,v2,v3,v4,v5,v6,v7,v8] T)):W.cell? ⟨b,0,none⟩=some v0/\W.frozen? ⟨b,0,none⟩=false/\W.cell? ⟨b,1,none⟩=some v1/\W.frozen? ⟨b,1,none⟩=false/\W.cell? ⟨b,2,none⟩=some v2/\W.frozen? ⟨b,2,none⟩=false/\W.cell? ⟨b,3,none⟩=some v3/\W.frozen? ⟨b,3,none⟩=false/\W.cell? ⟨b,4,none⟩=some v4/\W.frozen? ⟨b,4,none⟩=false/\W.cell? ⟨b,5,none⟩=some v5/\W.frozen? ⟨b,5,none⟩=false/\W.cell? ⟨b,6,none⟩=some v6/\W.frozen? ⟨b,6,none⟩=false/\W.cell? ⟨b,7,none⟩=some v7/\W.frozen? ⟨b,7,none⟩=false/\W.cell? ⟨b,8,none⟩=some v8/\W.frozen? ⟨b,8,none⟩=false:=h.fr.c9 k hi
theorem set3 (h:Sf w W l v L s) (k:Nat) {b:Nat} {u0 u1 u2:Value} {T:TypeId} (hi:l[k]? =some (.blk b #[u0,u1,u2] T)) (v0 v1 v2:Value):Sf w (((W.setCell ⟨b,0,none⟩ v0).setCell ⟨b,1,none⟩ v1).setCell ⟨b,2,none⟩ v2) (l.set k (.blk b #[v0,v1,v2] T)) v L s:=by
 have hh:=h.fr.has _ (xDo hi);exact h.step k hi ((((zi.refl _ _).set xS2).set xS2).set xS2) ⟨hh.1,by have h9:=(((hh.2.set 0 v0).set 1 v1).set 2 v2);simpa using h9⟩ rfl
theorem set9 (h:Sf w W l v L s) (k:Nat) {b:Nat} {u0 u1 u2 u3 u4 u5 u6 u7 u8:Value} {T:TypeId} (hi:l[k]? =some (.blk b #[u0,u1,u2,u3,u4,u5,u6,u7,u8] T)) (v0 v1 v2 v3 v4 v5 v6 v7 v8:Value):Sf w (((((((((W.setCell ⟨b,0,none⟩ v0).setCell ⟨b,1,none⟩ v1).setCell ⟨b,2,none⟩ v2).setCell ⟨b,3,none⟩ v3).setCell ⟨b,4,none⟩ v4).setCell ⟨b,5,none⟩ v5).setCell ⟨b,6,none⟩ v6).setCell ⟨b,7,none⟩ v7).setCell ⟨b,8,none⟩ v8) (l.set k (.blk b #[v0,v1,v2,v3,v4,v5,v6,v7,v8] T)) v L s:=by
 have hh:=h.fr.has _ (xDo hi);exact h.step k hi ((((((((((zi.refl _ _).set xS2).set xS2).set xS2).set xS2).set xS2).set xS2).set xS2).set xS2).set xS2) ⟨hh.1,by have h9:=(((((((((hh.2.set 0 v0).set 1 v1).set 2 v2).set 3 v3).set 4 v4).set 5 v5).set 6 v6).set 7 v7).set 8 v8);simpa using h9⟩ rfl
theorem setV (h:Sf w W l v L s) (k:Nat) {b:Nat} {u0 u1 u2 u3 u4 u5 u6 u7 u8:Value} {T:TypeId} (hi:l[k]? =some (.blk b #[u0,u1,u2,u3,u4,u5,u6,u7,u8] T)) (y:StV):Sf w (((((((((W.setCell ⟨b,0,none⟩ (.slice y.pl.a y.pl.n y.pl.c)).setCell ⟨b,1,none⟩ (.slice y.st.a y.st.n y.st.c)).setCell ⟨b,2,none⟩ (.slice y.se.a y.se.n y.se.c)).setCell ⟨b,3,none⟩ (.slice y.on.a y.on.n y.on.c)).setCell ⟨b,4,none⟩ (.slice y.gr.a y.gr.n y.gr.c)).setCell ⟨b,5,none⟩ (.slice y.ba.a y.ba.n y.ba.c)).setCell ⟨b,6,none⟩ (.slice y.ch.a y.ch.n y.ch.c)).setCell ⟨b,7,none⟩ (.slice y.sa.a y.sa.n y.sa.c)).setCell ⟨b,8,none⟩ (.int .i64 y.fl)) (l.set k (.blk b (svC y) T)) v L s:=h.set9 k hi _ _ _ _ _ _ _ _ _
theorem setZ (h:Sf w W l v L s) (k:Nat) {b:Nat} {u0 u1 u2 u3 u4 u5 u6 u7 u8:Value} {T:TypeId} (hi:l[k]? =some (.blk b #[u0,u1,u2,u3,u4,u5,u6,u7,u8] T)):Sf w (((((((((W.setCell ⟨b,0,none⟩ (.slice none 0 0)).setCell ⟨b,1,none⟩ (.slice none 0 0)).setCell ⟨b,2,none⟩ (.slice none 0 0)).setCell ⟨b,3,none⟩ (.slice none 0 0)).setCell ⟨b,4,none⟩ (.slice none 0 0)).setCell ⟨b,5,none⟩ (.slice none 0 0)).setCell ⟨b,6,none⟩ (.slice none 0 0)).setCell ⟨b,7,none⟩ (.slice none 0 0)).setCell ⟨b,8,none⟩ (.int .i64 0)) (l.set k (.blk b zC T)) v L s:=h.set9 k hi _ _ _ _ _ _ _ _ _
theorem setPl (h:Sf w W l v L s) {g:Nat} (hg:v.pl.a=some ⟨g,0,none⟩) (t x:Int):Sf w (W.setCell ⟨g,t.toNat,none⟩ (.int .i64 x)) l v L {s with places:=s.places.set t.toNat x}:=by
 have T:zi [g] W (W.setCell ⟨g,t.toNat,none⟩ (.int .i64 x)):=(zi.refl [g] W).set (by simp);have own:=h.st.pl;rw[show v.pl.val= .slice (some ⟨g,0,none⟩) v.pl.n v.pl.c by rw[<-hg]] at own;have R:=(zak own t.toNat (.int .i64 x) (cs':=ints (s.places.set t.toNat x)) (by simp[ints,List.map_set])).1;rw[show(.slice (some ⟨g,0,none⟩) v.pl.n v.pl.c:Value)=v.pl.val by rw[<-hg]] at R;exact h.upd (T.mono λk hk=>by obtain rfl:=xS1 hk;exact StV.mem_pl (by rw[hg];rfl)) (h.st.set_pl (by rw[hg];rfl) T (by rw[List.length_set];exact h.st.npl) R)
theorem setSt (h:Sf w W l v L s) {g:Nat} (hg:v.st.a=some ⟨g,0,none⟩) (t x:Int):Sf w (W.setCell ⟨g,t.toNat,none⟩ (.int .i64 x)) l v L (zX s t x):=
 h.upd ((h.st.stat hg t x).2.mono λk hk=>by obtain rfl:=xS1 hk;exact StV.mem_st (by rw[hg];rfl)) (h.st.stat hg t x).1
theorem plAt (h:Sf w W l v L s) {g:Nat} (hg:v.pl.a=some ⟨g,0,none⟩) (t:Int) (ht:t.toNat<s.places.length):W.cell? ⟨g,t.toNat,none⟩=some (.int .i64 (s.places.getD t.toNat 0))/\W.frozen? ⟨g,t.toNat,none⟩=false:=by
 have own:=h.st.pl;rw[show v.pl.val= .slice (some ⟨g,0,none⟩) v.pl.n v.pl.c by rw[<-hg]] at own;refine⟨?_,own.frozenAt t.toNat⟩;rw[own.cellAt t.toNat (by rw[h.st.npl];omega)];simp[ints,ht,List.getD]
theorem stAt (h:Sf w W l v L s) {g:Nat} (hg:v.st.a=some ⟨g,0,none⟩) (t:Int) (ht:t.toNat<s.status.length):W.cell? ⟨g,t.toNat,none⟩=some (.int .i64 (s.status.getD t.toNat 0))/\W.frozen? ⟨g,t.toNat,none⟩=false:=by
 have own:=h.st.st;rw[show v.st.val= .slice (some ⟨g,0,none⟩) v.st.n v.st.c by rw[<-hg]] at own;refine⟨?_,own.frozenAt t.toNat⟩;rw[own.cellAt t.toNat (by rw[h.st.nst];omega)];simp[ints,ht,List.getD]
theorem apart (h:Sf w W l v L s) {W1:World} {q:SlV} {cs:List Value} {n:Nat} (hs:SlN W W1 q cs n):SlR (zv l++v.blks) W1 q cs n:=hs.r λb hb=>by
 rcases xP1 hb with hb|hb
 ·exact(h.fr.inside b hb).2
 ·exact(h.st.from b hb).2
end Sf
section
variable {w W:World} {l:List It} {v:StV} {L:StL} {s:StD} {ops:Array Oper} {rest:List Oper} {o:Oper} {ac:Act} {Q:Exit->Act->World->Prop}
theorem Sf.app_se (h:Sf w W l v L s) (hgd:o.guard=none) (y z:Operand) (ho:o.op= .call {callee:= .builtin .append,args:= #[y,z],argTypes:= #[27,27]}) (hs:ac.eval y=v.se.val) {a2:Option Addr} {c2:Nat} {x:SemD} {q:SlV} (hx:ac.eval z= .slice a2 1 c2) (hr:Rd W a2 (semC (x,q))) (hq:semR (zv l++v.blks) W x q) (hn:v.se.n+1<=1048576)
  (K:∀(r:SlV) W',Sf w W' l {v with se:=r} {L with se:=L.se++[(x,q)]} {s with sems:=s.sems++[x]}->wpList Tryz.prog ops Q rest (ac.put o.dst r.val) W'):wpList Tryz.prog ops Q (o::rest) ac W:=
 zad hgd y z _ ho Tryz.underlying27 ziw rfl (by decide) hs h.st.se hx rfl hr (by intro u hu;simp only[semC,List.mem_cons,xDm,or_false] at hu;(rcases hu with rfl|rfl|rfl)<;>rfl) (by omega) (by decide) h.fr.bel.size λa' c' W' ho' hg hn'=>
  K ⟨a',v.se.n+1,c'⟩ W' (h.upd (zi.of_grown hg λk hk=>StV.mem_se hk) (h.st.push_se hg hn' hq (by show v.se.n+1=_;rw[h.st.nse]) (by rw[List.flatMap_append];simpa using ho')))
theorem Sf.app_on (h:Sf w W l v L s) (hgd:o.guard=none) (y z:Operand) (ho:o.op= .call {callee:= .builtin .append,args:= #[y,z],argTypes:= #[28,28]}) (hs:ac.eval y=v.on.val) {a2:Option Addr} {c2:Nat} {x:zaj} {q:SlV} (hx:ac.eval z= .slice a2 1 c2) (hr:Rd W a2 (zbo (x,q))) (hq:zda (zv l++v.blks) W x q) (hn:v.on.n+1<=1048576)
  (K:∀(r:SlV) W',Sf w W' l {v with on:=r} {L with on:=L.on++[(x,q)]} {s with onces:=s.onces++[x]}->wpList Tryz.prog ops Q rest (ac.put o.dst r.val) W'):wpList Tryz.prog ops Q (o::rest) ac W:=
 zad hgd y z _ ho Tryz.underlying28 zff rfl (by decide) hs h.st.on hx rfl hr (by intro u hu;simp only[zbo,List.mem_cons,xDm,or_false] at hu;(rcases hu with rfl|rfl|rfl|rfl)<;>rfl) (by omega) (by decide) h.fr.bel.size λa' c' W' ho' hg hn'=>
  K ⟨a',v.on.n+1,c'⟩ W' (h.upd (zi.of_grown hg λk hk=>StV.mem_on hk) (h.st.push_on hg hn' hq (by show v.on.n+1=_;rw[h.st.non]) (by rw[List.flatMap_append];simpa using ho')))
theorem Sf.app_gr (h:Sf w W l v L s) (hgd:o.guard=none) (y z:Operand) (ho:o.op= .call {callee:= .builtin .append,args:= #[y,z],argTypes:= #[29,29]}) (hs:ac.eval y=v.gr.val) {a2:Option Addr} {c2:Nat} {x:GrpD} {q:SlV} (hx:ac.eval z= .slice a2 1 c2) (hr:Rd W a2 (grpC (x,q))) (hq:grpR (zv l++v.blks) W x q) (hn:v.gr.n+1<=1048576)
  (K:∀(r:SlV) W',Sf w W' l {v with gr:=r} {L with gr:=L.gr++[(x,q)]} {s with groups:=s.groups++[x]}->wpList Tryz.prog ops Q rest (ac.put o.dst r.val) W'):wpList Tryz.prog ops Q (o::rest) ac W:=
 zad hgd y z _ ho Tryz.underlying29 zig rfl (by decide) hs h.st.gr hx rfl hr (by intro u hu;simp only[grpC,List.mem_cons,xDm,or_false] at hu;(rcases hu with rfl|rfl)<;>rfl) (by omega) (by decide) h.fr.bel.size λa' c' W' ho' hg hn'=>
  K ⟨a',v.gr.n+1,c'⟩ W' (h.upd (zi.of_grown hg λk hk=>StV.mem_gr hk) (h.st.push_gr hg hn' hq (by show v.gr.n+1=_;rw[h.st.ngr]) (by rw[List.flatMap_append];simpa using ho')))
theorem Sf.app_ba (h:Sf w W l v L s) (hgd:o.guard=none) (y z:Operand) (ho:o.op= .call {callee:= .builtin .append,args:= #[y,z],argTypes:= #[30,30]}) (hs:ac.eval y=v.ba.val) {a2:Option Addr} {c2:Nat} {x:BarD} {q:SlV} (hx:ac.eval z= .slice a2 1 c2) (hr:Rd W a2 (barC (x,q))) (hq:barR (zv l++v.blks) W x q) (hn:v.ba.n+1<=1048576)
  (K:∀(r:SlV) W',Sf w W' l {v with ba:=r} {L with ba:=L.ba++[(x,q)]} {s with bars:=s.bars++[x]}->wpList Tryz.prog ops Q rest (ac.put o.dst r.val) W'):wpList Tryz.prog ops Q (o::rest) ac W:=
 zad hgd y z _ ho Tryz.underlying30 zhT rfl (by decide) hs h.st.ba hx rfl hr (by intro u hu;simp only[barC,List.mem_cons,xDm,or_false] at hu;(rcases hu with rfl|rfl|rfl)<;>rfl) (by omega) (by decide) h.fr.bel.size λa' c' W' ho' hg hn'=>
  K ⟨a',v.ba.n+1,c'⟩ W' (h.upd (zi.of_grown hg λk hk=>StV.mem_ba hk) (h.st.push_ba hg hn' hq (by show v.ba.n+1=_;rw[h.st.nba]) (by rw[List.flatMap_append];simpa using ho')))
theorem Sf.app_ch (h:Sf w W l v L s) (hgd:o.guard=none) (y z:Operand) (ho:o.op= .call {callee:= .builtin .append,args:= #[y,z],argTypes:= #[31,31]}) (hs:ac.eval y=v.ch.val) {a2:Option Addr} {c2:Nat} {x:ChnD} {q:SlV×SlV×SlV} (hx:ac.eval z= .slice a2 1 c2) (hr:Rd W a2 (chnC (x,q))) (hq:chnR (zv l++v.blks) W x q) (hn:v.ch.n+1<=1048576)
  (K:∀(r:SlV) W',Sf w W' l {v with ch:=r} {L with ch:=L.ch++[(x,q)]} {s with chans:=s.chans++[x]}->wpList Tryz.prog ops Q rest (ac.put o.dst r.val) W'):wpList Tryz.prog ops Q (o::rest) ac W:=
 zad hgd y z _ ho Tryz.underlying31 zim rfl (by decide) hs h.st.ch hx rfl hr (by intro u hu;simp only[chnC,List.mem_cons,xDm,or_false] at hu;(rcases hu with rfl|rfl|rfl|rfl|rfl)<;>rfl) (by omega) (by decide) h.fr.bel.size λa' c' W' ho' hg hn'=>
  K ⟨a',v.ch.n+1,c'⟩ W' (h.upd (zi.of_grown hg λk hk=>StV.mem_ch hk) (h.st.push_ch hg hn' hq (by show v.ch.n+1=_;rw[h.st.nch]) (by rw[List.flatMap_append];simpa using ho')))
theorem Sf.app_sa (h:Sf w W l v L s) (hgd:o.guard=none) (y z:Operand) (ho:o.op= .call {callee:= .builtin .append,args:= #[y,z],argTypes:= #[22,22]}) (hs:ac.eval y=v.sa.val) {a2:Option Addr} {c2:Nat} {x:Int} (hx:ac.eval z= .slice a2 1 c2) (hr:Rd W a2 (ints [x])) (hn:v.sa.n+1<=1048576)
  (K:∀(r:SlV) W',Sf w W' l {v with sa:=r} L (sayIt s x)->wpList Tryz.prog ops Q rest (ac.put o.dst r.val) W'):wpList Tryz.prog ops Q (o::rest) ac W:=
 zad hgd y z _ ho Tryz.underlying22 zM rfl (by decide) hs h.st.sa hx rfl hr (zaa [x]) (by omega) (by decide) h.fr.bel.size λa' c' W' ho' hg hn'=>
  K ⟨a',v.sa.n+1,c'⟩ W' (h.upd (zi.of_grown hg λk hk=>StV.mem_sa hk) (h.st.say hg hn' (by show v.sa.n+1=_;rw[xDh,h.st.nsa];rfl) (by rw[zaw];exact ho')))
end
structure TS (T:TypeId) (B:Nat) (w w':World):Prop where
 bel:Below B w w'
 oth:∀(k:Nat) (cs:Array Value) (e:TypeId) (fr:Nat×Nat),w.heap[k]? =some (Obj.cells cs e fr)->e≠T->w'.heap[k]? =w.heap[k]?
 prg:∀(k:Nat) (cs:Array Value),Blk w k cs T->∃ds:Array Value,ds.size=cs.size/\Blk w' k ds T
theorem SlN.ts {T:TypeId} {B:Nat} {w0 w w':World} {s:SlV} {cs:List Value} {k:Nat} (h:SlN w0 w s cs k) (t:TS T B w w') (hT:T∈zeF):SlN w0 w' s cs k:=by
 rcases h.ty with h0|hty
 ·exact⟨h.len,.inl h0,h.new,h.cap,.inl h0⟩
 ·refine⟨h.len,?_,h.new,h.cap,.inr λb hb=> ?_⟩
  ·rcases h.rd with h0|⟨b,o,e,hc⟩
   ·exact .inl h0
   ·refine .inr ⟨b,o,e,λj hj=> ?_⟩;obtain⟨cur,e',fr,h1,h2⟩:=hty b (by rw[e];rfl);have h3:=t.oth b cur e' fr h1 (λhh=>h2 (hh▸hT));have h4:=hc j hj;unfold World.cell? at h4⊢;rw[h3];exact h4
  ·obtain⟨cur,e',fr,h1,h2⟩:=hty b hb;exact⟨cur,e',fr,(t.oth b cur e' fr h1 (λhh=>h2 (hh▸hT))).trans h1,h2⟩
theorem zdv {T:TypeId} {B B':Nat} {w w':World} {e:TypeId} {sz n c:Nat} {a:Option Addr} {cs:List Value} (h:w.ownsRow B' e sz (.slice a n c) n cs) (t:TS T B w w') (he:e≠T):w'.ownsRow B' e sz (.slice a n c) n cs:=
 za0 h λk hk _=>by
  rw[zO] at hk;obtain⟨cur,fr,h1⟩:=zbU h k hk;exact t.oth k cur e fr h1 he
def zK:Value->Nat->Value
 | .tuple vs,i=>vs.getD i undef
 |_,_=>undef
theorem fcff {l:List Oper} {ρ:Operand->Value} {a:Act} (h:∀x,zdj l x=true->ρ x=a.eval x):(∀z,ρ (.const z)=z)/\(∀z,ρ (.func z)= .func (.func z) #[] #[]):=⟨λ_=>h _ rfl,λ_=>h _ rfl⟩
def isV (V:Value) (_:List Value) (u:Value) (_:World):Prop:=u=V
theorem pS {V:Value} {S:World->World->Prop}:∀ds u w w',S w w'->isV V ds u w->isV V ds u w':=λ_ _ _ _ _ h=>h
theorem gvF {P:Program} {o:Oper} {ρ:Operand->Value} {W w1:World} {R:Value->World->Prop} {B:Value->Option Nat} {u:Value} (hG:xW W w1) (h:(execOp ρ o).run P w1= .ok (.value u) w1) (hR:R u w1) (hB:∀k,B u=some k->False):zau P o ρ w1 (λu w'=>xW w1 w'/\R u w'/\(∀k,B u=some k->w1.heap.size<=k/\k<w'.heap.size)/\xW W w'):=
 zh h ⟨Below.refl _ _,hR,λk hk=>(hB k hk).elim,hG⟩
theorem gvT {P:Program} {o:Oper} {ρ:Operand->Value} {W w1:World} {R:Value->World->Prop} {B:Value->Option Nat} {T:World->World->Prop} {i i0:Nat} {u:Value} (hG:xW W w1) (h:(execOp ρ o).run P w1= .ok (.value u) w1) (hR:R u w1) (hB:∀k,B u=some k->False) (hi:i≠i0:=by decide):zau P o ρ w1 (λu w'=>St1 i0 T i w1 w'/\R u w'/\(∀k,B u=some k->w1.heap.size<=k/\k<w'.heap.size)/\xW W w'):=
 zh h ⟨zI hi xB1,hR,λk hk=>(hB k hk).elim,hG⟩
theorem zid {P:Program} {id:Nat} {l:List Oper} (n:Nat) (T:TypeId) (i0:Nat) {a0:Act} {w:World} {Q:Exit->Act->World->Prop} (hm:P.follows .mixedOrders=true) (hf:fits l n a0.tmps.size=true) (Rs:List (List Value->Value->World->Prop)) (h1:zd4 Rs) (h2:zdI i0 (TS T w.heap.size) 0 Rs) (hsteps:zcX P (l.take n) Rs (St1 i0 (TS T w.heap.size)) (λ_ _=>none) (λ_ w'=>xW w w') a0.eval (l.take n) 0) (hend:∀(vs:List Value) w',xW w w'->vs.length=n->All Rs vs w' (l.take n) 0->wpList P l.toArray Q (l.drop n) (zap (l.take n) a0 vs) w'):(Code.region id l.toArray true).wp P Q a0 w:=
 za1 n hm hf Rs _ _ _ (λ_ _=>xB1.drew) (zcZ λ_ _ h=>h.bel.size) (zc1 h1 h2) hsteps (λvs w' _ hG hl ha _ _=>hend vs w' hG hl ha)
theorem zie {P:Program} {id:Nat} {l:List Oper} (n:Nat) {a0:Act} {w:World} {Q:Exit->Act->World->Prop} (hm:P.follows .mixedOrders=true) (hf:fits l n a0.tmps.size=true) (Rs:List (List Value->Value->World->Prop)) (h1:zd4 Rs) (hsteps:zdL P (l.take n) Rs (λ_ _=>none) (λw'=>xW w w') a0.eval (l.take n) 0) (hend:∀(vs:List Value) w',xW w w'->vs.length=n->All Rs vs w' (l.take n) 0->wpList P l.toArray Q (l.drop n) (zap (l.take n) a0 vs) w'):(Code.region id l.toArray true).wp P Q a0 w:=
 zaJ n hm hf Rs _ _ xB1.drew (zbT h1) hsteps (λvs w' hG hl ha _ _=>hend vs w' hG hl ha)
theorem len0 {vs:List Value} (h:vs.length=0):vs=[]:=List.eq_nil_of_length_eq_zero h
theorem len1 {vs:List Value} (h:vs.length=1):∃x0,vs=[x0]:=by
 obtain⟨x0,t,rfl,g⟩:=zk h;obtain rfl:=len0 g;exact⟨x0,rfl⟩
theorem len2 {vs:List Value} (h:vs.length=2):∃x0 x1,vs=[x0,x1]:=by
 obtain⟨x0,t,rfl,g⟩:=zk h;obtain⟨x1,rfl⟩:=len1 g;exact⟨x0,x1,rfl⟩
theorem len3 {vs:List Value} (h:vs.length=3):∃x0 x1 x2,vs=[x0,x1,x2]:=by
 obtain⟨x0,t,rfl,g⟩:=zk h;obtain⟨x1,x2,rfl⟩:=len2 g;exact⟨x0,x1,x2,rfl⟩
theorem len4 {vs:List Value} (h:vs.length=4):∃x0 x1 x2 x3,vs=[x0,x1,x2,x3]:=by
 obtain⟨x0,t,rfl,g⟩:=zk h;obtain⟨x1,x2,x3,rfl⟩:=len3 g;exact⟨x0,x1,x2,x3,rfl⟩
theorem len5 {vs:List Value} (h:vs.length=5):∃x0 x1 x2 x3 x4,vs=[x0,x1,x2,x3,x4]:=by
 obtain⟨x0,t,rfl,g⟩:=zk h;obtain⟨x1,x2,x3,x4,rfl⟩:=len4 g;exact⟨x0,x1,x2,x3,x4,rfl⟩
theorem len6 {vs:List Value} (h:vs.length=6):∃x0 x1 x2 x3 x4 x5,vs=[x0,x1,x2,x3,x4,x5]:=by
 obtain⟨x0,t,rfl,g⟩:=zk h;obtain⟨x1,x2,x3,x4,x5,rfl⟩:=len5 g;exact⟨x0,x1,x2,x3,x4,x5,rfl⟩
theorem len7 {vs:List Value} (h:vs.length=7):∃x0 x1 x2 x3 x4 x5 x6,vs=[x0,x1,x2,x3,x4,x5,x6]:=by
 obtain⟨x0,t,rfl,g⟩:=zk h;obtain⟨x1,x2,x3,x4,x5,x6,rfl⟩:=len6 g;exact⟨x0,x1,x2,x3,x4,x5,x6,rfl⟩
theorem len8 {vs:List Value} (h:vs.length=8):∃x0 x1 x2 x3 x4 x5 x6 x7,vs=[x0,x1,x2,x3,x4,x5,x6,x7]:=by
 obtain⟨x0,t,rfl,g⟩:=zk h;obtain⟨x1,x2,x3,x4,x5,x6,x7,rfl⟩:=len7 g;exact⟨x0,x1,x2,x3,x4,x5,x6,x7,rfl⟩
theorem len9 {vs:List Value} (h:vs.length=9):∃x0 x1 x2 x3 x4 x5 x6 x7 x8,vs=[x0,x1,x2,x3,x4,x5,x6,x7,x8]:=by
 obtain⟨x0,t,rfl,g⟩:=zk h;obtain⟨x1,x2,x3,x4,x5,x6,x7,x8,rfl⟩:=len8 g;exact⟨x0,x1,x2,x3,x4,x5,x6,x7,x8,rfl⟩
theorem zkT {vs:List Value} (h:vs.length=10):∃x0 x1 x2 x3 x4 x5 x6 x7 x8 x9,vs=[x0,x1,x2,x3,x4,x5,x6,x7,x8,x9]:=by
 obtain⟨x0,t,rfl,g⟩:=zk h;obtain⟨x1,x2,x3,x4,x5,x6,x7,x8,x9,rfl⟩:=len9 g;exact⟨x0,x1,x2,x3,x4,x5,x6,x7,x8,x9,rfl⟩
theorem zkN {vs:List Value} (h:vs.length=11):∃x0 x1 x2 x3 x4 x5 x6 x7 x8 x9 x10,vs=[x0,x1,x2,x3,x4,x5,x6,x7,x8,x9,x10]:=by
 obtain⟨x0,t,rfl,g⟩:=zk h;obtain⟨x1,x2,x3,x4,x5,x6,x7,x8,x9,x10,rfl⟩:=zkT g;exact⟨x0,x1,x2,x3,x4,x5,x6,x7,x8,x9,x10,rfl⟩
theorem zkQ {vs:List Value} (h:vs.length=12):∃x0 x1 x2 x3 x4 x5 x6 x7 x8 x9 x10 x11,vs=[x0,x1,x2,x3,x4,x5,x6,x7,x8,x9,x10,x11]:=by
 obtain⟨x0,t,rfl,g⟩:=zk h;obtain⟨x1,x2,x3,x4,x5,x6,x7,x8,x9,x10,x11,rfl⟩:=zkN g;exact⟨x0,x1,x2,x3,x4,x5,x6,x7,x8,x9,x10,x11,rfl⟩
theorem zkq {vs:List Value} (h:vs.length=13):∃x0 x1 x2 x3 x4 x5 x6 x7 x8 x9 x10 x11 x12,vs=[x0,x1,x2,x3,x4,x5,x6,x7,x8,x9,x10,x11,x12]:=by
 obtain⟨x0,t,rfl,g⟩:=zk h;obtain⟨x1,x2,x3,x4,x5,x6,x7,x8,x9,x10,x11,x12,rfl⟩:=zkQ g;exact⟨x0,x1,x2,x3,x4,x5,x6,x7,x8,x9,x10,x11,x12,rfl⟩
theorem zkS {vs:List Value} (h:vs.length=14):∃x0 x1 x2 x3 x4 x5 x6 x7 x8 x9 x10 x11 x12 x13,vs=[x0,x1,x2,x3,x4,x5,x6,x7,x8,x9,x10,x11,x12,x13]:=by
 obtain⟨x0,t,rfl,g⟩:=zk h;obtain⟨x1,x2,x3,x4,x5,x6,x7,x8,x9,x10,x11,x12,x13,rfl⟩:=zkq g;exact⟨x0,x1,x2,x3,x4,x5,x6,x7,x8,x9,x10,x11,x12,x13,rfl⟩
theorem zkU {vs:List Value} (h:vs.length=15):∃x0 x1 x2 x3 x4 x5 x6 x7 x8 x9 x10 x11 x12 x13 x14,vs=[x0,x1,x2,x3,x4,x5,x6,x7,x8,x9,x10,x11,x12,x13,x14]:=by
 obtain⟨x0,t,rfl,g⟩:=zk h;obtain⟨x1,x2,x3,x4,x5,x6,x7,x8,x9,x10,x11,x12,x13,x14,rfl⟩:=zkS g;exact⟨x0,x1,x2,x3,x4,x5,x6,x7,x8,x9,x10,x11,x12,x13,x14,rfl⟩
theorem zkL {vs:List Value} (h:vs.length=16):∃x0 x1 x2 x3 x4 x5 x6 x7 x8 x9 x10 x11 x12 x13 x14 x15,vs=[x0,x1,x2,x3,x4,x5,x6,x7,x8,x9,x10,x11,x12,x13,x14,x15]:=by
 obtain⟨x0,t,rfl,g⟩:=zk h;obtain⟨x1,x2,x3,x4,x5,x6,x7,x8,x9,x10,x11,x12,x13,x14,x15,rfl⟩:=zkU g;exact⟨x0,x1,x2,x3,x4,x5,x6,x7,x8,x9,x10,x11,x12,x13,x14,x15,rfl⟩
def newS (B:Nat) (cs:List Value) (q:SlV):Prop:=cs=[]\/∀b,ze q.a=some b->B<=b
structure NewB (B:Nat) (L:StL):Prop where
 se:∀z∈L.se,newS B (zt z.1.queue) z.2
 on:∀z∈L.on,newS B (ints z.1.waits) z.2
 gr:∀z∈L.gr,newS B (ints z.1.waits) z.2
 ba:∀z∈L.ba,newS B (ints z.1.waits) z.2
 ch:∀z∈L.ch,newS B (ints z.1.items) z.2.1/\newS B (zt z.1.senders) z.2.2.1/\newS B (ints z.1.getters) z.2.2.2
theorem NewB.nil (B:Nat):NewB B ⟨[],[],[],[],[]⟩:=⟨by simp,by simp,by simp,by simp,by simp⟩
theorem newS.lower {B B':Nat} {cs:List Value} {q:SlV} (h:newS B cs q) (hb:B'<=B):newS B' cs q:=h.imp id λh b e=>Nat.le_trans hb (h b e)
theorem zeJ {α:Type} {l:List α} {x:α} {P:α->Prop} (h:∀z∈l,P z) (hx:P x):∀z∈l++[x],P z:=λz hz=>by
 rcases xP1 hz with hz|hz
 ·exact h z hz
 ·obtain rfl:=xS1 hz;exact hx
theorem NewB.se1 {B:Nat} {L:StL} (h:NewB B L) {x:SemD} {q:SlV} (hq:newS B (zt x.queue) q):NewB B {L with se:=L.se++[(x,q)]}:=⟨zeJ h.se hq,h.on,h.gr,h.ba,h.ch⟩
theorem NewB.on1 {B:Nat} {L:StL} (h:NewB B L) {x:zaj} {q:SlV} (hq:newS B (ints x.waits) q):NewB B {L with on:=L.on++[(x,q)]}:=⟨h.se,zeJ h.on hq,h.gr,h.ba,h.ch⟩
theorem NewB.gr1 {B:Nat} {L:StL} (h:NewB B L) {x:GrpD} {q:SlV} (hq:newS B (ints x.waits) q):NewB B {L with gr:=L.gr++[(x,q)]}:=⟨h.se,h.on,zeJ h.gr hq,h.ba,h.ch⟩
theorem NewB.ba1 {B:Nat} {L:StL} (h:NewB B L) {x:BarD} {q:SlV} (hq:newS B (ints x.waits) q):NewB B {L with ba:=L.ba++[(x,q)]}:=⟨h.se,h.on,h.gr,zeJ h.ba hq,h.ch⟩
theorem NewB.ch1 {B:Nat} {L:StL} (h:NewB B L) {x:ChnD} {q:SlV×SlV×SlV} (hq:newS B (ints x.items) q.1/\newS B (zt x.senders) q.2.1/\newS B (ints x.getters) q.2.2):NewB B {L with ch:=L.ch++[(x,q)]}:=⟨h.se,h.on,h.gr,h.ba,zeJ h.ch hq⟩
theorem SlR.aside {X S:List Nat} {B:Nat} {w:World} {q:SlV} {cs:List Value} {k:Nat} (h:SlR S w q cs k) (hn:newS B cs q) (hX:∀k∈X,k<B):SlR (X++S) w q cs k:=by
 refine⟨h.len,h.rd,?_,h.cap⟩;rcases hn with hn|hn
 ·exact .inl hn
 rcases h.far with hf|hf
 ·exact .inl hf
 refine .inr λb hb hm=> ?_;rcases xP1 hm with hm|hm
 ·have:=hn b hb;have:=hX b hm;omega
 ·exact hf b hb hm
theorem StO.aside {X:List Nat} {B:Nat} {w:World} {v:StV} {L:StL} {s:StD} (h:StO [] B w v L s) (hn:NewB B L) (hX:∀k∈X,k<B/\k<w.heap.size):StO X B w v L s:=
 have hB:∀k∈X,k<B:=λk hk=>(hX k hk).1
 ⟨h.pl,h.npl,h.st,h.nst,h.se,h.nse,h.on,h.non,h.gr,h.ngr,h.ba,h.nba,h.ch,h.nch,h.sa,h.nsa,h.fl,h.dps,h.dpa,h.dsa,λk hk=>⟨(hX k hk).2,λhm=>by have:=(h.from k hm).1;have:=hB k hk;omega⟩,
  ⟨⟨h.inn.se.e,λx hx=>(h.inn.se.r x hx).aside (hn.se x hx) hB⟩,⟨h.inn.on.e,λx hx=>(h.inn.on.r x hx).aside (hn.on x hx) hB⟩,⟨h.inn.gr.e,λx hx=>(h.inn.gr.r x hx).aside (hn.gr x hx) hB⟩,⟨h.inn.ba.e,λx hx=>(h.inn.ba.r x hx).aside (hn.ba x hx) hB⟩,⟨h.inn.ch.e,λx hx=>⟨(h.inn.ch.r x hx).1.aside (hn.ch x hx).1 hB,(h.inn.ch.r x hx).2.1.aside (hn.ch x hx).2.1 hB,(h.inn.ch.r x hx).2.2.aside (hn.ch x hx).2.2 hB⟩⟩⟩⟩
theorem Sf.gain {w W W':World} {l:List It} {v:StV} {L:StL} {s:StD} (F:Fr w W l) (ho:StO [] W.heap.size W' v L s) (hn:NewB W.heap.size L) (hb:xW W W'):Sf w W' l v L s:=
 ⟨F.call hb,(ho.aside hn λk hk=>⟨(F.inside k hk).2,Nat.lt_of_lt_of_le (F.inside k hk).2 hb.size⟩).lower F.bel.size⟩
abbrev rwW (q:SlV) (x:List (Int×Int)):It:= .row q.a q.n q.c 167 2 (zt x)
abbrev rwI (q:SlV) (x:List Int):It:= .row q.a q.n q.c 3 1 (ints x)
abbrev rwL (q:SlV) (x:List (Int×Int)):It:= .row q.a q.n q.c 187 2 (zt x)
def innI (L:StL):List It:=L.se.map (λz=>rwW z.2 z.1.queue)++(L.on.map (λz=>rwI z.2 z.1.waits)++(L.gr.map (λz=>rwI z.2 z.1.waits)++(L.ba.map (λz=>rwI z.2 z.1.waits)++L.ch.flatMap λz=>[rwI z.2.2.2 z.1.getters,rwL z.2.2.1 z.1.senders,rwI z.2.1 z.1.items])))
theorem zbq {α:Type} (x:α) (A B:List α):(x::(A++B)).Perm (A++x::B):=List.perm_middle.symm
theorem zku (L:StL) (x:SemD) (q:SlV):(rwW q x.queue::innI L).Perm (innI {L with se:=L.se++[(x,q)]}):=by
 unfold innI;simp only[xDr,List.map_cons,List.map_nil,xDg,List.cons_append,xDq];exact zbq _ _ _
theorem zkt (L:StL) (x:zaj) (q:SlV):(rwI q x.waits::innI L).Perm (innI {L with on:=L.on++[(x,q)]}):=by
 unfold innI;simp only[xDr,List.map_cons,List.map_nil,xDg,List.cons_append,xDq];exact(zbq _ _ _).trans ((zbq _ _ _).append_left _)
theorem zkz (L:StL) (x:GrpD) (q:SlV):(rwI q x.waits::innI L).Perm (innI {L with gr:=L.gr++[(x,q)]}):=by
 unfold innI;simp only[xDr,List.map_cons,List.map_nil,xDg,List.cons_append,xDq];exact(zbq _ _ _).trans (((zbq _ _ _).trans ((zbq _ _ _).append_left _)).append_left _)
theorem zkA (L:StL) (x:BarD) (q:SlV):(rwI q x.waits::innI L).Perm (innI {L with ba:=L.ba++[(x,q)]}):=by
 unfold innI;simp only[xDr,List.map_cons,List.map_nil,xDg,List.cons_append,xDq];exact(zbq _ _ _).trans (((zbq _ _ _).trans (((zbq _ _ _).trans ((zbq _ _ _).append_left _)).append_left _)).append_left _)
theorem zkw (L:StL) (x:ChnD) (q:SlV×SlV×SlV):([rwI q.2.2 x.getters,rwL q.2.1 x.senders,rwI q.1 x.items]++innI L).Perm (innI {L with ch:=L.ch++[(x,q)]}):=by
 unfold innI;simp only[List.flatMap_append,List.flatMap_cons,List.flatMap_nil,List.append_nil];refine List.perm_append_comm.trans ?_;simp only[xDg];exact .refl _
theorem zkD {L:StL} {i:It} (h:i∈innI L):∃a n c E sz cs,i= .row a n c E sz cs/\(E=167\/E=3\/E=187):=by
 unfold innI at h;rcases xP1 h with h|h
 ·obtain⟨z,-,rfl⟩:=xDl.1 h;exact⟨_,_,_,_,_,_,rfl,.inl rfl⟩
 rcases xP1 h with h|h
 ·obtain⟨z,-,rfl⟩:=xDl.1 h;exact⟨_,_,_,_,_,_,rfl,.inr (.inl rfl)⟩
 rcases xP1 h with h|h
 ·obtain⟨z,-,rfl⟩:=xDl.1 h;exact⟨_,_,_,_,_,_,rfl,.inr (.inl rfl)⟩
 rcases xP1 h with h|h
 ·obtain⟨z,-,rfl⟩:=xDl.1 h;exact⟨_,_,_,_,_,_,rfl,.inr (.inl rfl)⟩
 obtain⟨z,-,hz⟩:=List.mem_flatMap.1 h;simp only[List.mem_cons,xDm,or_false] at hz;rcases hz with rfl|rfl|rfl
 ·exact⟨_,_,_,_,_,_,rfl,.inr (.inl rfl)⟩
 ·exact⟨_,_,_,_,_,_,rfl,.inr (.inr rfl)⟩
 ·exact⟨_,_,_,_,_,_,rfl,.inr (.inl rfl)⟩
abbrev xI (V:StV) (s:StD) (L:StL):List It:=rwI V.pl s.places::rwI V.st s.status::rwI V.sa s.said::innI L
theorem zje {V:StV} {s:StD} {L:StL} {i:It} (h:i∈xI V s L):∃a n c E sz cs,i= .row a n c E sz cs/\(E=167\/E=3\/E=187):=by
 rcases List.mem_cons.1 h with rfl|h
 ·exact⟨_,_,_,_,_,_,rfl,.inr (.inl rfl)⟩
 rcases List.mem_cons.1 h with rfl|h
 ·exact⟨_,_,_,_,_,_,rfl,.inr (.inl rfl)⟩
 rcases List.mem_cons.1 h with rfl|h
 ·exact⟨_,_,_,_,_,_,rfl,.inr (.inl rfl)⟩
 exact zkD h
theorem zhN (x y z:It) {q:It} {A B:List It} (h:(q::A).Perm B):(q::x::y::z::A).Perm (x::y::z::B):=
 (zbq q [x,y,z] A).trans (h.append_left [x,y,z])
theorem zkI (x y z:It) {q A B:List It} (h:(q++A).Perm B):(q++x::y::z::A).Perm (x::y::z::B):=by
 have h1:(q++([x,y,z]++A)).Perm ([x,y,z]++(q++A)):=by
  rw[<-xDg,<-xDg];exact List.perm_append_comm.append_right _
 exact h1.trans (h.append_left [x,y,z])
def zeR (T:TypeId):Prop:=T≠167/\T≠3/\T≠187
section
variable {w W W':World} {V:StV} {s:StD} {L:StL}
theorem zjU {B:Nat} (F:∀i∈xI V s L,i.has B W) {q:Nat} {cs:Array Value} {T:TypeId} {fr:Nat×Nat} (hq:W.heap[q]? =some (.cells cs T fr)) (hT:zeR T):q∉zv (xI V s L):=by
 intro hm;obtain⟨i,hi,hf⟩:=List.mem_flatMap.1 hm;have hh:=F i hi;obtain⟨a,n,c,E,sz,xs,rfl,hE⟩:=zje hi;obtain⟨cur,fr',e⟩:=zbU (show W.ownsRow _ E sz (.slice a n c) n xs from hh) q (by simpa[It.foot] using hf);rw[hq] at e;have e2:T=E:=by simpa using congrArg (λo:Option Obj=>match o with|some (.cells _ t _)=>t|_=>T) e
 rcases hE with rfl|rfl|rfl
 ·exact hT.1 e2
 ·exact hT.2.1 e2
 ·exact hT.2.2 e2
theorem zfq (F:Fr w W (xI V s L)) {E:TypeId} {sz n c:Nat} {a:Option Addr} {xs:List Value} (ho:W.ownsRow w.heap.size E sz (.slice a n c) n xs) (hE:zeR E) (hg:W.grownBy W' (ze a)):Fr w W' (xI V s L):=
 F.other (S:=(ze a).toList) (zi.of_grown hg λk hk=>by simpa using hk) λk hk=>by
  have hk':ze a=some k:=by simpa using hk
  obtain⟨cur,fr,e⟩:=zbU ho k hk';exact⟨(zp ho k hk').1,zjU F.has e hE⟩
theorem zeN (F:Fr w W (xI V s L)) {b:Nat} {cs:Array Value} {T:TypeId} (hb:Blk W b cs T) (hT:zeR T) (hw:w.heap.size<=b) (ht:zi [b] W W'):Fr w W' (xI V s L):=
 F.other ht λk hk=>by
  obtain rfl:=xS1 hk;exact⟨hw,zjU F.has hb hT⟩
theorem Fr.early {U:World} {l:List It} (hb:xW U W) (F:Fr W W' l):Fr U W' l:=by
 have F0:Fr U W []:=⟨hb,by simp,by simp[zv]⟩
 have:=F0.join F;simpa using this
structure Inn (B:Nat) (W:World) (V:StV) (s:StD) (L:StL):Prop where
 has:∀i∈xI V s L,i.has B W
 ap:(zv (xI V s L)).Nodup
theorem Inn.of (F:Fr w W (xI V s L)):Inn w.heap.size W V s L:=⟨F.has,F.ap⟩
theorem Inn.lower {B B':Nat} (h:Inn B W V s L) (hb:B'<=B):Inn B' W V s L:=⟨λi hi=>by
 have hh:=h.has i hi;obtain⟨a,n,c,E,sz,xs,rfl,-⟩:=zje hi;exact zl (show W.ownsRow B E sz (.slice a n c) n xs from hh) hb,h.ap⟩
theorem Inn.touch {B:Nat} {S:List Nat} (h:Inn B W V s L) (T:zi S W W') (hS:∀k∈S,k∉zv (xI V s L)):Inn B W' V s L:=
 ⟨λi hi=>It.keep (h.has i hi) λk hk=>T.block k (It.inside (h.has i hi) k hk).2 λhm=>hS k hm (List.mem_flatMap.2 ⟨i,hi,hk⟩),h.ap⟩
theorem Inn.below {B:Nat} (h:Inn B W V s L) (hb:xW W W'):Inn B W' V s L:=h.touch (zi.of_below (S:=[]) hb) (by simp)
end
abbrev cl3 (w:World) (G:Nat) (V v:StV):List It:=[.blk G (svC V) 33,.blk (w.heap.size+1) zC 33,.blk w.heap.size (svC v) 33]
abbrev sb3 (w:World) (u:PV) (v:StV) (z:Array Value):List It:=[.blk (w.heap.size+1+1) z 33,.blk (w.heap.size+1) (svC v) 33,.blk w.heap.size (pvC u) 40]
abbrev sb4 (w:World) (u:PV) (v:StV) (z:Array Value) (fl:List It):List It:= .blk (w.heap.size+1+1) z 33:: .blk (w.heap.size+1) (svC v) 33:: .blk w.heap.size (pvC u) 40::fl
abbrev sb5 (w:World) (bz bo:Nat) (u:PV) (v:StV) (o z:Array Value) (fl:List It):List It:= .blk bz z 33:: .blk bo o 113:: .blk (w.heap.size+1) (svC v) 33:: .blk w.heap.size (pvC u) 40::fl
theorem StR.at_se {w:World} {v:StV} {L:StL} {s:StD} (h:StR w v L s) {j:Nat} (hj:j<s.sems.length):∃(x:SemD) (q:SlV) (b o:Nat),Hid (x=s.sems.getD j zG)/\v.se.a=some ⟨b,o,none⟩/\w.cell? ⟨b,o+j*3,none⟩=some (.int .i64 x.free)/\w.cell? ⟨b,o+j*3+1,none⟩=some (.int .i64 x.limit)/\w.cell? ⟨b,o+j*3+2,none⟩=some (.slice q.a q.n q.c)/\Hid (Rd w q.a (zt x.queue))/\Hid (q.n=x.queue.length)/\Hid (q.n<=q.c):=by
 obtain⟨b1,o1,ea,g'⟩:=h.se.rd.flat zhS zcQ (by rw[h.inn.se.len];omega) (by decide);obtain⟨⟨x,q⟩,hxq⟩:∃y,y=L.se.getD j zcQ:=⟨_,rfl⟩
 have hx:x=s.sems.getD j zG:=by have:=h.inn.se.fst zG nilV j;rw[<-this];exact congrArg Prod.fst hxq
 have hR:=h.inn.se.at zG nilV (i:=j) hj;replace g':=g' j (by rw[h.inn.se.len];exact hj);rw[<-hxq] at g';rw[show L.se.getD j (zG,_)=(x,q) from hxq.symm,<-hx] at hR;exact⟨x,q,b1,o1,xH1 hx,ea,by have:=g' 0 (by decide);simpa[semC] using this,by have:=g' 1 (by decide);simpa[semC] using this,by have:=g' 2 (by decide);simpa[semC] using this,xH1 (SlR.rd hR),xH1 (SlR.len hR),xH1 (SlR.cap hR)⟩
theorem StR.at_on {w:World} {v:StV} {L:StL} {s:StD} (h:StR w v L s) {j:Nat} (hj:j<s.onces.length):∃(x:zaj) (q:SlV) (b o:Nat),Hid (x=s.onces.getD j zq)/\v.on.a=some ⟨b,o,none⟩/\w.cell? ⟨b,o+j*4,none⟩=some (.int .i64 x.state)/\w.cell? ⟨b,o+j*4+1,none⟩=some (.int .i64 x.owner)/\w.cell? ⟨b,o+j*4+2,none⟩=some (.int .i64 x.value)/\w.cell? ⟨b,o+j*4+3,none⟩=some (.slice q.a q.n q.c)/\Hid (Rd w q.a (ints x.waits))/\Hid (q.n=x.waits.length)/\Hid (q.n<=q.c):=by
 obtain⟨b1,o1,ea,g'⟩:=h.on.rd.flat zhn zcp (by rw[h.inn.on.len];omega) (by decide);obtain⟨⟨x,q⟩,hxq⟩:∃y,y=L.on.getD j zcp:=⟨_,rfl⟩
 have hx:x=s.onces.getD j zq:=by have:=h.inn.on.fst zq nilV j;rw[<-this];exact congrArg Prod.fst hxq
 have hR:=h.inn.on.at zq nilV (i:=j) hj;replace g':=g' j (by rw[h.inn.on.len];exact hj);rw[<-hxq] at g';rw[show L.on.getD j (zq,_)=(x,q) from hxq.symm,<-hx] at hR;exact⟨x,q,b1,o1,xH1 hx,ea,by have:=g' 0 (by decide);simpa[zbo] using this,by have:=g' 1 (by decide);simpa[zbo] using this,by have:=g' 2 (by decide);simpa[zbo] using this,by have:=g' 3 (by decide);simpa[zbo] using this,xH1 (SlR.rd hR),xH1 (SlR.len hR),xH1 (SlR.cap hR)⟩
theorem StR.at_gr {w:World} {v:StV} {L:StL} {s:StD} (h:StR w v L s) {j:Nat} (hj:j<s.groups.length):∃(x:GrpD) (q:SlV) (b o:Nat),Hid (x=s.groups.getD j zQ)/\v.gr.a=some ⟨b,o,none⟩/\w.cell? ⟨b,o+j*2,none⟩=some (.int .i64 x.count)/\w.cell? ⟨b,o+j*2+1,none⟩=some (.slice q.a q.n q.c)/\Hid (Rd w q.a (ints x.waits))/\Hid (q.n=x.waits.length)/\Hid (q.n<=q.c):=by
 obtain⟨b1,o1,ea,g'⟩:=h.gr.rd.flat ziA zcV (by rw[h.inn.gr.len];omega) (by decide);obtain⟨⟨x,q⟩,hxq⟩:∃y,y=L.gr.getD j zcV:=⟨_,rfl⟩
 have hx:x=s.groups.getD j zQ:=by have:=h.inn.gr.fst zQ nilV j;rw[<-this];exact congrArg Prod.fst hxq
 have hR:=h.inn.gr.at zQ nilV (i:=j) hj;replace g':=g' j (by rw[h.inn.gr.len];exact hj);rw[<-hxq] at g';rw[show L.gr.getD j (zQ,_)=(x,q) from hxq.symm,<-hx] at hR;exact⟨x,q,b1,o1,xH1 hx,ea,by have:=g' 0 (by decide);simpa[grpC] using this,by have:=g' 1 (by decide);simpa[grpC] using this,xH1 (SlR.rd hR),xH1 (SlR.len hR),xH1 (SlR.cap hR)⟩
theorem StR.at_ba {w:World} {v:StV} {L:StL} {s:StD} (h:StR w v L s) {j:Nat} (hj:j<s.bars.length):∃(x:BarD) (q:SlV) (b o:Nat),Hid (x=s.bars.getD j zE)/\v.ba.a=some ⟨b,o,none⟩/\w.cell? ⟨b,o+j*3,none⟩=some (.int .i64 x.parties)/\w.cell? ⟨b,o+j*3+1,none⟩=some (.int .i64 x.round)/\w.cell? ⟨b,o+j*3+2,none⟩=some (.slice q.a q.n q.c)/\Hid (Rd w q.a (ints x.waits))/\Hid (q.n=x.waits.length)/\Hid (q.n<=q.c):=by
 obtain⟨b1,o1,ea,g'⟩:=h.ba.rd.flat zh2 zcU (by rw[h.inn.ba.len];omega) (by decide);obtain⟨⟨x,q⟩,hxq⟩:∃y,y=L.ba.getD j zcU:=⟨_,rfl⟩
 have hx:x=s.bars.getD j zE:=by have:=h.inn.ba.fst zE nilV j;rw[<-this];exact congrArg Prod.fst hxq
 have hR:=h.inn.ba.at zE nilV (i:=j) hj;replace g':=g' j (by rw[h.inn.ba.len];exact hj);rw[<-hxq] at g';rw[show L.ba.getD j (zE,_)=(x,q) from hxq.symm,<-hx] at hR;exact⟨x,q,b1,o1,xH1 hx,ea,by have:=g' 0 (by decide);simpa[barC] using this,by have:=g' 1 (by decide);simpa[barC] using this,by have:=g' 2 (by decide);simpa[barC] using this,xH1 (SlR.rd hR),xH1 (SlR.len hR),xH1 (SlR.cap hR)⟩
theorem StR.at_ch {w:World} {v:StV} {L:StL} {s:StD} (h:StR w v L s) {j:Nat} (hj:j<s.chans.length):∃(x:ChnD) (q:SlV×SlV×SlV) (b o:Nat),Hid (x=s.chans.getD j zH)/\v.ch.a=some ⟨b,o,none⟩/\w.cell? ⟨b,o+j*5,none⟩=some (.int .i64 x.room)/\w.cell? ⟨b,o+j*5+1,none⟩=some (.slice q.1.a q.1.n q.1.c)/\w.cell? ⟨b,o+j*5+2,none⟩=some (.slice q.2.1.a q.2.1.n q.2.1.c)/\w.cell? ⟨b,o+j*5+3,none⟩=some (.slice q.2.2.a q.2.2.n q.2.2.c)/\w.cell? ⟨b,o+j*5+4,none⟩=some (.bool x.closed)/\Hid (Rd w q.1.a (ints x.items))/\Hid (q.1.n=x.items.length)/\Hid (q.1.n<=q.1.c)/\Hid (Rd w q.2.1.a (zt x.senders))/\Hid (q.2.1.n=x.senders.length)/\Hid (q.2.1.n<=q.2.1.c)/\Hid (Rd w q.2.2.a (ints x.getters))/\Hid (q.2.2.n=x.getters.length)/\Hid (q.2.2.n<=q.2.2.c):=by
 obtain⟨b1,o1,ea,g'⟩:=h.ch.rd.flat zic zcT (by rw[h.inn.ch.len];omega) (by decide);obtain⟨⟨x,q⟩,hxq⟩:∃y,y=L.ch.getD j zcT:=⟨_,rfl⟩
 have hx:x=s.chans.getD j zH:=by have:=h.inn.ch.fst zH (nilV,nilV,nilV) j;rw[<-this];exact congrArg Prod.fst hxq
 have hR:=h.inn.ch.at zH (nilV,nilV,nilV) (i:=j) hj;replace g':=g' j (by rw[h.inn.ch.len];exact hj);rw[<-hxq] at g';rw[show L.ch.getD j (zH,_)=(x,q) from hxq.symm,<-hx] at hR;exact⟨x,q,b1,o1,xH1 hx,ea,by have:=g' 0 (by decide);simpa[chnC] using this,by have:=g' 1 (by decide);simpa[chnC] using this,by have:=g' 2 (by decide);simpa[chnC] using this,by have:=g' 3 (by decide);simpa[chnC] using this,by have:=g' 4 (by decide);simpa[chnC] using this,xH1 (SlR.rd hR.1),xH1 (SlR.len hR.1),xH1 (SlR.cap hR.1),xH1 (SlR.rd hR.2.1),xH1 (SlR.len hR.2.1),xH1 (SlR.cap hR.2.1),xH1 (SlR.rd hR.2.2),xH1 (SlR.len hR.2.2),xH1 (SlR.cap hR.2.2)⟩
section
variable {w W W':World} {V:StV} {s:StD} {L:StL}
abbrev tI (a:Option Addr) (n c:Nat) (tr:List Int) (V:StV) (s:StD) (L:StL):List It:= .row a n c 3 1 (ints tr)::xI V s L
structure InnT (B:Nat) (W:World) (a:Option Addr) (n c:Nat) (tr:List Int) (V:StV) (s:StD) (L:StL):Prop where
 has:∀i∈tI a n c tr V s L,i.has B W
 ap:(zv (tI a n c tr V s L)).Nodup
theorem zhO {a:Option Addr} {n c:Nat} {tr:List Int} {i:It} (h:i∈tI a n c tr V s L):∃a n c E sz cs,i= .row a n c E sz cs/\(E=167\/E=3\/E=187):=by
 rcases List.mem_cons.1 h with rfl|h
 ·exact⟨_,_,_,_,_,_,rfl,.inr (.inl rfl)⟩
 exact zje h
theorem Inn.trace {B:Nat} (h:Inn B W V s L) (hb:xW W W') {a:Option Addr} {n c:Nat} {tr:List Int} (ho:W'.ownsRow W.heap.size 3 1 (.slice a n c) n (ints tr)) (hB:B<=W.heap.size):InnT B W' a n c tr V s L:=
 ⟨λi hi=>by
  rcases List.mem_cons.1 hi with rfl|hi
  ·exact zl ho hB
  ·exact(h.below hb).has i hi,by
  refine List.nodup_append.2 ⟨It.foot_nodup (.row a n c 3 1 (ints tr)),h.ap,λq hq r hr e=> ?_⟩;subst e;have h1:=(zp ho q (by simpa[It.foot] using hq)).1;obtain⟨i,hi,hf⟩:=List.mem_flatMap.1 (show q∈zv (xI V s L) from hr);have h2:=(It.inside (h.has i hi) q hf).2;omega⟩
section
variable {B:Nat} {a:Option Addr} {n c:Nat} {tr:List Int}
theorem InnT.lower {B':Nat} (h:InnT B W a n c tr V s L) (hb:B'<=B):InnT B' W a n c tr V s L:=⟨λi hi=>by
 have hh:=h.has i hi;obtain⟨a,n,c,E,sz,xs,rfl,-⟩:=zhO hi;exact zl (show W.ownsRow B E sz (.slice a n c) n xs from hh) hb,h.ap⟩
theorem InnT.touch {S:List Nat} (h:InnT B W a n c tr V s L) (T:zi S W W') (hS:∀k∈S,k∉zv (tI a n c tr V s L)):InnT B W' a n c tr V s L:=
 ⟨λi hi=>It.keep (h.has i hi) λk hk=>T.block k (It.inside (h.has i hi) k hk).2 λhm=>hS k hm (List.mem_flatMap.2 ⟨i,hi,hk⟩),h.ap⟩
theorem InnT.below (h:InnT B W a n c tr V s L) (hb:xW W W'):InnT B W' a n c tr V s L:=h.touch (zi.of_below (S:=[]) hb) (by simp)
theorem InnT.far (h:InnT B W a n c tr V s L) {q:Nat} {cs:Array Value} {T:TypeId} {fr:Nat×Nat} (hq:W.heap[q]? =some (.cells cs T fr)) (hT:zeR T):q∉zv (tI a n c tr V s L):=by
 intro hm;obtain⟨i,hi,hf⟩:=List.mem_flatMap.1 hm;have hh:=h.has i hi;obtain⟨a,n,c,E,sz,xs,rfl,hE⟩:=zhO hi;obtain⟨cur,fr',e⟩:=zbU (show W.ownsRow _ E sz (.slice a n c) n xs from hh) q (by simpa[It.foot] using hf);rw[hq] at e;have e2:T=E:=by simpa using congrArg (λo:Option Obj=>match o with|some (.cells _ t _)=>t|_=>T) e
 rcases hE with rfl|rfl|rfl
 ·exact hT.1 e2
 ·exact hT.2.1 e2
 ·exact hT.2.2 e2
theorem InnT.set {b:Nat} {cs:Array Value} {T:TypeId} (h:InnT B W a n c tr V s L) (hb:Blk W b cs T) (hT:zeR T) (ht:zi [b] W W'):InnT B W' a n c tr V s L:=
 h.touch ht λk hk=>by
  obtain rfl:=xS1 hk;exact h.far hb hT
end
end
end Go.Proofs.YtnlijgjpgdjpiaaGreat
