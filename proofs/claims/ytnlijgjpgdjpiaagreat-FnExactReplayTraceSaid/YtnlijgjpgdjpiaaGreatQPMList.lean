/- Part of a proof: MListS MOnceS. -/
import Derived.Test.YtnlijgjpgdjpiaaGreatQPFr
set_option maxRecDepth 100000
set_option maxHeartbeats 16000000
namespace Go.Proofs.YtnlijgjpgdjpiaaGreat
open Go.RowKit Go.Sort
theorem zaV (a:Option Addr) (n c:Nat) (l:List Int) (t:Int) (w:World) (hl:l.length=n) (hn:n<=maxLen) (hr:Rd w a (ints l)):
  Calls Tryz.prog 53 #[.slice a n c,.int .i64 t] w λe w'=>e= .returned (.int .i64 (zay l t))/\w'=w:=by
 unfold maxLen at hn;have HL:=xH1 hl;clear hl;go_enter Tryz.func53,Tryz.ntmps53;go_wp2
 go_loopw [5] (λi wr=>∃k:Nat,k<=n/\i= .int .i64 k/\Hid (∀j,j<k->l.getD j 0≠t)/\wr=w) (λi _=>n-(intOf i).toNat)
 case atStart=>exact⟨0,by omega,rfl,xH1 (by omega),rfl⟩
 case round=>
  obtain⟨k,hk,rfl,hall,rfl⟩:=hrel;by_cases hlt:k<n
  ·obtain⟨b,o,rfl,hc⟩:=hr.int (by have:=HL.out;omega);have g:=hc k (by have:=HL.out;omega);obtain⟨x,hx⟩:∃x,x=l.getD k 0:=⟨_,rfl⟩
   rw[<-hx] at g;have HX:=xH1 hx;clear hc hx;by_cases e:x=t
   ·have t1:(x==t)=true:=(by simpa using e);have HF:Hid (zay l t=k):=xH1 (zeh (by have:=HL.out;omega) (by rw[<-HX.out];exact e) (λj hj=>hall.out j hj));clear e;go_wp2;go_ret;exact⟨zds HF.out.symm,rfl⟩
   ·have t1:(x==t)=false:=(by simpa using e);have HE:=xH1 e;clear e;go_wp2
    go_roundw
    case rel=>exact⟨k+1,by omega,by go_num,xH1 (λj hj=>by
      rcases Nat.lt_or_ge j k with h|h
      ·exact hall.out j h
      ·have:j=k:=(by omega);subst this;rw[<-HX.out];exact HE.out),trivial⟩
    case measure=>simp[intOf];omega
  ·have hkm:k=n:=(by omega);subst hkm;have HF:Hid (zay l t= -1):=xH1 (zdt (λj hj=>hall.out j (by have:=HL.out;omega)));go_wp2;go_ret;exact⟨zds HF.out.symm,rfl⟩
theorem Rd.takei {w:World} {a:Option Addr} {l:List Int} (h:Rd w a (ints l)) (k:Nat):Rd w a (ints (l.take k)):=by
 rcases h with h0|⟨b,o,e,h⟩
 ·have:l=[]:=by simpa[ints] using h0
  subst this;exact .inl (by simp)
 ·exact .inr ⟨b,o,e,λj hj=>by
   simp only[xDf,xDp] at hj;rw[h j (by simp;omega)];simp[ints,List.getD,show j<k by omega]⟩
theorem zjQ {l:List Int} (h:l.Nodup) {i:Nat} (hi:i<l.length):zay (l.take i) (l.getD i 0)= -1:=
 zdt (λj hj=>by
  rw[xDp] at hj;have e:(l.take i).getD j 0=l.getD j 0:=by simp[List.getD,show j<i by omega]
  rw[e];exact zdY h hi (by omega))
theorem zdo (a:Option Addr) (n c:Nat) (l:List Int) (w:World) (hl:l.length=n) (hc:n<=c) (hr:Rd w a (ints l)) (ok:thr6 l):
  Calls Tryz.prog 166 #[.slice a n c] w λe w'=>e= .returned (.bool true)/\xW w w':=by
 have h6:n<=6:=by rw[<-hl];exact ok.1
 have HL:=xH1 hl;have HT:=xH1 ok;clear hl ok;go_enter Tryz.func166,Tryz.ntmps166;go_wp2
 go_loopw [3] (λv wr=>∃i:Nat,i<=n/\v= .int .i64 i/\xW w wr) (λv _=>n-(intOf v).toNat)
 case atStart=>exact⟨0,by omega,rfl,Below.refl _ _⟩
 case round=>
  obtain⟨i,hi,rfl,hb⟩:=hrel;have hr1:=hr.below hb;by_cases hlt:i<n
  ·obtain⟨b,o,rfl,g'⟩:=hr1.int (by have:=HL.out;omega);have g:=g' i (by have:=HL.out;omega);obtain⟨t,et⟩:∃t,t=l.getD i 0:=⟨_,rfl⟩
   rw[<-et] at g;have htt:0<=t/\t<6:=by rw[et];exact HT.out.2.1 _ (zbl (by have:=HL.out;omega))
   have hfi:zay (l.take i) t= -1:=by rw[et];exact zjQ HT.out.2.2 (by have:=HL.out;omega)
   have kg:=cell_regrown g;have cT:Hid (∀d os,Calls Tryz.prog 135 #[.int .i64 t] (grow (redrawn wr d) os) λe w''=>e= .returned (.bool true)/\∃p:Regrown,w''=grow (redrawn wr p.d) p.os):=xH1 (λd os=>zb8 (zaG t _ htt));have cF:Hid (∀d os,Calls Tryz.prog 53 #[.slice (some ⟨b,o,none⟩) i c,.int .i64 t] (grow (redrawn wr d) os) λe w''=>e= .returned (.int .i64 (-1))/\∃p:Regrown,w''=grow (redrawn wr p.d) p.os):=xH1 (λd os=>zb8 (by
    have:=zaV (some ⟨b,o,none⟩) i c (l.take i) t (grow (redrawn wr d) os) (by rw[xDp];have:=HL.out;omega) (by unfold maxLen;omega) ((hr1.takei i).below (below_regrown wr d os));rw[hfi] at this;exact this))
   have i1:(i:Int)<(n:Int):=(by omega);have i2:(i:Int)<=(c:Int):=(by omega);have i3:decide ((i:Int)<=6)=true:=xDk (by omega);have i4:(0:Int)<=(i:Int):=(by omega);clear et htt hfi g' hr1;go_wp2;refine wp_region_quiet_below (by kernel_rfl) (by kernel_rfl) ?_
   repeat (go_big_quiet_step (first|exact cT.out _ _|exact cF.out _ _))
   refine wpQuiet_nil ?_;intro w6 hw6;have hbq:xW wr w6:=by
    obtain⟨pq,rfl⟩:=hw6;exact below_regrown _ _ _
   clear hw6;go_wp2
   go_roundw
   case rel=>exact⟨i+1,by omega,by go_num,hb.trans (hbq.mono hb.size)⟩
   case measure=>simp[intOf];omega
  ·have hkm:i=n:=(by omega);subst hkm;have i3:decide ((i:Int)<=6)=true:=xDk (by omega);go_wp2;go_ret;exact⟨rfl,hb⟩
end Go.Proofs.YtnlijgjpgdjpiaaGreat
namespace Go.Proofs.YtnlijgjpgdjpiaaGreat
open Go.RowKit
theorem zbA (t:Int) (w:World) (h:0<=t/\t<=99):Calls Tryz.prog 96 #[.int .i64 t] w λe w'=>e= .returned (.bool true)/\w'=w:=by
 have d1:decide (0<=t)=true:=xDk h.1;have d2:decide (t<=99)=true:=xDk h.2;go_enter Tryz.func96,Tryz.ntmps96;go_wp2;go_ret;exact⟨rfl,rfl⟩
theorem zcj (x:zaj) (a:Option Addr) (n c:Nat) (w:World) (hl:x.waits.length=n) (hn:n<=1048576) (hr:Rd w a (ints x.waits)):
  Calls Tryz.prog 93 #[.agg #[.int .i64 x.state,.int .i64 x.owner,.int .i64 x.value,.slice a n c]] w λe w'=>∃(a':Option Addr) (c':Nat),e= .returned (.agg #[.int .i64 x.state,.int .i64 x.owner,.int .i64 x.value,.slice a' n c'])/\w'.ownsRow w.heap.size 3 1 (.slice a' n c') n (ints x.waits)/\xW w w':=by
 have HL:=xH1 hl;clear hl;obtain⟨W0,hW0⟩:∃W0:World,W0=((w.alloc (.cells #[.int .i64 x.state,.int .i64 x.owner,.int .i64 x.value,.slice a n c] 78)).alloc (.cells #[.int .i64 0,.int .i64 0,.int .i64 0,.slice none 0 0] 78)):=⟨_,rfl⟩
 have B0:xW w W0:=by
  rw[hW0];exact((xB1.alloc (by simp) _).alloc (by simp) _)
 have k0:Blk W0 (w.heap.size) #[.int .i64 x.state,.int .i64 x.owner,.int .i64 x.value,.slice a n c] 78:=by
  rw[hW0];have h:=Blk.new w #[.int .i64 x.state,.int .i64 x.owner,.int .i64 x.value,.slice a n c] 78;exact h|>.alloc _
 have kR:Blk W0 (w.heap.size+1) #[.int .i64 0,.int .i64 0,.int .i64 0,.slice none 0 0] 78:=by
  rw[hW0];have h:=Blk.new (w.alloc (.cells #[.int .i64 x.state,.int .i64 x.owner,.int .i64 x.value,.slice a n c] 78)) #[.int .i64 0,.int .i64 0,.int .i64 0,.slice none 0 0] 78;simp only[xDe] at h;exact h
 have hS0:W0.heap.size=w.heap.size+2:=by rw[hW0];simp
 have q0:=k0.cell 0 rfl;have q1:=k0.cell 1 rfl;have q2:=k0.cell 2 rfl;have q3:=k0.cell 3 rfl;have HB0:=xH1 B0;have Hhr:=xH1 (hr.below B0);have HKR:=xH1 kR;clear B0 k0 kR hr;go_enter Tryz.func93,Tryz.ntmps93;go_wp2;rw[<-hW0] at*;clear hW0
 refine zaJ 11 (by kernel_rfl) (by kernel_rfl) [λdz uz wz=>uz= .pointer (some ⟨w.heap.size,0,none⟩),λdz uz wz=>uz= .int .i64 x.state,λdz uz wz=>uz= .pointer (some ⟨w.heap.size,1,none⟩),λdz uz wz=>uz= .int .i64 x.owner,λdz uz wz=>uz= .pointer (some ⟨w.heap.size,2,none⟩),λdz uz wz=>uz= .int .i64 x.value,λdz uz wz=>∃gz:Nat,uz= .slice (some ⟨gz,0,none⟩) 0 0/\wz.ownsRow W0.heap.size 3 1 (.slice (some ⟨gz,0,none⟩) 0 0) 0 [],λdz uz wz=>uz= .pointer (some ⟨w.heap.size,3,none⟩),λdz uz wz=>uz= .slice a n c,λdz uz wz=>∃(az:Option Addr) (cz:Nat),uz= .slice az n cz/\wz.ownsRow W0.heap.size 3 1 (.slice az n cz) n (ints x.waits)/\(n=0->cz=0),λdz uz wz=>uz=(.agg #[(dz.getD 0 undef),(dz.getD 1 undef),(dz.getD 2 undef),(dz.getD 3 undef)]:Value)] (λi=>match i with|_=>λ_=>none) (λw'=>xW W0 w') xB1.drew (zbT ⟨λ_ _ _ _ _ h=>h,λ_ _ _ _ _ h=>h,λ_ _ _ _ _ h=>h,λ_ _ _ _ _ h=>h,λ_ _ _ _ _ h=>h,λ_ _ _ _ _ h=>h,λ_ _ _ _ hb ⟨g,e,h⟩=>⟨g,e,zf h hb⟩,λ_ _ _ _ _ h=>h,λ_ _ _ _ _ h=>h,λ_ _ _ _ hb ⟨a,c,e,h,h0⟩=>⟨a,c,e,zf h hb,h0⟩,λ_ _ _ _ _ h=>h,trivial⟩) ?_ ?_
 ·simp only[List.take_succ_cons,List.take_zero];refine⟨?_,?_,?_,?_,?_,?_,?_,?_,?_,?_,?_,trivial⟩
  ·intro ρ w1 hG hfr hd;obtain⟨fc,ff⟩:=xF1 hfr;have f1:ρ (.tmp 1)= .pointer (some ⟨w.heap.size,0,none⟩):=hfr _ rfl;refine zh (u:= .pointer (some ⟨w.heap.size,0,none⟩)) (w':=w1) (by go_simp) ⟨Below.refl _ _,rfl,xN1,hG⟩
  ·intro ρ w1 hG hfr hd;obtain⟨fc,ff⟩:=xF1 hfr;obtain⟨d0,-⟩:=hd;have d0:(ρ (.tmp 3))= .pointer (some ⟨w.heap.size,0,none⟩):=d0;have q0:=zd hG q0;refine zh (u:= .int .i64 x.state) (w':=w1) (by go_simp) ⟨Below.refl _ _,rfl,xN1,hG⟩
  ·intro ρ w1 hG hfr hd;obtain⟨fc,ff⟩:=xF1 hfr;have f1:ρ (.tmp 1)= .pointer (some ⟨w.heap.size,0,none⟩):=hfr _ rfl;refine zh (u:= .pointer (some ⟨w.heap.size,1,none⟩)) (w':=w1) (by go_simp) ⟨Below.refl _ _,rfl,xN1,hG⟩
  ·intro ρ w1 hG hfr hd;obtain⟨fc,ff⟩:=xF1 hfr;obtain⟨d0,-⟩:=hd;have d0:(ρ (.tmp 5))= .pointer (some ⟨w.heap.size,1,none⟩):=d0;have q1:=zd hG q1;refine zh (u:= .int .i64 x.owner) (w':=w1) (by go_simp) ⟨Below.refl _ _,rfl,xN1,hG⟩
  ·intro ρ w1 hG hfr hd;obtain⟨fc,ff⟩:=xF1 hfr;have f1:ρ (.tmp 1)= .pointer (some ⟨w.heap.size,0,none⟩):=hfr _ rfl;refine zh (u:= .pointer (some ⟨w.heap.size,2,none⟩)) (w':=w1) (by go_simp) ⟨Below.refl _ _,rfl,xN1,hG⟩
  ·intro ρ w1 hG hfr hd;obtain⟨fc,ff⟩:=xF1 hfr;obtain⟨d0,-⟩:=hd;have d0:(ρ (.tmp 7))= .pointer (some ⟨w.heap.size,2,none⟩):=d0;have q2:=zd hG q2;refine zh (u:= .int .i64 x.value) (w':=w1) (by go_simp) ⟨Below.refl _ _,rfl,xN1,hG⟩
  ·intro ρ w1 hG hfr hd;obtain⟨fc,ff⟩:=xF1 hfr;refine zh (u:= .slice (some ⟨w1.heap.size,0,none⟩) 0 0) (w':=w1.alloc (.cells #[] 3)) (by go_simp) ⟨xA1,⟨_,rfl,zl (zJ w1 3 1) hG.size⟩,xN1,hG.alloc hG.size _⟩
  ·intro ρ w1 hG hfr hd;obtain⟨fc,ff⟩:=xF1 hfr;have f1:ρ (.tmp 1)= .pointer (some ⟨w.heap.size,0,none⟩):=hfr _ rfl;refine zh (u:= .pointer (some ⟨w.heap.size,3,none⟩)) (w':=w1) (by go_simp) ⟨Below.refl _ _,rfl,xN1,hG⟩
  ·intro ρ w1 hG hfr hd;obtain⟨fc,ff⟩:=xF1 hfr;obtain⟨d0,-⟩:=hd;have d0:(ρ (.tmp 10))= .pointer (some ⟨w.heap.size,3,none⟩):=d0;have q3:=zd hG q3;refine zh (u:= .slice a n c) (w':=w1) (by go_simp) ⟨Below.refl _ _,rfl,xN1,hG⟩
  ·intro ρ w1 hG hfr hd;obtain⟨fc,ff⟩:=xF1 hfr;obtain⟨d0,d1,-⟩:=hd;have d0:∃gz:Nat,(ρ (.tmp 9))= .slice (some ⟨gz,0,none⟩) 0 0/\w1.ownsRow W0.heap.size 3 1 (.slice (some ⟨gz,0,none⟩) 0 0) 0 []:=d0;have d1:(ρ (.tmp 11))= .slice a n c:=d1;obtain⟨g,d0,hg⟩:=d0;refine zag _ _ 22 rfl Tryz.underlying22 zM rfl (by decide) d0 hg d1 (by rw[xDf,HL.out,Nat.mul_one]) (Hhr.out.below hG) (zaa _) (by omega) (by decide) hG.size ?_;intro a c w2 hown hb hf h0;exact⟨hb,⟨a,c,rfl,hown,h0⟩,xN1,hG.trans (hb.mono hG.size)⟩
  ·intro ρ w1 hG hfr hd;obtain⟨fc,ff⟩:=xF1 hfr;obtain⟨d0,d1,d2,d3,-⟩:=hd;have d0:(ρ (.tmp 4))= .int .i64 x.state:=d0;have d1:(ρ (.tmp 6))= .int .i64 x.owner:=d1;have d2:(ρ (.tmp 8))= .int .i64 x.value:=d2;have d3:∃(az:Option Addr) (cz:Nat),(ρ (.tmp 12))= .slice az n cz/\w1.ownsRow W0.heap.size 3 1 (.slice az n cz) n (ints x.waits)/\(n=0->cz=0):=d3;obtain⟨az0,cz0,d3,-,-⟩:=d3;refine zh (u:= .agg #[.int .i64 x.state,.int .i64 x.owner,.int .i64 x.value,.slice az0 n cz0]) (w':=w1) (by go_simp) ⟨Below.refl _ _,?_,xN1,hG⟩;show Value.agg #[.int .i64 x.state,.int .i64 x.owner,.int .i64 x.value,.slice az0 n cz0]=(.agg #[(ρ (.tmp 4)),(ρ (.tmp 6)),(ρ (.tmp 8)),(ρ (.tmp 12))]:Value);rw[d0,d1,d2,d3]
 intro vs w2 hG hlen hall hap hbd;obtain⟨xv0,vs0,rfl,hl0⟩:=zk hlen;obtain⟨xv1,vs1,rfl,hl1⟩:=zk hl0;obtain⟨xv2,vs2,rfl,hl2⟩:=zk hl1;obtain⟨xv3,vs3,rfl,hl3⟩:=zk hl2;obtain⟨xv4,vs4,rfl,hl4⟩:=zk hl3;obtain⟨xv5,vs5,rfl,hl5⟩:=zk hl4;obtain⟨xv6,vs6,rfl,hl6⟩:=zk hl5;obtain⟨xv7,vs7,rfl,hl7⟩:=zk hl6;obtain⟨xv8,vs8,rfl,hl8⟩:=zk hl7;obtain⟨xv9,vs9,rfl,hl9⟩:=zk hl8;obtain⟨xv10,vs10,rfl,hl10⟩:=zk hl9;obtain rfl:=zcD hl10;clear hlen hl0 hl1 hl2 hl3 hl4 hl5 hl6 hl7 hl8 hl9 hl10;simp only[List.take_succ_cons,List.take_zero,List.drop_succ_cons,List.drop_zero] at hall⊢;obtain⟨t0',t1',t2',t3',t4',t5',t6',t7',t8',t9',t10',-⟩:=hall;have hv0:xv0= .pointer (some ⟨w.heap.size,0,none⟩):=t0';have hv1:xv1= .int .i64 x.state:=t1';have hv2:xv2= .pointer (some ⟨w.heap.size,1,none⟩):=t2';have hv3:xv3= .int .i64 x.owner:=t3';have hv4:xv4= .pointer (some ⟨w.heap.size,2,none⟩):=t4';have hv5:xv5= .int .i64 x.value:=t5';have hv6:∃gz:Nat,xv6= .slice (some ⟨gz,0,none⟩) 0 0/\w2.ownsRow W0.heap.size 3 1 (.slice (some ⟨gz,0,none⟩) 0 0) 0 []:=t6';have hv7:xv7= .pointer (some ⟨w.heap.size,3,none⟩):=t7';have hv8:xv8= .slice a n c:=t8'
 have hv9:∃(az:Option Addr) (cz:Nat),xv9= .slice az n cz/\w2.ownsRow W0.heap.size 3 1 (.slice az n cz) n (ints x.waits)/\(n=0->cz=0):=t9';have hv10:xv10=(.agg #[xv1,xv3,xv5,xv9]:Value):=t10';clear t0' t1' t2' t3' t4' t5' t6' t7' t8' t9' t10';clear hap hbd;subst hv0 hv1 hv2 hv3 hv4 hv5 hv7 hv8;obtain⟨az0,cz0,rfl,hown0,-⟩:=hv9;simp only[zap,Act.put,List.setIfInBounds_toArray,List.set_cons_succ,List.set_cons_zero];have kR2:=HKR.out.below hG;have y0:=kR2.cell 0 rfl;have y1:=kR2.cell 1 rfl;have y2:=kR2.cell 2 rfl;have y3:=kR2.cell 3 rfl;have x0:=kR2.fz 0;have x1:=kR2.fz 1;have x2:=kR2.fz 2;have x3:=kR2.fz 3;clear kR2;go_wp2;have hT:=(((((zi.refl [w.heap.size+1] w2).set (v:= .int .i64 x.state) (b:=w.heap.size+1) (j:=0) (by simp)).set (v:= .int .i64 x.owner) (b:=w.heap.size+1) (j:=1) (by simp)).set (v:= .int .i64 x.value) (b:=w.heap.size+1) (j:=2) (by simp)).set (v:= .slice az0 n cz0) (b:=w.heap.size+1) (j:=3) (by simp))
 have hBz:=hT.below (B:=w.heap.size) (by have:=hG.size;omega) (λk hk=>by simp only[List.mem_singleton] at hk;omega);have hq0:=zj hown0 hT (λq hq hm=>by have h1:=(zp hown0 q hq).1;simp only[List.mem_singleton] at hm;omega);refine xDd (v:= .agg #[.int .i64 x.state,.int .i64 x.owner,.int .i64 x.value,.slice az0 n cz0]) (by simp[results,Tryz.results93,go_sem,y0,y1,y2,y3]) rfl ?_;exact⟨az0,cz0,rfl,zl hq0 (by omega),(HB0.out.trans (hG.mono HB0.out.size)).trans hBz⟩
theorem zbN (x:zaj) (a:Option Addr) (n c:Nat) (w:World) (hl:x.waits.length=n) (hc:n<=c) (hr:Rd w a (ints x.waits)) (ok:zbW x):
  Calls Tryz.prog 145 #[.agg #[.int .i64 x.state,.int .i64 x.owner,.int .i64 x.value,.slice a n c]] w λe w'=>e= .returned (.bool true)/\xW w w':=by
 obtain⟨st,ow,va,ws⟩:=x;rcases ok with ⟨h1,h2,h3,h4⟩|⟨h1,h2,h3,h4,h5⟩|⟨h1,h2,h3,h4⟩
 ·dsimp only at*;subst h1 h2 h3 h4;obtain rfl:0=n:=by simpa using hl
  have B0:xW w (w.alloc (.cells #[.int .i64 0,.int .i64 0,.int .i64 0,.slice a 0 c] 78)):=xA1;have k0:Blk (w.alloc (.cells #[.int .i64 0,.int .i64 0,.int .i64 0,.slice a 0 c] 78)) w.heap.size #[.int .i64 0,.int .i64 0,.int .i64 0,.slice a 0 c] 78:=Blk.new _ _ _;have q0:(w.alloc (.cells #[.int .i64 0,.int .i64 0,.int .i64 0,.slice a 0 c] 78)).cell? ⟨w.heap.size,0,none⟩=some (.int .i64 0):=k0.cell 0 rfl;have q1:(w.alloc (.cells #[.int .i64 0,.int .i64 0,.int .i64 0,.slice a 0 c] 78)).cell? ⟨w.heap.size,1,none⟩=some (.int .i64 0):=k0.cell 1 rfl;have q2:(w.alloc (.cells #[.int .i64 0,.int .i64 0,.int .i64 0,.slice a 0 c] 78)).cell? ⟨w.heap.size,2,none⟩=some (.int .i64 0):=k0.cell 2 rfl;have q3:(w.alloc (.cells #[.int .i64 0,.int .i64 0,.int .i64 0,.slice a 0 c] 78)).cell? ⟨w.heap.size,3,none⟩=some (.slice a 0 c):=k0.cell 3 rfl;clear k0;have hr0:=hr.below B0;have HB0:=xH1 B0;clear hr B0;go_enter Tryz.func145,Tryz.ntmps145;go_wp2;go_ret;exact⟨rfl,HB0.out⟩
 ·dsimp only at*;subst h1 h3;have B0:xW w (w.alloc (.cells #[.int .i64 1,.int .i64 ow,.int .i64 0,.slice a n c] 78)):=xA1;have k0:Blk (w.alloc (.cells #[.int .i64 1,.int .i64 ow,.int .i64 0,.slice a n c] 78)) w.heap.size #[.int .i64 1,.int .i64 ow,.int .i64 0,.slice a n c] 78:=Blk.new _ _ _;have q0:(w.alloc (.cells #[.int .i64 1,.int .i64 ow,.int .i64 0,.slice a n c] 78)).cell? ⟨w.heap.size,0,none⟩=some (.int .i64 1):=k0.cell 0 rfl;have q1:(w.alloc (.cells #[.int .i64 1,.int .i64 ow,.int .i64 0,.slice a n c] 78)).cell? ⟨w.heap.size,1,none⟩=some (.int .i64 ow):=k0.cell 1 rfl;have q2:(w.alloc (.cells #[.int .i64 1,.int .i64 ow,.int .i64 0,.slice a n c] 78)).cell? ⟨w.heap.size,2,none⟩=some (.int .i64 0):=k0.cell 2 rfl;have q3:(w.alloc (.cells #[.int .i64 1,.int .i64 ow,.int .i64 0,.slice a n c] 78)).cell? ⟨w.heap.size,3,none⟩=some (.slice a n c):=k0.cell 3 rfl;clear k0;have hr0:=hr.below B0;have HB0:=xH1 B0;clear hr B0;go_enter Tryz.func145,Tryz.ntmps145;go_wp2_with fail;refine(zaG ow _ h2).mono ?_;rintro e w3 ⟨rfl,hw3⟩;have hw3':=hw3.symm;subst hw3';go_wp2_with fail;refine(zdo a n c ws _ hl hc hr0 h4).mono ?_;rintro e w2 ⟨rfl,hb⟩;have q1':=zd hb q1;have q3':=zd hb q3
  have hr2:=hr0.below hb;have HB2:=xH1 (HB0.out.trans (hb.mono HB0.out.size));have hfi:=zcb h5;clear q0 q1 q2 q3 hb;go_wp2_with fail;refine(zaV a n c ws ow _ hl (by have h6:=h4.1;unfold maxLen;omega) hr2).mono ?_;rintro e w3 ⟨rfl,hw3⟩;have hw3':=hw3.symm;subst hw3';rw[hfi];go_wp2;go_ret;exact⟨rfl,HB2.out⟩
 ·dsimp only at*;subst h1 h4;obtain rfl:0=n:=by simpa using hl
  have B0:xW w (w.alloc (.cells #[.int .i64 2,.int .i64 ow,.int .i64 va,.slice a 0 c] 78)):=xA1;have k0:Blk (w.alloc (.cells #[.int .i64 2,.int .i64 ow,.int .i64 va,.slice a 0 c] 78)) w.heap.size #[.int .i64 2,.int .i64 ow,.int .i64 va,.slice a 0 c] 78:=Blk.new _ _ _;have q0:(w.alloc (.cells #[.int .i64 2,.int .i64 ow,.int .i64 va,.slice a 0 c] 78)).cell? ⟨w.heap.size,0,none⟩=some (.int .i64 2):=k0.cell 0 rfl;have q1:(w.alloc (.cells #[.int .i64 2,.int .i64 ow,.int .i64 va,.slice a 0 c] 78)).cell? ⟨w.heap.size,1,none⟩=some (.int .i64 ow):=k0.cell 1 rfl;have q2:(w.alloc (.cells #[.int .i64 2,.int .i64 ow,.int .i64 va,.slice a 0 c] 78)).cell? ⟨w.heap.size,2,none⟩=some (.int .i64 va):=k0.cell 2 rfl;have q3:(w.alloc (.cells #[.int .i64 2,.int .i64 ow,.int .i64 va,.slice a 0 c] 78)).cell? ⟨w.heap.size,3,none⟩=some (.slice a 0 c):=k0.cell 3 rfl;clear k0;have hr0:=hr.below B0;have HB0:=xH1 B0;clear hr B0;go_enter Tryz.func145,Tryz.ntmps145;go_wp2_with fail;refine(zaG ow _ h2).mono ?_;rintro e w3 ⟨rfl,hw3⟩;have hw3':=hw3.symm;subst hw3';go_wp2_with fail;refine(zbA va _ h3).mono ?_;rintro e w3 ⟨rfl,hw3⟩;have hw3':=hw3.symm;subst hw3';go_wp2;go_ret;exact⟨rfl,HB0.out⟩
end Go.Proofs.YtnlijgjpgdjpiaaGreat
