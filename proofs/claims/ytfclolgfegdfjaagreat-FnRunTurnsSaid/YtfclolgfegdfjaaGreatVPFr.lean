/- Part of a proof: MSemS Fr MPart Sf NewB MRegT Rc Sb Elem InnI InnT. -/
import Derived.Test.YtfclolgfegdfjaaGreatVPState
import Derived.Deep.Cut
import Derived.BigQuiet
import Derived.Lib.QuietBelow
set_option maxRecDepth 100000
set_option maxHeartbeats 16000000
namespace Go.Proofs.YtfclolgfegdfjaaGreat
open Go.RowKit
variable {w W w' W' w0:World} {B n k i j b g c sz:Nat} {a a2:uQ} {T e E:TypeId} {P:Program} {q:zP} {X S:List Nat} {cs vs xs:uZ} {t:Int} {α:Type} {tr:List Int}
def yO:List Int->Int->Int
 |[],_=> -1
 |x::l,t=>if x=t then 0 else if yO l t<0 then-1 else yO l t+1
theorem JS {t:Int}:∀{l:List Int} {k:Nat},k<l.length->l.getD k 0=t->(∀j,j<k->l.getD j 0≠t)->yO l t=k
 |[],_,h,_,_=>by simp at h
 |x::l,0,_,h,_=>by
  have h':x=t:=by simpa using h
  unfold yO;rw[if_pos h'];rfl
 |x::l,k+1,hk,h,hj=>by
  have h0:x≠t:=by simpa using hj 0 jq
  have:=JS (l:=l) (k:=k) (by simpa using hk) (by simpa using h) (λj a0=>by simpa using hj (j+1) jq);unfold yO;rw[if_neg h0,this,if_neg jq];omega
theorem XE {t:Int}:∀{l:List Int},(∀j,j<l.length->l.getD j 0≠t)->yO l t= -1
 |[],_=>rfl
 |x::l,h=>by
  have h0:x≠t:=by simpa using h 0 jv
  have:=XE (l:=l) (λj hj=>by simpa using h (j+1) (by simpa using hj));unfold yO;rw[if_neg h0,this,if_pos jq]
theorem uJ {l:List Int} (h:t∉l):yO l t= -1:=
 XE λj hj e=>h (by rw[<-e,xm,xV hj];exact List.getElem_mem hj)
theorem vE:∀{l:List Int} {t:Int},t∈l->0<=yO l t/\l.getD (yO l t).toNat 0=t
 |[],_,h=>by simp at h
 |x::l,t,h=>by
  unfold yO;by_cases hx:x=t
  ·rw[if_pos hx];simp[hx]
  ·have h':t∈l:=by
    rcases List.mem_cons.1 h with e|e
    ·exact absurd e.symm hx
    ·exact e
   have⟨h0,h1⟩:=vE h';rw[if_neg hx,if_neg jq];refine⟨jq,?_⟩;rw[show(yO l t+1).toNat=(yO l t).toNat+1 by omega];simpa using h1
theorem Xy (l:List (Int×Int)) (j:Nat):(l.map (·.1)).getD j 0=(l.getD j (0,0)).1:=by
 simp only[xm,List.getElem?_map]
 cases l[j]? <;>rfl
theorem qV {l:List α} {d:α} (h:j<l.length):l.getD j d∈l:=by
 rw[xm,xV h];exact List.getElem_mem h
theorem Js {l:List Int} (h:l.Nodup) (hi:i<l.length) (hk:k<i):l.getD k 0≠l.getD i 0:=by
 intro e;rw[xm,xm,xV hi,xV jq] at e;have:=(List.getElem_inj h).1 (by simpa using e);omega
theorem XZ (l:List (Int×Int)):∀u∈zK l,u.oneCell'=true:=by
 intro u hu;obtain⟨x,_,hx⟩:=List.mem_flatMap.1 hu;simp only[pair,List.mem_cons,jw,or_false] at hx;rcases hx with rfl|rfl<;>rfl
theorem vZ (l:List (Int×Int)):(zK l).length=l.length*2:=Xz QT l
theorem JV:(Tryz.prog.info? 151).map (λi=>(i.zero,i.size,i.bytes))=some (some (.agg #[uy 0,uy 0]),2,16):=by kernel_rfl
theorem Xv {a b:Int} (h:a=b):Ending.returned (uy a)= .returned (uy b):=by rw[h]
theorem jz (t:Int) (w:World) (h:0<=t/\t<6):Calls Tryz.prog 158 #[uy t] w λe w'=>e= .returned (.bool true)/\w'=w:=by
 have d1:decide (0<=t)=true:=xK h.1;have d2:decide (t<6)=true:=xK h.2;go_enter Tryz.func158,Tryz.ntmps158;go_wp2;go_ret;exact⟨rfl,rfl⟩
theorem Vv (a:uQ) (n c:Nat) (l:List (Int×Int)) (t:Int) (w:World) (hl:l.length=n) (hn:n<=maxLen) (hr:Rd w a (zK l)):
  Calls Tryz.prog 159 #[.slice a n c,uy t] w λe w'=>e= .returned (uy (yO (l.map (·.1)) t))/\w'=w:=by
 unfold maxLen at hn;have HL:=zd hl;clear hl;go_enter Tryz.func159,Tryz.ntmps159;go_wp2
 go_loopw [5] (λi wr=>∃k:Nat,k<=n/\i=uy k/\uH (∀j,j<k->(l.getD j (0,0)).1≠t)/\wr=w) (λi _=>n-(intOf i).toNat)
 case atStart=>exact⟨0,jq,rfl,zd jq,rfl⟩
 case round=>
  obtain⟨k,hk,rfl,a0,rfl⟩:=hrel;by_cases c0:k<n
  ·obtain⟨b,o,rfl,hc⟩:=hr.pair (jQ HL.o);obtain⟨g,-⟩:=hc k (jQ HL.o);obtain⟨x,hx⟩:=jy ((l.getD k (0,0)).1);rw[<-hx] at g;have HX:=zd hx;clear hc hx;by_cases e:x=t
   ·have t1:(x==t)=true:=(by simpa using e);have HF:uH (yO (l.map (·.1)) t=k):=zd (JS (by have:=HL.o;simp;omega) (by rw[Xy,<-HX.o];exact e) (λj hj=>by rw[Xy];exact a0.out j hj));clear e;go_wp2;go_ret;exact⟨Xv HF.o.symm,rfl⟩
   ·have t1:(x==t)=false:=(by simpa using e);have HE:=zd e;clear e;go_wp2
    go_roundw
    case rel=>exact⟨k+1,jq,by go_num,zd (λj hj=>by
      rcases Nat.lt_or_ge j k with h|h
      ·exact a0.out j h
      ·have:j=k:=jq;subst this;rw[<-HX.o];exact HE.o),trivial⟩
    case measure=>exact uq
  ·have b0:k=n:=jq;subst b0;have HF:uH (yO (l.map (·.1)) t= -1):=zd (XE (λj hj=>by rw[Xy];exact a0.out j (by have:=HL.o;simp at hj;omega)));go_wp2;go_ret;exact⟨Xv HF.o.symm,rfl⟩
theorem ZK (x:xS) (a:uQ) (n c:Nat) (w:World) (hl:x.queue.length=n) (hn:n<=1048576) (hr:Rd w a (zK x.queue)):
  Calls Tryz.prog 137 #[.agg #[uy x.free,uy x.limit,.slice a n c]] w λe w'=>∃(a':uQ) (c':Nat),e= .returned (.agg #[uy x.free,uy x.limit,.slice a' n c'])/\w'.ownsRow w.heap.size 151 2 (.slice a' n c') n (zK x.queue)/\xW w w':=by
 obtain⟨f,a0,q⟩:=x;dsimp only at*;have HL:=zd hl;clear hl;obtain⟨W0,c0⟩:∃W0:World,W0=(w.alloc (.cells #[uy f,uy a0,.slice a n c] 74)).alloc (.cells #[uy 0,uy 0,uk] 74):=⟨_,rfl⟩
 have B0:xW w W0:=by
  rw[c0];exact(zY).alloc jv _
 have k0:zm W0 w.heap.size #[uy f,uy a0,.slice a n c] 74:=by
  rw[c0];exact(zm.new _ _ _).alloc _
 have kR:zm W0 (w.heap.size+1) #[uy 0,uy 0,uk] 74:=by
  rw[c0];simpa using zm.new (w.alloc (.cells #[uy f,uy a0,.slice a n c] 74)) #[uy 0,uy 0,uk] 74
 have q0:W0.cell? ⟨w.heap.size,0,none⟩=some (uy f):=k0.cell 0 rfl;have q1:W0.cell? ⟨w.heap.size,1,none⟩=some (uy a0):=k0.cell 1 rfl;have q2:W0.cell? ⟨w.heap.size,2,none⟩=some (.slice a n c):=k0.cell 2 rfl;have h0:=zd B0;have n0:=zd (hr.below B0);have t0:W0.heap.size=w.heap.size+2:=by rw[c0];simp
 have m0:=zd kR;clear B0 k0 kR hr;go_enter Tryz.func137,Tryz.ntmps137;go_wp2;rw[<-c0] at*;clear c0;apply xZ 9 [.k _,.k _,.k _,.k _,.r (Zl W0.heap.size 151 2),.k _,.k _,.r (Xi W0.heap.size 151 2 n (zK q)),.r λdz uz wz=>uz=(.agg #[(dz.getD 0 undef),(dz.getD 1 undef),(dz.getD 2 undef)]:Value)] ⟨Xr,Vj,(λ_ _ _ _ _ h=>h),trivial⟩ ?s1 ?e1
 case s1=>
  repeat' apply And.intro
  all_goals first|trivial|(intro ρ w1 hG hfr hd;obtain⟨fc,ff⟩:=xu hfr;have f1:=hfr (.tmp 1) rfl;have q0:=ze hG q0;have q1:=ze hG q1;have q2:=ze hG q2)
  exact yj;exact yI;exact yj;exact yI;exact VB;exact yj;exact yI
  ·have d:ρ (.tmp _)=_:=hd.2.1;exact ky hG _ _ 72 rfl Tryz.underlying72 JV rfl jk hd.1 d (by rw[vZ,HL.o]) (n0.out.below hG) (XZ _) jq jk (λ_ _ h=>h)
  ·obtain⟨d0,d1,d2,-⟩:=hd;have d0:(ρ (.tmp 4))=uy f:=d0;have d1:(ρ (.tmp 6))=uy a0:=d1;obtain⟨i0,j0,d2,-,-⟩:=d2;replace d2:ρ (.tmp 10)=_:=d2;refine zh (u:= .agg #[uy f,uy a0,.slice i0 n j0]) (w':=w1) (by go_simp) ⟨Below.refl _ _,?_,yn,hG⟩;show Value.agg #[uy f,uy a0,.slice i0 n j0]=(.agg #[(ρ (.tmp 4)),(ρ (.tmp 6)),(ρ (.tmp 10))]:Value);rw[d0,d1,d2]
 intro w2 hG;refine yv ?_;intro v0 u0 r0 p0 s0 l0;replace l0:s0=(.agg #[(uy f),(uy a0),r0]:Value):=l0;obtain⟨a',c',rfl,f0,-⟩:=p0;have b0:=m0.out.below hG;have y0:=b0.cell 0 rfl;have x0:=b0.fz 0;have y1:=b0.cell 1 rfl;have x1:=b0.fz 1;have y2:=b0.cell 2 rfl;have x2:=b0.fz 2;clear b0;go_wp2;have g0:∀q,zj a'=some q->q∉[w.heap.size+1]:=λq hq hm=>by
  have h1:=(zy f0 q hq).1;simp only[List.mem_singleton] at hm;omega
 have hT:=((zo.refl [w.heap.size+1] w2).set (v:=uy f) (j:=0) yl).set (v:=uy a0) (j:=1) yl|>.set (v:= .slice a' n c') (j:=2) yl
 have o0:=hT.below (B:=w.heap.size) (jQ hG.size) (λk hk=>by simp only[List.mem_singleton] at hk;omega);refine zM (v:= .agg #[uy f,uy a0,.slice a' n c']) (by simp[results,Tryz.results137,go_sem,y0,y1,y2]) rfl ⟨a',c',rfl,zw (zE f0 hT g0) jq,(h0.out.trans (hG.mono h0.out.size)).trans o0⟩
theorem ZP (x:xS) (a:uQ) (n c:Nat) (w:World) (hl:x.queue.length=n) (hr:Rd w a (zK x.queue)) (ok:Xb x):
  Calls Tryz.prog 157 #[.agg #[uy x.free,uy x.limit,.slice a n c]] w λe w'=>e= .returned (.bool true)/\xW w w':=by
 obtain⟨f,b0,q⟩:=x;obtain⟨⟨l1,l2⟩,⟨f1,f2⟩,hc,ht,hf⟩:=ok;dsimp only at*;have h6:n<=6:=by rw[<-hl];simpa using ht.1
 have d1:decide (b0<1)=false:=xr jq;have d2:decide (9<b0)=false:=xr jq;have d3:decide (f<0)=false:=xr jq;have d4:decide (b0<f)=false:=xr jq;have d5:decide (6<(n:Int))=false:=xr jq;have HL:=zd hl;have HC:=zd hc;have HT:=zd ht;have HF:=zd hf;clear hl hc ht hf l1 l2 f1 f2;have B0:xW w (w.alloc (.cells #[uy f,uy b0,.slice a n c] 74)):=zY;have k0:zm (w.alloc (.cells #[uy f,uy b0,.slice a n c] 74)) w.heap.size #[uy f,uy b0,.slice a n c] 74:=zm.new _ _ _;have q0:(w.alloc (.cells #[uy f,uy b0,.slice a n c] 74)).cell? ⟨w.heap.size,0,none⟩=some (uy f):=k0.cell 0 rfl;have q1:(w.alloc (.cells #[uy f,uy b0,.slice a n c] 74)).cell? ⟨w.heap.size,1,none⟩=some (uy b0):=k0.cell 1 rfl;have q2:(w.alloc (.cells #[uy f,uy b0,.slice a n c] 74)).cell? ⟨w.heap.size,2,none⟩=some (.slice a n c):=k0.cell 2 rfl;clear k0;have p0:=hr.below B0;clear hr;go_enter Tryz.func157,Tryz.ntmps157;go_wp2;obtain⟨W0,n0⟩:∃W0:World,W0=(w.alloc (.cells #[uy f,uy b0,.slice a n c] 74)):=⟨_,rfl⟩
 rw[<-n0] at B0 p0 q0 q1 q2⊢;clear n0
 go_loopw [3] (λv wr=>∃i:Nat,i<=n/\v=uy i/\xW W0 wr) (λv _=>n-(intOf v).toNat)
 case atStart=>exact⟨0,jq,rfl,Below.refl _ _⟩
 case round=>
  obtain⟨i,hi,rfl,hb⟩:=hrel;have c0:=ze hb q0;have c1:=ze hb q1;have c2:=ze hb q2;have j0:=p0.below hb;by_cases D0:i<n
  ·obtain⟨b,o,rfl,g'⟩:=j0.pair (jQ HL.o);obtain⟨g1,g2⟩:=g' i (jQ HL.o);obtain⟨t,et⟩:=jy ((q.getD i (0,0)).1);obtain⟨m,em⟩:=jy ((q.getD i (0,0)).2);rw[<-et] at g1;rw[<-em] at g2;have hm:1<=m/\m<=b0:=by rw[em];exact HC.o _ (qV (jQ HL.o))
   have s0:0<=t/\t<6:=by rw[et,<-Xy];exact HT.o.2.1 _ (qV (by have:=HL.o;simp;omega))
   have e1:decide (m<1)=false:=xr jq;have e2:decide (b0<m)=false:=xr jq;have u0:uH (∀k,k<i->(q.getD k (0,0)).1≠t):=zd (λk hk=>by
    have:=Js HT.o.2.2 (i:=i) (k:=k) (by have:=HL.o;simp;omega) hk;rw[Xy,Xy,<-et] at this;exact this)
   have v0:=zd s0;have HG:=zd g';have bA:xW wr (wr.alloc (.cells #[uy t,uy m] 151)):=zY;have kA:zm (wr.alloc (.cells #[uy t,uy m] 151)) wr.heap.size #[uy t,uy m] 151:=zm.new _ _ _;have a0:=kA.cell 0 rfl;have a1:=kA.cell 1 rfl;have x0:=ze bA c1;have m0:=ze bA c2;have i0:=hb.trans (bA.mono hb.size);have r0:=j0.below bA;clear kA bA et em hm s0 g';go_wp2_with fail;refine(jz t _ v0.out).mono ?_;rintro e w3 ⟨rfl,C0⟩;have l0:=C0.symm;subst l0;go_wp2;obtain⟨WI,o0⟩:∃WI:World,WI=(wr.alloc (.cells #[uy t,uy m] 151)):=⟨_,rfl⟩
   rw[<-o0] at a0 a1 x0 m0 i0 r0⊢;clear o0
   go_loopw [5] (λv wk=>∃j:Nat,j<=i/\v=uy j/\xW WI wk) (λv _=>i-(intOf v).toNat)
   case atStart=>exact⟨0,jq,rfl,Below.refl _ _⟩
   case round=>
    obtain⟨j,hj,rfl,d0⟩:=hrel;have f0:=ze d0 a0;have f2:=ze d0 m0;by_cases z0:j<i
    ·obtain⟨b',o',eb,h'⟩:=(r0.below d0).pair (jQ HL.o);obtain⟨rfl,rfl⟩:_/\_:=by simpa using eb
     obtain⟨u1,u2⟩:=h' j (jQ HL.o);obtain⟨t2,g0⟩:=jy ((q.getD j (0,0)).1);rw[<-g0] at u1;have t1:(t2==t)=false:=by rw[g0];simpa using u0.out j z0
     have j1:(j:Int)<(n:Int):=jq;clear h' g0 eb u2;go_wp2
     go_quiet (fail)
     go_wp2
     go_roundw
     case rel=>exact⟨j+1,jq,by go_num,below_drewN d0 _⟩
     case measure=>exact uq
    ·have y0:j=i:=jq;subst y0;go_wp2
     go_roundw
     case rel=>exact⟨j+1,jq,by go_num,i0.trans (d0.mono i0.size)⟩
     case measure=>exact uq
  ·have A0:i=n:=jq;subst A0;by_cases h0:i=0
   ·subst h0;go_wp2
    go_quiet (fail)
    go_wp2;go_ret;exact⟨rfl,below_drewN (B0.trans (hb.mono B0.size)) _⟩
   ·obtain⟨b,o,rfl,g'⟩:=j0.pair (jQ HL.o);obtain⟨g1,g2⟩:=g' 0 (jQ HL.o);have hq:f<(q.getD 0 (0,0)).2:=by
     cases hqq:q with
     |nil=>exact absurd HL.o (by rw[hqq];simpa using λh=>h0 h.symm)
     |cons x y=>exact HF.o x y hqq
    obtain⟨m,em⟩:=jy ((q.getD 0 (0,0)).2);rw[<-em] at g2 hq;rw[show o+0*2+1=o+1 by omega] at g2;have t0:((i:Int)==0)=false:=by simp;omega
    have t1:decide (f<m)=true:=xK hq;have j1:(0:Int)<(i:Int):=jq;clear g' g1 em hq;go_wp2
    go_quiet (fail)
    go_wp2;go_ret;exact⟨rfl,below_drewN (B0.trans (hb.mono B0.size)) _⟩
theorem VZ {i0:Array Oper} {rest:List Oper} {o:Oper} {ac:Act} {Q:Exit->Act->World->Prop} (l0:o.guard=none) (s x:Operand) (t:TypeId) 
  (ho:o.op= .call {callee:= .builtin .append,args:= #[s,x],argTypes:= #[t,t]}) {B:Nat} {e:TypeId} {z:Value} {size a0:Nat} (ht:P.underlying t=some (.slice e)) (d0:(P.info? e).map (λi=>(i.zero,i.size,i.bytes))=some (some z,size,a0))
  (n0:z.cells.size=size) (m0:0<size) {a:uQ} (hs:ac.eval s= .slice a 0 0) (f0:w.ownsRow B e size (.slice a 0 0) 0 [])
  {a2:uQ} {m c2:Nat} {news:uZ} (hx:ac.eval x= .slice a2 m c2) (hl:news.length=m*size) (h0:Rd w a2 news) (h1:∀u∈news,u.oneCell'=true) (b0:m*a0<=140737488355328) (k0:0<a0) (c0:B<=w.heap.size)
  (h:∀a' c' w',w'.ownsRow B e size (.slice a' m c') m news->xW w w'->(m=0->c'=0)->wpList P i0 Q rest (ac.put o.dst (.slice a' m c')) w'):wpList P i0 Q (o::rest) ac w:=by
 obtain⟨a',c',w',g0,k1,k2,_,k4⟩:=XF (P:=P) (c2:=c2) t o.type ht d0 n0 m0 f0 hl h0 h1 b0 k0 c0;refine wpList_plain l0 λK j0=> ?_;unfold Oper.wp;simp[execOp,ho,resolve,invoke,builtin,hs,hx,g0,Result.andThen];exact j0 _ _ (h a' c' w' k1 k2 k4)
inductive It where
 |blk (b:Nat) (cs:Array Value) (T:TypeId)
 |row (a:Option Addr) (n c:Nat) (E:TypeId) (sz:Nat) (cs:List Value)
def It.has (B:Nat) (W:World):It->Prop
 | .blk b cs T=>B<=b/\zm W b cs T
 | .row a n c E sz cs=>W.ownsRow B E sz (.slice a n c) n cs
def It.foot:It->List Nat
 | .blk b _ _=>[b]
 | .row a _ _ _ _ _=>(zj a).toList
theorem It.inside:∀{i:It},i.has B W->∀k∈i.foot,B<=k/\k<W.heap.size
 | .blk b cs T,h,k,hk=>by obtain rfl:=yh hk;exact⟨h.1,h.2.lt⟩
 | .row a n c E sz cs,h,k,hk=>zy h k (by simpa[It.foot] using hk)
theorem It.keep:∀{i:It},i.has B W->(∀k∈i.foot,W'.heap[k]? =W.heap[k]?)->i.has B W'
 | .blk b cs T,h,hk=>⟨h.1,(hk b yl).trans h.2⟩
 | .row a n c E sz cs,h,hk=>qX h λk a0 _=>hk k (by rw[yu] at a0;simpa[It.foot] using a0)
theorem It.foot_nodup:∀i:It,i.foot.Nodup
 | .blk _ _ _=>by simp[It.foot]
 | .row a _ _ _ _ _=>by cases h:zj a<;>simp[It.foot,h]
def zO (l:List It):List Nat:=l.flatMap It.foot
structure Fr (w W:World) (l:List It):Prop where
 bel:xW w W
 has:∀i∈l,i.has w.heap.size W
 ap:(zO l).Nodup
theorem xy (a b:List Int):zf (a++b)=zf a++zf b:=vQ
theorem JY (a b:List (Int×Int)):zK (a++b)=zK a++zK b:=List.flatMap_append
namespace Fr
variable {w W W':World} {l:List It}
theorem named (F:Fr w W l):∃x,x=W/\Fr w x l:=⟨W,rfl,F⟩
theorem start (w:World):Fr w w []:=⟨Below.refl _ _,jv,by simp[zO]⟩
theorem inside (F:Fr w W l):∀k∈zO l,w.heap.size<=k/\k<W.heap.size:=by
 intro k hk;obtain⟨i,hi,a0⟩:=List.mem_flatMap.1 hk;exact It.inside (F.has i hi) k a0
theorem call (F:Fr w W l) (hb:xW W W'):Fr w W' l:=
 ⟨F.bel.trans (hb.mono F.bel.size),λi hi=>It.keep (F.has i hi) λk hk=>hb.block k (It.inside (F.has i hi) k hk).2,F.ap⟩
theorem more (F:Fr w W l) (hb:xW W W') {i:It} (hi:i.has W.heap.size W'):Fr w W' (i::l):=by
 have F':=F.call hb;refine⟨F'.bel,λj hj=> ?_,?_⟩
 ·rcases List.mem_cons.1 hj with rfl|hj
  ·cases j with
   |blk b cs T=>exact⟨Nat.le_trans F.bel.size hi.1,hi.2⟩
   |row a n c E sz cs=>exact zw hi F.bel.size
  ·exact F'.has j hj
 ·show(i.foot++zO l).Nodup;refine List.nodup_append.2 ⟨i.foot_nodup,F.ap,λa ha b a0 e=> ?_⟩;have h1:=(It.inside hi a ha).1;have h2:=(F.inside b a0).2;omega
theorem alloc (F:Fr w W l) (cs:Array Value) (T:TypeId):Fr w (W.alloc (.cells cs T)) (.blk W.heap.size cs T::l):=
 F.more (zY) ⟨Nat.le_refl _,zm.new _ _ _⟩
theorem join {l':List It} (F:Fr w0 w l') (F':Fr w W l):Fr w0 W (l++l'):=by
 refine⟨F.bel.trans (F'.bel.mono F.bel.size),λi hi=> ?_,?_⟩
 ·rcases xM hi with hi|hi
  ·have h:=F'.has i hi
   cases i with
   |blk b cs T=>exact⟨Nat.le_trans F.bel.size h.1,h.2⟩
   |row a n c E sz cs=>exact zw h F.bel.size
  ·exact(F.call F'.bel).has i hi
 ·unfold zO;rw[List.flatMap_append];refine List.nodup_append.2 ⟨F'.ap,F.ap,λa ha b hb e=> ?_⟩;have h1:=(F'.inside a ha).1;have h2:=(F.inside b hb).2;omega
theorem row (F:Fr w W l) (hb:xW W W') (h:W'.ownsRow W.heap.size E sz (.slice a n c) n cs):Fr w W' (.row a n c E sz cs::l):=F.more hb h
theorem nil (F:Fr w W l) (E:TypeId) (sz:Nat):Fr w W (.row none 0 0 E sz []::l):=F.more xd (jf _ _ _ _)
theorem drewN (F:Fr w W l) (n:Nat):Fr w (W.drewN n) l:=F.call (j7 _ _)
theorem perm (F:Fr w W l) {l':List It} (h:l.Perm l'):Fr w W l':=⟨F.bel,λi hi=>F.has i (h.mem_iff.2 hi),(h.flatMap_right _).nodup_iff.1 F.ap⟩
theorem pull (F:Fr w W l) (k:Nat) {i:It} (hi:l[k]? =some i):Fr w W (i::l.eraseIdx k):=by
 obtain⟨hk,a0⟩:=YN.1 hi;refine F.perm ?_;have e0:l=l.take k++i::l.drop (k+1):=by rw[<-a0,List.getElem_cons_drop,List.take_append_drop]
 rw[List.eraseIdx_eq_take_drop_succ]
 conv=>lhs;rw[e0]
 exact List.perm_middle
theorem drew (F:Fr w W l):Fr w W.drew l:=F.call xd.drew
theorem step (F:Fr w W l) (k:Nat) {i:It} (hi:l[k]? =some i) (T:zo i.foot W W') {i':It} (h':i'.has w.heap.size W') (hf:∀q∈i'.foot,q∈i.foot\/W.heap.size<=q):Fr w W' (l.set k i'):=by
 obtain⟨hk,c0⟩:=YN.1 hi;have e0:l=l.take k++i::l.drop (k+1):=by rw[<-c0,List.getElem_cons_drop,List.take_append_drop]
 have e1:l.set k i'=l.take k++i'::l.drop (k+1):=List.set_eq_take_append_cons_drop.trans (by rw[if_pos hk]);have ha:=F.ap;rw[e0] at ha;rw[e1];obtain⟨l1,h1⟩:=jy (l.take k);obtain⟨l2,h2⟩:=jy (l.drop (k+1));rw[<-h1,<-h2] at e0 ha⊢;have b0:=F.inside;have a0:=F.has;rw[e0] at b0 a0;simp only[zO,List.flatMap_append,List.flatMap_cons,List.nodup_append,List.mem_append,List.mem_flatMap] at ha b0;obtain⟨a1,⟨ai,a2,a3⟩,a4⟩:=ha;refine⟨F.bel.trans (T.below F.bel.size λq hq=>(It.inside (F.has i (vB hi)) q hq).1),?_,?_⟩
 ·intro j hj;rcases xM hj with hj|hj
  ·exact It.keep (a0 j (by simp[hj])) λq hq=>T.block q (It.inside (a0 j (by simp[hj])) q hq).2 λhm=>a4 q ⟨j,hj,hq⟩ q (.inl hm) rfl
  ·rcases List.mem_cons.1 hj with rfl|hj
   ·exact h'
   ·exact It.keep (a0 j (by simp[hj])) λq hq=>T.block q (It.inside (a0 j (by simp[hj])) q hq).2 λhm=>a3 q hm q ⟨j,hj,hq⟩ rfl
 ·simp only[zO,List.flatMap_append,List.flatMap_cons,List.nodup_append,List.mem_append,List.mem_flatMap];refine⟨a1,⟨i'.foot_nodup,a2,λq hq r hr e=> ?_⟩,λq hq r hr e=> ?_⟩
  ·subst e;rcases hf q hq with h|h
   ·exact a3 q h q hr rfl
   ·have:=(b0 q (.inr (.inr hr))).2;omega
  ·subst e;rcases hr with hr|hr
   ·rcases hf q hr with h|h
    ·exact a4 q hq q (.inl h) rfl
    ·have:=(b0 q (.inl hq)).2;omega
   ·exact a4 q hq q (.inr hr) rfl
theorem set (F:Fr w W l) (k:Nat) {cs:Array Value} (hi:l[k]? =some (.blk b cs T)) (j:Nat) (v:Value):Fr w (W.setCell ⟨b,j,none⟩ v) (l.set k (.blk b (cs.setIfInBounds j v) T)):=by
 have h:=F.has _ (vB hi);exact F.step k hi ((zo.refl _ _).set yl) ⟨h.1,h.2.set j v⟩ λq hq=> .inl hq
theorem app (F:Fr w W l) (k:Nat) {a':uQ} {n' c':Nat} {cs':uZ} (hi:l[k]? =some (.row a n c E sz cs)) (hg:W.grownBy W' (zj a)) (h':W'.ownsRow w.heap.size E sz (.slice a' n' c') n' cs') (hn:∀q,zj a'=some q->zj a=some q\/W.heap.size<=q):Fr w W' (l.set k (.row a' n' c' E sz cs')):=
 F.step k hi (zo.of_grown hg λq hq=>by simp[It.foot,hq]) h' λq hq=>(hn q (by simpa[It.foot] using hq)).imp (λh=>by simp[It.foot,h]) id
theorem blk (F:Fr w W l) (k:Nat) {cs:Array Value} (hi:l[k]? =some (.blk b cs T)):zm W b cs T:=(F.has _ (vB hi)).2
theorem cell (F:Fr w W l) (k j:Nat) {cs:Array Value} {v:Value} (hi:l[k]? =some (.blk b cs T)) (hv:cs[j]? =some v):W.cell? ⟨b,j,none⟩=some v:=(F.blk k hi).cell j hv
theorem fz (F:Fr w W l) (k j:Nat) {cs:Array Value} (hi:l[k]? =some (.blk b cs T)):W.frozen? ⟨b,j,none⟩=false:=(F.blk k hi).fz j
theorem own (F:Fr w W l) (k:Nat) (hi:l[k]? =some (.row a n c E sz cs)):W.ownsRow w.heap.size E sz (.slice a n c) n cs:=F.has _ (vB hi)
theorem foots_sub:∀{l' l:List It},List.Sublist l' l->List.Sublist (zO l') (zO l)
 |_,_,.slnil=> .slnil
 |_,_,.cons i h=>(foots_sub h).trans (List.sublist_append_right _ _)
 |_,_,.cons_cons i h=>(List.Sublist.refl _).append (foots_sub h)
theorem sub (F:Fr w W l) {l':List It} (h:List.Sublist l' l):Fr w W l':=⟨F.bel,λi hi=>F.has i (h.subset hi),F.ap.sublist (foots_sub h)⟩
theorem ne (F:Fr w W l) (k k':Nat) {b':Nat} {cs cs':Array Value} {T':TypeId} (hi:l[k]? =some (.blk b cs T)) (a0:l[k']? =some (.blk b' cs' T')) (hk:k<k'):b≠b':=by
 intro e;subst e;obtain⟨h1,e1⟩:=YN.1 hi;obtain⟨h2,e2⟩:=YN.1 a0;have ha:=F.ap;rw[<-List.take_append_drop k' l] at ha;simp only[zO,List.flatMap_append,List.nodup_append,List.mem_flatMap] at ha;refine ha.2.2 b ⟨.blk b cs T,?_,List.mem_singleton.2 rfl⟩ b ⟨.blk b cs' T',?_,List.mem_singleton.2 rfl⟩ rfl
 ·exact vB (i:=k) (by rw[List.getElem?_take];simp[hk,hi])
 ·exact vB (i:=0) (by rw[List.getElem?_drop];simpa using a0)
theorem c1 (F:Fr w W l) (k:Nat) {v0:Value} (hi:l[k]? =some (.blk b #[v0] T)):W.cell? ⟨b,0,none⟩=some v0/\W.frozen? ⟨b,0,none⟩=false:=⟨F.cell k 0 hi rfl,F.fz k 0 hi⟩
theorem c2 (F:Fr w W l) (k:Nat) {v0 v1:Value} (hi:l[k]? =some (.blk b #[v0,v1] T)):W.cell? ⟨b,0,none⟩=some v0/\W.frozen? ⟨b,0,none⟩=false/\W.cell? ⟨b,1,none⟩=some v1/\W.frozen? ⟨b,1,none⟩=false:=⟨F.cell k 0 hi rfl,F.fz k 0 hi,F.cell k 1 hi rfl,F.fz k 1 hi⟩
theorem c3 (F:Fr w W l) (k:Nat) {v0 v1 v2:Value} (hi:l[k]? =some (.blk b #[v0,v1,v2] T)):W.cell? ⟨b,0,none⟩=some v0/\W.frozen? ⟨b,0,none⟩=false/\W.cell? ⟨b,1,none⟩=some v1/\W.frozen? ⟨b,1,none⟩=false/\W.cell? ⟨b,2,none⟩=some v2/\W.frozen? ⟨b,2,none⟩=false:=⟨F.cell k 0 hi rfl,F.fz k 0 hi,F.cell k 1 hi rfl,F.fz k 1 hi,F.cell k 2 hi rfl,F.fz k 2 hi⟩
theorem c4 (F:Fr w W l) (k:Nat) {v0 v1 v2 v3:Value} (hi:l[k]? =some (.blk b #[v0,v1,v2,v3] T)):W.cell? ⟨b,0,none⟩=some v0/\W.frozen? ⟨b,0,none⟩=false/\W.cell? ⟨b,1,none⟩=some v1/\W.frozen? ⟨b,1,none⟩=false/\W.cell? ⟨b,2,none⟩=some v2/\W.frozen? ⟨b,2,none⟩=false/\W.cell? ⟨b,3,none⟩=some v3/\W.frozen? ⟨b,3,none⟩=false:=⟨F.cell k 0 hi rfl,F.fz k 0 hi,F.cell k 1 hi rfl,F.fz k 1 hi,F.cell k 2 hi rfl,F.fz k 2 hi,F.cell k 3 hi rfl,F.fz k 3 hi⟩
theorem c5 (F:Fr w W l) (k:Nat) {v0 v1 v2 v3 v4:Value} (hi:l[k]? =some (.blk b #[v0,v1,v2,v3,v4] T)):W.cell? ⟨b,0,none⟩=some v0/\W.frozen? ⟨b,0,none⟩=false/\W.cell? ⟨b,1,none⟩=some v1/\W.frozen? ⟨b,1,none⟩=false/\W.cell? ⟨b,2,none⟩=some v2/\W.frozen? ⟨b,2,none⟩=false/\W.cell? ⟨b,3,none⟩=some v3/\W.frozen? ⟨b,3,none⟩=false/\W.cell? ⟨b,4,none⟩=some v4/\W.frozen? ⟨b,4,none⟩=false:=⟨F.cell k 0 hi rfl,F.fz k 0 hi,F.cell k 1 hi rfl,F.fz k 1 hi,F.cell k 2 hi rfl,F.fz k 2 hi,F.cell k 3 hi rfl,F.fz k 3 hi,F.cell k 4 hi rfl,F.fz k 4 hi⟩
theorem c9 (F:Fr w W l) (k:Nat) {v0 v1 v2 v3 v4 v5 v6 v7 v8:Value} (hi:l[k]? =some (.blk b #[v0,v1,v2,v3,v4,v5,v6,v7,v8] T)):W.cell? ⟨b,0,none⟩=some v0/\W.frozen? ⟨b,0,none⟩=false/\W.cell? ⟨b,1,none⟩=some v1/\W.frozen? ⟨b,1,none⟩=false/\W.cell? ⟨b,2,none⟩=some v2/\W.frozen? ⟨b,2,none⟩=false/\W.cell? ⟨b,3,none⟩=some v3/\W.frozen? ⟨b,3,none⟩=false/\W.cell? ⟨b,4,none⟩=some v4/\W.frozen? ⟨b,4,none⟩=false/\W.cell? ⟨b,5,none⟩=some v5/\W.frozen? ⟨b,5,none⟩=false/\W.cell? ⟨b,6,none⟩=some v6/\W.frozen? ⟨b,6,none⟩=false/\W.cell? ⟨b,7,none⟩=some v7/\W.frozen? ⟨b,7,none⟩=false/\W.cell? ⟨b,8,none⟩=some v8/\W.frozen? ⟨b,8,none⟩=false:=⟨F.cell k 0 hi rfl,F.fz k 0 hi,F.cell k 1 hi rfl,F.fz k 1 hi,F.cell k 2 hi rfl,F.fz k 2 hi,F.cell k 3 hi rfl,F.fz k 3 hi,F.cell k 4 hi rfl,F.fz k 4 hi,F.cell k 5 hi rfl,F.fz k 5 hi,F.cell k 6 hi rfl,F.fz k 6 hi,F.cell k 7 hi rfl,F.fz k 7 hi,F.cell k 8 hi rfl,F.fz k 8 hi⟩
theorem set2 (F:Fr w W l) (k:Nat) {u0 u1:Value} (hi:l[k]? =some (.blk b #[u0,u1] T)) (v0 v1:Value):Fr w ((W.setCell ⟨b,0,none⟩ v0).setCell ⟨b,1,none⟩ v1) (l.set k (.blk b #[v0,v1] T)):=by
 have h:=F.has _ (vB hi);exact F.step k hi (((zo.refl _ _).set yl).set yl) ⟨h.1,((h.2.set 0 v0).set 1 v1)⟩ λq hq=> .inl hq
theorem set3 (F:Fr w W l) (k:Nat) {u0 u1 u2:Value} (hi:l[k]? =some (.blk b #[u0,u1,u2] T)) (v0 v1 v2:Value):Fr w (((W.setCell ⟨b,0,none⟩ v0).setCell ⟨b,1,none⟩ v1).setCell ⟨b,2,none⟩ v2) (l.set k (.blk b #[v0,v1,v2] T)):=by
 have h:=F.has _ (vB hi);exact F.step k hi ((((zo.refl _ _).set yl).set yl).set yl) ⟨h.1,(((h.2.set 0 v0).set 1 v1).set 2 v2)⟩ λq hq=> .inl hq
theorem set4 (F:Fr w W l) (k:Nat) {u0 u1 u2 u3:Value} (hi:l[k]? =some (.blk b #[u0,u1,u2,u3] T)) (v0 v1 v2 v3:Value):Fr w ((((W.setCell ⟨b,0,none⟩ v0).setCell ⟨b,1,none⟩ v1).setCell ⟨b,2,none⟩ v2).setCell ⟨b,3,none⟩ v3) (l.set k (.blk b #[v0,v1,v2,v3] T)):=by
 have h:=F.has _ (vB hi);exact F.step k hi (((((zo.refl _ _).set yl).set yl).set yl).set yl) ⟨h.1,((((h.2.set 0 v0).set 1 v1).set 2 v2).set 3 v3)⟩ λq hq=> .inl hq
theorem set5 (F:Fr w W l) (k:Nat) {u0 u1 u2 u3 u4:Value} (hi:l[k]? =some (.blk b #[u0,u1,u2,u3,u4] T)) (v0 v1 v2 v3 v4:Value):Fr w (((((W.setCell ⟨b,0,none⟩ v0).setCell ⟨b,1,none⟩ v1).setCell ⟨b,2,none⟩ v2).setCell ⟨b,3,none⟩ v3).setCell ⟨b,4,none⟩ v4) (l.set k (.blk b #[v0,v1,v2,v3,v4] T)):=by
 have h:=F.has _ (vB hi);exact F.step k hi ((((((zo.refl _ _).set yl).set yl).set yl).set yl).set yl) ⟨h.1,(((((h.2.set 0 v0).set 1 v1).set 2 v2).set 3 v3).set 4 v4)⟩ λq hq=> .inl hq
theorem set9 (F:Fr w W l) (k:Nat) {u0 u1 u2 u3 u4 u5 u6 u7 u8:Value} (hi:l[k]? =some (.blk b #[u0,u1,u2,u3,u4,u5,u6,u7,u8] T)) (v0 v1 v2 v3 v4 v5 v6 v7 v8:Value):Fr w (((((((((W.setCell ⟨b,0,none⟩ v0).setCell ⟨b,1,none⟩ v1).setCell ⟨b,2,none⟩ v2).setCell ⟨b,3,none⟩ v3).setCell ⟨b,4,none⟩ v4).setCell ⟨b,5,none⟩ v5).setCell ⟨b,6,none⟩ v6).setCell ⟨b,7,none⟩ v7).setCell ⟨b,8,none⟩ v8) (l.set k (.blk b #[v0,v1,v2,v3,v4,v5,v6,v7,v8] T)):=by
 have h:=F.has _ (vB hi);exact F.step k hi ((((((((((zo.refl _ _).set yl).set yl).set yl).set yl).set yl).set yl).set yl).set yl).set yl) ⟨h.1,by have h9:=(((((((((h.2.set 0 v0).set 1 v1).set 2 v2).set 3 v3).set 4 v4).set 5 v5).set 6 v6).set 7 v7).set 8 v8);simpa using h9⟩ λq hq=> .inl hq
theorem setV (h:Fr w W l) (k:Nat) {u0 u1 u2 u3 u4 u5 u6 u7 u8:Value} (hi:l[k]? =some (.blk b #[u0,u1,u2,u3,u4,u5,u6,u7,u8] T)) (y:zu):Fr w (((((((((W.setCell ⟨b,0,none⟩ (.slice y.pl.a y.pl.n y.pl.c)).setCell ⟨b,1,none⟩ (.slice y.st.a y.st.n y.st.c)).setCell ⟨b,2,none⟩ (.slice y.se.a y.se.n y.se.c)).setCell ⟨b,3,none⟩ (.slice y.on.a y.on.n y.on.c)).setCell ⟨b,4,none⟩ (.slice y.gr.a y.gr.n y.gr.c)).setCell ⟨b,5,none⟩ (.slice y.ba.a y.ba.n y.ba.c)).setCell ⟨b,6,none⟩ (.slice y.ch.a y.ch.n y.ch.c)).setCell ⟨b,7,none⟩ (.slice y.sa.a y.sa.n y.sa.c)).setCell ⟨b,8,none⟩ (.int .i64 y.fl)) (l.set k (.blk b (yN y) T)):=h.set9 k hi _ _ _ _ _ _ _ _ _
theorem setZ (h:Fr w W l) (k:Nat) {u0 u1 u2 u3 u4 u5 u6 u7 u8:Value} (hi:l[k]? =some (.blk b #[u0,u1,u2,u3,u4,u5,u6,u7,u8] T)):Fr w (((((((((W.setCell ⟨b,0,none⟩ (.slice none 0 0)).setCell ⟨b,1,none⟩ (.slice none 0 0)).setCell ⟨b,2,none⟩ (.slice none 0 0)).setCell ⟨b,3,none⟩ (.slice none 0 0)).setCell ⟨b,4,none⟩ (.slice none 0 0)).setCell ⟨b,5,none⟩ (.slice none 0 0)).setCell ⟨b,6,none⟩ (.slice none 0 0)).setCell ⟨b,7,none⟩ (.slice none 0 0)).setCell ⟨b,8,none⟩ (.int .i64 0)) (l.set k (.blk b zC T)):=h.set9 k hi _ _ _ _ _ _ _ _ _
theorem apart (F:Fr w W l) (k k':Nat) {i i':It} (hi:l[k]? =some i) (a0:l[k']? =some i') (hk:k<k'):∀q∈i.foot,q∉i'.foot:=by
 intro q h1 h2;have ha:=F.ap;rw[<-List.take_append_drop k' l] at ha;simp only[zO,List.flatMap_append,List.nodup_append,List.mem_flatMap] at ha;refine ha.2.2 q ⟨i,?_,h1⟩ q ⟨i',?_,h2⟩ rfl
 ·exact vB (i:=k) (by rw[List.getElem?_take];simp[hk,hi])
 ·exact vB (i:=0) (by rw[List.getElem?_drop];simpa using a0)
theorem rd (F:Fr w W l) (h:Rd w a cs):Rd W a cs:=h.below F.bel
theorem rdRow (F:Fr w W l) (k:Nat) (hi:l[k]? =some (.row a n c E sz cs)):Rd W a cs:=Rd.of_owns (F.own k hi)
theorem sln (F:Fr w W l) (k:Nat) (hi:l[k]? =some (.row a n c E sz cs)) (he:E∉QA:=by decide):yy w W ⟨a,n,c⟩ cs n:=yy.of_owns (F.own k hi) yk he
section
variable {P:Program} {ops:Array Oper} {rest:List Oper} {o:Oper} {ac:Act} {Q:Exit->Act->World->Prop}
theorem wpApp (F:Fr w W l) (k:Nat) (g0:o.guard=none) (s x:Operand) (t:TypeId) (ho:o.op= .call {callee:= .builtin .append,args:= #[s,x],argTypes:= #[t,t]})
  {e:TypeId} {z:Value} {size a0:Nat} (ht:P.underlying t=some (.slice e)) (c0:(P.info? e).map (λi=>(i.zero,i.size,i.bytes))=some (some z,size,a0)) (j0:z.cells.size=size) (i0:0<size)
  {a:uQ} {n c:Nat} {xs:uZ} (hi:l[k]? =some (.row a n c e size xs)) (hs:ac.eval s= .slice a n c)
  {a2:uQ} {m c2:Nat} {news:uZ} (hx:ac.eval x= .slice a2 m c2) (hl:news.length=m*size) (d0:Rd W a2 news) (h1:∀u∈news,u.oneCell'=true) (b0:(n+m)*a0<=140737488355328) (f0:0<a0)
  (h:∀a' c' W',Fr w W' (l.set k (.row a' (n+m) c' e size (xs++news)))->wpList P ops Q rest (ac.put o.dst (.slice a' (n+m) c')) W'):wpList P ops Q (o::rest) ac W:=
 yP g0 s x t ho ht c0 j0 i0 hs (F.own k hi) hx hl d0 h1 b0 f0 F.bel.size λa' c' W' h0 hg hn=>h a' c' W' (F.app k hi hg h0 hn)
end
end Fr
section
variable {w W:World} {l:List It} {ops:Array Oper} {rest:List Oper} {o:Oper} {ac:Act} {Q:Exit->Act->World->Prop}
theorem Fr.appI (F:Fr w W l) (k:Nat) (b0:o.guard=none) (s x:Operand) (ho:o.op= .call {callee:= .builtin .append,args:= #[s,x],argTypes:= #[23,23]})
  {a:uQ} {n c:Nat} {xs:uZ} (hi:l[k]? =some (.row a n c 3 1 xs)) (hs:ac.eval s= .slice a n c) {a2:uQ} {m c2:Nat} (ys:List Int) (hx:ac.eval x= .slice a2 m c2) (hl:ys.length=m) (a0:Rd W a2 (zf ys)) (hb:n+m<=1048576)
  (h:∀a' c' W',Fr w W' (l.set k (.row a' (n+m) c' 3 1 (xs++zf ys)))->wpList Tryz.prog ops Q rest (ac.put o.dst (.slice a' (n+m) c')) W'):wpList Tryz.prog ops Q (o::rest) ac W:=
 F.wpApp k b0 s x _ ho Tryz.underlying23 yb rfl jk hi hs hx (by rw[yG,hl,Nat.mul_one]) a0 (yA ys) jq jk h
theorem Fr.appW (F:Fr w W l) (k:Nat) (b0:o.guard=none) (s x:Operand) (ho:o.op= .call {callee:= .builtin .append,args:= #[s,x],argTypes:= #[72,72]})
  {a:uQ} {n c:Nat} {xs:uZ} (hi:l[k]? =some (.row a n c 151 2 xs)) (hs:ac.eval s= .slice a n c) {a2:uQ} {m c2:Nat} (ys:List (Int×Int)) (hx:ac.eval x= .slice a2 m c2) (hl:ys.length=m) (a0:Rd W a2 (zK ys)) (hb:n+m<=1048576)
  (h:∀a' c' W',Fr w W' (l.set k (.row a' (n+m) c' 151 2 (xs++zK ys)))->wpList Tryz.prog ops Q rest (ac.put o.dst (.slice a' (n+m) c')) W'):wpList Tryz.prog ops Q (o::rest) ac W:=
 F.wpApp k b0 s x _ ho Tryz.underlying72 JV rfl jk hi hs hx (by rw[vZ,hl]) a0 (XZ ys) jq jk h
theorem GA:(Tryz.prog.info? 154).map (λi=>(i.zero,i.size,i.bytes))=some (some (.agg #[uy 0,uy 0]),2,16):=by kernel_rfl
theorem Fr.appL (F:Fr w W l) (k:Nat) (b0:o.guard=none) (s x:Operand) (ho:o.op= .call {callee:= .builtin .append,args:= #[s,x],argTypes:= #[96,96]})
  {a:uQ} {n c:Nat} {xs:uZ} (hi:l[k]? =some (.row a n c 154 2 xs)) (hs:ac.eval s= .slice a n c) {a2:uQ} {m c2:Nat} (ys:List (Int×Int)) (hx:ac.eval x= .slice a2 m c2) (hl:ys.length=m) (a0:Rd W a2 (zK ys)) (hb:n+m<=1048576)
  (h:∀a' c' W',Fr w W' (l.set k (.row a' (n+m) c' 154 2 (xs++zK ys)))->wpList Tryz.prog ops Q rest (ac.put o.dst (.slice a' (n+m) c')) W'):wpList Tryz.prog ops Q (o::rest) ac W:=
 F.wpApp k b0 s x _ ho Tryz.underlying96 GA rfl jk hi hs hx (by rw[vZ,hl]) a0 (XZ ys) jq jk h
end
structure GE (s:zp):Prop where
 pl:0<s.places.length/\s.places.length<=1048576
 st:0<s.status.length/\s.status.length<=1048576
 sa:s.said.length<=1048576
 se:s.sems.length<=1048576
 on:s.onces.length<=1048576
 gr:s.groups.length<=1048576
 ba:s.bars.length<=1048576
 ch:s.chans.length<=1048576
 qse:∀i,(s.sems.getD i yi).queue.length<=1048576
 qon:∀i,(s.onces.getD i zH).waits.length<=1048576
 qgr:∀i,(s.groups.getD i yH).waits.length<=1048576
 qba:∀i,(s.bars.getD i ye).waits.length<=1048576
 qch:∀i,(s.chans.getD i yq).items.length<=1048576/\(s.chans.getD i yq).senders.length<=1048576/\(s.chans.getD i yq).getters.length<=1048576
def xU (s:zp) (a b c d e:Nat):zp:=⟨s.places,s.status,s.sems.take a,s.onces.take b,s.groups.take c,s.bars.take d,s.chans.take e,s.said,s.fault⟩
theorem xQ (l:List α) (d:α) (hj:j<l.length):l.take j++[l.getD j d]=l.take (j+1):=by
 rw[List.take_add_one,xV hj,xm,xV hj];rfl
theorem kt (s:zp):xU s s.sems.length s.onces.length s.groups.length s.bars.length s.chans.length=s:=by
 simp only[xU,List.take_length]
theorem ko:(Tryz.prog.info? 74).map (λi=>(i.zero,i.size,i.bytes))=some (some (.agg #[uy 0,uy 0,uk]),3,40):=by kernel_rfl
theorem VM:(Tryz.prog.info? 81).map (λi=>(i.zero,i.size,i.bytes))=some (some (.agg #[uy 0,uy 0,uy 0,uk]),4,48):=by kernel_rfl
theorem kx:(Tryz.prog.info? 87).map (λi=>(i.zero,i.size,i.bytes))=some (some (.agg #[uy 0,uk]),2,32):=by kernel_rfl
theorem tL:(Tryz.prog.info? 93).map (λi=>(i.zero,i.size,i.bytes))=some (some (.agg #[uy 0,uy 0,uk]),3,40):=by kernel_rfl
theorem tT:(Tryz.prog.info? 98).map (λi=>(i.zero,i.size,i.bytes))=some (some (.agg #[uy 0,uk,uk,uk,.bool false]),5,88):=by kernel_rfl
theorem dO {w:World} {B':Nat} {e':TypeId} {n':Nat} {a':uQ} {cs':uZ} (h:w.ownsRow B e 1 (.slice a n c) n cs) (h':w.ownsRow B' e' 1 (.slice a' n' 0) n' cs') (hn:0<n):∀k,zj a=some k->zj a'≠some k:=by
 intro k hk b0;have h1:=(yB h).1;rcases h.2 with ⟨e1,e2⟩|⟨g,cap,f0,e1,_,hg,_,_,hs,_⟩
 ·simp only[Value.slice.injEq] at e1;omega
 ·simp only[Value.slice.injEq,true_and] at e1;obtain⟨rfl,rfl⟩:=e1;obtain rfl:g=k:=by simpa[zj] using hk
  rcases h'.2 with ⟨e1,e2⟩|⟨g',c0,d0,e1,_,a0,_,_,g0,_⟩
  ·simp only[Value.slice.injEq] at e1;rw[e1.1] at b0;cases b0
  ·simp only[Value.slice.injEq,true_and] at e1;obtain⟨rfl,rfl⟩:=e1;obtain rfl:g'=g:=by simpa[zj] using b0
   rw[hg] at a0;simp only[qy,Obj.cells.injEq] at a0;rw[a0.1] at hs;omega
theorem Ge:∀{l:List It} {k:Nat} {i i':It},l[k]? =some i->i'.foot=i.foot->zO (l.set k i')=zO l
 |[],k,_,_,h,_=>by simp at h
 |j::l,0,i,i',h,e=>by
  obtain rfl:j=i:=by simpa using h
  show i'.foot++zO l=j.foot++zO l;rw[e]
 |j::l,k+1,i,i',h,e=>by
  show j.foot++zO (l.set k i')=j.foot++zO l;rw[Ge (by simpa using h) e]
theorem YQ {l:List It} {i:It} (h:l[k]? =some i):∀q∈i.foot,q∈zO l:=λ_ hq=>List.mem_flatMap.2 ⟨i,vB h,hq⟩
theorem Fr.other {w W W':World} {l:List It} (F:Fr w W l) (T:zo S W W') (hS:∀k∈S,w.heap.size<=k/\k∉zO l):Fr w W' l:=
 ⟨F.bel.trans (T.below F.bel.size λq hq=>(hS q hq).1),λi hi=>It.keep (F.has i hi) λq hq=>T.block q (It.inside (F.has i hi) q hq).2 λhm=>(hS q hm).2 (List.mem_flatMap.2 ⟨i,hi,hq⟩),F.ap⟩
structure Sf (w W:World) (l:List It) (v:zu) (L:zQ) (s:zp):Prop where
 fr:Fr w W l
 st:yr (zO l) w.heap.size W v L s
namespace Sf
variable {w W W':World} {l:List It} {v v':zu} {L L':zQ} {s s':zp}
theorem named (h:Sf w W l v L s):∃x,x=W/\Sf w x l v L s:=⟨W,rfl,h⟩
theorem call (h:Sf w W l v L s) (hb:xW W W'):Sf w W' l v L s:=⟨h.fr.call hb,h.st.below hb⟩
theorem drewN (h:Sf w W l v L s) (n:Nat):Sf w (W.drewN n) l v L s:=h.call (j7 _ _)
theorem drew (h:Sf w W l v L s):Sf w W.drew l v L s:=h.call xd.drew
theorem more (h:Sf w W l v L s) (hb:xW W W') {i:It} (hi:i.has W.heap.size W'):Sf w W' (i::l) v L s:=⟨h.fr.more hb hi,h.st.boxAll hb (It.inside hi)⟩
theorem alloc (h:Sf w W l v L s) (cs:Array Value) (T:TypeId):Sf w (W.alloc (.cells cs T)) (.blk W.heap.size cs T::l) v L s:=h.more (zY) ⟨Nat.le_refl _,zm.new _ _ _⟩
theorem row (h:Sf w W l v L s) (hb:xW W W') (ho:W'.ownsRow W.heap.size E sz (.slice a n c) n cs):Sf w W' (.row a n c E sz cs::l) v L s:=h.more hb ho
theorem nil (h:Sf w W l v L s) (E:TypeId) (sz:Nat):Sf w W (.row none 0 0 E sz []::l) v L s:=h.more xd (jf _ _ _ _)
theorem join {l':List It} (h:Sf w W l v L s) (F:Fr W W' l'):Sf w W' (l'++l) v L s:=⟨h.fr.join F,by
 have:=h.st.boxAll F.bel (A:=zO l') F.inside;rwa [show zO (l'++l)=zO l'++zO l from List.flatMap_append]⟩
theorem sub (h:Sf w W l v L s) {l':List It} (hs:List.Sublist l' l):Sf w W l' v L s:=⟨h.fr.sub hs,h.st.sub λ_ hk=>(Fr.foots_sub hs).subset hk⟩
theorem pull (h:Sf w W l v L s) (k:Nat) {i:It} (hi:l[k]? =some i):Sf w W (i::l.eraseIdx k) v L s:=⟨h.fr.pull k hi,h.st.sub λq hq=>by
 obtain⟨j,hj,a0⟩:=List.mem_flatMap.1 hq;rcases List.mem_cons.1 hj with rfl|hj
 ·exact YQ hi q a0
 ·exact List.mem_flatMap.2 ⟨j,List.mem_of_mem_eraseIdx hj,a0⟩⟩
theorem step (h:Sf w W l v L s) (k:Nat) {i:It} (hi:l[k]? =some i) (T:zo i.foot W W') {i':It} (h':i'.has w.heap.size W') (hf:i'.foot=i.foot):Sf w W' (l.set k i') v L s:=
 ⟨h.fr.step k hi T h' λq hq=> .inl (hf▸hq),by rw[Ge hi hf];exact h.st.other (T.mono (YQ hi))⟩
theorem set (h:Sf w W l v L s) (k:Nat) {cs:Array Value} (hi:l[k]? =some (.blk b cs T)) (j:Nat) (x:Value):Sf w (W.setCell ⟨b,j,none⟩ x) (l.set k (.blk b (cs.setIfInBounds j x) T)) v L s:=by
 have hh:=h.fr.has _ (vB hi);exact h.step k hi ((zo.refl _ _).set yl) ⟨hh.1,hh.2.set j x⟩ rfl
theorem blks (h:Sf w W l v L s):∀k∈v.blks,w.heap.size<=k/\k∉zO l:=λk hk=>⟨(h.st.from k hk).1,λhm=>(h.st.xs k hm).2 hk⟩
theorem upd (h:Sf w W l v L s) (T:zo v.blks W W') (hs:yr (zO l) w.heap.size W' v' L' s'):Sf w W' l v' L' s':=⟨h.fr.other T h.blks,hs⟩
theorem bel (h:Sf w W l v L s):xW w W:=h.fr.bel
theorem rd (h:Sf w W l v L s):yZ W v L s:=h.st.rd
theorem c2 (h:Sf w W l v L s) (k:Nat) {v0 v1:Value} (hi:l[k]? =some (.blk b #[v0,v1] T)):W.cell? ⟨b,0,none⟩=some v0/\W.frozen? ⟨b,0,none⟩=false/\W.cell? ⟨b,1,none⟩=some v1/\W.frozen? ⟨b,1,none⟩=false:=h.fr.c2 k hi
theorem c3 (h:Sf w W l v L s) (k:Nat) {v0 v1 v2:Value} (hi:l[k]? =some (.blk b #[v0,v1,v2] T)):W.cell? ⟨b,0,none⟩=some v0/\W.frozen? ⟨b,0,none⟩=false/\W.cell? ⟨b,1,none⟩=some v1/\W.frozen? ⟨b,1,none⟩=false/\W.cell? ⟨b,2,none⟩=some v2/\W.frozen? ⟨b,2,none⟩=false:=h.fr.c3 k hi
theorem c4 (h:Sf w W l v L s) (k:Nat) {v0 v1 v2 v3:Value} (hi:l[k]? =some (.blk b #[v0,v1,v2,v3] T)):W.cell? ⟨b,0,none⟩=some v0/\W.frozen? ⟨b,0,none⟩=false/\W.cell? ⟨b,1,none⟩=some v1/\W.frozen? ⟨b,1,none⟩=false/\W.cell? ⟨b,2,none⟩=some v2/\W.frozen? ⟨b,2,none⟩=false/\W.cell? ⟨b,3,none⟩=some v3/\W.frozen? ⟨b,3,none⟩=false:=h.fr.c4 k hi
theorem c5 (h:Sf w W l v L s) (k:Nat) {v0 v1 v2 v3 v4:Value} (hi:l[k]? =some (.blk b #[v0,v1,v2,v3,v4] T)):W.cell? ⟨b,0,none⟩=some v0/\W.frozen? ⟨b,0,none⟩=false/\W.cell? ⟨b,1,none⟩=some v1/\W.frozen? ⟨b,1,none⟩=false/\W.cell? ⟨b,2,none⟩=some v2/\W.frozen? ⟨b,2,none⟩=false/\W.cell? ⟨b,3,none⟩=some v3/\W.frozen? ⟨b,3,none⟩=false/\W.cell? ⟨b,4,none⟩=some v4/\W.frozen? ⟨b,4,none⟩=false:=h.fr.c5 k hi
theorem c9 (h:Sf w W l v L s) (k:Nat) {v0 v1 v2 v3 v4 v5 v6 v7 v8:Value} (hi:l[k]? =some (.blk b #[v0,v1,v2,v3,v4,v5,v6,v7,v8] T)):W.cell? ⟨b,0,none⟩=some v0/\W.frozen? ⟨b,0,none⟩=false/\W.cell? ⟨b,1,none⟩=some v1/\W.frozen? ⟨b,1,none⟩=false/\W.cell? ⟨b,2,none⟩=some v2/\W.frozen? ⟨b,2,none⟩=false/\W.cell? ⟨b,3,none⟩=some v3/\W.frozen? ⟨b,3,none⟩=false/\W.cell? ⟨b,4,none⟩=some v4/\W.frozen? ⟨b,4,none⟩=false/\W.cell? ⟨b,5,none⟩=some v5/\W.frozen? ⟨b,5,none⟩=false/\W.cell? ⟨b,6,none⟩=some v6/\W.frozen? ⟨b,6,none⟩=false/\W.cell? ⟨b,7,none⟩=some v7/\W.frozen? ⟨b,7,none⟩=false/\W.cell? ⟨b,8,none⟩=some v8/\W.frozen? ⟨b,8,none⟩=false:=h.fr.c9 k hi
theorem set3 (h:Sf w W l v L s) (k:Nat) {u0 u1 u2:Value} (hi:l[k]? =some (.blk b #[u0,u1,u2] T)) (v0 v1 v2:Value):Sf w (((W.setCell ⟨b,0,none⟩ v0).setCell ⟨b,1,none⟩ v1).setCell ⟨b,2,none⟩ v2) (l.set k (.blk b #[v0,v1,v2] T)) v L s:=by
 have hh:=h.fr.has _ (vB hi);exact h.step k hi ((((zo.refl _ _).set yl).set yl).set yl) ⟨hh.1,by have h9:=(((hh.2.set 0 v0).set 1 v1).set 2 v2);simpa using h9⟩ rfl
theorem set9 (h:Sf w W l v L s) (k:Nat) {u0 u1 u2 u3 u4 u5 u6 u7 u8:Value} (hi:l[k]? =some (.blk b #[u0,u1,u2,u3,u4,u5,u6,u7,u8] T)) (v0 v1 v2 v3 v4 v5 v6 v7 v8:Value):Sf w (((((((((W.setCell ⟨b,0,none⟩ v0).setCell ⟨b,1,none⟩ v1).setCell ⟨b,2,none⟩ v2).setCell ⟨b,3,none⟩ v3).setCell ⟨b,4,none⟩ v4).setCell ⟨b,5,none⟩ v5).setCell ⟨b,6,none⟩ v6).setCell ⟨b,7,none⟩ v7).setCell ⟨b,8,none⟩ v8) (l.set k (.blk b #[v0,v1,v2,v3,v4,v5,v6,v7,v8] T)) v L s:=by
 have hh:=h.fr.has _ (vB hi);exact h.step k hi ((((((((((zo.refl _ _).set yl).set yl).set yl).set yl).set yl).set yl).set yl).set yl).set yl) ⟨hh.1,by have h9:=(((((((((hh.2.set 0 v0).set 1 v1).set 2 v2).set 3 v3).set 4 v4).set 5 v5).set 6 v6).set 7 v7).set 8 v8);simpa using h9⟩ rfl
theorem setV (h:Sf w W l v L s) (k:Nat) {u0 u1 u2 u3 u4 u5 u6 u7 u8:Value} (hi:l[k]? =some (.blk b #[u0,u1,u2,u3,u4,u5,u6,u7,u8] T)) (y:zu):Sf w (((((((((W.setCell ⟨b,0,none⟩ (.slice y.pl.a y.pl.n y.pl.c)).setCell ⟨b,1,none⟩ (.slice y.st.a y.st.n y.st.c)).setCell ⟨b,2,none⟩ (.slice y.se.a y.se.n y.se.c)).setCell ⟨b,3,none⟩ (.slice y.on.a y.on.n y.on.c)).setCell ⟨b,4,none⟩ (.slice y.gr.a y.gr.n y.gr.c)).setCell ⟨b,5,none⟩ (.slice y.ba.a y.ba.n y.ba.c)).setCell ⟨b,6,none⟩ (.slice y.ch.a y.ch.n y.ch.c)).setCell ⟨b,7,none⟩ (.slice y.sa.a y.sa.n y.sa.c)).setCell ⟨b,8,none⟩ (.int .i64 y.fl)) (l.set k (.blk b (yN y) T)) v L s:=h.set9 k hi _ _ _ _ _ _ _ _ _
theorem setZ (h:Sf w W l v L s) (k:Nat) {u0 u1 u2 u3 u4 u5 u6 u7 u8:Value} (hi:l[k]? =some (.blk b #[u0,u1,u2,u3,u4,u5,u6,u7,u8] T)):Sf w (((((((((W.setCell ⟨b,0,none⟩ (.slice none 0 0)).setCell ⟨b,1,none⟩ (.slice none 0 0)).setCell ⟨b,2,none⟩ (.slice none 0 0)).setCell ⟨b,3,none⟩ (.slice none 0 0)).setCell ⟨b,4,none⟩ (.slice none 0 0)).setCell ⟨b,5,none⟩ (.slice none 0 0)).setCell ⟨b,6,none⟩ (.slice none 0 0)).setCell ⟨b,7,none⟩ (.slice none 0 0)).setCell ⟨b,8,none⟩ (.int .i64 0)) (l.set k (.blk b zC T)) v L s:=h.set9 k hi _ _ _ _ _ _ _ _ _
theorem setPl (h:Sf w W l v L s) (hg:v.pl.a=some ⟨g,0,none⟩) (t x:Int):Sf w (W.setCell ⟨g,t.toNat,none⟩ (uy x)) l v L {s with places:=s.places.set t.toNat x}:=by
 have T:zo [g] W (W.setCell ⟨g,t.toNat,none⟩ (uy x)):=(zo.refl [g] W).set jv;have own:=h.st.pl;rw[show v.pl.val= .slice (some ⟨g,0,none⟩) v.pl.n v.pl.c by rw[<-hg]] at own;have R:=(vR own t.toNat (uy x) (cs':=zf (s.places.set t.toNat x)) (by simp[zf,List.map_set])).1;rw[show(.slice (some ⟨g,0,none⟩) v.pl.n v.pl.c:Value)=v.pl.val by rw[<-hg]] at R;exact h.upd (T.mono λk hk=>by obtain rfl:=yh hk;exact zu.mem_pl (by rw[hg];rfl)) (h.st.set_pl (by rw[hg];rfl) T (by rw[List.length_set];exact h.st.npl) R)
theorem setSt (h:Sf w W l v L s) (hg:v.st.a=some ⟨g,0,none⟩) (t x:Int):Sf w (W.setCell ⟨g,t.toNat,none⟩ (uy x)) l v L (yw s t x):=
 h.upd ((h.st.stat hg t x).2.mono λk hk=>by obtain rfl:=yh hk;exact zu.mem_st (by rw[hg];rfl)) (h.st.stat hg t x).1
theorem plAt (h:Sf w W l v L s) (hg:v.pl.a=some ⟨g,0,none⟩) (t:Int) (ht:t.toNat<s.places.length):W.cell? ⟨g,t.toNat,none⟩=some (uy (s.places.getD t.toNat 0))/\W.frozen? ⟨g,t.toNat,none⟩=false:=by
 have own:=h.st.pl;rw[show v.pl.val= .slice (some ⟨g,0,none⟩) v.pl.n v.pl.c by rw[<-hg]] at own;refine⟨?_,own.frozenAt t.toNat⟩;rw[own.cellAt t.toNat (by rw[h.st.npl];omega)];simp[zf,ht,List.getD]
theorem stAt (h:Sf w W l v L s) (hg:v.st.a=some ⟨g,0,none⟩) (t:Int) (ht:t.toNat<s.status.length):W.cell? ⟨g,t.toNat,none⟩=some (uy (s.status.getD t.toNat 0))/\W.frozen? ⟨g,t.toNat,none⟩=false:=by
 have own:=h.st.st;rw[show v.st.val= .slice (some ⟨g,0,none⟩) v.st.n v.st.c by rw[<-hg]] at own;refine⟨?_,own.frozenAt t.toNat⟩;rw[own.cellAt t.toNat (by rw[h.st.nst];omega)];simp[zf,ht,List.getD]
theorem apart (h:Sf w W l v L s) {W1:World} (hs:yy W W1 q cs n):yc (zO l++v.blks) W1 q cs n:=hs.r λb hb=>by
 rcases xM hb with hb|hb
 ·exact(h.fr.inside b hb).2
 ·exact(h.st.from b hb).2
end Sf
section
variable {w W:World} {l:List It} {v:zu} {L:zQ} {s:zp} {ops:Array Oper} {rest:List Oper} {o:Oper} {ac:Act} {Q:Exit->Act->World->Prop}
theorem Sf.app_se (h:Sf w W l v L s) (a0:o.guard=none) (y z:Operand) (ho:o.op= .call {callee:= .builtin .append,args:= #[y,z],argTypes:= #[32,32]}) (hs:ac.eval y=v.se.val) {c2:Nat} {x:xS} (hx:ac.eval z= .slice a2 1 c2) (hr:Rd W a2 (YI (x,q))) (hq:Xn (zO l++v.blks) W x q) (hn:v.se.n+1<=1048576) 
  (K:∀(r:zP) W',Sf w W' l {v with se:=r} {L with se:=L.se++[(x,q)]} {s with sems:=s.sems++[x]}->wpList Tryz.prog ops Q rest (ac.put o.dst r.val) W'):wpList Tryz.prog ops Q (o::rest) ac W:=
 yP a0 y z _ ho Tryz.underlying32 ko rfl jk hs h.st.se hx rfl hr (by intro u hu;simp only[YI,List.mem_cons,jw,or_false] at hu;(rcases hu with rfl|rfl|rfl)<;>rfl) jq jk h.fr.bel.size λa' c' W' c0 hg b0=>
  K ⟨a',v.se.n+1,c'⟩ W' (h.upd (zo.of_grown hg λk hk=>zu.mem_se hk) (h.st.push_se hg b0 hq (by show v.se.n+1=_;rw[h.st.nse]) (by rw[List.flatMap_append];simpa using c0)))
theorem Sf.app_on (h:Sf w W l v L s) (a0:o.guard=none) (y z:Operand) (ho:o.op= .call {callee:= .builtin .append,args:= #[y,z],argTypes:= #[33,33]}) (hs:ac.eval y=v.on.val) {c2:Nat} {x:xJ} (hx:ac.eval z= .slice a2 1 c2) (hr:Rd W a2 (uB (x,q))) (hq:Xm (zO l++v.blks) W x q) (hn:v.on.n+1<=1048576) 
  (K:∀(r:zP) W',Sf w W' l {v with on:=r} {L with on:=L.on++[(x,q)]} {s with onces:=s.onces++[x]}->wpList Tryz.prog ops Q rest (ac.put o.dst r.val) W'):wpList Tryz.prog ops Q (o::rest) ac W:=
 yP a0 y z _ ho Tryz.underlying33 VM rfl jk hs h.st.on hx rfl hr (by intro u hu;simp only[uB,List.mem_cons,jw,or_false] at hu;(rcases hu with rfl|rfl|rfl|rfl)<;>rfl) jq jk h.fr.bel.size λa' c' W' c0 hg b0=>
  K ⟨a',v.on.n+1,c'⟩ W' (h.upd (zo.of_grown hg λk hk=>zu.mem_on hk) (h.st.push_on hg b0 hq (by show v.on.n+1=_;rw[h.st.non]) (by rw[List.flatMap_append];simpa using c0)))
theorem Sf.app_gr (h:Sf w W l v L s) (a0:o.guard=none) (y z:Operand) (ho:o.op= .call {callee:= .builtin .append,args:= #[y,z],argTypes:= #[34,34]}) (hs:ac.eval y=v.gr.val) {c2:Nat} {x:ji} (hx:ac.eval z= .slice a2 1 c2) (hr:Rd W a2 (Xk (x,q))) (hq:JK (zO l++v.blks) W x q) (hn:v.gr.n+1<=1048576) 
  (K:∀(r:zP) W',Sf w W' l {v with gr:=r} {L with gr:=L.gr++[(x,q)]} {s with groups:=s.groups++[x]}->wpList Tryz.prog ops Q rest (ac.put o.dst r.val) W'):wpList Tryz.prog ops Q (o::rest) ac W:=
 yP a0 y z _ ho Tryz.underlying34 kx rfl jk hs h.st.gr hx rfl hr (by intro u hu;simp only[Xk,List.mem_cons,jw,or_false] at hu;(rcases hu with rfl|rfl)<;>rfl) jq jk h.fr.bel.size λa' c' W' c0 hg b0=>
  K ⟨a',v.gr.n+1,c'⟩ W' (h.upd (zo.of_grown hg λk hk=>zu.mem_gr hk) (h.st.push_gr hg b0 hq (by show v.gr.n+1=_;rw[h.st.ngr]) (by rw[List.flatMap_append];simpa using c0)))
theorem Sf.app_ba (h:Sf w W l v L s) (a0:o.guard=none) (y z:Operand) (ho:o.op= .call {callee:= .builtin .append,args:= #[y,z],argTypes:= #[35,35]}) (hs:ac.eval y=v.ba.val) {c2:Nat} {x:j6} (hx:ac.eval z= .slice a2 1 c2) (hr:Rd W a2 (YJ (x,q))) (hq:Qj (zO l++v.blks) W x q) (hn:v.ba.n+1<=1048576) 
  (K:∀(r:zP) W',Sf w W' l {v with ba:=r} {L with ba:=L.ba++[(x,q)]} {s with bars:=s.bars++[x]}->wpList Tryz.prog ops Q rest (ac.put o.dst r.val) W'):wpList Tryz.prog ops Q (o::rest) ac W:=
 yP a0 y z _ ho Tryz.underlying35 tL rfl jk hs h.st.ba hx rfl hr (by intro u hu;simp only[YJ,List.mem_cons,jw,or_false] at hu;(rcases hu with rfl|rfl|rfl)<;>rfl) jq jk h.fr.bel.size λa' c' W' c0 hg b0=>
  K ⟨a',v.ba.n+1,c'⟩ W' (h.upd (zo.of_grown hg λk hk=>zu.mem_ba hk) (h.st.push_ba hg b0 hq (by show v.ba.n+1=_;rw[h.st.nba]) (by rw[List.flatMap_append];simpa using c0)))
theorem Sf.app_ch (h:Sf w W l v L s) (a0:o.guard=none) (y z:Operand) (ho:o.op= .call {callee:= .builtin .append,args:= #[y,z],argTypes:= #[36,36]}) (hs:ac.eval y=v.ch.val) {c2:Nat} {x:xi} {q:zP×zP×zP} (hx:ac.eval z= .slice a2 1 c2) (hr:Rd W a2 (ZY (x,q))) (hq:Xp (zO l++v.blks) W x q) (hn:v.ch.n+1<=1048576) 
  (K:∀(r:zP) W',Sf w W' l {v with ch:=r} {L with ch:=L.ch++[(x,q)]} {s with chans:=s.chans++[x]}->wpList Tryz.prog ops Q rest (ac.put o.dst r.val) W'):wpList Tryz.prog ops Q (o::rest) ac W:=
 yP a0 y z _ ho Tryz.underlying36 tT rfl jk hs h.st.ch hx rfl hr (by intro u hu;simp only[ZY,List.mem_cons,jw,or_false] at hu;(rcases hu with rfl|rfl|rfl|rfl|rfl)<;>rfl) jq jk h.fr.bel.size λa' c' W' c0 hg b0=>
  K ⟨a',v.ch.n+1,c'⟩ W' (h.upd (zo.of_grown hg λk hk=>zu.mem_ch hk) (h.st.push_ch hg b0 hq (by show v.ch.n+1=_;rw[h.st.nch]) (by rw[List.flatMap_append];simpa using c0)))
theorem Sf.app_sa (h:Sf w W l v L s) (a0:o.guard=none) (y z:Operand) (ho:o.op= .call {callee:= .builtin .append,args:= #[y,z],argTypes:= #[23,23]}) (hs:ac.eval y=v.sa.val) {c2:Nat} {x:Int} (hx:ac.eval z= .slice a2 1 c2) (hr:Rd W a2 (zf [x])) (hn:v.sa.n+1<=1048576) 
  (K:∀(r:zP) W',Sf w W' l {v with sa:=r} L (sayIt s x)->wpList Tryz.prog ops Q rest (ac.put o.dst r.val) W'):wpList Tryz.prog ops Q (o::rest) ac W:=
 yP a0 y z _ ho Tryz.underlying23 yb rfl jk hs h.st.sa hx rfl hr (yA [x]) jq jk h.fr.bel.size λa' c' W' c0 hg b0=>
  K ⟨a',v.sa.n+1,c'⟩ W' (h.upd (zo.of_grown hg λk hk=>zu.mem_sa hk) (h.st.say hg b0 (by show v.sa.n+1=_;rw[xp,h.st.nsa];rfl) (by rw[xy];exact c0)))
end
def jT (B:Nat) (cs:uZ) (q:zP):Prop:=cs=[]\/∀b,zj q.a=some b->B<=b
structure yz (B:Nat) (L:zQ):Prop where
 se:∀z∈L.se,jT B (zK z.1.queue) z.2
 on:∀z∈L.on,jT B (zf z.1.waits) z.2
 gr:∀z∈L.gr,jT B (zf z.1.waits) z.2
 ba:∀z∈L.ba,jT B (zf z.1.waits) z.2
 ch:∀z∈L.ch,jT B (zf z.1.items) z.2.1/\jT B (zK z.1.senders) z.2.2.1/\jT B (zf z.1.getters) z.2.2.2
theorem yz.nil (B:Nat):yz B ⟨[],[],[],[],[]⟩:=⟨jv,jv,jv,jv,jv⟩
theorem jT.lower {B':Nat} (h:jT B cs q) (hb:B'<=B):jT B' cs q:=h.imp id λh b e=>Nat.le_trans hb (h b e)
theorem QF {l:List α} {x:α} {P:α->Prop} (h:∀z∈l,P z) (hx:P x):∀z∈l++[x],P z:=λz hz=>by
 rcases xM hz with hz|hz
 ·exact h z hz
 ·obtain rfl:=yh hz;exact hx
theorem yz.se1 {L:zQ} (h:yz B L) {x:xS} (hq:jT B (zK x.queue) q):yz B {L with se:=L.se++[(x,q)]}:=⟨QF h.se hq,h.on,h.gr,h.ba,h.ch⟩
theorem yz.on1 {L:zQ} (h:yz B L) {x:xJ} (hq:jT B (zf x.waits) q):yz B {L with on:=L.on++[(x,q)]}:=⟨h.se,QF h.on hq,h.gr,h.ba,h.ch⟩
theorem yz.gr1 {L:zQ} (h:yz B L) {x:ji} (hq:jT B (zf x.waits) q):yz B {L with gr:=L.gr++[(x,q)]}:=⟨h.se,h.on,QF h.gr hq,h.ba,h.ch⟩
theorem yz.ba1 {L:zQ} (h:yz B L) {x:j6} (hq:jT B (zf x.waits) q):yz B {L with ba:=L.ba++[(x,q)]}:=⟨h.se,h.on,h.gr,QF h.ba hq,h.ch⟩
theorem yz.ch1 {L:zQ} (h:yz B L) {x:xi} {q:zP×zP×zP} (hq:jT B (zf x.items) q.1/\jT B (zK x.senders) q.2.1/\jT B (zf x.getters) q.2.2):yz B {L with ch:=L.ch++[(x,q)]}:=⟨h.se,h.on,h.gr,h.ba,QF h.ch hq⟩
theorem yc.aside {w:World} (h:yc S w q cs k) (hn:jT B cs q) (hX:∀k∈X,k<B):yc (X++S) w q cs k:=by
 refine⟨h.len,h.rd,?_,h.cap⟩;rcases hn with hn|hn
 ·exact .inl hn
 rcases h.far with hf|hf
 ·exact .inl hf
 refine .inr λb hb hm=> ?_;rcases xM hm with hm|hm
 ·have:=hn b hb;have:=hX b hm;omega
 ·exact hf b hb hm
theorem yr.aside {w:World} {v:zu} {L:zQ} {s:zp} (h:yr [] B w v L s) (hn:yz B L) (hX:∀k∈X,k<B/\k<w.heap.size):yr X B w v L s:=
 have hB:∀k∈X,k<B:=λk hk=>(hX k hk).1
 ⟨h.pl,h.npl,h.st,h.nst,h.se,h.nse,h.on,h.non,h.gr,h.ngr,h.ba,h.nba,h.ch,h.nch,h.sa,h.nsa,h.fl,h.dps,h.dpa,h.dsa,λk hk=>⟨(hX k hk).2,λhm=>by have:=(h.from k hm).1;have:=hB k hk;omega⟩,
  ⟨⟨h.inn.se.e,λx hx=>(h.inn.se.r x hx).aside (hn.se x hx) hB⟩,⟨h.inn.on.e,λx hx=>(h.inn.on.r x hx).aside (hn.on x hx) hB⟩,⟨h.inn.gr.e,λx hx=>(h.inn.gr.r x hx).aside (hn.gr x hx) hB⟩,⟨h.inn.ba.e,λx hx=>(h.inn.ba.r x hx).aside (hn.ba x hx) hB⟩,⟨h.inn.ch.e,λx hx=>⟨(h.inn.ch.r x hx).1.aside (hn.ch x hx).1 hB,(h.inn.ch.r x hx).2.1.aside (hn.ch x hx).2.1 hB,(h.inn.ch.r x hx).2.2.aside (hn.ch x hx).2.2 hB⟩⟩⟩⟩
theorem Sf.gain {w W W':World} {l:List It} {v:zu} {L:zQ} {s:zp} (F:Fr w W l) (ho:yr [] W.heap.size W' v L s) (hn:yz W.heap.size L) (hb:xW W W'):Sf w W' l v L s:=
 ⟨F.call hb,(ho.aside hn λk hk=>⟨(F.inside k hk).2,Nat.lt_of_lt_of_le (F.inside k hk).2 hb.size⟩).lower F.bel.size⟩
structure TS (T:TypeId) (B:Nat) (w w':World):Prop where
 bel:Below B w w'
 oth:∀(k:Nat) (cs:Array Value) (e:TypeId) (fr:Nat×Nat),w.heap[k]? =some (Obj.cells cs e fr)->e≠T->w'.heap[k]? =w.heap[k]?
 prg:∀(k:Nat) (cs:Array Value),zm w k cs T->∃ds:Array Value,ds.size=cs.size/\zm w' k ds T
theorem yy.ts {w:World} {s:zP} (h:yy w0 w s cs k) (t:TS T B w w') (hT:T∈QA):yy w0 w' s cs k:=by
 rcases h.ty with h0|b0
 ·exact⟨h.len,.inl h0,h.new,h.cap,.inl h0⟩
 ·refine⟨h.len,?_,h.new,h.cap,.inr λb hb=> ?_⟩
  ·rcases h.rd with h0|⟨b,o,e,hc⟩
   ·exact .inl h0
   ·refine .inr ⟨b,o,e,λj hj=> ?_⟩;obtain⟨a0,e',fr,h1,h2⟩:=b0 b (by rw[e];rfl);have h3:=t.oth b a0 e' fr h1 (λhh=>h2 (hh▸hT));have h4:=hc j hj;unfold World.cell? at h4⊢;rw[h3];exact h4
  ·obtain⟨a0,e',fr,h1,h2⟩:=b0 b hb;exact⟨a0,e',fr,(t.oth b a0 e' fr h1 (λhh=>h2 (hh▸hT))).trans h1,h2⟩
theorem XA {B':Nat} {w:World} (h:w.ownsRow B' e sz (.slice a n c) n cs) (t:TS T B w w') (he:e≠T):w'.ownsRow B' e sz (.slice a n c) n cs:=
 qX h λk hk _=>by
  rw[yu] at hk;obtain⟨a0,fr,h1⟩:=Yi h k hk;exact t.oth k a0 e fr h1 he
def ym:Value->Nat->Value
 | .tuple vs,i=>vs.getD i undef
 |_,_=>undef
def Zf (V:Value) (_:uZ) (u:Value) (_:World):Prop:=u=V
theorem pS {V:Value} {S:World->World->Prop}:∀ds u w w',S w w'->Zf V ds u w->Zf V ds u w':=λ_ _ _ _ _ h=>h
theorem Zh {o:Oper} {ρ:Operand->Value} {W w1:World} {R:Value->World->Prop} {B:Value->Option Nat} {u:Value} (hG:xW W w1) (h:(execOp ρ o).run P w1= .ok (.value u) w1) (hR:R u w1) (hB:∀k,B u=some k->False):xO P o ρ w1 (λu w'=>xW w1 w'/\R u w'/\(∀k,B u=some k->w1.heap.size<=k/\k<w'.heap.size)/\xW W w'):=
 zh h ⟨Below.refl _ _,hR,λk hk=>(hB k hk).elim,hG⟩
theorem dW {o:Oper} {ρ:Operand->Value} {W w1:World} {R:Value->World->Prop} {B:Value->Option Nat} {T:World->World->Prop} {i0:Nat} {u:Value} (hG:xW W w1) (h:(execOp ρ o).run P w1= .ok (.value u) w1) (hR:R u w1) (hB:∀k,B u=some k->False) (hi:i≠i0:=by decide):xO P o ρ w1 (λu w'=>uo i0 T i w1 w'/\R u w'/\(∀k,B u=some k->w1.heap.size<=k/\k<w'.heap.size)/\xW W w'):=
 zh h ⟨xk hi xd,hR,λk hk=>(hB k hk).elim,hG⟩
theorem kQ {id:Nat} {l:List Oper} (n:Nat) (T:TypeId) (i0:Nat) {a0:Act} {w:World} {Q:Exit->Act->World->Prop} (hm:P.follows .mixedOrders=true) (hf:fits l n a0.tmps.size=true) (Rs:List (uZ->Value->World->Prop)) (h1:Jz Rs) (h2:XX i0 (TS T w.heap.size) 0 Rs) (b0:Z9 P (l.take n) Rs (uo i0 (TS T w.heap.size)) (λ_ _=>none) (λ_ w'=>xW w w') a0.eval (l.take n) 0) (c0:∀(vs:uZ) w',xW w w'->vs.length=n->Gh Rs vs w' (l.take n) 0->wpList P l.toArray Q (l.drop n) (jH (l.take n) a0 vs) w'):(Code.region id l.toArray true).wp P Q a0 w:=
 vG n hm hf Rs _ _ _ (λ_ _=>xd.drew) (JJ λ_ _ h=>h.bel.size) (JT h1 h2) b0 (λvs w' _ hG hl ha _ _=>c0 vs w' hG hl ha)
theorem len0 (h:vs.length=0):vs=[]:=List.eq_nil_of_length_eq_zero h
theorem Pv (h:vs.length=1):∃x0,vs=[x0]:=by
 obtain⟨x0,t,rfl,g⟩:=xN h;obtain rfl:=len0 g;exact⟨x0,rfl⟩
theorem PA (h:vs.length=2):∃x0 x1,vs=[x0,x1]:=by
 obtain⟨x0,t,rfl,g⟩:=xN h;obtain⟨x1,rfl⟩:=Pv g;exact⟨x0,x1,rfl⟩
theorem Py (h:vs.length=3):∃x0 x1 x2,vs=[x0,x1,x2]:=by
 obtain⟨x0,t,rfl,g⟩:=xN h;obtain⟨x1,x2,rfl⟩:=PA g;exact⟨x0,x1,x2,rfl⟩
theorem Pw (h:vs.length=4):∃x0 x1 x2 x3,vs=[x0,x1,x2,x3]:=by
 obtain⟨x0,t,rfl,g⟩:=xN h;obtain⟨x1,x2,x3,rfl⟩:=Py g;exact⟨x0,x1,x2,x3,rfl⟩
theorem Pm (h:vs.length=5):∃x0 x1 x2 x3 x4,vs=[x0,x1,x2,x3,x4]:=by
 obtain⟨x0,t,rfl,g⟩:=xN h;obtain⟨x1,x2,x3,x4,rfl⟩:=Pw g;exact⟨x0,x1,x2,x3,x4,rfl⟩
theorem pF (h:vs.length=6):∃x0 x1 x2 x3 x4 x5,vs=[x0,x1,x2,x3,x4,x5]:=by
 obtain⟨x0,t,rfl,g⟩:=xN h;obtain⟨x1,x2,x3,x4,x5,rfl⟩:=Pm g;exact⟨x0,x1,x2,x3,x4,x5,rfl⟩
theorem Pn (h:vs.length=7):∃x0 x1 x2 x3 x4 x5 x6,vs=[x0,x1,x2,x3,x4,x5,x6]:=by
 obtain⟨x0,t,rfl,g⟩:=xN h;obtain⟨x1,x2,x3,x4,x5,x6,rfl⟩:=pF g;exact⟨x0,x1,x2,x3,x4,x5,x6,rfl⟩
theorem Pr (h:vs.length=8):∃x0 x1 x2 x3 x4 x5 x6 x7,vs=[x0,x1,x2,x3,x4,x5,x6,x7]:=by
 obtain⟨x0,t,rfl,g⟩:=xN h;obtain⟨x1,x2,x3,x4,x5,x6,x7,rfl⟩:=Pn g;exact⟨x0,x1,x2,x3,x4,x5,x6,x7,rfl⟩
theorem pD (h:vs.length=9):∃x0 x1 x2 x3 x4 x5 x6 x7 x8,vs=[x0,x1,x2,x3,x4,x5,x6,x7,x8]:=by
 obtain⟨x0,t,rfl,g⟩:=xN h;obtain⟨x1,x2,x3,x4,x5,x6,x7,x8,rfl⟩:=Pr g;exact⟨x0,x1,x2,x3,x4,x5,x6,x7,x8,rfl⟩
theorem pT (h:vs.length=10):∃x0 x1 x2 x3 x4 x5 x6 x7 x8 x9,vs=[x0,x1,x2,x3,x4,x5,x6,x7,x8,x9]:=by
 obtain⟨x0,t,rfl,g⟩:=xN h;obtain⟨x1,x2,x3,x4,x5,x6,x7,x8,x9,rfl⟩:=pD g;exact⟨x0,x1,x2,x3,x4,x5,x6,x7,x8,x9,rfl⟩
theorem pM (h:vs.length=11):∃x0 x1 x2 x3 x4 x5 x6 x7 x8 x9 a0,vs=[x0,x1,x2,x3,x4,x5,x6,x7,x8,x9,a0]:=by
 obtain⟨x0,t,rfl,g⟩:=xN h;obtain⟨x1,x2,x3,x4,x5,x6,x7,x8,x9,a0,rfl⟩:=pT g;exact⟨x0,x1,x2,x3,x4,x5,x6,x7,x8,x9,a0,rfl⟩
theorem pW (h:vs.length=12):∃x0 x1 x2 x3 x4 x5 x6 x7 x8 x9 a0 b0,vs=[x0,x1,x2,x3,x4,x5,x6,x7,x8,x9,a0,b0]:=by
 obtain⟨x0,t,rfl,g⟩:=xN h;obtain⟨x1,x2,x3,x4,x5,x6,x7,x8,x9,a0,b0,rfl⟩:=pM g;exact⟨x0,x1,x2,x3,x4,x5,x6,x7,x8,x9,a0,b0,rfl⟩
theorem DM (h:vs.length=13):∃x0 x1 x2 x3 x4 x5 x6 x7 x8 x9 a0 b0 c0,vs=[x0,x1,x2,x3,x4,x5,x6,x7,x8,x9,a0,b0,c0]:=by
 obtain⟨x0,t,rfl,g⟩:=xN h;obtain⟨x1,x2,x3,x4,x5,x6,x7,x8,x9,a0,b0,c0,rfl⟩:=pW g;exact⟨x0,x1,x2,x3,x4,x5,x6,x7,x8,x9,a0,b0,c0,rfl⟩
theorem pN (h:vs.length=14):∃x0 x1 x2 x3 x4 x5 x6 x7 x8 x9 a0 b0 c0 d0,vs=[x0,x1,x2,x3,x4,x5,x6,x7,x8,x9,a0,b0,c0,d0]:=by
 obtain⟨x0,t,rfl,g⟩:=xN h;obtain⟨x1,x2,x3,x4,x5,x6,x7,x8,x9,a0,b0,c0,d0,rfl⟩:=DM g;exact⟨x0,x1,x2,x3,x4,x5,x6,x7,x8,x9,a0,b0,c0,d0,rfl⟩
theorem pQ (h:vs.length=15):∃x0 x1 x2 x3 x4 x5 x6 x7 x8 x9 a0 b0 c0 d0 f0,vs=[x0,x1,x2,x3,x4,x5,x6,x7,x8,x9,a0,b0,c0,d0,f0]:=by
 obtain⟨x0,t,rfl,g⟩:=xN h;obtain⟨x1,x2,x3,x4,x5,x6,x7,x8,x9,a0,b0,c0,d0,f0,rfl⟩:=pN g;exact⟨x0,x1,x2,x3,x4,x5,x6,x7,x8,x9,a0,b0,c0,d0,f0,rfl⟩
theorem pP (h:vs.length=16):∃x0 x1 x2 x3 x4 x5 x6 x7 x8 x9 a0 b0 c0 d0 f0 g0,vs=[x0,x1,x2,x3,x4,x5,x6,x7,x8,x9,a0,b0,c0,d0,f0,g0]:=by
 obtain⟨x0,t,rfl,g⟩:=xN h;obtain⟨x1,x2,x3,x4,x5,x6,x7,x8,x9,a0,b0,c0,d0,f0,g0,rfl⟩:=pQ g;exact⟨x0,x1,x2,x3,x4,x5,x6,x7,x8,x9,a0,b0,c0,d0,f0,g0,rfl⟩
abbrev vp (w:World) (G:Nat) (V v:zu):List It:=[.blk G (yN V) 38,.blk (w.heap.size+1) zC 38,.blk w.heap.size (yN v) 38]
abbrev JO (w:World) (u:PV) (v:zu) (z:Array Value):List It:=[.blk (w.heap.size+1+1) z 38,.blk (w.heap.size+1) (yN v) 38,.blk w.heap.size (zF u) 26]
abbrev Vy (w:World) (u:PV) (v:zu) (z:Array Value) (fl:List It):List It:= .blk (w.heap.size+1+1) z 38:: .blk (w.heap.size+1) (yN v) 38:: .blk w.heap.size (zF u) 26::fl
abbrev PN (w:World) (bz bo:Nat) (u:PV) (v:zu) (o z:Array Value) (fl:List It):List It:= .blk bz z 38:: .blk bo o 68:: .blk (w.heap.size+1) (yN v) 38:: .blk w.heap.size (zF u) 26::fl
theorem yZ.at_se {w:World} {v:zu} {L:zQ} {s:zp} (h:yZ w v L s) (hj:j<s.sems.length):∃(x:xS) (q:zP) (b o:Nat),uH (x=s.sems.getD j yi)/\v.se.a=some ⟨b,o,none⟩/\w.cell? ⟨b,o+j*3,none⟩=some (uy x.free)/\w.cell? ⟨b,o+j*3+1,none⟩=some (uy x.limit)/\w.cell? ⟨b,o+j*3+2,none⟩=some (.slice q.a q.n q.c)/\uH (Rd w q.a (zK x.queue))/\uH (q.n=x.queue.length)/\uH (q.n<=q.c):=by
 obtain⟨b1,o1,ea,g'⟩:=h.se.rd.flat kK dw (by rw[h.inn.se.len];omega) jk;obtain⟨⟨x,q⟩,a0⟩:∃y,y=L.se.getD j dw:=⟨_,rfl⟩
 have hx:x=s.sems.getD j yi:=by have:=h.inn.se.fst yi zR j;rw[<-this];exact congrArg Prod.fst a0
 have hR:=h.inn.se.at yi zR (i:=j) hj;replace g':=g' j (by rw[h.inn.se.len];exact hj);rw[<-a0] at g';rw[show L.se.getD j (yi,_)=(x,q) from a0.symm,<-hx] at hR;exact⟨x,q,b1,o1,zd hx,ea,by have:=g' 0 jk;simpa[YI] using this,by have:=g' 1 jk;simpa[YI] using this,by have:=g' 2 jk;simpa[YI] using this,zd (yc.rd hR),zd (yc.len hR),zd (yc.cap hR)⟩
theorem yZ.at_on {w:World} {v:zu} {L:zQ} {s:zp} (h:yZ w v L s) (hj:j<s.onces.length):∃(x:xJ) (q:zP) (b o:Nat),uH (x=s.onces.getD j zH)/\v.on.a=some ⟨b,o,none⟩/\w.cell? ⟨b,o+j*4,none⟩=some (uy x.state)/\w.cell? ⟨b,o+j*4+1,none⟩=some (uy x.owner)/\w.cell? ⟨b,o+j*4+2,none⟩=some (uy x.value)/\w.cell? ⟨b,o+j*4+3,none⟩=some (.slice q.a q.n q.c)/\uH (Rd w q.a (zf x.waits))/\uH (q.n=x.waits.length)/\uH (q.n<=q.c):=by
 obtain⟨b1,o1,ea,g'⟩:=h.on.rd.flat Gq gZ (by rw[h.inn.on.len];omega) jk;obtain⟨⟨x,q⟩,a0⟩:∃y,y=L.on.getD j gZ:=⟨_,rfl⟩
 have hx:x=s.onces.getD j zH:=by have:=h.inn.on.fst zH zR j;rw[<-this];exact congrArg Prod.fst a0
 have hR:=h.inn.on.at zH zR (i:=j) hj;replace g':=g' j (by rw[h.inn.on.len];exact hj);rw[<-a0] at g';rw[show L.on.getD j (zH,_)=(x,q) from a0.symm,<-hx] at hR;exact⟨x,q,b1,o1,zd hx,ea,by have:=g' 0 jk;simpa[uB] using this,by have:=g' 1 jk;simpa[uB] using this,by have:=g' 2 jk;simpa[uB] using this,by have:=g' 3 jk;simpa[uB] using this,zd (yc.rd hR),zd (yc.len hR),zd (yc.cap hR)⟩
theorem yZ.at_gr {w:World} {v:zu} {L:zQ} {s:zp} (h:yZ w v L s) (hj:j<s.groups.length):∃(x:ji) (q:zP) (b o:Nat),uH (x=s.groups.getD j yH)/\v.gr.a=some ⟨b,o,none⟩/\w.cell? ⟨b,o+j*2,none⟩=some (uy x.count)/\w.cell? ⟨b,o+j*2+1,none⟩=some (.slice q.a q.n q.c)/\uH (Rd w q.a (zf x.waits))/\uH (q.n=x.waits.length)/\uH (q.n<=q.c):=by
 obtain⟨b1,o1,ea,g'⟩:=h.gr.rd.flat kY dN (by rw[h.inn.gr.len];omega) jk;obtain⟨⟨x,q⟩,a0⟩:∃y,y=L.gr.getD j dN:=⟨_,rfl⟩
 have hx:x=s.groups.getD j yH:=by have:=h.inn.gr.fst yH zR j;rw[<-this];exact congrArg Prod.fst a0
 have hR:=h.inn.gr.at yH zR (i:=j) hj;replace g':=g' j (by rw[h.inn.gr.len];exact hj);rw[<-a0] at g';rw[show L.gr.getD j (yH,_)=(x,q) from a0.symm,<-hx] at hR;exact⟨x,q,b1,o1,zd hx,ea,by have:=g' 0 jk;simpa[Xk] using this,by have:=g' 1 jk;simpa[Xk] using this,zd (yc.rd hR),zd (yc.len hR),zd (yc.cap hR)⟩
theorem yZ.at_ba {w:World} {v:zu} {L:zQ} {s:zp} (h:yZ w v L s) (hj:j<s.bars.length):∃(x:j6) (q:zP) (b o:Nat),uH (x=s.bars.getD j ye)/\v.ba.a=some ⟨b,o,none⟩/\w.cell? ⟨b,o+j*3,none⟩=some (uy x.parties)/\w.cell? ⟨b,o+j*3+1,none⟩=some (uy x.round)/\w.cell? ⟨b,o+j*3+2,none⟩=some (.slice q.a q.n q.c)/\uH (Rd w q.a (zf x.waits))/\uH (q.n=x.waits.length)/\uH (q.n<=q.c):=by
 obtain⟨b1,o1,ea,g'⟩:=h.ba.rd.flat km Da (by rw[h.inn.ba.len];omega) jk;obtain⟨⟨x,q⟩,a0⟩:∃y,y=L.ba.getD j Da:=⟨_,rfl⟩
 have hx:x=s.bars.getD j ye:=by have:=h.inn.ba.fst ye zR j;rw[<-this];exact congrArg Prod.fst a0
 have hR:=h.inn.ba.at ye zR (i:=j) hj;replace g':=g' j (by rw[h.inn.ba.len];exact hj);rw[<-a0] at g';rw[show L.ba.getD j (ye,_)=(x,q) from a0.symm,<-hx] at hR;exact⟨x,q,b1,o1,zd hx,ea,by have:=g' 0 jk;simpa[YJ] using this,by have:=g' 1 jk;simpa[YJ] using this,by have:=g' 2 jk;simpa[YJ] using this,zd (yc.rd hR),zd (yc.len hR),zd (yc.cap hR)⟩
theorem yZ.at_ch {w:World} {v:zu} {L:zQ} {s:zp} (h:yZ w v L s) (hj:j<s.chans.length):∃(x:xi) (q:zP×zP×zP) (b o:Nat),uH (x=s.chans.getD j yq)/\v.ch.a=some ⟨b,o,none⟩/\w.cell? ⟨b,o+j*5,none⟩=some (uy x.room)/\w.cell? ⟨b,o+j*5+1,none⟩=some (.slice q.1.a q.1.n q.1.c)/\w.cell? ⟨b,o+j*5+2,none⟩=some (.slice q.2.1.a q.2.1.n q.2.1.c)/\w.cell? ⟨b,o+j*5+3,none⟩=some (.slice q.2.2.a q.2.2.n q.2.2.c)/\w.cell? ⟨b,o+j*5+4,none⟩=some (.bool x.closed)/\uH (Rd w q.1.a (zf x.items))/\uH (q.1.n=x.items.length)/\uH (q.1.n<=q.1.c)/\uH (Rd w q.2.1.a (zK x.senders))/\uH (q.2.1.n=x.senders.length)/\uH (q.2.1.n<=q.2.1.c)/\uH (Rd w q.2.2.a (zf x.getters))/\uH (q.2.2.n=x.getters.length)/\uH (q.2.2.n<=q.2.2.c):=by
 obtain⟨b1,o1,ea,g'⟩:=h.ch.rd.flat kr dJ (by rw[h.inn.ch.len];omega) jk;obtain⟨⟨x,q⟩,a0⟩:∃y,y=L.ch.getD j dJ:=⟨_,rfl⟩
 have hx:x=s.chans.getD j yq:=by have:=h.inn.ch.fst yq (zR,zR,zR) j;rw[<-this];exact congrArg Prod.fst a0
 have hR:=h.inn.ch.at yq (zR,zR,zR) (i:=j) hj;replace g':=g' j (by rw[h.inn.ch.len];exact hj);rw[<-a0] at g';rw[show L.ch.getD j (yq,_)=(x,q) from a0.symm,<-hx] at hR;exact⟨x,q,b1,o1,zd hx,ea,by have:=g' 0 jk;simpa[ZY] using this,by have:=g' 1 jk;simpa[ZY] using this,by have:=g' 2 jk;simpa[ZY] using this,by have:=g' 3 jk;simpa[ZY] using this,by have:=g' 4 jk;simpa[ZY] using this,zd (yc.rd hR.1),zd (yc.len hR.1),zd (yc.cap hR.1),zd (yc.rd hR.2.1),zd (yc.len hR.2.1),zd (yc.cap hR.2.1),zd (yc.rd hR.2.2),zd (yc.len hR.2.2),zd (yc.cap hR.2.2)⟩
abbrev Pe (q:zP) (x:List (Int×Int)):It:= .row q.a q.n q.c 151 2 (zK x)
abbrev Xl (q:zP) (x:List Int):It:= .row q.a q.n q.c 3 1 (zf x)
abbrev dR (q:zP) (x:List (Int×Int)):It:= .row q.a q.n q.c 154 2 (zK x)
def Zb (L:zQ):List It:=L.se.map (λz=>Pe z.2 z.1.queue)++(L.on.map (λz=>Xl z.2 z.1.waits)++(L.gr.map (λz=>Xl z.2 z.1.waits)++(L.ba.map (λz=>Xl z.2 z.1.waits)++L.ch.flatMap λz=>[Xl z.2.2.2 z.1.getters,dR z.2.2.1 z.1.senders,Xl z.2.1 z.1.items])))
theorem uj (x:α) (A B:List α):(x::(A++B)).Perm (A++x::B):=List.perm_middle.symm
theorem DQ (L:zQ) (x:xS) (q:zP):(Pe q x.queue::Zb L).Perm (Zb {L with se:=L.se++[(x,q)]}):=by
 unfold Zb;simp only[vQ,List.map_cons,List.map_nil,qh,List.cons_append,qZ];exact uj _ _ _
theorem pc (L:zQ) (x:xJ) (q:zP):(Xl q x.waits::Zb L).Perm (Zb {L with on:=L.on++[(x,q)]}):=by
 unfold Zb;simp only[vQ,List.map_cons,List.map_nil,qh,List.cons_append,qZ];exact(uj _ _ _).trans ((uj _ _ _).append_left _)
theorem pb (L:zQ) (x:ji) (q:zP):(Xl q x.waits::Zb L).Perm (Zb {L with gr:=L.gr++[(x,q)]}):=by
 unfold Zb;simp only[vQ,List.map_cons,List.map_nil,qh,List.cons_append,qZ];exact(uj _ _ _).trans (((uj _ _ _).trans ((uj _ _ _).append_left _)).append_left _)
theorem DR (L:zQ) (x:j6) (q:zP):(Xl q x.waits::Zb L).Perm (Zb {L with ba:=L.ba++[(x,q)]}):=by
 unfold Zb;simp only[vQ,List.map_cons,List.map_nil,qh,List.cons_append,qZ];exact(uj _ _ _).trans (((uj _ _ _).trans (((uj _ _ _).trans ((uj _ _ _).append_left _)).append_left _)).append_left _)
theorem DV (L:zQ) (x:xi) (q:zP×zP×zP):([Xl q.2.2 x.getters,dR q.2.1 x.senders,Xl q.1 x.items]++Zb L).Perm (Zb {L with ch:=L.ch++[(x,q)]}):=by
 unfold Zb;simp only[List.flatMap_append,List.flatMap_cons,List.flatMap_nil,List.append_nil];refine List.perm_append_comm.trans ?_;simp only[qh];exact .refl _
theorem pd {L:zQ} {i:It} (h:i∈Zb L):∃a n c E sz cs,i= .row a n c E sz cs/\(E=151\/E=3\/E=154):=by
 unfold Zb at h;rcases xM h with h|h
 ·obtain⟨z,-,rfl⟩:=yU.1 h;exact⟨_,_,_,_,_,_,rfl,.inl rfl⟩
 rcases xM h with h|h
 ·obtain⟨z,-,rfl⟩:=yU.1 h;exact⟨_,_,_,_,_,_,rfl,.inr (.inl rfl)⟩
 rcases xM h with h|h
 ·obtain⟨z,-,rfl⟩:=yU.1 h;exact⟨_,_,_,_,_,_,rfl,.inr (.inl rfl)⟩
 rcases xM h with h|h
 ·obtain⟨z,-,rfl⟩:=yU.1 h;exact⟨_,_,_,_,_,_,rfl,.inr (.inl rfl)⟩
 obtain⟨z,-,hz⟩:=List.mem_flatMap.1 h;simp only[List.mem_cons,jw,or_false] at hz;rcases hz with rfl|rfl|rfl
 ·exact⟨_,_,_,_,_,_,rfl,.inr (.inl rfl)⟩
 ·exact⟨_,_,_,_,_,_,rfl,.inr (.inr rfl)⟩
 ·exact⟨_,_,_,_,_,_,rfl,.inr (.inl rfl)⟩
abbrev xI (V:zu) (s:zp) (L:zQ):List It:=Xl V.pl s.places::Xl V.st s.status::Xl V.sa s.said::Zb L
theorem fK {V:zu} {s:zp} {L:zQ} {i:It} (h:i∈xI V s L):∃a n c E sz cs,i= .row a n c E sz cs/\(E=151\/E=3\/E=154):=by
 rcases List.mem_cons.1 h with rfl|h
 ·exact⟨_,_,_,_,_,_,rfl,.inr (.inl rfl)⟩
 rcases List.mem_cons.1 h with rfl|h
 ·exact⟨_,_,_,_,_,_,rfl,.inr (.inl rfl)⟩
 rcases List.mem_cons.1 h with rfl|h
 ·exact⟨_,_,_,_,_,_,rfl,.inr (.inl rfl)⟩
 exact pd h
theorem G4 (x y z:It) {q:It} {A B:List It} (h:(q::A).Perm B):(q::x::y::z::A).Perm (x::y::z::B):=
 (uj q [x,y,z] A).trans (h.append_left [x,y,z])
theorem pw (x y z:It) {q A B:List It} (h:(q++A).Perm B):(q++x::y::z::A).Perm (x::y::z::B):=by
 have h1:(q++([x,y,z]++A)).Perm ([x,y,z]++(q++A)):=by
  rw[<-qh,<-qh];exact List.perm_append_comm.append_right _
 exact h1.trans (h.append_left [x,y,z])
def VL (T:TypeId):Prop:=T≠151/\T≠3/\T≠154
section
variable {w W W':World} {V:zu} {s:zp} {L:zQ}
theorem dU (F:∀i∈xI V s L,i.has B W) {q:Nat} {cs:Array Value} {fr:Nat×Nat} (hq:W.heap[q]? =some (.cells cs T fr)) (hT:VL T):q∉zO (xI V s L):=by
 intro hm;obtain⟨i,hi,hf⟩:=List.mem_flatMap.1 hm;have hh:=F i hi;obtain⟨a,n,c,E,sz,xs,rfl,hE⟩:=fK hi;obtain⟨a0,b0,e⟩:=Yi (show W.ownsRow _ E sz (.slice a n c) n xs from hh) q (by simpa[It.foot] using hf);rw[hq] at e;have e2:T=E:=by simpa using congrArg (λo:Option Obj=>match o with|some (.cells _ t _)=>t|_=>T) e
 rcases hE with rfl|rfl|rfl
 ·exact hT.1 e2
 ·exact hT.2.1 e2
 ·exact hT.2.2 e2
theorem VJ (F:Fr w W (xI V s L)) (ho:W.ownsRow w.heap.size E sz (.slice a n c) n xs) (hE:VL E) (hg:W.grownBy W' (zj a)):Fr w W' (xI V s L):=
 F.other (S:=(zj a).toList) (zo.of_grown hg λk hk=>by simpa using hk) λk hk=>by
  have a0:zj a=some k:=by simpa using hk
  obtain⟨b0,fr,e⟩:=Yi ho k a0;exact⟨(zy ho k a0).1,dU F.has e hE⟩
theorem QM (F:Fr w W (xI V s L)) {cs:Array Value} (hb:zm W b cs T) (hT:VL T) (hw:w.heap.size<=b) (ht:zo [b] W W'):Fr w W' (xI V s L):=
 F.other ht λk hk=>by
  obtain rfl:=yh hk;exact⟨hw,dU F.has hb hT⟩
theorem Fr.early {U:World} {l:List It} (hb:xW U W) (F:Fr W W' l):Fr U W' l:=by
 have F0:Fr U W []:=⟨hb,jv,by simp[zO]⟩
 have:=F0.join F;simpa using this
structure XW (B:Nat) (W:World) (V:zu) (s:zp) (L:zQ):Prop where
 has:∀i∈xI V s L,i.has B W
 ap:(zO (xI V s L)).Nodup
theorem XW.of (F:Fr w W (xI V s L)):XW w.heap.size W V s L:=⟨F.has,F.ap⟩
theorem XW.lower {B':Nat} (h:XW B W V s L) (hb:B'<=B):XW B' W V s L:=⟨λi hi=>by
 have hh:=h.has i hi;obtain⟨a,n,c,E,sz,xs,rfl,-⟩:=fK hi;exact zw (show W.ownsRow B E sz (.slice a n c) n xs from hh) hb,h.ap⟩
theorem XW.touch (h:XW B W V s L) (T:zo S W W') (hS:∀k∈S,k∉zO (xI V s L)):XW B W' V s L:=
 ⟨λi hi=>It.keep (h.has i hi) λk hk=>T.block k (It.inside (h.has i hi) k hk).2 λhm=>hS k hm (List.mem_flatMap.2 ⟨i,hi,hk⟩),h.ap⟩
theorem XW.below (h:XW B W V s L) (hb:xW W W'):XW B W' V s L:=h.touch (zo.of_below (S:=[]) hb) jv
end
section
variable {w W W':World} {V:zu} {s:zp} {L:zQ}
abbrev tI (a:uQ) (n c:Nat) (tr:List Int) (V:zu) (s:zp) (L:zQ):List It:= .row a n c 3 1 (zf tr)::xI V s L
structure uN (B:Nat) (W:World) (a:Option Addr) (n c:Nat) (tr:List Int) (V:zu) (s:zp) (L:zQ):Prop where
 has:∀i∈tI a n c tr V s L,i.has B W
 ap:(zO (tI a n c tr V s L)).Nodup
theorem fO {i:It} (h:i∈tI a n c tr V s L):∃a n c E sz cs,i= .row a n c E sz cs/\(E=151\/E=3\/E=154):=by
 rcases List.mem_cons.1 h with rfl|h
 ·exact⟨_,_,_,_,_,_,rfl,.inr (.inl rfl)⟩
 exact fK h
theorem XW.trace (h:XW B W V s L) (hb:xW W W') (ho:W'.ownsRow W.heap.size 3 1 (.slice a n c) n (zf tr)) (hB:B<=W.heap.size):uN B W' a n c tr V s L:=
 ⟨λi hi=>by
  rcases List.mem_cons.1 hi with rfl|hi
  ·exact zw ho hB
  ·exact(h.below hb).has i hi,by
  refine List.nodup_append.2 ⟨It.foot_nodup (.row a n c 3 1 (zf tr)),h.ap,λq hq r hr e=> ?_⟩;subst e;have h1:=(zy ho q (by simpa[It.foot] using hq)).1;obtain⟨i,hi,hf⟩:=List.mem_flatMap.1 (show q∈zO (xI V s L) from hr);have h2:=(It.inside (h.has i hi) q hf).2;omega⟩
section
variable {B:Nat} {a:uQ} {n c:Nat} {tr:List Int}
theorem uN.lower {B':Nat} (h:uN B W a n c tr V s L) (hb:B'<=B):uN B' W a n c tr V s L:=⟨λi hi=>by
 have hh:=h.has i hi;obtain⟨a,n,c,E,sz,xs,rfl,-⟩:=fO hi;exact zw (show W.ownsRow B E sz (.slice a n c) n xs from hh) hb,h.ap⟩
theorem uN.touch (h:uN B W a n c tr V s L) (T:zo S W W') (hS:∀k∈S,k∉zO (tI a n c tr V s L)):uN B W' a n c tr V s L:=
 ⟨λi hi=>It.keep (h.has i hi) λk hk=>T.block k (It.inside (h.has i hi) k hk).2 λhm=>hS k hm (List.mem_flatMap.2 ⟨i,hi,hk⟩),h.ap⟩
theorem uN.below (h:uN B W a n c tr V s L) (hb:xW W W'):uN B W' a n c tr V s L:=h.touch (zo.of_below (S:=[]) hb) jv
theorem uN.far (h:uN B W a n c tr V s L) {q:Nat} {cs:Array Value} {fr:Nat×Nat} (hq:W.heap[q]? =some (.cells cs T fr)) (hT:VL T):q∉zO (tI a n c tr V s L):=by
 intro hm;obtain⟨i,hi,hf⟩:=List.mem_flatMap.1 hm;have hh:=h.has i hi;obtain⟨a,n,c,E,sz,xs,rfl,hE⟩:=fO hi;obtain⟨a0,b0,e⟩:=Yi (show W.ownsRow _ E sz (.slice a n c) n xs from hh) q (by simpa[It.foot] using hf);rw[hq] at e;have e2:T=E:=by simpa using congrArg (λo:Option Obj=>match o with|some (.cells _ t _)=>t|_=>T) e
 rcases hE with rfl|rfl|rfl
 ·exact hT.1 e2
 ·exact hT.2.1 e2
 ·exact hT.2.2 e2
theorem uN.set {cs:Array Value} (h:uN B W a n c tr V s L) (hb:zm W b cs T) (hT:VL T) (ht:zo [b] W W'):uN B W' a n c tr V s L:=
 h.touch ht λk hk=>by
  obtain rfl:=yh hk;exact h.far hb hT
end
end
end Go.Proofs.YtfclolgfegdfjaaGreat
