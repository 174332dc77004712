/- Part of a proof: IThr MDel ISem IOnce IGrp IBar IChan IClone IWait IWait2 IChan2 ISem2 IChan3. -/
import Derived.Test.YtfclolgfegdfjaaGreatVPMList
import Derived.Test.YtfclolgfegdfjaaGreatVPRk
import Derived.StillTailTactics
set_option maxRecDepth 100000
set_option maxHeartbeats 16000000
namespace Go.Proofs.YtfclolgfegdfjaaGreat
open Go.RowKit
variable {w W W' w0:World} {s:zp} {B n k b g c c2:Nat} {a a2:uQ} {v:zu} {L:zQ} {T E:TypeId} {l:List It} {q:zP} {cs:uZ} {t:Int} {α:Type}
theorem jx (t:Int) (w:World) (h:0<=t/\t<6):Calls Tryz.prog 110 #[uy t] w λe w'=>e= .returned (.bool true)/\w'=w:=by
 have d1:decide (0<=t)=true:=xK h.1;have d2:decide (t<6)=true:=xK h.2;go_enter Tryz.func110,Tryz.ntmps110;go_wp2;go_ret;exact⟨rfl,rfl⟩
theorem vC (t:Int) (w:World) (h:0<=t/\t<=99):Calls Tryz.prog 90 #[uy t] w λe w'=>e= .returned (.bool true)/\w'=w:=
 (Yx t w).mono λe w' ⟨h1,h2⟩=>⟨by rw[h1];simp[vS,h.1,h.2],h2⟩
theorem GO (l:List Int) (v:Value) (t:Int) (h:t∉l):YG (l.map λx=>(x,v)) t=none:=by
 rw[VE];simpa using h
theorem UJ:∀(L:List (Int×Value)) (k:Int) (v:Value),k∉L.map Prod.fst->Zx L k v=L++[(k,v)]
 |[],_,_,_=>rfl
 |(a,u)::r,k,v,h=>by
  simp only[List.map_cons,List.mem_cons,not_or] at h;simp only[Zx,h.1,if_false,List.cons_append,UJ r k v h.2]
theorem fC (w:World):(zeroValue 4).run Tryz.prog w= .ok (.bool false) w:=by kernel_rfl
theorem Qw (l:List Int) (k:Nat) (hk:k<l.length):l.take (k+1)=l.take k++[l.getD k 0]:=by
 rw[List.take_add_one,xV hk];simp[List.getD,hk]
theorem KK {l:List Int} (h:l.Nodup) (hk:k<l.length):l.getD k 0∉l.take k:=by
 intro hm;obtain⟨j,hj,e⟩:=List.getElem_of_mem hm;simp only[jO] at hj;have:=Js h (i:=k) (k:=j) hk jq;apply this;rw[<-e];simp[List.getD,show j<l.length by omega]
theorem uG (a:uQ) (n c:Nat) (l:List Int) (w:World) (hl:l.length=n) (hr:Rd w a (zf l)) (h6:Zc l):
  Calls Tryz.prog 123 #[.slice a n c] w λe w'=>e= .returned (.bool true)/\xW w w':=by
 have hn:n<=6:=by rw[<-hl];exact h6.1
 have HL:=zd hl;have H6:=zd h6;clear hl h6;have l0:= @run_makeMap Tryz.prog;go_enter Tryz.func123,Tryz.ntmps123;go_wp2
 go_loopw [9] (λi wr=>∃k:Nat,k<=n/\i=uy k/\qe wr w.heap.size ((l.take k).map λx=>(x,.bool true))/\xW w wr) (λi _=>n-(intOf i).toNat)
 case atStart=>exact⟨0,jq,rfl,qe.made w,zY⟩
 case round=>
  obtain⟨k,hk,rfl,a0,hb⟩:=hrel;by_cases d0:k<n
  ·obtain⟨b,o,rfl,hc⟩:=(hr.below hb).int (jQ HL.o);have g1:=hc k (jQ HL.o);obtain⟨x,hx⟩:=jy (l.getD k 0);rw[<-hx] at g1;have b0:x∉l.take k:=by rw[hx];exact KK H6.o.2.2 (by rw[HL.o];exact d0)
   have g0:0<=x/\x<6:=H6.o.2.1 x (by rw[hx];exact qV (by rw[HL.o];exact d0));have h0:l.take (k+1)=l.take k++[x]:=by rw[hx];exact Qw l k (by rw[HL.o];exact d0)
   have HT:=zd h0;have HN:=zd b0;have i0:=zd g0;clear hc hx h0 b0 g0;go_wp2_with fail;refine(jx x _ i0.out).mono ?_;rintro e w' ⟨rfl,rfl⟩;have c0:=uC (P:=Tryz.prog) Tryz.underlying187 Tryz.underlying3 fC a0 x;rw[GO _ _ _ HN.o] at c0;replace c0:(Instr.lookup 187 (.map (some w.heap.size)) (uy x) false).run Tryz.prog w'= .ok (.bool false) w':=c0;go_wp2_with (at_mapUpdate;refine ZV rfl _ _ _ rfl Tryz.underlying187 Tryz.underlying3 rfl a0 rfl rfl ?_;intro w5 f0 j0 m0)
   go_roundw
   case rel=>
    refine⟨k+1,jq,by go_num,?_,hb.trans (zG j0 hb.size (λq hq=>by cases hq;exact Nat.le_refl _))⟩;rw[HT.o,vQ];rw[UJ _ _ _ (by rw[List.map_map,show(Prod.fst∘λx:Int=>(x,Value.bool true))=id from rfl,List.map_id];exact HN.o)] at f0;exact f0
   case measure=>exact uq
  ·have k0:k=n:=jq;subst k0;go_wp2;go_ret;exact⟨rfl,hb⟩
theorem Vi (a:uQ) (n c:Nat) (l:List Int) (t:Int) (w:World) (hl:l.length=n) (hn:n<=maxLen) (hr:Rd w a (zf l)):
  Calls Tryz.prog 36 #[.slice a n c,uy t] w λe w'=>e= .returned (uy (yO l t))/\w'=w:=by
 unfold maxLen at hn;have HL:=zd hl;clear hl;go_enter Tryz.func36,Tryz.ntmps36;go_wp2
 go_loopw [8] (λi wr=>∃k:Nat,k<=n/\i=uy k/\uH (∀j,j<k->l.getD j 0≠t)/\wr=w) (λi _=>n-(intOf i).toNat)
 case atStart=>exact⟨0,jq,rfl,zd jq,rfl⟩
 case round=>
  obtain⟨k,hk,rfl,a0,rfl⟩:=hrel;by_cases c0:k<n
  ·obtain⟨b,o,rfl,hc⟩:=hr.int (jQ HL.o);have g:=hc k (jQ HL.o);obtain⟨x,hx⟩:=jy (l.getD k 0);rw[<-hx] at g;have HX:=zd hx;clear hc hx;by_cases e:x=t
   ·have t1:(t==x)=true:=(by simpa using e.symm);have HF:uH (yO l t=k):=zd (JS (jQ HL.o) (by rw[<-HX.o];exact e) (λj hj=>a0.out j hj));clear e;go_wp2;go_ret;exact⟨Xv HF.o.symm,rfl⟩
   ·have t1:(t==x)=false:=(by simpa using λh:t=x=>e h.symm);have HE:=zd e;clear e;go_wp2
    go_roundw
    case rel=>exact⟨k+1,jq,by go_num,zd (λj hj=>by
      rcases Nat.lt_or_ge j k with h|h
      ·exact a0.out j h
      ·have:j=k:=jq;subst this;rw[<-HX.o];exact HE.o),trivial⟩
    case measure=>exact uq
  ·have b0:k=n:=jq;subst b0;have HF:uH (yO l t= -1):=zd (XE (λj hj=>a0.out j (jQ HL.o)));go_wp2;go_ret;exact⟨Xv HF.o.symm,rfl⟩
theorem jK (a:uQ) (n c:Nat) (l:List Int) (t:Int) (w:World) (hl:l.length=n) (hn:n<=maxLen) (hr:Rd w a (zf l)):
  Calls Tryz.prog 50 #[.slice a n c,uy t] w λe w'=>e= .returned (.bool (decide (0<=yO l t)))/\w'=w:=by
 go_enter Tryz.func50,Tryz.ntmps50;go_wp2_with fail;refine(Vi a n c l t w hl hn hr).mono ?_;rintro e w' ⟨rfl,rfl⟩;go_wp2;go_ret;exact⟨rfl,rfl⟩
theorem vX {l:List Int} (h:t∉l):decide (0<=yO l t)=false:=by rw[uJ h];rfl
theorem kf {l:List Int} (h:t∈l):decide (0<=yO l t)=true:=xK (vE h).1
theorem U3:∀(L:List (Int×Value)) (k:Int) (i j:Nat) (v:Value),qQ L k i=some (j,v)->i<=j/\JU L k=L.eraseIdx (j-i)
 |[],k,i,j,v,h=>by simp[qQ] at h
 |(a,u)::r,k,i,j,v,h=>by
  by_cases e:k=a
  ·simp only[qQ,e,if_true,qy,Prod.mk.injEq] at h;obtain⟨rfl,rfl⟩:=h;simp[JU,e]
  ·simp only[qQ,e,if_false] at h;obtain⟨h1,h2⟩:=U3 r k (i+1) j v h;refine⟨jq,?_⟩;rw[show j-i=(j-(i+1))+1 by omega];simp[JU,e,h2]
theorem GB:∀(L:List (Int×Value)) (k:Int) (i:Nat),qQ L k i=none->JU L k=L
 |[],_,_,_=>rfl
 |(a,u)::r,k,i,h=>by
  by_cases e:k=a
  ·simp[qQ,e] at h
  ·simp only[qQ,e,if_false] at h;simp[JU,e,GB r k (i+1) h]
theorem Ue:∀(L:List (Int×Value)) (k:Int),(L.map Prod.fst).Nodup->JU L k=L.filter λe=>decide (e.1≠k)
 |[],_,_=>rfl
 |(a,u)::r,k,h=>by
  simp only[List.map_cons,List.nodup_cons] at h;by_cases e:k=a
  ·subst e;have h2:r.filter (λe=>decide (e.1≠k))=r:=List.filter_eq_self.2 λx hx=>xK λhh=>h.1 (hh▸yU.2 ⟨x,hx,rfl⟩);simp only[JU,if_true,List.filter_cons,ne_eq,not_true_eq_false,decide_false,Bool.false_eq_true,if_false];exact h2.symm
  ·have h3:¬a=k:=λhh=>e hh.symm;simp only[JU,e,if_false,List.filter_cons,ne_eq,h3,not_false_eq_true,decide_true,if_true,Ue r k h.2]
section
variable {P:Program} {w:World} {B:Nat} {L:List (Int×Value)}
theorem ZT {β:Type} (f:α->β):∀(l:List α) (j:Nat),(l.eraseIdx j).map f=(l.map f).eraseIdx j
 |[],_=>rfl
 |_::_,0=>rfl
 |a::l,j+1=>by simp[ZT f l j]
theorem U4 {K:TypeId} {q:IntKind} (ty:TypeId) (hT:P.underlying T=some (.map K E)) (hK:P.underlying K=some (.int q)) (h:qe w B L) (k:Int):
  ∃w',(Builtin.delete_ #[T,K] ty #[.map (some B),uy k]).run P w= .ok (.tuple #[]) w'/\qe w' B (JU L k)/\w.grownBy w' (some B)/\w'.heap.size=w.heap.size:=by
 have d0:=h.lt;obtain⟨es,a0,hb,he,f0,b0,c0⟩:=h;have hf:=Jn q k es.toList L 0 he
 cases hm:qQ L k 0 with
 |none=>
  rw[hm] at hf;refine⟨World.setMap w B (.map es a0),?_,?_,Y9 _ _ _,XP _ _ _⟩
  ·simp[Builtin.delete_,Sem.run_bind,run_underlying hT,getObj,setObj,Sem.run,hb,vm _ 9999 K q hK,Instr.findKey,run_underlying hK,hf,World.setMap,Result.andThen]
  ·rw[GB L k 0 hm];exact⟨_,_,J7 _ _ _ d0,he,f0,b0,c0⟩
 |some p=>
  obtain⟨j,u⟩:=p;rw[hm] at hf;obtain⟨_,h3⟩:=U3 L k 0 j u hm;rw[Nat.sub_zero] at h3;refine⟨World.setMap w B (.map (es.eraseIdxIfInBounds j) a0),?_,?_,Y9 _ _ _,XP _ _ _⟩
  ·simp[Builtin.delete_,Sem.run_bind,run_underlying hT,getObj,setObj,Sem.run,hb,vm _ 9999 K q hK,Instr.findKey,run_underlying hK,hf,World.setMap,Result.andThen]
  ·have hl:(es.eraseIdxIfInBounds j).toList=es.toList.eraseIdx j:=jv;refine⟨_,_,J7 _ _ _ d0,?_,?_,?_,?_⟩
   ·rw[hl,h3,ZT,ZT,he]
   ·rw[h3,ZT];exact f0.sublist (List.eraseIdx_sublist _ _)
   ·rw[hl,ZT];exact b0.sublist (List.eraseIdx_sublist _ _)
   ·rw[hl];exact λe g0=>c0 e (List.mem_of_mem_eraseIdx g0)
end
section
variable {P:Program} {w:World} {ops:Array Oper} {rest:List Oper} {o:Oper} {a:Act} {Q:Exit->Act->World->Prop} {B:Nat} {L:List (Int×Value)} {T K E:TypeId} {q:IntKind}
theorem Vr (hg:o.guard=none) (m x:Operand) (hop:o.op=Op.call {callee:=Callee.builtin Builtin.delete,args:= #[m,x],argTypes:= #[T,K]}) (hT:P.underlying T=some (.map K E)) (hK:P.underlying K=some (.int q))
  (hm:a.eval m= .map (some B)) (b0:qe w B L) {k:Int} (hx:a.eval x=uy k)
  (h:∀w',qe w' B (JU L k)->w.grownBy w' (some B)->w'.heap.size=w.heap.size->wpList P ops Q rest (a.put o.dst (.tuple #[])) w'):wpList P ops Q (o::rest) a w:=by
 refine wpList_plain hg λK' a0=> ?_;obtain⟨w',c0,h1,h2,h3⟩:=U4 (P:=P) o.type hT hK b0 k;unfold Oper.wp;simp[execOp,hop,resolve,invoke,builtin,hm,hx,c0,Result.andThen];exact a0 _ _ (h w' h1 h2 h3)
end
def jE {α:Type} (f:α->uZ) (W:World) (B:Nat) (es:List (Int×α)):Prop:=
 ∃Z:List ((Int×α)×uQ×Nat),Z.map (·.1)=es/\qe W B (Z.map λz=>(z.1.1,.slice z.2.1 1 z.2.2))/\∀z∈Z,Rd W z.2.1 (f z.1.2)/\1<=z.2.2
theorem Qe {L:List (Int×Value)} (h:qe W B L) (hr:Rd W a cs) (b0:cs≠[]):∀b,zj a=some b->b≠B:=by
 intro b hb e;subst e;obtain⟨es,a0,hB,_⟩:=h;rcases hr with h0|⟨b',o,rfl,hc⟩
 ·exact b0 h0
 ·obtain rfl:b'=b:=by simpa[zj] using hb
  have:=hc 0 (List.length_pos_iff.2 b0);unfold World.cell? at this;simp[hB] at this
section
variable {α:Type} {f:α->uZ} {W W':World} {B:Nat} {es:List (Int×α)}
theorem jE.made (W:World):jE f (W.alloc (.map #[] 0)) W.heap.size []:=⟨[],rfl,qe.made W,jv⟩
theorem jE.below (h:jE f W B es) (hb:xW W W'):jE f W' B es:=by
 obtain⟨Z,h1,h2,h3⟩:=h;exact⟨Z,h1,h2.below hb,λz hz=>⟨(h3 z hz).1.below hb,(h3 z hz).2⟩⟩
theorem jE.grown (h:jE f W B es) (hg:W.grownBy W' (some g)) (a0:g≠B) (hr:∀x,f x≠[]) {L:List (Int×Value)} (hm:qe W g L):jE f W' B es:=by
 obtain⟨Z,h1,h2,h3⟩:=h;refine⟨Z,h1,h2.grown hg (λe=>a0 (by simpa using e)),λz hz=>⟨(h3 z hz).1.grown hg (.inr λe=> ?_),(h3 z hz).2⟩⟩;exact Qe hm (h3 z hz).1 (hr _) g e rfl
theorem jE.put {Z:List ((Int×α)×uQ×Nat)} (h1:Z.map (·.1)=es) (h2:qe W B (Z.map λz=>(z.1.1,.slice z.2.1 1 z.2.2))) (h3:∀z∈Z,Rd W z.2.1 (f z.1.2)/\1<=z.2.2) {x:α} (ht:t∉es.map (·.1)) (hr:Rd W a (f x)) (hc:1<=c) (hf:∀x,f x≠[]) (hg:W.grownBy W' (some B)) (h4:qe W' B (Zx (Z.map λz=>(z.1.1,.slice z.2.1 1 z.2.2)) t (.slice a 1 c))):jE f W' B (es++[(t,x)]):=by
 have hk:t∉(Z.map λz=>(z.1.1,Value.slice z.2.1 1 z.2.2)).map Prod.fst:=by
  rw[List.map_map];intro b0;apply ht;rw[<-h1,List.map_map];exact b0
 rw[UJ _ _ _ hk] at h4;refine⟨Z++[((t,x),a,c)],by rw[vQ,h1];rfl,by rw[vQ];exact h4,λz hz=> ?_⟩;have key:∀{a':uQ} {y:α},Rd W a' (f y)->Rd W' a' (f y):=λa0=>a0.grown hg (.inr λe=>Qe h2 a0 (hf _) B e rfl);rcases xM hz with hz|hz
 ·exact⟨key (h3 z hz).1,(h3 z hz).2⟩
 ·obtain rfl:=yh hz;exact⟨key hr,hc⟩
theorem jE.absent {Z:List ((Int×α)×uQ×Nat)} (h1:Z.map (·.1)=es) (ht:t∉es.map (·.1)):YG (Z.map λz=>(z.1.1,Value.slice z.2.1 1 z.2.2)) t=none:=by
 rw[VE,List.map_map];intro a0;apply ht;rw[<-h1,List.map_map];exact a0
end
theorem ue (x:xS) (a:uQ) (n c:Nat) (w:World) (hl:x.queue.length=n) (hn:n<=1048576) (hr:Rd w a (zK x.queue)):
  Calls Tryz.prog 107 #[.agg #[uy x.free,uy x.limit,.slice a n c]] w λe w'=>∃(a':uQ) (c':Nat),e= .returned (.agg #[uy x.free,uy x.limit,.slice a' n c'])/\w'.ownsRow w.heap.size 151 2 (.slice a' n c') n (zK x.queue)/\xW w w':=by
 have HL:=zd hl;have F:=((Fr.start w).alloc #[uy x.free,uy x.limit,.slice a n c] 74).alloc #[uy 0,uy 0,uk] 74;simp only[yY] at F;have q0:=F.cell 1 0 rfl rfl;have q1:=F.cell 1 1 rfl rfl;have q2:=F.cell 1 2 rfl rfl;have HR:=zd hr;clear hl hr;go_enter Tryz.func107,Tryz.ntmps107;go_wp2_with (at_builtin;refine(F.nil _ 2).appW 0 rfl _ _ rfl rfl rfl x.queue rfl HL.o (F.rd HR.o) jq ?_;intro a1 c1 W1 F1;clear F q0 q1 q2;simp only[List.set_cons_zero,qZ,Nat.zero_add] at F1;have q:=F1.c3 2 rfl;have r:=F1.c3 1 rfl);have F2:=(F1.set 2 rfl 2 (.slice a1 n c1)).set3 1 rfl (uy x.free) (uy x.limit) (.slice a1 n c1);exact zM (v:= .agg #[uy x.free,uy x.limit,.slice a1 n c1]) (by simp[results,Tryz.results107,go_sem,F2.c3 1 rfl]) rfl ⟨a1,c1,rfl,F2.own 0 rfl,F2.bel⟩
theorem vV {w6:World} (a0:∃p:Regrown,w6=Go.Sort.grow (redrawn w p.d) p.os):xW w w6:=by
 obtain⟨p,rfl⟩:=a0;exact below_regrown _ _ _
theorem Qz (l:List (Int×Int)) (k:Nat) (hk:k<l.length):(l.take (k+1)).map (·.1)=(l.take k).map (·.1)++[(l.getD k (0,0)).1]:=by
 rw[List.take_add_one,xV hk,vQ];simp[List.getD,hk]
theorem Y6 (x:xS) (a:uQ) (n c:Nat) (w:World) (hl:x.queue.length=n) (hr:Rd w a (zK x.queue)) (ok:Xb x):
  Calls Tryz.prog 85 #[.agg #[uy x.free,uy x.limit,.slice a n c]] w λe w'=>e= .returned (.bool true)/\xW w w':=by
 obtain⟨f,f0,q⟩:=x;obtain⟨⟨l1,l2⟩,⟨f1,f2⟩,hc,ht,hf⟩:=ok;dsimp only at*;have hn:n<=6:=by rw[<-hl];simpa using ht.1
 have HL:=zd hl;have HC:=zd hc;have HT:=zd ht;have HF:=zd hf;have HR:=zd hr;have F:=(Fr.start w).alloc #[uy f,uy f0,.slice a n c] 74;have cs:=F.c3 0 rfl;clear hl hc ht hf hr;go_enter Tryz.func85,Tryz.ntmps85;go_wp2;clear cs
 go_loopw [35,3] (λi th wr=>∃(k:Nat) (a3:uQ) (c3:Nat),k<=n/\i=uy k/\th= .slice a3 k c3/\Fr w wr [.row a3 k c3 3 1 (zf ((q.take k).map (·.1))),.blk w.heap.size #[uy f,uy f0,.slice a n c] 74]) (λi _ _=>n-(intOf i).toNat)
 case atStart=>exact⟨0,none,0,jq,rfl,rfl,F.nil _ _⟩
 case round=>
  obtain⟨k,a3,c3,hk,rfl,rfl,F1⟩:=hrel;by_cases h0:k<n
  ·obtain⟨b,o,rfl,g'⟩:=(F1.rd HR.o).pair (jQ HL.o);obtain⟨g1,g2⟩:=g' k (jQ HL.o);obtain⟨y,hy⟩:=jy (q.getD k (0,0));rw[<-hy] at g1 g2;have hm:=HC.o y (by rw[hy];exact qV (jQ HL.o));have HM:uH ((q.take (k+1)).map (·.1)=(q.take k).map (·.1)++[y.1]):=zd (by rw[hy];exact Qz q k (jQ HL.o));have j0:=hm.1;have k0:=hm.2;have F2:=F1.alloc #[uy y.1,uy y.2] 151;have cy:=F2.c2 0 rfl;have cs:=F2.c3 2 rfl;have F3:=F2.alloc #[uy y.1] 3;simp only[yY] at F3;clear g' hy hm;go_wp2_with (at_builtin;refine F3.appI 2 rfl _ _ rfl rfl rfl [y.1] rfl rfl (Rd.of_blk (F3.blk 0 rfl)) jq ?_;intro a4 c4 W4 F4)
   go_roundw
   case rel=>exact⟨k+1,a4,c4,jq,by go_num,rfl,by rw[HM.o,xy];exact F4.sub jv⟩
   case measure=>exact uq
  ·have g0:k=n:=jq;subst g0;rw[Jh (jQ HL.o)] at F1;have cs:=F1.c3 1 rfl;go_wp2_with fail;have c0:=λd os=>Calls.regrown_of (uG a3 k c3 _ (Sort.grow (redrawn wr d) os) (by rw[yG];exact HL.o) ((F1.rdRow 0 rfl).below (below_regrown _ d os)) HT.o);have b0:=zd c0;clear c0;by_cases d0:k=0
   ·subst d0;have rc:=λd os=>cell_regrown cs.2.2.2.2.1 d os;clear cs;refine wp_region_quiet_below (by kernel_rfl) (by kernel_rfl) ?_
    repeat (go_big_quiet_step (with_reducible exact b0.out _ _))
    refine wpQuiet_nil ?_;intro w6 a0;have hb:=F1.bel.trans ((vV a0).mono F1.bel.size);clear a0;go_wp2;go_ret;exact⟨rfl,hb⟩
   ·obtain⟨b,o,rfl,g'⟩:=(F1.rd HR.o).pair (jQ HL.o);have g2:=(g' 0 (jQ HL.o)).2;obtain⟨y,u,hy⟩:∃y u,q=y::u:=List.exists_cons_of_length_pos (jQ HL.o);have h0:=HF.o y u hy;rw[hy,show((y::u).getD 0 (0,0)).2=y.2 from rfl,Nat.zero_mul,Nat.add_zero] at g2;have hz:((k:Int)==0)=false:=(by simpa using d0);have i0:(0:Int)<(k:Int):=jq;have rc:=λd os=>cell_regrown cs.2.2.2.2.1 d os;have l0:=λd os=>cell_regrown cs.1 d os;have rg:=λd os=>cell_regrown g2 d os;clear cs g' hy;refine wp_region_quiet_below (by kernel_rfl) (by kernel_rfl) ?_
    repeat (go_big_quiet_step (with_reducible exact b0.out _ _))
    refine wpQuiet_nil ?_;intro w6 a0;have hb:=F1.bel.trans ((vV a0).mono F1.bel.size);clear a0;go_wp2;go_ret;exact⟨rfl,hb⟩
theorem gJ (g:Nat) (lb:Array Value) (a:uQ) (n c:Nat) (l:List (Int×Int)) (w:World) (eg:∀args w,(callFunc g args).run Tryz.prog w= .ok (.enter g args) w)
  (hl:l.length=n) (hn:n<=maxLen) (hr:Rd w a (zK l)) (hp:∀x∈l,∀w',xW w w'->Calls Tryz.prog g (#[.agg #[uy x.1,uy x.2]]++lb) w' λe w2=>e= .returned (.bool false)/\xW w' w2):
  Calls Tryz.prog 145 #[.slice a n c,.func (.func g) #[] lb] w λe w'=>e= .returned (uy (-1))/\xW w w':=by
 unfold maxLen at hn;have HL:=zd hl;have HP:=zd hp;clear hl hp;go_enter Tryz.func145,Tryz.ntmps145;go_wp2
 go_loopw [8] (λi wr=>∃k:Nat,k<=n/\i=uy k/\xW w wr) (λi _=>n-(intOf i).toNat)
 case atStart=>exact⟨0,jq,rfl,Below.refl _ _⟩
 case round=>
  obtain⟨k,hk,rfl,hb⟩:=hrel;by_cases c0:k<n
  ·obtain⟨b,o,rfl,hc⟩:=(hr.below hb).pair (jQ HL.o);obtain⟨g1,g2⟩:=hc k (jQ HL.o);obtain⟨x,hx⟩:=jy (l.getD k (0,0));rw[<-hx] at g1 g2;have HX:uH (x∈l):=zd (by rw[hx];exact qV (jQ HL.o));have HB:=zd hb;clear hc hx hb;go_wp2_with (go_at_fn g;refine(HP.o x HX.o _ HB.o).mono ?_;rintro e w2 ⟨rfl,a0⟩)
   go_roundw
   case rel=>exact⟨k+1,jq,by go_num,HB.o.trans (a0.mono HB.o.size)⟩
   case measure=>exact uq
  ·have b0:k=n:=jq;subst b0;go_wp2;go_ret;exact⟨rfl,hb⟩
theorem dI (y:Int×Int) (t:Int) (b:Nat) (w:World) (h:w.cell? ⟨b,0,none⟩=some (uy t)) (a0:y.1≠t):
  Calls Tryz.prog 146 (#[.agg #[uy y.1,uy y.2]]++ #[.pointer (some ⟨b,0,none⟩)]) w λe w2=>e= .returned (.bool false)/\xW w w2:=by
 have t0:(y.1==t)=false:=by simpa using a0
 have F:=(Fr.start w).alloc #[uy y.1,uy y.2] 151;have cy:=F.c2 0 rfl;have ct:=ze F.bel h;clear a0;go_enter Tryz.func146,Tryz.ntmps146;go_wp2;go_ret;exact⟨rfl,F.bel⟩
theorem gW (x:xS) (a:uQ) (n c:Nat) (t:Int) (w:World) (hl:x.queue.length=n) (hn:n<=6) (hr:Rd w a (zK x.queue)) (a0:t∉x.queue.map (·.1)):
  Calls Tryz.prog 111 #[.agg #[uy x.free,uy x.limit,.slice a n c],uy t] w λe w'=>e= .returned (uy (-1))/\xW w w':=by
 have b0:∀(fn:Fn) (first cap:Array Value) (w:World),(Instr.makeFunc fn first cap).run Tryz.prog w= .ok (.func fn first cap) w:=λ_ _ _ _=>rfl;have F:=((Fr.start w).alloc #[uy x.free,uy x.limit,.slice a n c] 74).alloc #[uy t] 3;simp only[yY] at F;have cs:=F.c3 1 rfl;have ct:=F.cell 0 0 rfl rfl;have HN:=zd a0;clear a0;go_enter Tryz.func111,Tryz.ntmps111;go_wp2_with fail;refine(gJ 146 #[.pointer (some ⟨w.heap.size+1,0,none⟩)] a n c x.queue _ (enters_of Tryz.func146 (by kernel_rfl) rfl) hl (by unfold maxLen;omega) (F.rd hr) (λy hy w' hb=>dI y t _ w' (ze hb ct) (λe=>HN.o (yU.2 ⟨y,hy,e⟩)))).mono ?_;rintro e w1 ⟨rfl,hb⟩;have F1:=F.call hb;go_wp2;go_ret;exact⟨rfl,F1.bel⟩
theorem K7 (x:xS) (a:uQ) (n c:Nat) (t m:Int) (w:World) (hl:x.queue.length=n) (hr:Rd w a (zK x.queue)) (ok:Xb x) (ht:0<=t/\t<6) (hm:1<=m/\m<=x.limit) (d0:t∉x.queue.map (·.1)):
  Calls Tryz.prog 55 #[.agg #[uy x.free,uy x.limit,.slice a n c],uy t,uy m] w λe w'=>∃(y:xS) (s:zP),y=(jB x t m).1/\e= .returned (.tuple #[UM y s,.bool (jB x t m).2,.bool true])/\yy w w' s (zK y.queue) y.queue.length/\xW w w':=by
 have h6:n<=6:=by rw[<-hl];simpa using ok.2.2.2.1.1
 have HL:=zd hl;have HR:=zd hr;have f0:=zd ok;have HT:=zd ht;have HN:=zd d0;have f1:=ok.2.1.1;have f2:=ok.2.1.2;have f3:=ok.1.2;have g0:=hm.1;have i0:=hm.2;have F:=((Fr.start w).alloc #[uy x.free,uy x.limit,.slice a n c] 74).alloc #[uy 0,uy 0,uk] 74;simp only[yY] at F;have cs:=F.c3 1 rfl;clear hl hr ok ht d0 hm;go_enter Tryz.func55,Tryz.ntmps55;go_wp2_with fail;refine(Y6 x a n c _ HL.o (F.rd HR.o) f0.out).mono ?_;rintro e w1 ⟨rfl,hb⟩;replace F:=F.call hb;replace cs:=F.c3 1 rfl;clear hb;go_wp2_with fail;refine(jx t _ HT.o).mono ?_;rintro e w3 ⟨rfl,hw⟩;obtain rfl:=hw;go_wp2_with fail;refine(gW x a n c t _ HL.o h6 (F.rd HR.o) HN.o).mono ?_;rintro e w1 ⟨rfl,hb⟩;replace F:=F.call hb;replace cs:=F.c3 1 rfl;clear hb;go_wp2_with fail;refine(ue x a n c _ HL.o jq (F.rd HR.o)).mono ?_;rintro e w2 ⟨a2,c2,rfl,ho,hb⟩;have F2:=F.row hb ho;have F3:=F2.set3 2 rfl (uy x.free) (uy x.limit) (.slice a2 n c2);replace cs:=F2.c3 2 rfl;clear F hb ho;go_upto_region 4 with fail;obtain⟨W3,hW,F4⟩:=F3.named;rw[<-hW];clear hW F3 F2 cs;have F3:=F4;have cs:=F3.c3 2 rfl;have cr:=F3.c3 1 rfl;by_cases a0:x.queue=[]/\m<=x.free
 ·have b0:n=0:=by rw[<-HL.o,a0.1];rfl
  have j0:=a0.2;have HV:uH (jB x t m=(⟨x.free-m,x.limit,x.queue⟩,true)):=zd (by unfold jB;rw[if_pos a0]);clear a0;subst b0;have F5:=(F3.set 2 rfl 0 (uy (x.free-m))).set3 1 rfl (uy (x.free-m)) (uy x.limit) (.slice a2 0 c2);go_wp2;exact zM (v:= .tuple #[.agg #[uy (x.free-m),uy x.limit,.slice a2 0 c2],.bool true,.bool true]) (by simp[results,Tryz.results55,go_sem,F5.c3 1 rfl]) rfl ⟨⟨x.free-m,x.limit,x.queue⟩,⟨a2,0,c2⟩,by rw[HV.o],by rw[HV.o],HL.o▸F5.sln 0 rfl,F5.bel⟩
 ·have HV:uH (jB x t m=(⟨x.free,x.limit,x.queue++[(t,m)]⟩,false)):=zd (by unfold jB;rw[if_neg a0]);have c0:n=0->decide (m<=x.free)=false:=λh0=>xr (λhm=>a0 ⟨List.eq_nil_of_length_eq_zero (by rw[HL.o];exact h0),hm⟩);clear a0;have F4:=F3.alloc #[uy t,uy m] 151;by_cases b0:n=0
  ·have t1:=c0 b0;subst b0;clear c0;go_wp2_with (at_builtin;refine F4.appW 1 rfl _ _ rfl rfl rfl [(t,m)] rfl rfl (Rd.of_blk (F4.blk 0 rfl)) jq ?_;intro a4 c4 W4 F5;simp only[List.set_cons_succ,List.set_cons_zero] at F5;rw[<-JY] at F5;clear cs cr;have cs:=F5.c3 3 rfl;have F6:=F5.set 3 rfl 2 (.slice a4 (0+1) c4));refine(ue ⟨x.free,x.limit,x.queue++[(t,m)]⟩ a4 (0+1) c4 _ (by rw[xp,HL.o];rfl) jq (F6.rdRow 1 rfl)).mono ?_;rintro e w7 ⟨a5,c5,rfl,ho,hb⟩;have F7:=F6.row hb ho;have cr:=F7.c3 3 rfl;have F8:=F7.set3 3 rfl (uy x.free) (uy x.limit) (.slice a5 (0+1) c5);clear hb ho;go_wp2;exact zM (v:= .tuple #[.agg #[uy x.free,uy x.limit,.slice a5 (0+1) c5],.bool false,.bool true]) (by simp[results,Tryz.results55,go_sem,F8.c3 3 rfl]) rfl ⟨⟨x.free,x.limit,x.queue++[(t,m)]⟩,⟨a5,(0+1),c5⟩,by rw[HV.o],by rw[HV.o],by rw[xp,HL.o];exact F8.sln 0 rfl,F8.bel⟩
  ·have t0:((n:Int)==0)=false:=(by simpa using b0);clear c0;go_wp2_with (at_builtin;refine F4.appW 1 rfl _ _ rfl rfl rfl [(t,m)] rfl rfl (Rd.of_blk (F4.blk 0 rfl)) jq ?_;intro a4 c4 W4 F5;simp only[List.set_cons_succ,List.set_cons_zero] at F5;rw[<-JY] at F5;clear cs cr;have cs:=F5.c3 3 rfl;have F6:=F5.set 3 rfl 2 (.slice a4 (n+1) c4));refine(ue ⟨x.free,x.limit,x.queue++[(t,m)]⟩ a4 (n+1) c4 _ (by rw[xp,HL.o];rfl) jq (F6.rdRow 1 rfl)).mono ?_;rintro e w7 ⟨a5,c5,rfl,ho,hb⟩;have F7:=F6.row hb ho;have cr:=F7.c3 3 rfl;have F8:=F7.set3 3 rfl (uy x.free) (uy x.limit) (.slice a5 (n+1) c5);clear hb ho;go_wp2;exact zM (v:= .tuple #[.agg #[uy x.free,uy x.limit,.slice a5 (n+1) c5],.bool false,.bool true]) (by simp[results,Tryz.results55,go_sem,F8.c3 3 rfl]) rfl ⟨⟨x.free,x.limit,x.queue++[(t,m)]⟩,⟨a5,(n+1),c5⟩,by rw[HV.o],by rw[HV.o],by rw[xp,HL.o];exact F8.sln 0 rfl,F8.bel⟩
theorem Yq (x:xJ) (a:uQ) (n c:Nat) (w:World) (hl:x.waits.length=n) (hn:n<=1048576) (hr:Rd w a (zf x.waits)):
  Calls Tryz.prog 108 #[.agg #[uy x.state,uy x.owner,uy x.value,.slice a n c]] w λe w'=>∃(a':uQ) (c':Nat),e= .returned (.agg #[uy x.state,uy x.owner,uy x.value,.slice a' n c'])/\w'.ownsRow w.heap.size 3 1 (.slice a' n c') n (zf x.waits)/\xW w w':=by
 have F:=((Fr.start w).alloc #[uy x.state,uy x.owner,uy x.value,.slice a n c] 81).alloc #[uy 0,uy 0,uy 0,uk] 81;simp only[yY] at F;have cs:=F.c4 1 rfl;go_enter Tryz.func108,Tryz.ntmps108;go_wp2_with fail;refine(yV a n c x.waits _ hl jq (F.rd hr)).mono ?_;rintro e w1 ⟨a1,c1,rfl,ho,hb⟩;replace F:=F.row hb ho;have cs:=F.c4 2 rfl;have cr:=F.c4 1 rfl;clear hb ho;have F2:=(F.set 2 rfl 3 (.slice a1 n c1)).set4 1 rfl (uy x.state) (uy x.owner) (uy x.value) (.slice a1 n c1);go_wp2;exact zM (v:= .agg #[uy x.state,uy x.owner,uy x.value,.slice a1 n c1]) (by simp[results,Tryz.results108,go_sem,F2.c4 1 rfl]) rfl ⟨a1,c1,rfl,F2.own 0 rfl,F2.bel⟩
theorem ug (x:xJ) (a:uQ) (n c:Nat) (w:World) (hl:x.waits.length=n) (hr:Rd w a (zf x.waits)) (ok:uF x):
  Calls Tryz.prog 89 #[.agg #[uy x.state,uy x.owner,uy x.value,.slice a n c]] w λe w'=>e= .returned (.bool true)/\xW w w':=by
 obtain⟨st,ow,va,ws⟩:=x;dsimp only at*;rcases ok with ⟨h1,h2,h3,h4⟩|⟨h1,h2,h3,h4,h5⟩|⟨h1,h2,h3,h4⟩
 ·dsimp only at h1 h2 h3 h4;subst h1 h2 h3 h4;obtain rfl:n=0:=hl.symm;have F:=(Fr.start w).alloc #[uy 0,uy 0,uy 0,.slice a 0 c] 81;have cs:=F.c4 0 rfl;go_enter Tryz.func89,Tryz.ntmps89;go_wp2;go_ret;exact⟨rfl,F.bel⟩
 ·dsimp only at h1 h2 h3 h4 h5;subst h1 h3;have h6:n<=6:=by rw[<-hl];exact h4.1
  have F:=(Fr.start w).alloc #[uy 1,uy ow,uy 0,.slice a n c] 81;have cs:=F.c4 0 rfl;go_enter Tryz.func89,Tryz.ntmps89;go_wp2_with fail;refine(jx ow _ h2).mono ?_;rintro e wz ⟨rfl,hw⟩;obtain rfl:=hw;go_wp2_with fail;refine(uG a n c ws _ hl (F.rd hr) h4).mono ?_;rintro e w1 ⟨rfl,hb⟩;replace F:=F.call hb;replace cs:=F.c4 0 rfl;clear hb;go_wp2_with fail;refine(jK a n c ws ow _ hl (by unfold maxLen;omega) (F.rd hr)).mono ?_;rintro e wz ⟨rfl,hw⟩;obtain rfl:=hw;rw[vX h5];go_wp2;go_ret;exact⟨rfl,F.bel⟩
 ·dsimp only at h1 h2 h3 h4;subst h1 h4;obtain rfl:n=0:=hl.symm;have F:=(Fr.start w).alloc #[uy 2,uy ow,uy va,.slice a 0 c] 81;have cs:=F.c4 0 rfl;go_enter Tryz.func89,Tryz.ntmps89;go_wp2_with fail;refine(jx ow _ h2).mono ?_;rintro e wz ⟨rfl,hw⟩;obtain rfl:=hw;go_wp2_with fail;refine(vC va _ h3).mono ?_;rintro e wz ⟨rfl,hw⟩;obtain rfl:=hw;go_wp2;go_ret;exact⟨rfl,F.bel⟩
theorem UC (x:xJ) (a:uQ) (n c:Nat) (t:Int) (w:World) (hl:x.waits.length=n) (hr:Rd w a (zf x.waits)) (ok:uF x) (ht:0<=t/\t<6) (b0:x.state=1->t≠x.owner/\t∉x.waits):
  Calls Tryz.prog 59 #[.agg #[uy x.state,uy x.owner,uy x.value,.slice a n c],uy t] w λe w'=>∃(y:xJ) (s:zP),y=qU x t/\e= .returned (.tuple #[G7 y s,uy x.state,.bool true])/\yy w w' s (zf y.waits) y.waits.length/\xW w w':=by
 obtain⟨st,ow,va,ws⟩:=x;have OK:=zd ok;have T6:=zd ht;have h6:n<=6:=by
  rw[<-hl];rcases ok with ⟨-,-,-,h4⟩|⟨-,-,-,h4,-⟩|⟨-,-,-,h4⟩
  ·rw[h4];simp
  ·exact h4.1
  ·rw[h4];simp
 dsimp only at*;clear ht;rcases ok with ⟨h1,h2,h3,h4⟩|⟨h1,h2,h3,h4,h5⟩|⟨h1,h2,h3,h4⟩
 ·dsimp only at h1 h2 h3 h4;subst h1 h2 h3 h4;obtain rfl:n=0:=hl.symm;have F:=((Fr.start w).alloc #[uy 0,uy 0,uy 0,.slice a 0 c] 81).alloc #[uy 0,uy 0,uy 0,uk] 81;simp only[yY] at F;have cs:=F.c4 1 rfl;go_enter Tryz.func59,Tryz.ntmps59;go_wp2_with fail;refine(ug ⟨0,0,0,[]⟩ a 0 c _ hl (F.rd hr) OK.o).mono ?_;rintro e w1 ⟨rfl,hb⟩;replace F:=F.call hb;replace cs:=F.c4 1 rfl;clear hb;go_wp2_with fail;refine(jx t _ T6.o).mono ?_;rintro e wz ⟨rfl,hw⟩;obtain rfl:=hw;have cr:=F.c4 0 rfl;have F2:=F.set4 0 rfl (uy 1) (uy t) (uy 0) uk;go_wp2;exact zM (v:= .tuple #[.agg #[uy 1,uy t,uy 0,uk],uy 0,.bool true]) (by simp[results,Tryz.results59,go_sem,F2.c4 0 rfl]) rfl ⟨_,zR,rfl,rfl,yy.nil _ _,F2.bel⟩
 ·dsimp only at h1 h2 h3 h4 h5;subst h1 h3;obtain⟨a0,c0⟩:=b0 rfl;have t0:(ow==t)=false:=by simpa using λe:ow=t=>a0 e.symm
  have F:=((Fr.start w).alloc #[uy 1,uy ow,uy 0,.slice a n c] 81).alloc #[uy 0,uy 0,uy 0,uk] 81;simp only[yY] at F;have cs:=F.c4 1 rfl;go_enter Tryz.func59,Tryz.ntmps59;go_wp2_with fail;refine(ug ⟨1,ow,0,ws⟩ a n c _ hl (F.rd hr) OK.o).mono ?_;rintro e w1 ⟨rfl,hb⟩;replace F:=F.call hb;replace cs:=F.c4 1 rfl;clear hb;go_wp2_with fail;refine(jx t _ T6.o).mono ?_;rintro e wz ⟨rfl,hw⟩;obtain rfl:=hw;go_wp2_with fail;refine(jK a n c ws t _ hl (by unfold maxLen;omega) (F.rd hr)).mono ?_;rintro e wz ⟨rfl,hw⟩;obtain rfl:=hw;rw[vX c0];go_wp2_with fail;refine(Yq ⟨1,ow,0,ws⟩ a n c _ hl jq (F.rd hr)).mono ?_;rintro e w1 ⟨a1,c1,rfl,ho,hb⟩;replace F:=F.row hb ho;clear hb ho;replace cs:=F.c4 2 rfl;have F2:=F.set4 2 rfl (uy 1) (uy ow) (uy 0) (.slice a1 n c1);go_upto_region 11 with fail;obtain⟨W3,hW,F3⟩:=F2.named;rw[<-hW];clear hW F2 cs F;have cs:=F3.c4 2 rfl;have F4:=F3.alloc #[uy t] 3;go_wp2_with (at_builtin;refine F4.appI 1 rfl _ _ rfl rfl rfl [t] rfl rfl (Rd.of_blk (F4.blk 0 rfl)) jq ?_;intro a4 c4 W4 F5;simp only[List.set_cons_succ,List.set_cons_zero] at F5;rw[<-xy] at F5);refine(yV a4 (n+1) c4 (ws++[t]) _ (by rw[xp,hl];rfl) jq (F5.rdRow 1 rfl)).mono ?_;rintro e w7 ⟨a5,c5,rfl,ho,hb⟩
  have F7:=F5.row hb ho;have cr:=F7.c4 3 rfl;replace cs:=F7.c4 4 rfl;have F8:=(F7.set 4 rfl 3 (.slice a5 (n+1) c5)).set4 3 rfl (uy 1) (uy ow) (uy 0) (.slice a5 (n+1) c5);clear hb ho;go_wp2;exact zM (v:= .tuple #[.agg #[uy 1,uy ow,uy 0,.slice a5 (n+1) c5],uy 1,.bool true]) (by simp[results,Tryz.results59,go_sem,F8.c4 3 rfl]) rfl ⟨⟨1,ow,0,ws++[t]⟩,⟨a5,n+1,c5⟩,rfl,rfl,by rw[xp,hl];exact F8.sln 0 rfl,F8.bel⟩
 ·dsimp only at h1 h2 h3 h4;subst h1 h4;obtain rfl:n=0:=hl.symm;have F:=((Fr.start w).alloc #[uy 2,uy ow,uy va,.slice a 0 c] 81).alloc #[uy 0,uy 0,uy 0,uk] 81;simp only[yY] at F;have cs:=F.c4 1 rfl;go_enter Tryz.func59,Tryz.ntmps59;go_wp2_with fail;refine(ug ⟨2,ow,va,[]⟩ a 0 c _ hl (F.rd hr) OK.o).mono ?_;rintro e w1 ⟨rfl,hb⟩;replace F:=F.call hb;replace cs:=F.c4 1 rfl;clear hb;go_wp2_with fail;refine(jx t _ T6.o).mono ?_;rintro e wz ⟨rfl,hw⟩;obtain rfl:=hw;go_wp2_with fail;refine(Yq ⟨2,ow,va,[]⟩ a 0 c _ hl jq (F.rd hr)).mono ?_;rintro e w1 ⟨a1,c1,rfl,ho,hb⟩;replace F:=F.row hb ho;clear hb ho;have cr:=F.c4 1 rfl;have F2:=F.set4 1 rfl (uy 2) (uy ow) (uy va) (.slice a1 0 c1);go_wp2;exact zM (v:= .tuple #[.agg #[uy 2,uy ow,uy va,.slice a1 0 c1],uy 2,.bool true]) (by simp[results,Tryz.results59,go_sem,F2.c4 1 rfl]) rfl ⟨⟨2,ow,va,[]⟩,⟨a1,0,c1⟩,rfl,rfl,F2.sln 0 rfl,F2.bel⟩
theorem V4 (ws:List Int) (a:uQ) (n c:Nat) (t v:Int) (w:World) (hl:ws.length=n) (hr:Rd w a (zf ws)) (ok:uF ⟨1,t,0,ws⟩) (hv:0<=v/\v<=99):
  Calls Tryz.prog 58 #[.agg #[uy 1,uy t,uy 0,.slice a n c],uy t,uy v] w λe w'=>∃u:zP,e= .returned (.tuple #[G7 (Yl t v) zR,u.val,.bool true])/\w'.ownsRow w.heap.size 3 1 u.val u.n (zf ws)/\xW w w':=by
 have HV:=zd hv;have h6:n<=6:=by
  rw[<-hl];rcases ok with ⟨h,-⟩|⟨-,-,-,h4,-⟩|⟨h,-⟩
  ·simp at h
  ·exact h4.1
  ·simp at h
 clear hv;have F:=((Fr.start w).alloc #[uy 1,uy t,uy 0,.slice a n c] 81).alloc #[uy 0,uy 0,uy 0,uk] 81;simp only[yY] at F;have cs:=F.c4 1 rfl;go_enter Tryz.func58,Tryz.ntmps58;go_wp2_with fail;refine(ug ⟨1,t,0,ws⟩ a n c _ hl (F.rd hr) ok).mono ?_;rintro e w1 ⟨rfl,hb⟩;replace F:=F.call hb;replace cs:=F.c4 1 rfl;clear hb;go_wp2_with fail;refine(vC v _ HV.o).mono ?_;rintro e wz ⟨rfl,hw⟩;obtain rfl:=hw;go_wp2_with fail;refine(yV a n c ws _ hl jq (F.rd hr)).mono ?_;rintro e w1 ⟨a1,c1,rfl,ho,hb⟩;replace F:=F.row hb ho;have cr:=F.c4 1 rfl;clear hb ho;have F2:=F.set4 1 rfl (uy 2) (uy t) (uy v) uk;go_wp2;exact zM (v:= .tuple #[.agg #[uy 2,uy t,uy v,uk],.slice a1 n c1,.bool true]) (by simp[results,Tryz.results58,go_sem,F2.c4 1 rfl]) rfl ⟨⟨a1,n,c1⟩,rfl,F2.own 0 rfl,F2.bel⟩
theorem Kb (a:uQ) (n c:Nat) (xs:List Int) (w:World) (hl:xs.length=n) (hn:n<=1048576) (hr:Rd w a (zf xs)):
  Calls Tryz.prog 106 #[.slice a n c] w λe w'=>∃a' c',e= .returned (.slice a' n c')/\w'.ownsRow w.heap.size 3 1 (.slice a' n c') n (zf xs)/\xW w w'/\(n=0->c'=0):=by
 have H1:uH ((zf xs).length=n*1):=zd (by simp[hl]);clear hl;go_enter Tryz.func106,Tryz.ntmps106;go_wp2_with (at_builtin;refine VZ rfl _ _ 23 rfl Tryz.underlying23 yb rfl jk rfl (jf _ w.heap.size 3 1) rfl H1.o hr (yA xs) jq jk yk ?_;intro a3 c3 w3 a0 c0 b0);go_ret;exact⟨_,_,rfl,a0,c0,b0⟩
theorem Yp (x:ji) (a:uQ) (n c:Nat) (w:World) (hl:x.waits.length=n) (hr:Rd w a (zf x.waits)) (ok:YY x):
  Calls Tryz.prog 86 #[.agg #[uy x.count,.slice a n c]] w λe w'=>e= .returned (.bool true)/\xW w w':=by
 have h6:n<=6:=by rw[<-hl];exact ok.2.1.1
 have OK:=zd ok;have o1:=ok.1.1;have h0:x.count=0->n=0:=λh=>by rw[<-hl,ok.2.2 h];rfl
 clear ok;have F:=(Fr.start w).alloc #[uy x.count,.slice a n c] 87;have cs:=F.c2 0 rfl;go_enter Tryz.func86,Tryz.ntmps86;go_wp2_with fail;refine(vC _ _ OK.o.1).mono ?_;rintro e wz ⟨rfl,hw⟩;obtain rfl:=hw;go_wp2_with fail;refine(uG a n c _ _ hl (F.rd hr) OK.o.2.1).mono ?_;rintro e w1 ⟨rfl,hb⟩;replace F:=F.call hb;replace cs:=F.c2 0 rfl;clear hb;by_cases hc:x.count=0
 ·have hd:decide (0<x.count)=false:=xr jq;obtain rfl:=h0 hc;clear hc;go_wp2;go_ret;exact⟨rfl,F.bel⟩
 ·have hd:decide (0<x.count)=true:=xK jq;clear h0;go_wp2;go_ret;exact⟨rfl,F.bel⟩
theorem Kc (x:ji) (a:uQ) (n c:Nat) (m:Int) (w:World) (hl:x.waits.length=n) (hr:Rd w a (zf x.waits)) (ok:YY x) (hm: -99<=m/\m<=99):
  Calls Tryz.prog 60 #[.agg #[uy x.count,.slice a n c],uy m] w λe w'=>∃(y:ji) (s u:zP) (l:List Int) (b:Bool),j9 x m=(if b=true then some (y,l) else none)/\e= .returned (.tuple #[dp y s,u.val,.bool b])/\yy w w' s (zf y.waits) y.waits.length/\w'.ownsRow w.heap.size 3 1 u.val u.n (zf l)/\(zf y.waits=[]\/∀q,zj s.a=some q->zj u.a≠some q)/\xW w w':=by
 have h6:n<=6:=by rw[<-hl];exact ok.2.1.1
 have OK:=zd ok;have m1:=hm.1;have m2:=hm.2;have o1:=ok.1.1;have o2:=ok.1.2;clear ok hm;have F:=((Fr.start w).alloc #[uy x.count,.slice a n c] 87).alloc #[uy 0,uk] 87;simp only[yY] at F;have cs:=F.c2 1 rfl;go_enter Tryz.func60,Tryz.ntmps60;go_wp2_with fail;refine(Yp x a n c _ hl (F.rd hr) OK.o).mono ?_;rintro e w1 ⟨rfl,hb⟩;replace F:=F.call hb;replace cs:=F.c2 1 rfl;clear hb;by_cases hv:0<=x.count+m/\x.count+m<=99
 ·have HV:=zd hv;have v1:=hv.1;have v2:=hv.2;clear hv;go_wp2_with fail;refine(vC _ _ HV.o).mono ?_;rintro e wz ⟨rfl,hw⟩;obtain rfl:=hw;by_cases h0:x.count+m=0
  ·have HG:uH (j9 x m=some (⟨0,[]⟩,x.waits)):=zd (by unfold j9;rw[if_pos HV.o,if_pos h0]);have t0:(x.count+m==0)=true:=(by simpa using h0);clear h0;go_wp2_with fail;refine(yV a n c x.waits _ hl jq (F.rd hr)).mono ?_;rintro e w1 ⟨a1,c1,rfl,ho,hb⟩;replace F:=F.row hb ho;have cr:=F.c2 1 rfl;clear hb ho;have F2:=F.set2 1 rfl (uy 0) uk;go_wp2;exact zM (v:= .tuple #[.agg #[uy 0,uk],.slice a1 n c1,.bool true]) (by simp[results,Tryz.results60,go_sem,F2.c2 1 rfl]) rfl ⟨⟨0,[]⟩,zR,⟨a1,n,c1⟩,x.waits,true,HG.o,rfl,yy.nil _ _,F2.own 0 rfl,.inl rfl,F2.bel⟩
  ·have HG:uH (j9 x m=some (⟨x.count+m,x.waits⟩,[])):=zd (by unfold j9;rw[if_pos HV.o,if_neg h0]);have t0:(x.count+m==0)=false:=(by simpa using h0);clear h0;go_wp2_with fail;obtain⟨u1,hu,F0⟩:=F.named;rw[<-hu];clear hu F cs;have F:=F0;clear F0;apply xZ 8 [.k _,.k _,.k _,.k (uy (x.count+m)),.k _,.k _,.r λdz uz wz=>∃(az:uQ) (cz:Nat),uz= .slice az n cz/\wz.ownsRow u1.heap.size 3 1 (.slice az n cz) n (zf x.waits),.r λdz uz wz=>uz=(.agg #[(dz.getD 0 undef),(dz.getD 1 undef)]:Value)] ⟨λ_ _ _ _ hb ⟨a,c,e,h⟩=>⟨a,c,e,zl h hb⟩,λ_ _ _ _ _ h=>h,trivial⟩ ?s1 ?e1
   case s1=>
    repeat' apply And.intro
    all_goals first|trivial|(intro ρ w1 hG hfr hd;obtain⟨fc,ff⟩:=xu hfr;have f2:=hfr (.tmp 2) rfl;have f1:=hfr (.tmp 1) rfl;have F1:=F.call hG;have cs:=F1.c2 1 rfl;clear F1)
    exact yj;exact yI;exact yj
    ·obtain⟨d0,d1,-⟩:=hd;have d0:ρ (.tmp 37)=_:=d0;have d1:ρ (.tmp 38)=_:=d1;have hw:IntKind.i64.wrap (x.count+m)=x.count+m:=Go.IntWalk.i64_in _ jq;exact Zh hG (by go_simp) rfl yn
    exact yj;exact yI
    ·obtain⟨d0,-⟩:=hd;have d0:ρ (.tmp 41)=_:=d0;refine zU (by go_simp;exact⟨⟨rfl,rfl⟩,rfl⟩) ?_;refine(yV a n c x.waits _ hl jq ((F.call hG).rd hr)).mono ?_;rintro e w2 ⟨a1,c1,rfl,ho,hb⟩;exact⟨_,rfl,hb,⟨a1,c1,rfl,zw ho hG.size⟩,yn,hG.trans (hb.mono hG.size)⟩
    ·obtain⟨d0,d1,-⟩:=hd;have d0:ρ (.tmp 39)=_:=d0;have d1:∃(az:uQ) (cz:Nat),(ρ (.tmp 42))= .slice az n cz/\w1.ownsRow u1.heap.size 3 1 (.slice az n cz) n (zf x.waits):=d1;obtain⟨a0,b0,d1,-⟩:=d1;refine zh (u:= .agg #[uy (x.count+m),.slice a0 n b0]) (w':=w1) (by go_simp) ⟨Below.refl _ _,?_,yn,hG⟩;show Value.agg #[uy (x.count+m),.slice a0 n b0]=(.agg #[(ρ (.tmp 39)),(ρ (.tmp 42))]:Value);rw[d0,d1]
   intro w2 hG;refine yv ?_;intro g0 f0 i0 c0;replace c0:i0=(.agg #[(uy (x.count+m)),g0]:Value):=c0;obtain⟨a1,c1,rfl,ho⟩:=f0;have F3:=F.row hG ho;have cr:=F3.c2 1 rfl;have F2:=F3.set2 1 rfl (uy (x.count+m)) (.slice a1 n c1);clear F3 ho;go_wp2;exact zM (v:= .tuple #[.agg #[uy (x.count+m),.slice a1 n c1],uk,.bool true]) (by simp[results,Tryz.results60,go_sem,F2.c2 1 rfl]) rfl ⟨⟨x.count+m,x.waits⟩,⟨a1,n,c1⟩,zR,[],true,HG.o,rfl,hl▸F2.sln 0 rfl,jf _ _ _ _,.inr (λq _ h=>by cases h),F2.bel⟩
 ·have HG:uH (j9 x m=none):=zd (by unfold j9;rw[if_neg hv]);have hq:vS (x.count+m)=false:=by
   unfold vS;rw[<-Bool.decide_and];exact xr hv
  clear hv;go_wp2_with fail;refine(Yx (x.count+m) _).mono ?_;rintro e wz ⟨rfl,hw⟩;obtain rfl:=hw;rw[hq];have cr:=F.c2 0 rfl;have F2:=F.set2 0 rfl (uy 0) uk;go_wp2;exact zM (v:= .tuple #[.agg #[uy 0,uk],uk,.bool false]) (by simp[results,Tryz.results60,go_sem,F2.c2 0 rfl]) rfl ⟨yH,zR,zR,[],false,HG.o,rfl,yy.nil _ _,jf _ _ _ _,.inl rfl,F2.bel⟩
theorem UL (x:ji) (a:uQ) (n c:Nat) (t:Int) (w:World) (hl:x.waits.length=n) (hr:Rd w a (zf x.waits)) (ok:YY x) (ht:0<=t/\t<6) (E0:t∉x.waits):
  Calls Tryz.prog 61 #[.agg #[uy x.count,.slice a n c],uy t] w λe w'=>∃(y:ji) (s:zP),y=(jc x t).1/\e= .returned (.tuple #[dp y s,.bool (jc x t).2,.bool true])/\yy w w' s (zf y.waits) y.waits.length/\xW w w':=by
 have h6:n<=6:=by rw[<-hl];exact ok.2.1.1
 have OK:=zd ok;have T6:=zd ht;clear ok ht;have F:=((Fr.start w).alloc #[uy x.count,.slice a n c] 87).alloc #[uy 0,uk] 87;simp only[yY] at F;have cs:=F.c2 1 rfl;go_enter Tryz.func61,Tryz.ntmps61;go_wp2_with fail;refine(Yp x a n c _ hl (F.rd hr) OK.o).mono ?_;rintro e w1 ⟨rfl,hb⟩;replace F:=F.call hb;replace cs:=F.c2 1 rfl;clear hb;go_wp2_with fail;refine(jx t _ T6.o).mono ?_;rintro e wz ⟨rfl,hw⟩;obtain rfl:=hw;go_wp2_with fail;refine(jK a n c x.waits t _ hl (by unfold maxLen;omega) (F.rd hr)).mono ?_;rintro e wz ⟨rfl,hw⟩;obtain rfl:=hw;rw[vX E0];by_cases h0:x.count=0
 ·have HV:uH (jc x t=(x,true)):=zd (by unfold jc;rw[if_pos h0]);have h1:x.waits=[]:=OK.o.2.2 h0;have hx:uH (x=⟨0,[]⟩):=zd (by rw[<-h0,<-h1]);have t0:(x.count==0)=true:=by simp[h0]
  clear h0 h1;have cr:=F.c2 0 rfl;have F2:=F.set2 0 rfl (uy 0) uk;go_wp2;exact zM (v:= .tuple #[.agg #[uy 0,uk],.bool true,.bool true]) (by simp[results,Tryz.results61,go_sem,F2.c2 0 rfl]) rfl ⟨⟨0,[]⟩,zR,by rw[HV.o];exact hx.out.symm,by rw[HV.o];rfl,yy.nil _ _,F2.bel⟩
 ·have HV:uH (jc x t=(⟨x.count,x.waits++[t]⟩,false)):=zd (by unfold jc;rw[if_neg h0]);have t0:(x.count==0)=false:=by simpa using h0
  clear h0;go_wp2_with fail;obtain⟨u1,hu,F0⟩:=F.named;rw[<-hu];clear hu F cs;have F:=F0;clear F0;by_cases D0:n=0
  ·subst D0;have m0:x.waits=[]:=List.eq_nil_of_length_eq_zero hl;have L0:zf x.waits=[]:=by rw[m0];rfl
   apply xZ 9 [.k _,.k _,.k _,.k _,.r λdz uz wz=>∃az:uQ,uz= .slice az 0 0/\wz.ownsRow u1.heap.size 3 1 (.slice az 0 0) 0 [],.k _,.r λdz uz wz=>(∃gz:Nat,uz= .slice (some ⟨gz,0,none⟩) 1 1/\wz.ownsRow u1.heap.size 3 1 (.slice (some ⟨gz,0,none⟩) 1 1) 1 (zf [t])),.r λdz uz wz=>∃(az:uQ) (cz:Nat),uz= .slice az 1 cz/\wz.ownsRow u1.heap.size 3 1 (.slice az 1 cz) 1 (zf [t]),.r λdz uz wz=>uz=(.agg #[(dz.getD 0 undef),(dz.getD 1 undef)]:Value)] ⟨λ_ _ _ _ hb ⟨a,e,h⟩=>⟨a,e,zl h hb⟩,λ_ _ _ _ hb ⟨g,e,h⟩=>⟨g,e,zl h hb⟩,λ_ _ _ _ hb ⟨a,c,e,h⟩=>⟨a,c,e,zl h hb⟩,λ_ _ _ _ _ h=>h,trivial⟩ ?s2 ?e2
   case s2=>
    repeat' apply And.intro
    all_goals first|trivial|(intro ρ w1 hG hfr hd;obtain⟨fc,ff⟩:=xu hfr;have f2:=hfr (.tmp 2) rfl;have f1:=hfr (.tmp 1) rfl;have F1:=F.call hG;have cs:=F1.c2 1 rfl;clear F1)
    exact yj;exact yI;exact yj;exact yI
    ·obtain⟨d0,-⟩:=hd;have d0:ρ (.tmp 29)=_:=d0;refine zU (by go_simp;exact⟨⟨rfl,rfl⟩,rfl⟩) ?_;refine(Kb a 0 c x.waits _ hl jq ((F.call hG).rd hr)).mono ?_;rintro e w2 ⟨a1,c1,rfl,ho,hb,hz⟩;exact⟨_,rfl,hb,by obtain rfl:=hz rfl;exact⟨a1,rfl,zw (L0▸ho) hG.size⟩,yn,hG.trans (hb.mono hG.size)⟩
    exact yj
    ·obtain⟨d0,-⟩:=hd;have d0:ρ (.tmp 31)=_:=d0;refine zh (u:= .slice (some ⟨w1.heap.size,0,none⟩) 1 1) (w':=w1.alloc (.cells #[uy t] 3)) (by go_simp) ⟨zY,⟨_,rfl,zw (qi (cs:= #[uy t]) (m:=1) (zm.new _ _ _) yk rfl jk) hG.size⟩,yn,hG.alloc hG.size _⟩
    ·obtain⟨d0,d1,-⟩:=hd;have d0:∃az:uQ,(ρ (.tmp 30))= .slice az 0 0/\w1.ownsRow u1.heap.size 3 1 (.slice az 0 0) 0 []:=d0;have d1:(∃gz:Nat,(ρ (.tmp 32))= .slice (some ⟨gz,0,none⟩) 1 1/\w1.ownsRow u1.heap.size 3 1 (.slice (some ⟨gz,0,none⟩) 1 1) 1 (zf [t])):=d1;obtain⟨y0,d0,b0⟩:=d0;obtain⟨gz,d1,o0⟩:=d1;refine jr (m:=1) (news:=zf [t]) _ _ 23 rfl Tryz.underlying23 yb rfl jk d0 b0 d1 rfl (Rd.of_owns o0) (yA _) jq jk hG.size ?_;intro a' c' w2 a0 hb hf h0;exact⟨hb,⟨a',c',rfl,a0⟩,yn,hG.trans (hb.mono hG.size)⟩
    ·obtain⟨d0,d1,-⟩:=hd;have d0:ρ (.tmp 27)=_:=d0;have d1:∃(az:uQ) (cz:Nat),(ρ (.tmp 33))= .slice az 1 cz/\w1.ownsRow u1.heap.size 3 1 (.slice az 1 cz) 1 (zf [t]):=d1;obtain⟨c0,f0,d1,-⟩:=d1;refine zh (u:= .agg #[uy x.count,.slice c0 1 f0]) (w':=w1) (by go_simp) ⟨Below.refl _ _,?_,yn,hG⟩;show Value.agg #[uy x.count,.slice c0 1 f0]=(.agg #[(ρ (.tmp 27)),(ρ (.tmp 33))]:Value);rw[d0,d1]
   intro w2 hG;refine yv ?_;intro v0 p0 x0 q0 n0 k0 r0 l0;replace l0:r0=(.agg #[(uy x.count),n0]:Value):=l0;obtain⟨a1,c1,rfl,ho⟩:=k0;have F3:=F.row hG ho;have cr:=F3.c2 1 rfl;have F2:=F3.set2 1 rfl (uy x.count) (.slice a1 1 c1);clear F3 ho;go_wp2;refine zM (v:= .tuple #[.agg #[uy x.count,.slice a1 1 c1],.bool false,.bool true]) (by simp[results,Tryz.results61,go_sem,F2.c2 1 rfl]) rfl ⟨⟨x.count,x.waits++[t]⟩,⟨a1,1,c1⟩,by rw[HV.o],by rw[HV.o],?_,F2.bel⟩;rw[m0];exact F2.sln 0 rfl
  ·refine vG 9 (by kernel_rfl) (by kernel_rfl) [Zf (.pointer (some ⟨w.heap.size,0,none⟩)),Zf (uy x.count),Zf (.pointer (some ⟨w.heap.size,1,none⟩)),Zf (.slice a n c),λdz uz wz=>∃(az:uQ) (cz:Nat),uz= .slice az n cz/\wz.ownsRow u1.heap.size 3 1 (.slice az n cz) n (zf x.waits),Zf (uy t),λdz uz wz=>(∃gz:Nat,uz= .slice (some ⟨gz,0,none⟩) 1 1/\wz.ownsRow u1.heap.size 3 1 (.slice (some ⟨gz,0,none⟩) 1 1) 1 (zf [t])),λdz uz wz=>∃(az:uQ) (cz:Nat),uz= .slice az (n+1) cz/\wz.ownsRow u1.heap.size 3 1 (.slice az (n+1) cz) (n+1) (zf x.waits++zf [t]),λdz uz wz=>uz=(.agg #[(dz.getD 0 undef),(dz.getD 1 undef)]:Value)] (uo 7 (λwa wb=>Below u1.heap.size wa wb/\Z8 3 1 n wa wb)) (λ_ _=>none) (λ_ w'=>xW u1 w') (λ_ _=>xd.drew) (JJ (λ_ _ h=>h.1.size)) (JT ⟨pS,pS,pS,pS,λ_ _ _ _ hb ⟨a,c,e,h⟩=>⟨a,c,e,zl h hb⟩,pS,λ_ _ _ _ hb ⟨g,e,h⟩=>⟨g,e,zl h hb⟩,λ_ _ _ _ hb ⟨a,c,e,h⟩=>⟨a,c,e,zl h hb⟩,λ_ _ _ _ _ h=>h,trivial⟩ ⟨.inr (pS),.inr (pS),.inr (pS),.inr (pS),.inr (λ_ _ _ _ hT ⟨a,c,e,h⟩=>⟨a,c,e,hT.2 _ _ _ _ _ jq h⟩),.inr (pS),.inr (λ_ _ _ _ hT ⟨g,e,h⟩=>⟨g,e,hT.2 _ _ _ _ _ jq h⟩),.inl rfl,.inr (λ_ _ _ _ _ h=>h),trivial⟩) ?_ ?_
   ·simp only[List.take_succ_cons,List.take_zero];refine⟨?_,?_,?_,?_,?_,?_,?_,?_,?_,trivial⟩
    all_goals (intro ρ w1 L hG hny hfr hd;obtain⟨fc,ff⟩:=xu hfr;have f2:ρ (.tmp 2)= .pointer (some ⟨w.heap.size,0,none⟩):=hfr _ rfl;have f1:ρ (.tmp 1)=uy t:=hfr _ rfl;have F1:=F.call hG;have cs:=F1.c2 1 rfl;clear F1)
    ·exact dW hG (by go_simp) rfl yn
    ·obtain⟨d0,-⟩:=hd;have d0:ρ (.tmp 26)=_:=d0;exact dW hG (by go_simp) rfl yn
    ·exact dW hG (by go_simp) rfl yn
    ·obtain⟨d0,-⟩:=hd;have d0:ρ (.tmp 28)=_:=d0;exact dW hG (by go_simp) rfl yn
    ·obtain⟨d0,-⟩:=hd;have d0:ρ (.tmp 29)=_:=d0;refine zU (by go_simp;exact⟨⟨rfl,rfl⟩,rfl⟩) ?_;refine(yV a n c x.waits _ hl jq ((F.call hG).rd hr)).mono ?_;rintro e w2 ⟨a1,c1,rfl,ho,hb⟩;exact⟨_,rfl,xk jk (hb),⟨a1,c1,rfl,zw ho hG.size⟩,yn,hG.trans (hb.mono hG.size)⟩
    ·exact dW hG (by go_simp) rfl yn
    ·obtain⟨d0,-⟩:=hd;have d0:ρ (.tmp 31)=_:=d0;refine zh (u:= .slice (some ⟨w1.heap.size,0,none⟩) 1 1) (w':=w1.alloc (.cells #[uy t] 3)) (by go_simp) ⟨xk jk (zY),⟨_,rfl,zw (qi (cs:= #[uy t]) (m:=1) (zm.new _ _ _) yk rfl jk) hG.size⟩,yn,hG.alloc hG.size _⟩
    ·obtain⟨d0,d1,-⟩:=hd;have d0:∃(az:uQ) (cz:Nat),(ρ (.tmp 30))= .slice az n cz/\w1.ownsRow u1.heap.size 3 1 (.slice az n cz) n (zf x.waits):=d0;have d1:(∃gz:Nat,(ρ (.tmp 32))= .slice (some ⟨gz,0,none⟩) 1 1/\w1.ownsRow u1.heap.size 3 1 (.slice (some ⟨gz,0,none⟩) 1 1) 1 (zf [t])):=d1;obtain⟨y0,Q0,d0,b0⟩:=d0;obtain⟨gz,d1,o0⟩:=d1;refine Yr (m:=1) (news:=zf [t]) _ _ 23 rfl Tryz.underlying23 yb rfl jk d0 b0 d1 rfl (Rd.of_owns o0) (yA _) jq jk hG.size ?_;intro a' c' w2 a0 B0 i0;have s0:=zG B0 hG.size (λq hq=>(zy b0 q hq).1);exact⟨Xw ⟨s0,i0⟩,⟨a',c',rfl,a0⟩,yn,hG.trans s0⟩
    ·obtain⟨d0,d1,-⟩:=hd;have d0:ρ (.tmp 27)=_:=d0;have d1:∃(az:uQ) (cz:Nat),(ρ (.tmp 33))= .slice az (n+1) cz/\w1.ownsRow u1.heap.size 3 1 (.slice az (n+1) cz) (n+1) (zf x.waits++zf [t]):=d1;obtain⟨c0,f0,d1,-⟩:=d1;refine zh (u:= .agg #[uy x.count,.slice c0 (n+1) f0]) (w':=w1) (by go_simp) ⟨xk jk xd,?_,yn,hG⟩;show Value.agg #[uy x.count,.slice c0 (n+1) f0]=(.agg #[(ρ (.tmp 27)),(ρ (.tmp 33))]:Value);rw[d0,d1]
   intro vs w2 LL hG j0 g0 z0 A0;clear z0 A0;obtain⟨M0,u0,N0,O0,v0,P0,x0,n0,r0,rfl⟩:=pD j0;clear j0;simp only[List.take_succ_cons,List.take_zero,List.drop_succ_cons,List.drop_zero] at g0⊢;obtain⟨G0,H0,I0,J0,p0,K0,q0,k0,l0,-⟩:=g0;replace p0:∃(az:uQ) (cz:Nat),v0= .slice az n cz/\w2.ownsRow u1.heap.size 3 1 (.slice az n cz) n (zf x.waits):=p0;replace q0:(∃gz:Nat,x0= .slice (some ⟨gz,0,none⟩) 1 1/\w2.ownsRow u1.heap.size 3 1 (.slice (some ⟨gz,0,none⟩) 1 1) 1 (zf [t])):=q0;replace k0:∃(az:uQ) (cz:Nat),n0= .slice az (n+1) cz/\w2.ownsRow u1.heap.size 3 1 (.slice az (n+1) cz) (n+1) (zf x.waits++zf [t]):=k0;replace l0:r0=(.agg #[u0,n0]:Value):=l0;obtain rfl:M0=_:=G0;obtain rfl:u0=_:=H0;obtain rfl:N0=_:=I0;obtain rfl:O0=_:=J0;obtain rfl:P0=_:=K0;simp only[jH,Act.put,List.setIfInBounds_toArray,List.set_cons_succ,List.set_cons_zero];obtain⟨a1,c1,rfl,ho⟩:=k0;have F3:=F.row hG ho;have cr:=F3.c2 1 rfl;have F2:=F3.set2 1 rfl (uy x.count) (.slice a1 (n+1) c1);clear F3 ho;go_wp2;refine zM (v:= .tuple #[.agg #[uy x.count,.slice a1 (n+1) c1],.bool false,.bool true]) (by simp[results,Tryz.results61,go_sem,F2.c2 1 rfl]) rfl ⟨⟨x.count,x.waits++[t]⟩,⟨a1,(n+1),c1⟩,by rw[HV.o],by rw[HV.o],?_,F2.bel⟩
   have hs:=F2.sln 0 rfl;rw[<-xy] at hs;have C0:(x.waits++[t]).length=n+1:=by rw[xp,hl];rfl
   rw[C0];exact hs
theorem Qb (x:j6) (a:uQ) (n c:Nat) (w:World) (hl:x.waits.length=n) (hr:Rd w a (zf x.waits)) (ok:Jo x):
  Calls Tryz.prog 87 #[.agg #[uy x.parties,uy x.round,.slice a n c]] w λe w'=>e= .returned (.bool true)/\xW w w':=by
 have OK:=zd ok;have p1:=ok.1.1;have p2:=ok.1.2;have r1:=ok.2.1.1;have r2:=ok.2.1.2;have l1:(n:Int)<x.parties:=by rw[<-hl];exact ok.2.2.2
 clear ok;have F:=(Fr.start w).alloc #[uy x.parties,uy x.round,.slice a n c] 93;have cs:=F.c3 0 rfl;go_enter Tryz.func87,Tryz.ntmps87;go_wp2_with fail;refine(uG a n c _ _ hl (F.rd hr) OK.o.2.2.1).mono ?_;rintro e w1 ⟨rfl,hb⟩;replace F:=F.call hb;replace cs:=F.c3 0 rfl;clear hb;go_wp2;go_ret;exact⟨rfl,F.bel⟩
theorem GQ (x:j6) (a:uQ) (n c:Nat) (t:Int) (w:World) (hl:x.waits.length=n) (hr:Rd w a (zf x.waits)) (ok:Jo x) (ht:0<=t/\t<6) (c0:t∉x.waits) (f0:x.round<9999):
  Calls Tryz.prog 62 #[.agg #[uy x.parties,uy x.round,.slice a n c],uy t] w λe w'=>∃(y:j6) (s u:zP) (l:List Int),jb x t=(y,l)/\e= .returned (.tuple #[Dm y s,u.val,.bool true])/\yy w w' s (zf y.waits) y.waits.length/\w'.ownsRow w.heap.size 3 1 u.val u.n (zf l)/\(zf y.waits=[]\/u=zR)/\(l=[]\/y.waits=[])/\xW w w':=by
 have OK:=zd ok;have p1:=ok.1.1;have p2:=ok.1.2;have r1:=ok.2.1.1;have r2:=ok.2.1.2;have l1:(n:Int)<x.parties:=by rw[<-hl];exact ok.2.2.2
 clear ok;have T6:=zd ht;clear ht;have F:=((Fr.start w).alloc #[uy x.parties,uy x.round,.slice a n c] 93).alloc #[uy 0,uy 0,uk] 93;simp only[yY] at F;have cs:=F.c3 1 rfl;go_enter Tryz.func62,Tryz.ntmps62;go_wp2_with fail;refine(Qb x a n c _ hl (F.rd hr) OK.o).mono ?_;rintro e w1 ⟨rfl,hb⟩;replace F:=F.call hb;replace cs:=F.c3 1 rfl;clear hb;go_wp2_with fail;refine(jx t _ T6.o).mono ?_;rintro e wz ⟨rfl,hw⟩;obtain rfl:=hw;go_wp2_with fail;refine(jK a n c x.waits t _ hl (by unfold maxLen;omega) (F.rd hr)).mono ?_;rintro e wz ⟨rfl,hw⟩;obtain rfl:=hw;rw[vX c0];go_wp2_with fail;refine(yV a n c x.waits _ hl jq (F.rd hr)).mono ?_;rintro e w1 ⟨a1,c1,rfl,ho,hb⟩;replace F:=F.row hb ho;clear hb ho;clear cs;have F4:=F.alloc #[uy t] 3;have b0:uH ((x.waits++[t]).length=n+1):=zd (by rw[xp,hl];rfl);by_cases a0:(x.waits.length:Int)+1<x.parties
 ·have HV:uH (jb x t=(⟨x.parties,x.round,x.waits++[t]⟩,[])):=zd (by unfold jb;rw[if_pos a0]);rw[hl] at a0;have d0:decide ((n:Int)+1<x.parties)=true:=by simpa using a0
  clear a0;go_wp2_with (at_builtin;refine F4.appI 1 rfl _ _ rfl rfl rfl [t] rfl rfl (Rd.of_blk (F4.blk 0 rfl)) jq ?_;intro a4 c4 W4 F5;simp only[List.set_cons_succ,List.set_cons_zero] at F5;rw[<-xy] at F5;clear F4;have cs:=F5.c3 3 rfl;have cr:=F5.c3 2 rfl);have F6:=F5.set3 2 rfl (uy x.parties) (uy x.round) (.slice a4 (n+1) c4);exact zM (v:= .tuple #[.agg #[uy x.parties,uy x.round,.slice a4 (n+1) c4],uk,.bool true]) (by simp[results,Tryz.results62,go_sem,F6.c3 2 rfl]) rfl ⟨⟨x.parties,x.round,x.waits++[t]⟩,⟨a4,n+1,c4⟩,zR,[],HV.o,rfl,b0.out▸F6.sln 1 rfl,jf _ _ _ _,.inr rfl,.inl rfl,F6.bel⟩
 ·have HV:uH (jb x t=(⟨x.parties,x.round+1,[]⟩,x.waits++[t])):=zd (by unfold jb;rw[if_neg a0]);rw[hl] at a0;have d0:decide ((n:Int)+1<x.parties)=false:=by simpa using a0
  clear a0;go_wp2_with (at_builtin;refine F4.appI 1 rfl _ _ rfl rfl rfl [t] rfl rfl (Rd.of_blk (F4.blk 0 rfl)) jq ?_;intro a4 c4 W4 F5;simp only[List.set_cons_succ,List.set_cons_zero] at F5;rw[<-xy] at F5;clear F4;have cs:=F5.c3 3 rfl;have cr:=F5.c3 2 rfl);have F6:=F5.set3 2 rfl (uy x.parties) (uy (x.round+1)) uk;exact zM (v:= .tuple #[.agg #[uy x.parties,uy (x.round+1),uk],.slice a4 (n+1) c4,.bool true]) (by simp[results,Tryz.results62,go_sem,F6.c3 2 rfl]) rfl ⟨⟨x.parties,x.round+1,[]⟩,zR,⟨a4,n+1,c4⟩,x.waits++[t],HV.o,rfl,yy.nil _ _,F6.own 1 rfl,.inl rfl,.inr rfl,F6.bel⟩
theorem jN (x:xi) (ai al ag:uQ) (ni ci nl cl ng cg:Nat) (w:World) (h1:x.items.length=ni) (h2:x.senders.length=nl) (h3:x.getters.length=ng) (n1:ni<=1048576) (n2:nl<=1048576) (n3:ng<=1048576) (r1:Rd w ai (zf x.items)) (r2:Rd w al (zK x.senders)) (r3:Rd w ag (zf x.getters)):
  Calls Tryz.prog 109 #[.agg #[uy x.room,.slice ai ni ci,.slice al nl cl,.slice ag ng cg,.bool x.closed]] w λe w'=>∃(bi bs bg:uQ) (di ds dg:Nat),e= .returned (.agg #[uy x.room,.slice bi ni di,.slice bs nl ds,.slice bg ng dg,.bool x.closed])/\Fr w w' [.row bg ng dg 3 1 (zf x.getters),.row bs nl ds 154 2 (zK x.senders),.row bi ni di 3 1 (zf x.items)]:=by
 have a0:=zd h1;have b0:=zd h2;have c0:=zd h3;have F:=((Fr.start w).alloc #[uy x.room,.slice ai ni ci,.slice al nl cl,.slice ag ng cg,.bool x.closed] 98).alloc #[uy 0,uk,uk,uk,.bool false] 98;simp only[yY] at F;have cs:=F.c5 1 rfl;clear h1 h2 h3;go_enter Tryz.func109,Tryz.ntmps109;go_wp2_with fail;refine(yV ai ni ci x.items _ a0.out jq (F.rd r1)).mono ?_;rintro e w1 ⟨bi,di,rfl,ho,hb⟩;replace F:=F.row hb ho;clear hb ho;replace cs:=F.c5 2 rfl;have F2:=F.set 2 rfl 1 (.slice bi ni di);go_upto_region 2 with fail;obtain⟨W3,hW,F3⟩:=F2.named;rw[<-hW];clear hW F2 cs F;have cs:=F3.c5 2 rfl;go_wp2_with (at_builtin;refine(F3.nil _ 2).appL 0 rfl _ _ rfl rfl rfl x.senders rfl b0.out (F3.rd r2) jq ?_;intro bs ds W4 F4;simp only[List.set_cons_zero,qZ,Nat.zero_add] at F4;clear cs;have cs:=F4.c5 3 rfl;have F5:=F4.set 3 rfl 2 (.slice bs nl ds));refine(yV ag ng cg x.getters _ c0.out jq (F5.rd r3)).mono ?_;rintro e w6 ⟨bg,dg,rfl,ho,hb⟩;have F6:=F5.row hb ho;have cr:=F6.c5 3 rfl;replace cs:=F6.c5 4 rfl;have F7:=(F6.set 4 rfl 3 (.slice bg ng dg)).set5 3 rfl (uy x.room) (.slice bi ni di) (.slice bs nl ds) (.slice bg ng dg) (.bool x.closed);clear hb ho;go_wp2
 exact zM (v:= .agg #[uy x.room,.slice bi ni di,.slice bs nl ds,.slice bg ng dg,.bool x.closed]) (by simp[results,Tryz.results109,go_sem,F7.c5 3 rfl]) rfl ⟨bi,bs,bg,di,ds,dg,rfl,F7.sub jv⟩
theorem ZI (x:xi) (ai al ag:uQ) (ni ci nl cl ng cg:Nat) (w:World) (h2:x.senders.length=nl) (h3:x.getters.length=ng) (n2:nl<=6) (n3:ng<=6) (r2:Rd w al (zK x.senders)) (r3:Rd w ag (zf x.getters)):
  Calls Tryz.prog 113 #[.agg #[uy x.room,.slice ai ni ci,.slice al nl cl,.slice ag ng cg,.bool x.closed]] w λe w'=>∃(a':uQ) (c':Nat),e= .returned (.slice a' (nl+ng) c')/\w'.ownsRow w.heap.size 3 1 (.slice a' (nl+ng) c') (nl+ng) (zf (x.senders.map (·.1)++x.getters))/\xW w w':=by
 have a0:=zd h2;have b0:=zd h3;have HR:=zd r2;have F:=(Fr.start w).alloc #[uy x.room,.slice ai ni ci,.slice al nl cl,.slice ag ng cg,.bool x.closed] 98;have cs:=F.c5 0 rfl;clear h2 h3 r2;go_enter Tryz.func113,Tryz.ntmps113;go_wp2;clear cs
 go_loopw [9,3] (λi th wr=>∃(k:Nat) (a3:uQ) (c3:Nat),k<=nl/\i=uy k/\th= .slice a3 k c3/\Fr w wr [.row a3 k c3 3 1 (zf ((x.senders.take k).map (·.1))),.blk w.heap.size #[uy x.room,.slice ai ni ci,.slice al nl cl,.slice ag ng cg,.bool x.closed] 98]) (λi _ _=>nl-(intOf i).toNat)
 case atStart=>exact⟨0,none,0,jq,rfl,rfl,F.nil _ _⟩
 case round=>
  obtain⟨k,a3,c3,hk,rfl,rfl,F1⟩:=hrel;by_cases d0:k<nl
  ·obtain⟨b,o,rfl,g'⟩:=(F1.rd HR.o).pair (jQ a0.out);obtain⟨g1,g2⟩:=g' k (jQ a0.out);obtain⟨y,hy⟩:=jy (x.senders.getD k (0,0));rw[<-hy] at g1 g2;have HM:uH ((x.senders.take (k+1)).map (·.1)=(x.senders.take k).map (·.1)++[y.1]):=zd (by rw[hy];exact Qz _ k (jQ a0.out));have F2:=F1.alloc #[uy y.1,uy y.2] 154;have cy:=F2.c2 0 rfl;have F3:=F2.alloc #[uy y.1] 3;simp only[yY] at F3;clear g' hy;go_wp2_with (at_builtin;refine F3.appI 2 rfl _ _ rfl rfl rfl [y.1] rfl rfl (Rd.of_blk (F3.blk 0 rfl)) jq ?_;intro a4 c4 W4 F4)
   go_roundw
   case rel=>exact⟨k+1,a4,c4,jq,by go_num,rfl,by rw[HM.o,xy];exact F4.sub jv⟩
   case measure=>exact uq
  ·have c0:k=nl:=jq;subst c0;rw[Jh (jQ a0.out)] at F1;have cs:=F1.c5 1 rfl;go_wp2_with (at_builtin;refine F1.appI 0 rfl _ _ rfl rfl rfl x.getters rfl b0.out (F1.rd r3) jq ?_;intro a4 c4 W4 F4;simp only[List.set_cons_zero] at F4;rw[<-xy] at F4);go_ret;exact⟨a4,c4,rfl,F4.own 0 rfl,F4.bel⟩
theorem ve (x:xi) (ai al ag:uQ) (ni ci nl cl ng cg:Nat) (w:World) (h1:x.items.length=ni) (h2:x.senders.length=nl) (h3:x.getters.length=ng) (r1:Rd w ai (zf x.items)) (r2:Rd w al (zK x.senders)) (r3:Rd w ag (zf x.getters)) (ok:ZB x):
  Calls Tryz.prog 88 #[.agg #[uy x.room,.slice ai ni ci,.slice al nl cl,.slice ag ng cg,.bool x.closed]] w λe w'=>e= .returned (.bool true)/\xW w w':=by
 have OK:=zd ok;have h6:=ok.2.2.2.2.1.1;rw[xp,yG,h2,h3] at h6;have o1:=ok.1.1;have o2:=ok.1.2;have o3:(ni:Int)<=x.room:=by rw[<-h1];exact ok.2.1
 have b0:=zd h1;have a0:=zd h2;have d0:=zd h3;have j0:=zd r1;have i0:=zd r2;have k0:=zd r3;have F:=(Fr.start w).alloc #[uy x.room,.slice ai ni ci,.slice al nl cl,.slice ag ng cg,.bool x.closed] 98;have cs:=F.c5 0 rfl;clear ok h1 h2 h3 r1 r2 r3;go_enter Tryz.func88,Tryz.ntmps88;go_wp2;clear cs
 go_loopw [26] (λi wr=>∃k:Nat,k<=ni/\i=uy k/\Fr w wr [.blk w.heap.size #[uy x.room,.slice ai ni ci,.slice al nl cl,.slice ag ng cg,.bool x.closed] 98]) (λi _=>ni-(intOf i).toNat)
 case atStart=>exact⟨0,jq,rfl,F⟩
 case round=>
  obtain⟨k,hk,rfl,F1⟩:=hrel;by_cases p0:k<ni
  ·obtain⟨b,o,rfl,g'⟩:=(F1.rd j0.out).int (jQ b0.out);have g1:=g' k (jQ b0.out);obtain⟨y,hy⟩:=jy (x.items.getD k 0);rw[<-hy] at g1;have HY:uH (0<=y/\y<=99):=zd (OK.o.2.2.1 y (by rw[hy];exact qV (jQ b0.out)));clear g' hy;go_wp2_with fail;refine(vC y _ HY.o).mono ?_;rintro e wz ⟨rfl,hw⟩;obtain rfl:=hw;go_wp2
   go_roundw
   case rel=>exact⟨k+1,jq,by go_num,F1⟩
   case measure=>exact uq
  ·have m0:k=ni:=jq;subst m0;have cs:=F1.c5 0 rfl;go_wp2;clear cs
   go_loopw [37] (λi wr=>∃j:Nat,j<=nl/\i=uy j/\Fr w wr [.blk w.heap.size #[uy x.room,.slice ai k ci,.slice al nl cl,.slice ag ng cg,.bool x.closed] 98]) (λi _=>nl-(intOf i).toNat)
   case atStart=>exact⟨0,jq,rfl,F1⟩
   case round=>
    obtain⟨j,hj,rfl,F2⟩:=hrel;by_cases n0:j<nl
    ·obtain⟨b,o,rfl,g'⟩:=(F2.rd i0.out).pair (jQ a0.out);obtain⟨g1,g2⟩:=g' j (jQ a0.out);obtain⟨y,hy⟩:=jy (x.senders.getD j (0,0));rw[<-hy] at g1 g2;have HY:uH (0<=y.2/\y.2<=99):=zd (OK.o.2.2.2.1 y (by rw[hy];exact qV (jQ a0.out)));have F3:=F2.alloc #[uy y.1,uy y.2] 154;have cy:=F3.c2 0 rfl;clear g' hy;go_wp2_with fail;refine(vC y.2 _ HY.o).mono ?_;rintro e wz ⟨rfl,hw⟩;obtain rfl:=hw;go_wp2
     go_roundw
     case rel=>exact⟨j+1,jq,by go_num,F3.sub jv⟩
     case measure=>exact uq
    ·have l0:j=nl:=jq;subst l0;have cs:=F2.c5 0 rfl;go_wp2_with fail;refine(ZI x ai al ag k ci j cl ng cg _ a0.out d0.out jq jq (F2.rd i0.out) (F2.rd k0.out)).mono ?_;rintro e w3 ⟨a5,c5,rfl,ho,hb⟩;have F3:=F2.row hb ho;clear hb ho;go_wp2_with fail;refine(uG a5 _ c5 (x.senders.map (·.1)++x.getters) _ (by rw[xp,yG,a0.out,d0.out]) (F3.rdRow 0 rfl) OK.o.2.2.2.2.1).mono ?_;rintro e w4 ⟨rfl,hb⟩;have F4:=F3.call hb;replace cs:=F4.c5 1 rfl;clear hb;by_cases hs:j=0
     ·by_cases hg:ng=0
      ·subst hs hg;go_wp2;go_ret;exact⟨rfl,F4.bel⟩
      ·have g0:=OK.o.2.2.2.2.2.2 (λh=>hg (by rw[<-d0.out,h];rfl));obtain rfl:k=0:=by rw[<-b0.out,g0.1];rfl
       have c0:=g0.2;have h0:(0:Int)<(ng:Int):=jq;have hz:((ng:Int)==0)=false:=(by simpa using hg);rw[c0] at cs;subst hs;clear g0 c0;go_wp2;go_ret;exact⟨rfl,F4.bel⟩
     ·have f0:=OK.o.2.2.2.2.2.1 (λh=>hs (by rw[<-a0.out,h];rfl));have o0:(k:Int)=x.room:=by rw[<-b0.out];exact f0.1
      obtain rfl:ng=0:=by rw[<-d0.out,f0.2.1];rfl
      have c0:=f0.2.2;have h0:(0:Int)<(j:Int):=jq;rw[c0] at cs;clear f0 c0 hs;go_wp2;go_ret;exact⟨rfl,F4.bel⟩
theorem Sf.appg_se {a0:Array Oper} {rest:List Oper} {o:Oper} {ac:Act} {Q:Exit->Act->World->Prop} (h:Sf w W l v L s) (b0:o.guard=none) (y z:Operand) (ho:o.op= .call {callee:= .builtin .append,args:= #[y,z],argTypes:= #[32,32]}) (hs:ac.eval y=v.se.val) {x:xS} (hx:ac.eval z= .slice a2 1 c2) (hr:Rd W a2 (YI (x,q))) (hq:Xn (zO l++v.blks) W x q) (hn:v.se.n+1<=1048576) 
  (K:∀(r:zP) W',Sf w W' l {v with se:=r} {L with se:=L.se++[(x,q)]} {s with sems:=s.sems++[x]}->W.grownBy W' (zj v.se.a)->wpList Tryz.prog a0 Q rest (ac.put o.dst r.val) W'):wpList Tryz.prog a0 Q (o::rest) ac W:=
 yP b0 y z _ ho Tryz.underlying32 ko rfl jk hs h.st.se hx rfl hr (by intro u hu;simp only[YI,List.mem_cons,jw,or_false] at hu;(rcases hu with rfl|rfl|rfl)<;>rfl) jq jk h.fr.bel.size λa' c' W' d0 hg c0=>
  K ⟨a',v.se.n+1,c'⟩ W' (h.upd (zo.of_grown hg λk hk=>zu.mem_se hk) (h.st.push_se hg c0 hq (by show v.se.n+1=_;rw[h.st.nse]) (by rw[List.flatMap_append];simpa using d0))) hg
theorem Sf.appg_on {a0:Array Oper} {rest:List Oper} {o:Oper} {ac:Act} {Q:Exit->Act->World->Prop} (h:Sf w W l v L s) (b0:o.guard=none) (y z:Operand) (ho:o.op= .call {callee:= .builtin .append,args:= #[y,z],argTypes:= #[33,33]}) (hs:ac.eval y=v.on.val) {x:xJ} (hx:ac.eval z= .slice a2 1 c2) (hr:Rd W a2 (uB (x,q))) (hq:Xm (zO l++v.blks) W x q) (hn:v.on.n+1<=1048576) 
  (K:∀(r:zP) W',Sf w W' l {v with on:=r} {L with on:=L.on++[(x,q)]} {s with onces:=s.onces++[x]}->W.grownBy W' (zj v.on.a)->wpList Tryz.prog a0 Q rest (ac.put o.dst r.val) W'):wpList Tryz.prog a0 Q (o::rest) ac W:=
 yP b0 y z _ ho Tryz.underlying33 VM rfl jk hs h.st.on hx rfl hr (by intro u hu;simp only[uB,List.mem_cons,jw,or_false] at hu;(rcases hu with rfl|rfl|rfl|rfl)<;>rfl) jq jk h.fr.bel.size λa' c' W' d0 hg c0=>
  K ⟨a',v.on.n+1,c'⟩ W' (h.upd (zo.of_grown hg λk hk=>zu.mem_on hk) (h.st.push_on hg c0 hq (by show v.on.n+1=_;rw[h.st.non]) (by rw[List.flatMap_append];simpa using d0))) hg
theorem Sf.appg_gr {a0:Array Oper} {rest:List Oper} {o:Oper} {ac:Act} {Q:Exit->Act->World->Prop} (h:Sf w W l v L s) (b0:o.guard=none) (y z:Operand) (ho:o.op= .call {callee:= .builtin .append,args:= #[y,z],argTypes:= #[34,34]}) (hs:ac.eval y=v.gr.val) {x:ji} (hx:ac.eval z= .slice a2 1 c2) (hr:Rd W a2 (Xk (x,q))) (hq:JK (zO l++v.blks) W x q) (hn:v.gr.n+1<=1048576) 
  (K:∀(r:zP) W',Sf w W' l {v with gr:=r} {L with gr:=L.gr++[(x,q)]} {s with groups:=s.groups++[x]}->W.grownBy W' (zj v.gr.a)->wpList Tryz.prog a0 Q rest (ac.put o.dst r.val) W'):wpList Tryz.prog a0 Q (o::rest) ac W:=
 yP b0 y z _ ho Tryz.underlying34 kx rfl jk hs h.st.gr hx rfl hr (by intro u hu;simp only[Xk,List.mem_cons,jw,or_false] at hu;(rcases hu with rfl|rfl)<;>rfl) jq jk h.fr.bel.size λa' c' W' d0 hg c0=>
  K ⟨a',v.gr.n+1,c'⟩ W' (h.upd (zo.of_grown hg λk hk=>zu.mem_gr hk) (h.st.push_gr hg c0 hq (by show v.gr.n+1=_;rw[h.st.ngr]) (by rw[List.flatMap_append];simpa using d0))) hg
theorem Sf.appg_ba {a0:Array Oper} {rest:List Oper} {o:Oper} {ac:Act} {Q:Exit->Act->World->Prop} (h:Sf w W l v L s) (b0:o.guard=none) (y z:Operand) (ho:o.op= .call {callee:= .builtin .append,args:= #[y,z],argTypes:= #[35,35]}) (hs:ac.eval y=v.ba.val) {x:j6} (hx:ac.eval z= .slice a2 1 c2) (hr:Rd W a2 (YJ (x,q))) (hq:Qj (zO l++v.blks) W x q) (hn:v.ba.n+1<=1048576) 
  (K:∀(r:zP) W',Sf w W' l {v with ba:=r} {L with ba:=L.ba++[(x,q)]} {s with bars:=s.bars++[x]}->W.grownBy W' (zj v.ba.a)->wpList Tryz.prog a0 Q rest (ac.put o.dst r.val) W'):wpList Tryz.prog a0 Q (o::rest) ac W:=
 yP b0 y z _ ho Tryz.underlying35 tL rfl jk hs h.st.ba hx rfl hr (by intro u hu;simp only[YJ,List.mem_cons,jw,or_false] at hu;(rcases hu with rfl|rfl|rfl)<;>rfl) jq jk h.fr.bel.size λa' c' W' d0 hg c0=>
  K ⟨a',v.ba.n+1,c'⟩ W' (h.upd (zo.of_grown hg λk hk=>zu.mem_ba hk) (h.st.push_ba hg c0 hq (by show v.ba.n+1=_;rw[h.st.nba]) (by rw[List.flatMap_append];simpa using d0))) hg
theorem Sf.appg_ch {a0:Array Oper} {rest:List Oper} {o:Oper} {ac:Act} {Q:Exit->Act->World->Prop} (h:Sf w W l v L s) (b0:o.guard=none) (y z:Operand) (ho:o.op= .call {callee:= .builtin .append,args:= #[y,z],argTypes:= #[36,36]}) (hs:ac.eval y=v.ch.val) {x:xi} {q:zP×zP×zP} (hx:ac.eval z= .slice a2 1 c2) (hr:Rd W a2 (ZY (x,q))) (hq:Xp (zO l++v.blks) W x q) (hn:v.ch.n+1<=1048576) 
  (K:∀(r:zP) W',Sf w W' l {v with ch:=r} {L with ch:=L.ch++[(x,q)]} {s with chans:=s.chans++[x]}->W.grownBy W' (zj v.ch.a)->wpList Tryz.prog a0 Q rest (ac.put o.dst r.val) W'):wpList Tryz.prog a0 Q (o::rest) ac W:=
 yP b0 y z _ ho Tryz.underlying36 tT rfl jk hs h.st.ch hx rfl hr (by intro u hu;simp only[ZY,List.mem_cons,jw,or_false] at hu;(rcases hu with rfl|rfl|rfl|rfl|rfl)<;>rfl) jq jk h.fr.bel.size λa' c' W' d0 hg c0=>
  K ⟨a',v.ch.n+1,c'⟩ W' (h.upd (zo.of_grown hg λk hk=>zu.mem_ch hk) (h.st.push_ch hg c0 hq (by show v.ch.n+1=_;rw[h.st.nch]) (by rw[List.flatMap_append];simpa using d0))) hg
theorem Ds {L0:zQ} {s0:zp} (h:Sf w W l v L0 s0) (e1:s0.places=s.places:=by rfl) (e2:s0.status=s.status:=by rfl) (e3:s0.said=s.said:=by rfl):Fr w W (xI v s ⟨[],[],[],[],[]⟩):=by
 refine⟨h.bel,λi hi=> ?_,?_⟩
 ·simp only[xI,Zb,List.map_nil,List.flatMap_nil,List.append_nil,List.mem_cons,jw,or_false] at hi;rcases hi with rfl|rfl|rfl
  ·rw[<-e1];exact h.st.pl
  ·rw[<-e2];exact h.st.st
  ·rw[<-e3];exact h.st.sa
 ·have h1:=h.st.dps;have h2:=h.st.dpa;have h3:=h.st.dsa;simp only[zO,xI,Zb,List.map_nil,List.flatMap_nil,List.append_nil,List.flatMap_cons,It.foot];generalize zj v.pl.a=o1 at*;generalize zj v.st.a=o2 at*;generalize zj v.sa.a=o3 at*
  cases o1 with
  |none=>cases o2 with
   |none=>cases o3<;>simp
   |some y=>cases o3 with
    |none=>simp
    |some z=>simpa using λe=>h3 y rfl (by rw[e])
  |some x=>cases o2 with
   |none=>cases o3 with
    |none=>simp
    |some z=>simpa using λe=>h2 x rfl (by rw[e])
   |some y=>cases o3 with
    |none=>simpa using λe=>h1 x rfl (by rw[e])
    |some z=>simpa using⟨⟨λe=>h1 x rfl (by rw[e]),λe=>h2 x rfl (by rw[e])⟩,λe=>h3 y rfl (by rw[e])⟩
theorem JL (v:zu) (L:zQ) (s:zp) (w:World) (hr:yZ w v L s) (hz:GE s):
  Calls Tryz.prog 51 #[v.val] w λe w'=>∃(v':zu) (L':zQ),e= .returned v'.val/\yr [] w.heap.size w' v' L' s/\yz w.heap.size L'/\Fr w w' (xI v' s L'):=by
 have npl:v.pl.n<=1048576:=by rw[hr.pl.len];exact hz.pl.2
 have Y0:=zd hr.pl.len;have nst:v.st.n<=1048576:=by rw[hr.st.len];exact hz.st.2
 have j1:=zd hr.st.len;have nse:v.se.n<=1048576:=by rw[hr.se.len];exact hz.se
 have i1:=zd hr.se.len;have non:v.on.n<=1048576:=by rw[hr.on.len];exact hz.on
 have X0:=zd hr.on.len;have ngr:v.gr.n<=1048576:=by rw[hr.gr.len];exact hz.gr
 have V0:=zd hr.gr.len;have nba:v.ba.n<=1048576:=by rw[hr.ba.len];exact hz.ba
 have T0:=zd hr.ba.len;have nch:v.ch.n<=1048576:=by rw[hr.ch.len];exact hz.ch
 have U0:=zd hr.ch.len;have nsa:v.sa.n<=1048576:=by rw[hr.sa.len];exact hz.sa
 have Z0:=zd hr.sa.len;have HZ:=zd hz;have HS:=zd hr;have F:=((Fr.start w).alloc (yN v) 38).alloc zC 38;simp only[yY] at F;clear hz hr;go_enter Tryz.func51,Tryz.ntmps51;go_wp2_with fail;obtain⟨u1,hu,F0⟩:=F.named;rw[<-hu];clear hu F;have F:=F0;clear F0
 refine ZJ 13 (by kernel_rfl) (by kernel_rfl) [Zf (.pointer (some ⟨w.heap.size,0,none⟩)),Zf (.slice v.pl.a v.pl.n v.pl.c),λdz uz wz=>∃(az:uQ) (cz:Nat),uz= .slice az v.pl.n cz/\wz.ownsRow u1.heap.size 3 1 (.slice az v.pl.n cz) v.pl.n (zf s.places),Zf (.pointer (some ⟨w.heap.size,1,none⟩)),Zf (.slice v.st.a v.st.n v.st.c),λdz uz wz=>∃(az:uQ) (cz:Nat),uz= .slice az v.st.n cz/\wz.ownsRow u1.heap.size 3 1 (.slice az v.st.n cz) v.st.n (zf s.status),Zf (.pointer (some ⟨w.heap.size,7,none⟩)),Zf (.slice v.sa.a v.sa.n v.sa.c),λdz uz wz=>∃(az:uQ) (cz:Nat),uz= .slice az v.sa.n cz/\wz.ownsRow u1.heap.size 3 1 (.slice az v.sa.n cz) v.sa.n (zf s.said),Zf (.pointer (some ⟨w.heap.size,8,none⟩)),Zf (uy v.fl),λdz uz wz=>uz=(.agg #[(dz.getD 0 undef),(dz.getD 1 undef),uk,uk,uk,uk,uk,(dz.getD 2 undef),(dz.getD 3 undef)]:Value),λdz uz wz=>∃gz:Nat,uz= .pointer (some ⟨gz,0,none⟩)/\zm wz gz zC 38/\u1.heap.size<=gz] (λi=>match i with|2=>Value.ownBlock|5=>Value.ownBlock|8=>Value.ownBlock|12=>fX|_=>λ_=>none) (λw'=>xW u1 w') xd.drew (JA ⟨pS,pS,λ_ _ _ _ hb ⟨a,c,e,h⟩=>⟨a,c,e,zl h hb⟩,pS,pS,λ_ _ _ _ hb ⟨a,c,e,h⟩=>⟨a,c,e,zl h hb⟩,pS,pS,λ_ _ _ _ hb ⟨a,c,e,h⟩=>⟨a,c,e,zl h hb⟩,pS,pS,λ_ _ _ _ _ h=>h,dM,trivial⟩) ?_ ?_
 ·simp only[List.take_succ_cons,List.take_zero];refine⟨?_,?_,?_,?_,?_,?_,?_,?_,?_,?_,?_,?_,?_,trivial⟩
  all_goals (intro ρ w1 hG hfr hd;obtain⟨fc,ff⟩:=xu hfr;have f1:ρ (.tmp 1)= .pointer (some ⟨w.heap.size,0,none⟩):=hfr _ rfl;have F1:=F.call hG;have cs:=F1.c9 1 rfl;clear F1)
  ·exact Zh hG (by go_simp) rfl yn
  ·obtain⟨d0,-⟩:=hd;have d0:ρ (.tmp 14)=_:=d0;exact Zh hG (by go_simp) rfl yn
  ·obtain⟨d0,-⟩:=hd;have d0:ρ (.tmp 15)=_:=d0;refine zU (by go_simp;exact⟨⟨rfl,rfl⟩,rfl⟩) ?_;refine(yV v.pl.a v.pl.n v.pl.c s.places _ Y0.o.symm jq ((F.rd HS.o.pl.rd).below hG)).mono ?_;rintro e w2 ⟨a1,c1,rfl,ho,hb⟩;exact⟨_,rfl,hb,⟨a1,c1,rfl,zw ho hG.size⟩,ho.lt,hG.trans (hb.mono hG.size)⟩
  ·exact Zh hG (by go_simp) rfl yn
  ·obtain⟨d0,-⟩:=hd;have d0:ρ (.tmp 17)=_:=d0;exact Zh hG (by go_simp) rfl yn
  ·obtain⟨d0,d1,-⟩:=hd;have d0:ρ (.tmp 18)=_:=d0;have d1:∃(az:uQ) (cz:Nat),(ρ (.tmp 16))= .slice az v.pl.n cz/\w1.ownsRow u1.heap.size 3 1 (.slice az v.pl.n cz) v.pl.n (zf s.places):=d1;refine zU (by go_simp;exact⟨⟨rfl,rfl⟩,rfl⟩) ?_;refine(yV v.st.a v.st.n v.st.c s.status _ j1.out.symm jq ((F.rd HS.o.st.rd).below hG)).mono ?_;rintro e w2 ⟨a1,c1,rfl,ho,hb⟩;exact⟨_,rfl,hb,⟨a1,c1,rfl,zw ho hG.size⟩,ho.lt,hG.trans (hb.mono hG.size)⟩
  ·exact Zh hG (by go_simp) rfl yn
  ·obtain⟨d0,-⟩:=hd;have d0:ρ (.tmp 20)=_:=d0;exact Zh hG (by go_simp) rfl yn
  ·obtain⟨d0,d1,-⟩:=hd;have d0:ρ (.tmp 21)=_:=d0;have d1:∃(az:uQ) (cz:Nat),(ρ (.tmp 19))= .slice az v.st.n cz/\w1.ownsRow u1.heap.size 3 1 (.slice az v.st.n cz) v.st.n (zf s.status):=d1;refine zU (by go_simp;exact⟨⟨rfl,rfl⟩,rfl⟩) ?_;refine(yV v.sa.a v.sa.n v.sa.c s.said _ Z0.o.symm jq ((F.rd HS.o.sa.rd).below hG)).mono ?_;rintro e w2 ⟨a1,c1,rfl,ho,hb⟩;exact⟨_,rfl,hb,⟨a1,c1,rfl,zw ho hG.size⟩,ho.lt,hG.trans (hb.mono hG.size)⟩
  ·exact Zh hG (by go_simp) rfl yn
  ·obtain⟨d0,-⟩:=hd;have d0:ρ (.tmp 23)=_:=d0;exact Zh hG (by go_simp) rfl yn
  ·obtain⟨d0,d1,d2,d3,-⟩:=hd;have d0:∃(az:uQ) (cz:Nat),(ρ (.tmp 16))= .slice az v.pl.n cz/\w1.ownsRow u1.heap.size 3 1 (.slice az v.pl.n cz) v.pl.n (zf s.places):=d0;have d1:∃(az:uQ) (cz:Nat),(ρ (.tmp 19))= .slice az v.st.n cz/\w1.ownsRow u1.heap.size 3 1 (.slice az v.st.n cz) v.st.n (zf s.status):=d1;have d2:∃(az:uQ) (cz:Nat),(ρ (.tmp 22))= .slice az v.sa.n cz/\w1.ownsRow u1.heap.size 3 1 (.slice az v.sa.n cz) v.sa.n (zf s.said):=d2;have d3:ρ (.tmp 24)=_:=d3;obtain⟨k1,n1,d0,-⟩:=d0;obtain⟨l1,p1,d1,-⟩:=d1;obtain⟨m1,q1,d2,-⟩:=d2;refine zh (u:= .agg #[.slice k1 v.pl.n n1,.slice l1 v.st.n p1,uk,uk,uk,uk,uk,.slice m1 v.sa.n q1,uy v.fl]) (w':=w1) (by go_simp) ⟨Below.refl _ _,?_,yn,hG⟩;show Value.agg #[.slice k1 v.pl.n n1,.slice l1 v.st.n p1,uk,uk,uk,uk,uk,.slice m1 v.sa.n q1,uy v.fl]=(.agg #[(ρ (.tmp 16)),(ρ (.tmp 19)),uk,uk,uk,uk,uk,(ρ (.tmp 22)),(ρ (.tmp 24))]:Value);rw[d0,d1,d2,d3]
  ·refine zh (u:= .pointer (some ⟨w1.heap.size,0,none⟩)) (w':=w1.alloc (.cells zC 38)) (by go_simp) ⟨zY,⟨_,rfl,zm.new _ _ _,hG.size⟩,kc _ _,hG.alloc hG.size _⟩
 intro vs w2 hG A0 z0 C0 z1;obtain⟨D1,E1,G0,H0,I0,J0,v1,x1,y0,y1,v0,R0,S0,rfl⟩:=DM A0;clear A0;simp only[List.take_succ_cons,List.take_zero,List.drop_succ_cons,List.drop_zero] at z0⊢;obtain⟨B1,C1,M0,t0,u0,N0,t1,O0,x0,P0,q0,r0,s0,-⟩:=z0;replace M0:∃(az:uQ) (cz:Nat),G0= .slice az v.pl.n cz/\w2.ownsRow u1.heap.size 3 1 (.slice az v.pl.n cz) v.pl.n (zf s.places):=M0;replace N0:∃(az:uQ) (cz:Nat),J0= .slice az v.st.n cz/\w2.ownsRow u1.heap.size 3 1 (.slice az v.st.n cz) v.st.n (zf s.status):=N0;replace x0:∃(az:uQ) (cz:Nat),y0= .slice az v.sa.n cz/\w2.ownsRow u1.heap.size 3 1 (.slice az v.sa.n cz) v.sa.n (zf s.said):=x0;replace r0:R0=(.agg #[G0,J0,uk,uk,uk,uk,uk,y0,v0]:Value):=r0;replace s0:∃gz:Nat,S0= .pointer (some ⟨gz,0,none⟩)/\zm w2 gz zC 38/\u1.heap.size<=gz:=s0;obtain rfl:D1=_:=B1;obtain rfl:E1=_:=C1;obtain rfl:H0=_:=t0;obtain rfl:I0=_:=u0;obtain rfl:v1=_:=t1;obtain rfl:x1=_:=O0;obtain rfl:y1=_:=P0;obtain rfl:v0=_:=q0;have j0:∀k,(Value.ownBlock) G0=some k->(Value.ownBlock) J0≠some k:=C0 2 5 jv jv jk;have k0:∀k,(Value.ownBlock) G0=some k->(Value.ownBlock) y0≠some k:=C0 2 8 jv jv jk;have l0:∀k,(Value.ownBlock) J0=some k->(Value.ownBlock) y0≠some k:=C0 5 8 jv jv jk;clear C0 z1
 simp only[jH,Act.put,List.setIfInBounds_toArray,List.set_cons_succ,List.set_cons_zero];obtain⟨a1,c1,rfl,o1⟩:=M0;obtain⟨a2,c2,rfl,o2⟩:=N0;obtain⟨a8,c8,rfl,o8⟩:=x0;obtain⟨G,rfl,kG,r1⟩:=s0;simp only[yu] at j0 k0 l0;have F2:=F.more hG (i:= .blk G zC 38) ⟨r1,kG⟩;have D0:=F.bel.size;have h0:Sf w w2 [.blk G zC 38,.blk (w.heap.size+1) zC 38,.blk w.heap.size (yN v) 38] ⟨⟨a1,v.pl.n,c1⟩,⟨a2,v.st.n,c2⟩,zR,zR,zR,zR,zR,⟨a8,v.sa.n,c8⟩,v.fl⟩ ⟨[],[],[],[],[]⟩ (xU s 0 0 0 0 0):=by
  refine⟨F2,?_⟩;refine⟨zw o1 D0,Y0.o,zw o2 D0,j1.out,jf _ _ _ _,rfl,jf _ _ _ _,rfl,jf _ _ _ _,rfl,jf _ _ _ _,rfl,jf _ _ _ _,rfl,zw o8 D0,Z0.o,HS.o.fl,j0,k0,l0,λq hq=>⟨(F2.inside q hq).2,λhm=> ?_⟩,⟨qJ.nil,qJ.nil,qJ.nil,qJ.nil,qJ.nil⟩⟩;have hB:∃cs,zm w2 q cs 38:=by
   obtain⟨i,hi,A1⟩:=List.mem_flatMap.1 hq;simp only[List.mem_cons,jw,or_false] at hi;rcases hi with rfl|rfl|rfl<;>obtain rfl:=yh A1
   ·exact⟨_,F2.blk 0 rfl⟩
   ·exact⟨_,F2.blk 1 rfl⟩
   ·exact⟨_,F2.blk 2 rfl⟩
  obtain⟨cs,hB⟩:=hB;obtain⟨z,hz,E0⟩:=xc.1 hm;simp only[zR,List.mem_cons,jw,or_false] at hz;rcases hz with rfl|rfl|rfl|rfl|rfl|rfl|rfl|rfl
  ·exact yd hB o1 jk E0
  ·exact yd hB o2 jk E0
  iterate 5 cases E0
  ·exact yd hB o8 jk E0
 have co:=h0.c9 0 rfl;have h1:=h0.set9 0 rfl (.slice a1 v.pl.n c1) (.slice a2 v.st.n c2) uk uk uk uk uk (.slice a8 v.sa.n c8) (uy v.fl);clear o1 o2 o8 j0 k0 l0 kG r1 F2 F h0 D0 hG;go_upto_region 2 with fail;obtain⟨wz,hw,h⟩:=h1.named;rw[<-hw];clear hw h1 co r0;have HN:=yz.nil w.heap.size;have HI:uH (Fr w wz (xI ⟨⟨a1,v.pl.n,c1⟩,⟨a2,v.st.n,c2⟩,zR,zR,zR,zR,zR,⟨a8,v.sa.n,c8⟩,v.fl⟩ s ⟨[],[],[],[],[]⟩)):=zd (Ds h);have cs:=h.c9 2 rfl;go_wp2;clear cs
 go_loopw [29] (λi wr=>∃(k:Nat) (V:zu) (M:zQ),k<=v.se.n/\i=uy k/\Sf w wr (vp w G V v) V M (xU s k 0 0 0 0)/\yz w.heap.size M/\uH (Fr w wr (xI V s M))) (λi _=>v.se.n-(intOf i).toNat)
 case atStart=>exact⟨0,⟨⟨a1,v.pl.n,c1⟩,⟨a2,v.st.n,c2⟩,zR,zR,zR,zR,zR,⟨a8,v.sa.n,c8⟩,v.fl⟩,_,jq,rfl,h,HN,HI⟩
 case round=>
  clear h HN HI;obtain⟨k,V,M,hk,rfl,h,HN,HI⟩:=hrel;by_cases p0:k<v.se.n
  ·have f0:k<s.sems.length:=by have:=i1.out;omega
   obtain⟨x,q,b1,o1,HX,ea,g0,g1,g2,Q0,a0,B0⟩:=HS.o.at_se (j:=k) f0;replace g0:=ze h.bel g0;replace g1:=ze h.bel g1;replace g2:=ze h.bel g2;have i0:V.se.n=k:=by rw[h.st.nse];show(s.sems.take k).length=k;rw[jO];omega
   have HP:uH (s.sems.take (k+1)=s.sems.take k++[x]):=zd (by rw[HX.o];exact(xQ _ _ f0).symm);have h2:=h.alloc #[uy x.free,uy x.limit,.slice q.a q.n q.c] 74;have I2:=HI.o.call (xd.alloc yk (.cells #[uy x.free,uy x.limit,.slice q.a q.n q.c] 74));have cx:=h2.c3 0 rfl;have n0:=zd i0;clear f0 i0;go_upto_region 5 with fail;obtain⟨u2,hu,h3⟩:=h2.named;rw[<-hu] at I2⊢;clear hu h2 h cx ea g0 g1 g2;apply xZ 5 [.k _,.k _,.k _,.r λdz uz wz=>∃(az:uQ) (cz:Nat),uz= .agg #[uy x.free,uy x.limit,.slice az q.n cz]/\wz.ownsRow u2.heap.size 151 2 (.slice az q.n cz) q.n (zK x.queue),.r λdz uz wz=>∃(gz:Nat) (az:uQ) (cz:Nat),uz= .slice (some ⟨gz,0,none⟩) 1 1/\zm wz gz #[uy x.free,uy x.limit,.slice az q.n cz] 74/\wz.ownsRow u2.heap.size 151 2 (.slice az q.n cz) q.n (zK x.queue)] ⟨λ_ _ _ _ hb ⟨a,c,e,h⟩=>⟨a,c,e,zl h hb⟩,λ_ _ _ _ hb ⟨g,a,c,e,h,h1⟩=>⟨g,a,c,e,h.below hb,zl h1 hb⟩,trivial⟩ ?s1 ?e1
   case s1=>
    repeat' apply And.intro
    all_goals first|trivial|(intro ρ w1 hG hfr hd;obtain⟨fc,ff⟩:=xu hfr;have f3:=hfr (.tmp 3) rfl;have f5:=hfr (.tmp 5) rfl;have F1:=h3.fr.call hG;have co:=F1.c9 1 rfl;have cx:=F1.c3 0 rfl;clear F1)
    exact yj;exact yI;exact yj
    ·obtain⟨d0,-⟩:=hd;have d0:ρ (.tmp 35)=_:=d0;refine zU (by go_simp;exact⟨⟨rfl,rfl⟩,rfl⟩) ?_;refine(ue x q.a q.n q.c _ a0.out.symm (by rw[a0.out,HX.o];exact HZ.o.qse k) ((h3.fr.call hG).rd Q0.o)).mono ?_;rintro e w2 ⟨a1,c1,rfl,ho,hb⟩;exact⟨_,rfl,hb,⟨a1,c1,rfl,zw ho hG.size⟩,yn,hG.trans (hb.mono hG.size)⟩
    ·obtain⟨d0,-⟩:=hd;have d0:∃(az:uQ) (cz:Nat),(ρ (.tmp 36))= .agg #[uy x.free,uy x.limit,.slice az q.n cz]/\w1.ownsRow u2.heap.size 151 2 (.slice az q.n cz) q.n (zK x.queue):=d0;obtain⟨b0,c0,d0,ho⟩:=d0;have hb:xW w1 (w1.alloc (.cells #[uy x.free,uy x.limit,.slice b0 q.n c0] 74)):=zY;refine zh (u:= .slice (some ⟨w1.heap.size,0,none⟩) 1 1) (w':=w1.alloc (.cells #[uy x.free,uy x.limit,.slice b0 q.n c0] 74)) (by go_simp) ⟨hb,⟨_,b0,c0,rfl,zm.new _ _ _,zl ho hb⟩,yn,hG.alloc hG.size _⟩
   intro w2 hG;refine yv ?_;intro H0 t0 I0 u0;obtain⟨gz,az,cz,rfl,kL,ho⟩:=u0;have I3:=(I2.row hG ho).perm (G4 _ _ _ (DQ M x ⟨az,q.n,cz⟩));have hq:Xn (zO (.blk wr.heap.size #[uy x.free,uy x.limit,.slice q.a q.n q.c] 74::vp w G V v)++V.blks) w2 x ⟨az,q.n,cz⟩:=by
    have h9:=h3.apart (yy.of_owns ho yk);show yc _ _ _ _ x.queue.length;rw[<-a0.out];exact h9
   have m0:=HN.se1 (x:=x) (q:=⟨az,q.n,cz⟩) (jT.lower (yy.of_owns ho yk).new h3.bel.size);have h4:=h3.call hG;have HQ:=zd hq;clear hq hG h3 t0;go_wp2_with (at_builtin;refine h4.appg_se rfl _ _ rfl rfl rfl (Rd.of_blk kL) HQ.o (jQ n0.out) ?_;intro r W5 h5 o0;have I6:=zd (QM (VJ I3 h4.st.se ⟨jk,jk,jk⟩ o0) (h5.fr.blk 1 rfl) ⟨jk,jk,jk⟩ (h5.fr.inside G (by simp[zO,It.foot,vp])).1 ((zo.refl _ _).set (j:=2) (v:=r.val) yl));have co:=h5.c9 1 rfl;have h6:=(h5.set 1 rfl 2 r.val).sub (l':=vp w G {V with se:=r} v) (.cons _ (.refl _)))
   go_roundw
   case rel=>exact⟨k+1,{V with se:=r},_,jq,by go_num,by
    have e:xU s (k+1) 0 0 0 0={xU s k 0 0 0 0 with sems:=s.sems.take k++[x]}:=by unfold xU;rw[HP.o]
    rw[e];exact h6,m0,I6⟩
   case measure=>exact uq
  ·obtain rfl:k=v.se.n:=jq;clear p0 hk;have cs:=h.c9 2 rfl;go_wp2;clear cs
   go_loopw [44] (λi wr=>∃(k:Nat) (V:zu) (M:zQ),k<=v.on.n/\i=uy k/\Sf w wr (vp w G V v) V M (xU s v.se.n k 0 0 0)/\yz w.heap.size M/\uH (Fr w wr (xI V s M))) (λi _=>v.on.n-(intOf i).toNat)
   case atStart=>exact⟨0,V,_,jq,rfl,h,HN,HI⟩
   case round=>
    clear h HN HI;obtain⟨k,V,M,hk,rfl,h,HN,HI⟩:=hrel;by_cases p0:k<v.on.n
    ·have f0:k<s.onces.length:=by have:=X0.o;omega
     obtain⟨x,q,b1,o1,HX,ea,g0,g1,g2,g3,Q0,a0,B0⟩:=HS.o.at_on (j:=k) f0;replace g0:=ze h.bel g0;replace g1:=ze h.bel g1;replace g2:=ze h.bel g2;replace g3:=ze h.bel g3;have i0:V.on.n=k:=by rw[h.st.non];show(s.onces.take k).length=k;rw[jO];omega
     have HP:uH (s.onces.take (k+1)=s.onces.take k++[x]):=zd (by rw[HX.o];exact(xQ _ _ f0).symm);have h2:=h.alloc #[uy x.state,uy x.owner,uy x.value,.slice q.a q.n q.c] 81;have I2:=HI.o.call (xd.alloc yk (.cells #[uy x.state,uy x.owner,uy x.value,.slice q.a q.n q.c] 81));have cx:=h2.c4 0 rfl;have n0:=zd i0;clear f0 i0;go_upto_region 10 with fail;obtain⟨u2,hu,h3⟩:=h2.named;rw[<-hu] at I2⊢;clear hu h2 h cx ea g0 g1 g2 g3;apply xZ 5 [.k _,.k _,.k _,.r λdz uz wz=>∃(az:uQ) (cz:Nat),uz= .agg #[uy x.state,uy x.owner,uy x.value,.slice az q.n cz]/\wz.ownsRow u2.heap.size 3 1 (.slice az q.n cz) q.n (zf x.waits),.r λdz uz wz=>∃(gz:Nat) (az:uQ) (cz:Nat),uz= .slice (some ⟨gz,0,none⟩) 1 1/\zm wz gz #[uy x.state,uy x.owner,uy x.value,.slice az q.n cz] 81/\wz.ownsRow u2.heap.size 3 1 (.slice az q.n cz) q.n (zf x.waits)] ⟨λ_ _ _ _ hb ⟨a,c,e,h⟩=>⟨a,c,e,zl h hb⟩,λ_ _ _ _ hb ⟨g,a,c,e,h,h1⟩=>⟨g,a,c,e,h.below hb,zl h1 hb⟩,trivial⟩ ?s2 ?e2
     case s2=>
      repeat' apply And.intro
      all_goals first|trivial|(intro ρ w1 hG hfr hd;obtain⟨fc,ff⟩:=xu hfr;have f3:=hfr (.tmp 3) rfl;have f7:=hfr (.tmp 7) rfl;have F1:=h3.fr.call hG;have co:=F1.c9 1 rfl;have cx:=F1.c4 0 rfl;clear F1)
      exact yj;exact yI;exact yj
      ·obtain⟨d0,-⟩:=hd;have d0:ρ (.tmp 50)=_:=d0;refine zU (by go_simp;exact⟨⟨rfl,rfl⟩,rfl⟩) ?_;refine(Yq x q.a q.n q.c _ a0.out.symm (by rw[a0.out,HX.o];exact HZ.o.qon k) ((h3.fr.call hG).rd Q0.o)).mono ?_;rintro e w2 ⟨a1,c1,rfl,ho,hb⟩;exact⟨_,rfl,hb,⟨a1,c1,rfl,zw ho hG.size⟩,yn,hG.trans (hb.mono hG.size)⟩
      ·obtain⟨d0,-⟩:=hd;have d0:∃(az:uQ) (cz:Nat),(ρ (.tmp 51))= .agg #[uy x.state,uy x.owner,uy x.value,.slice az q.n cz]/\w1.ownsRow u2.heap.size 3 1 (.slice az q.n cz) q.n (zf x.waits):=d0;obtain⟨b0,c0,d0,ho⟩:=d0;have hb:xW w1 (w1.alloc (.cells #[uy x.state,uy x.owner,uy x.value,.slice b0 q.n c0] 81)):=zY;refine zh (u:= .slice (some ⟨w1.heap.size,0,none⟩) 1 1) (w':=w1.alloc (.cells #[uy x.state,uy x.owner,uy x.value,.slice b0 q.n c0] 81)) (by go_simp) ⟨hb,⟨_,b0,c0,rfl,zm.new _ _ _,zl ho hb⟩,yn,hG.alloc hG.size _⟩
     intro w2 hG;refine yv ?_;intro H0 t0 I0 u0;obtain⟨gz,az,cz,rfl,kL,ho⟩:=u0;have I3:=(I2.row hG ho).perm (G4 _ _ _ (pc M x ⟨az,q.n,cz⟩));have hq:Xm (zO (.blk wr.heap.size #[uy x.state,uy x.owner,uy x.value,.slice q.a q.n q.c] 81::vp w G V v)++V.blks) w2 x ⟨az,q.n,cz⟩:=by
      have h9:=h3.apart (yy.of_owns ho yk);show yc _ _ _ _ x.waits.length;rw[<-a0.out];exact h9
     have m0:=HN.on1 (x:=x) (q:=⟨az,q.n,cz⟩) (jT.lower (yy.of_owns ho yk).new h3.bel.size);have h4:=h3.call hG;have HQ:=zd hq;clear hq hG h3 t0;go_wp2_with (at_builtin;refine h4.appg_on rfl _ _ rfl rfl rfl (Rd.of_blk kL) HQ.o (jQ n0.out) ?_;intro r W5 h5 o0;have I6:=zd (QM (VJ I3 h4.st.on ⟨jk,jk,jk⟩ o0) (h5.fr.blk 1 rfl) ⟨jk,jk,jk⟩ (h5.fr.inside G (by simp[zO,It.foot,vp])).1 ((zo.refl _ _).set (j:=3) (v:=r.val) yl));have co:=h5.c9 1 rfl;have h6:=(h5.set 1 rfl 3 r.val).sub (l':=vp w G {V with on:=r} v) (.cons _ (.refl _)))
     go_roundw
     case rel=>exact⟨k+1,{V with on:=r},_,jq,by go_num,by
      have e:xU s v.se.n (k+1) 0 0 0={xU s v.se.n k 0 0 0 with onces:=s.onces.take k++[x]}:=by unfold xU;rw[HP.o]
      rw[e];exact h6,m0,I6⟩
     case measure=>exact uq
    ·obtain rfl:k=v.on.n:=jq;clear p0 hk;have cs:=h.c9 2 rfl;go_wp2;clear cs
     go_loopw [59] (λi wr=>∃(k:Nat) (V:zu) (M:zQ),k<=v.gr.n/\i=uy k/\Sf w wr (vp w G V v) V M (xU s v.se.n v.on.n k 0 0)/\yz w.heap.size M/\uH (Fr w wr (xI V s M))) (λi _=>v.gr.n-(intOf i).toNat)
     case atStart=>exact⟨0,V,_,jq,rfl,h,HN,HI⟩
     case round=>
      clear h HN HI;obtain⟨k,V,M,hk,rfl,h,HN,HI⟩:=hrel;by_cases p0:k<v.gr.n
      ·have f0:k<s.groups.length:=by have:=V0.o;omega
       obtain⟨x,q,b1,o1,HX,ea,g0,g1,Q0,a0,B0⟩:=HS.o.at_gr (j:=k) f0;replace g0:=ze h.bel g0;replace g1:=ze h.bel g1;have i0:V.gr.n=k:=by rw[h.st.ngr];show(s.groups.take k).length=k;rw[jO];omega
       have HP:uH (s.groups.take (k+1)=s.groups.take k++[x]):=zd (by rw[HX.o];exact(xQ _ _ f0).symm);have h2:=h.alloc #[uy x.count,.slice q.a q.n q.c] 87;have I2:=HI.o.call (xd.alloc yk (.cells #[uy x.count,.slice q.a q.n q.c] 87));have cx:=h2.c2 0 rfl;have n0:=zd i0;clear f0 i0;go_upto_region 15 with fail;obtain⟨u2,hu,h3⟩:=h2.named;rw[<-hu] at I2⊢;clear hu h2 h cx ea g0 g1;apply xZ 9 [.k _,.k _,.k _,.k _,.k _,.k _,.r λdz uz wz=>∃(az:uQ) (cz:Nat),uz= .slice az q.n cz/\wz.ownsRow u2.heap.size 3 1 (.slice az q.n cz) q.n (zf x.waits),.r λdz uz wz=>∃(az:uQ) (cz:Nat),uz= .agg #[uy x.count,.slice az q.n cz]/\wz.ownsRow u2.heap.size 3 1 (.slice az q.n cz) q.n (zf x.waits),.r λdz uz wz=>∃(gz:Nat) (az:uQ) (cz:Nat),uz= .slice (some ⟨gz,0,none⟩) 1 1/\zm wz gz #[uy x.count,.slice az q.n cz] 87/\wz.ownsRow u2.heap.size 3 1 (.slice az q.n cz) q.n (zf x.waits)] ⟨λ_ _ _ _ hb ⟨a,c,e,h⟩=>⟨a,c,e,zl h hb⟩,λ_ _ _ _ hb ⟨a,c,e,h⟩=>⟨a,c,e,zl h hb⟩,λ_ _ _ _ hb ⟨g,a,c,e,h,h1⟩=>⟨g,a,c,e,h.below hb,zl h1 hb⟩,trivial⟩ ?s3 ?e3
       case s3=>
        repeat' apply And.intro
        all_goals first|trivial|(intro ρ w1 hG hfr hd;obtain⟨fc,ff⟩:=xu hfr;have f3:=hfr (.tmp 3) rfl;have f9:=hfr (.tmp 9) rfl;have F1:=h3.fr.call hG;have co:=F1.c9 1 rfl;have cx:=F1.c2 0 rfl;clear F1)
        exact yj;exact yI;exact yj;exact yI;exact yj;exact yI
        ·obtain⟨d0,-⟩:=hd;have d0:ρ (.tmp 68)=_:=d0;refine zU (by go_simp;exact⟨⟨rfl,rfl⟩,rfl⟩) ?_;refine(yV q.a q.n q.c x.waits _ a0.out.symm (by have h1:=HZ.o.qgr k;rw[<-HX.o,<-a0.out] at h1;omega) ((h3.fr.call hG).rd Q0.o)).mono ?_;rintro e w2 ⟨a1,c1,rfl,ho,hb⟩;exact⟨_,rfl,hb,⟨a1,c1,rfl,zw ho hG.size⟩,yn,hG.trans (hb.mono hG.size)⟩
        ·obtain⟨d0,d1,-⟩:=hd;have d0:ρ (.tmp 66)=_:=d0;have d1:∃(az:uQ) (cz:Nat),(ρ (.tmp 69))= .slice az q.n cz/\w1.ownsRow u2.heap.size 3 1 (.slice az q.n cz) q.n (zf x.waits):=d1;obtain⟨b0,c0,d1,ho⟩:=d1;exact Zh hG (by go_simp) ⟨b0,c0,rfl,ho⟩ yn
        ·obtain⟨d0,-⟩:=hd;have d0:∃(az:uQ) (cz:Nat),(ρ (.tmp 70))= .agg #[uy x.count,.slice az q.n cz]/\w1.ownsRow u2.heap.size 3 1 (.slice az q.n cz) q.n (zf x.waits):=d0;obtain⟨b0,c0,d0,ho⟩:=d0;have hb:xW w1 (w1.alloc (.cells #[uy x.count,.slice b0 q.n c0] 87)):=zY;refine zh (u:= .slice (some ⟨w1.heap.size,0,none⟩) 1 1) (w':=w1.alloc (.cells #[uy x.count,.slice b0 q.n c0] 87)) (by go_simp) ⟨hb,⟨_,b0,c0,rfl,zm.new _ _ _,zl ho hb⟩,yn,hG.alloc hG.size _⟩
       intro w2 hG;refine yv ?_;intro v1 t1 x1 O0 y0 x0;obtain⟨gz,az,cz,rfl,kL,ho⟩:=x0;have I3:=(I2.row hG ho).perm (G4 _ _ _ (pb M x ⟨az,q.n,cz⟩));have hq:JK (zO (.blk wr.heap.size #[uy x.count,.slice q.a q.n q.c] 87::vp w G V v)++V.blks) w2 x ⟨az,q.n,cz⟩:=by
        have h9:=h3.apart (yy.of_owns ho yk);show yc _ _ _ _ x.waits.length;rw[<-a0.out];exact h9
       have m0:=HN.gr1 (x:=x) (q:=⟨az,q.n,cz⟩) (jT.lower (yy.of_owns ho yk).new h3.bel.size);have h4:=h3.call hG;have HQ:=zd hq;clear hq hG h3 O0;go_wp2_with (at_builtin;refine h4.appg_gr rfl _ _ rfl rfl rfl (Rd.of_blk kL) HQ.o (jQ n0.out) ?_;intro r W5 h5 o0;have I6:=zd (QM (VJ I3 h4.st.gr ⟨jk,jk,jk⟩ o0) (h5.fr.blk 1 rfl) ⟨jk,jk,jk⟩ (h5.fr.inside G (by simp[zO,It.foot,vp])).1 ((zo.refl _ _).set (j:=4) (v:=r.val) yl));have co:=h5.c9 1 rfl;have h6:=(h5.set 1 rfl 4 r.val).sub (l':=vp w G {V with gr:=r} v) (.cons _ (.refl _)))
       go_roundw
       case rel=>exact⟨k+1,{V with gr:=r},_,jq,by go_num,by
        have e:xU s v.se.n v.on.n (k+1) 0 0={xU s v.se.n v.on.n k 0 0 with groups:=s.groups.take k++[x]}:=by unfold xU;rw[HP.o]
        rw[e];exact h6,m0,I6⟩
       case measure=>exact uq
      ·obtain rfl:k=v.gr.n:=jq;clear p0 hk;have cs:=h.c9 2 rfl;go_wp2;clear cs
       go_loopw [78] (λi wr=>∃(k:Nat) (V:zu) (M:zQ),k<=v.ba.n/\i=uy k/\Sf w wr (vp w G V v) V M (xU s v.se.n v.on.n v.gr.n k 0)/\yz w.heap.size M/\uH (Fr w wr (xI V s M))) (λi _=>v.ba.n-(intOf i).toNat)
       case atStart=>exact⟨0,V,_,jq,rfl,h,HN,HI⟩
       case round=>
        clear h HN HI;obtain⟨k,V,M,hk,rfl,h,HN,HI⟩:=hrel;by_cases p0:k<v.ba.n
        ·have f0:k<s.bars.length:=by have:=T0.o;omega
         obtain⟨x,q,b1,o1,HX,ea,g0,g1,g2,Q0,a0,B0⟩:=HS.o.at_ba (j:=k) f0;replace g0:=ze h.bel g0;replace g1:=ze h.bel g1;replace g2:=ze h.bel g2;have i0:V.ba.n=k:=by rw[h.st.nba];show(s.bars.take k).length=k;rw[jO];omega
         have HP:uH (s.bars.take (k+1)=s.bars.take k++[x]):=zd (by rw[HX.o];exact(xQ _ _ f0).symm);have h2:=h.alloc #[uy x.parties,uy x.round,.slice q.a q.n q.c] 93;have I2:=HI.o.call (xd.alloc yk (.cells #[uy x.parties,uy x.round,.slice q.a q.n q.c] 93));have cx:=h2.c3 0 rfl;have n0:=zd i0;clear f0 i0;go_upto_region 20 with fail;obtain⟨u2,hu,h3⟩:=h2.named;rw[<-hu] at I2⊢;clear hu h2 h cx ea g0 g1 g2;apply xZ 11 [.k _,.k _,.k _,.k _,.k _,.k _,.k _,.k _,.r λdz uz wz=>∃(az:uQ) (cz:Nat),uz= .slice az q.n cz/\wz.ownsRow u2.heap.size 3 1 (.slice az q.n cz) q.n (zf x.waits),.r λdz uz wz=>∃(az:uQ) (cz:Nat),uz= .agg #[uy x.parties,uy x.round,.slice az q.n cz]/\wz.ownsRow u2.heap.size 3 1 (.slice az q.n cz) q.n (zf x.waits),.r λdz uz wz=>∃(gz:Nat) (az:uQ) (cz:Nat),uz= .slice (some ⟨gz,0,none⟩) 1 1/\zm wz gz #[uy x.parties,uy x.round,.slice az q.n cz] 93/\wz.ownsRow u2.heap.size 3 1 (.slice az q.n cz) q.n (zf x.waits)] ⟨λ_ _ _ _ hb ⟨a,c,e,h⟩=>⟨a,c,e,zl h hb⟩,λ_ _ _ _ hb ⟨a,c,e,h⟩=>⟨a,c,e,zl h hb⟩,λ_ _ _ _ hb ⟨g,a,c,e,h,h1⟩=>⟨g,a,c,e,h.below hb,zl h1 hb⟩,trivial⟩ ?s4 ?e4
         case s4=>
          repeat' apply And.intro
          all_goals first|trivial|(intro ρ w1 hG hfr hd;obtain⟨fc,ff⟩:=xu hfr;have f3:=hfr (.tmp 3) rfl;have I1:=hfr (.tmp 11) rfl;have F1:=h3.fr.call hG;have co:=F1.c9 1 rfl;have cx:=F1.c3 0 rfl;clear F1)
          exact yj;exact yI;exact yj;exact yI;exact yj;exact yI;exact yj;exact yI
          ·obtain⟨d0,-⟩:=hd;have d0:ρ (.tmp 89)=_:=d0;refine zU (by go_simp;exact⟨⟨rfl,rfl⟩,rfl⟩) ?_;refine(yV q.a q.n q.c x.waits _ a0.out.symm (by have h1:=HZ.o.qba k;rw[<-HX.o,<-a0.out] at h1;omega) ((h3.fr.call hG).rd Q0.o)).mono ?_;rintro e w2 ⟨a1,c1,rfl,ho,hb⟩;exact⟨_,rfl,hb,⟨a1,c1,rfl,zw ho hG.size⟩,yn,hG.trans (hb.mono hG.size)⟩
          ·obtain⟨d0,d1,d2,-⟩:=hd;have d0:ρ (.tmp 85)=_:=d0;have d1:ρ (.tmp 87)=_:=d1;have d2:∃(az:uQ) (cz:Nat),(ρ (.tmp 90))= .slice az q.n cz/\w1.ownsRow u2.heap.size 3 1 (.slice az q.n cz) q.n (zf x.waits):=d2;obtain⟨b0,c0,d2,ho⟩:=d2;exact Zh hG (by go_simp) ⟨b0,c0,rfl,ho⟩ yn
          ·obtain⟨d0,-⟩:=hd;have d0:∃(az:uQ) (cz:Nat),(ρ (.tmp 91))= .agg #[uy x.parties,uy x.round,.slice az q.n cz]/\w1.ownsRow u2.heap.size 3 1 (.slice az q.n cz) q.n (zf x.waits):=d0;obtain⟨b0,c0,d0,ho⟩:=d0;have hb:xW w1 (w1.alloc (.cells #[uy x.parties,uy x.round,.slice b0 q.n c0] 93)):=zY;refine zh (u:= .slice (some ⟨w1.heap.size,0,none⟩) 1 1) (w':=w1.alloc (.cells #[uy x.parties,uy x.round,.slice b0 q.n c0] 93)) (by go_simp) ⟨hb,⟨_,b0,c0,rfl,zm.new _ _ _,zl ho hb⟩,yn,hG.alloc hG.size _⟩
         intro w2 hG;refine yv ?_;intro y0 x0 y1 P0 v0 q0;obtain⟨gz,az,cz,rfl,kL,ho⟩:=q0;have I3:=(I2.row hG ho).perm (G4 _ _ _ (DR M x ⟨az,q.n,cz⟩));have hq:Qj (zO (.blk wr.heap.size #[uy x.parties,uy x.round,.slice q.a q.n q.c] 93::vp w G V v)++V.blks) w2 x ⟨az,q.n,cz⟩:=by
          have h9:=h3.apart (yy.of_owns ho yk);show yc _ _ _ _ x.waits.length;rw[<-a0.out];exact h9
         have m0:=HN.ba1 (x:=x) (q:=⟨az,q.n,cz⟩) (jT.lower (yy.of_owns ho yk).new h3.bel.size);have h4:=h3.call hG;have HQ:=zd hq;clear hq hG h3 P0;go_wp2_with (at_builtin;refine h4.appg_ba rfl _ _ rfl rfl rfl (Rd.of_blk kL) HQ.o (jQ n0.out) ?_;intro r W5 h5 o0;have I6:=zd (QM (VJ I3 h4.st.ba ⟨jk,jk,jk⟩ o0) (h5.fr.blk 1 rfl) ⟨jk,jk,jk⟩ (h5.fr.inside G (by simp[zO,It.foot,vp])).1 ((zo.refl _ _).set (j:=5) (v:=r.val) yl));have co:=h5.c9 1 rfl;have h6:=(h5.set 1 rfl 5 r.val).sub (l':=vp w G {V with ba:=r} v) (.cons _ (.refl _)))
         go_roundw
         case rel=>exact⟨k+1,{V with ba:=r},_,jq,by go_num,by
          have e:xU s v.se.n v.on.n v.gr.n (k+1) 0={xU s v.se.n v.on.n v.gr.n k 0 with bars:=s.bars.take k++[x]}:=by unfold xU;rw[HP.o]
          rw[e];exact h6,m0,I6⟩
         case measure=>exact uq
        ·obtain rfl:k=v.ba.n:=jq;clear p0 hk;have cs:=h.c9 2 rfl;go_wp2;clear cs
         go_loopw [99] (λi wr=>∃(k:Nat) (V:zu) (M:zQ),k<=v.ch.n/\i=uy k/\Sf w wr (vp w G V v) V M (xU s v.se.n v.on.n v.gr.n v.ba.n k)/\yz w.heap.size M/\uH (Fr w wr (xI V s M))) (λi _=>v.ch.n-(intOf i).toNat)
         case atStart=>exact⟨0,V,_,jq,rfl,h,HN,HI⟩
         case round=>
          clear h HN HI;obtain⟨k,V,M,hk,rfl,h,HN,HI⟩:=hrel;by_cases p0:k<v.ch.n
          ·have f0:k<s.chans.length:=by have:=U0.o;omega
           obtain⟨x,q,b1,o1,HX,ea,g0,g1,g2,g3,g4,Q0,a0,B0,Q1,K0,G1,Q2,L0,H1⟩:=HS.o.at_ch (j:=k) f0;replace g0:=ze h.bel g0;replace g1:=ze h.bel g1;replace g2:=ze h.bel g2;replace g3:=ze h.bel g3;replace g4:=ze h.bel g4;have i0:V.ch.n=k:=by rw[h.st.nch];show(s.chans.take k).length=k;rw[jO];omega
           have HP:uH (s.chans.take (k+1)=s.chans.take k++[x]):=zd (by rw[HX.o];exact(xQ _ _ f0).symm);have h2:=h.alloc #[uy x.room,.slice q.1.a q.1.n q.1.c,.slice q.2.1.a q.2.1.n q.2.1.c,.slice q.2.2.a q.2.2.n q.2.2.c,.bool x.closed] 98;have I2:=HI.o.call (xd.alloc yk (.cells #[uy x.room,.slice q.1.a q.1.n q.1.c,.slice q.2.1.a q.2.1.n q.2.1.c,.slice q.2.2.a q.2.2.n q.2.2.c,.bool x.closed] 98));have cx:=h2.c5 0 rfl;have n0:=zd i0;clear f0 i0;go_upto_region 25 with fail;obtain⟨u2,hu,h3⟩:=h2.named;rw[<-hu] at I2⊢;clear hu h2 h cx ea g0 g1 g2 g3 g4
           apply xZ 5 [.k _,.k _,.k _,.r λdz uz wz=>∃(bi bs bg:uQ) (di ds dg:Nat),uz= .agg #[uy x.room,.slice bi q.1.n di,.slice bs q.2.1.n ds,.slice bg q.2.2.n dg,.bool x.closed]/\Fr u2 wz [Xl ⟨bg,q.2.2.n,dg⟩ x.getters,dR ⟨bs,q.2.1.n,ds⟩ x.senders,Xl ⟨bi,q.1.n,di⟩ x.items],.r λdz uz wz=>∃(gz:Nat) (bi bs bg:uQ) (di ds dg:Nat),uz= .slice (some ⟨gz,0,none⟩) 1 1/\zm wz gz #[uy x.room,.slice bi q.1.n di,.slice bs q.2.1.n ds,.slice bg q.2.2.n dg,.bool x.closed] 98/\Fr u2 wz [Xl ⟨bg,q.2.2.n,dg⟩ x.getters,dR ⟨bs,q.2.1.n,ds⟩ x.senders,Xl ⟨bi,q.1.n,di⟩ x.items]] ⟨λ_ _ _ _ hb ⟨a,b,c,d1,d2,d3,e,h1⟩=>⟨a,b,c,d1,d2,d3,e,h1.call hb⟩,λ_ _ _ _ hb ⟨g,a,b,c,d1,d2,d3,e,h,h1⟩=>⟨g,a,b,c,d1,d2,d3,e,h.below hb,h1.call hb⟩,trivial⟩ ?s5 ?e5
           case s5=>
            repeat' apply And.intro
            all_goals first|trivial|(intro ρ w1 hG hfr hd;obtain⟨fc,ff⟩:=xu hfr;have f3:=hfr (.tmp 3) rfl;have J1:=hfr (.tmp 13) rfl;have F1:=h3.fr.call hG;have co:=F1.c9 1 rfl;have cx:=F1.c5 0 rfl;clear F1)
            exact yj;exact yI;exact yj
            ·obtain⟨d0,-⟩:=hd;have d0:ρ (.tmp 105)=_:=d0;refine zU (by go_simp;exact⟨⟨rfl,rfl⟩,rfl⟩) ?_;refine(jN x q.1.a q.2.1.a q.2.2.a q.1.n q.1.c q.2.1.n q.2.1.c q.2.2.n q.2.2.c _ a0.out.symm K0.o.symm L0.o.symm (by rw[a0.out,HX.o];exact(HZ.o.qch k).1) (by rw[K0.o,HX.o];exact(HZ.o.qch k).2.1) (by rw[L0.o,HX.o];exact(HZ.o.qch k).2.2) ((h3.fr.call hG).rd Q0.o) ((h3.fr.call hG).rd Q1.o) ((h3.fr.call hG).rd Q2.o)).mono ?_;rintro e w2 ⟨bi,bs,bg,di,ds,dg,rfl,F'⟩;exact⟨_,rfl,F'.bel,⟨bi,bs,bg,di,ds,dg,rfl,Fr.early hG F'⟩,yn,hG.trans (F'.bel.mono hG.size)⟩
            ·obtain⟨d0,-⟩:=hd;have d0:∃(bi bs bg:uQ) (di ds dg:Nat),(ρ (.tmp 106))= .agg #[uy x.room,.slice bi q.1.n di,.slice bs q.2.1.n ds,.slice bg q.2.2.n dg,.bool x.closed]/\Fr u2 w1 [Xl ⟨bg,q.2.2.n,dg⟩ x.getters,dR ⟨bs,q.2.1.n,ds⟩ x.senders,Xl ⟨bi,q.1.n,di⟩ x.items]:=d0;obtain⟨bi,bs,bg,di,ds,dg,d0,F3⟩:=d0;have hb:xW w1 (w1.alloc (.cells #[uy x.room,.slice bi q.1.n di,.slice bs q.2.1.n ds,.slice bg q.2.2.n dg,.bool x.closed] 98)):=zY;refine zh (u:= .slice (some ⟨w1.heap.size,0,none⟩) 1 1) (w':=w1.alloc (.cells #[uy x.room,.slice bi q.1.n di,.slice bs q.2.1.n ds,.slice bg q.2.2.n dg,.bool x.closed] 98)) (by go_simp) ⟨hb,⟨_,bi,bs,bg,di,ds,dg,rfl,zm.new _ _ _,F3.call hb⟩,yn,hG.alloc hG.size _⟩
           intro w2 hG;refine yv ?_;intro H0 t0 I0 u0;obtain⟨gz,bi,bs,bg,di,ds,dg,rfl,kL,F3⟩:=u0;have I3:=(I2.join F3).perm (pw _ _ _ (DV M x (⟨bi,q.1.n,di⟩,⟨bs,q.2.1.n,ds⟩,⟨bg,q.2.2.n,dg⟩)));have o1:=F3.own 2 rfl;have o2:=F3.own 1 rfl;have o3:=F3.own 0 rfl;have hq:Xp (zO (.blk wr.heap.size #[uy x.room,.slice q.1.a q.1.n q.1.c,.slice q.2.1.a q.2.1.n q.2.1.c,.slice q.2.2.a q.2.2.n q.2.2.c,.bool x.closed] 98::vp w G V v)++V.blks) w2 x (⟨bi,q.1.n,di⟩,⟨bs,q.2.1.n,ds⟩,⟨bg,q.2.2.n,dg⟩):=⟨by rw[<-a0.out];exact h3.apart (yy.of_owns o1 yk),by rw[<-K0.o];exact h3.apart (yy.of_owns o2 yk),by rw[<-L0.o];exact h3.apart (yy.of_owns o3 yk)⟩
           have m0:=HN.ch1 (x:=x) (q:=(⟨bi,q.1.n,di⟩,⟨bs,q.2.1.n,ds⟩,⟨bg,q.2.2.n,dg⟩)) ⟨jT.lower (yy.of_owns o1 yk).new h3.bel.size,jT.lower (yy.of_owns o2 yk).new h3.bel.size,jT.lower (yy.of_owns o3 yk).new h3.bel.size⟩;have h4:=h3.call hG;have HQ:=zd hq;clear hq hG h3 t0;go_wp2_with (at_builtin;refine h4.appg_ch rfl _ _ rfl rfl rfl (Rd.of_blk kL) HQ.o (jQ n0.out) ?_;intro r W5 h5 o0;have I6:=zd (QM (VJ I3 h4.st.ch ⟨jk,jk,jk⟩ o0) (h5.fr.blk 1 rfl) ⟨jk,jk,jk⟩ (h5.fr.inside G (by simp[zO,It.foot,vp])).1 ((zo.refl _ _).set (j:=6) (v:=r.val) yl));have co:=h5.c9 1 rfl;have h6:=(h5.set 1 rfl 6 r.val).sub (l':=vp w G {V with ch:=r} v) (.cons _ (.refl _)))
           go_roundw
           case rel=>exact⟨k+1,{V with ch:=r},_,jq,by go_num,by
            have e:xU s v.se.n v.on.n v.gr.n v.ba.n (k+1)={xU s v.se.n v.on.n v.gr.n v.ba.n k with chans:=s.chans.take k++[x]}:=by unfold xU;rw[HP.o]
            rw[e];exact h6,m0,I6⟩
           case measure=>exact uq
          ·obtain rfl:k=v.ch.n:=jq;clear p0 hk;have cs:=h.c9 2 rfl;have co:=h.c9 0 rfl;have cr:=h.c9 1 rfl;have hp:xU s v.se.n v.on.n v.gr.n v.ba.n v.ch.n=s:=by rw[i1.out,X0.o,V0.o,T0.o,U0.o];exact kt s
           rw[hp] at h;have I7:=zd (QM HI.o (h.fr.blk 1 rfl) ⟨jk,jk,jk⟩ (h.fr.inside (w.heap.size+1) (by simp[zO,It.foot,vp])).1 ((((((((((zo.refl _ _).set (j:=0) (v:= .slice V.pl.a V.pl.n V.pl.c) yl).set (j:=1) (v:= .slice V.st.a V.st.n V.st.c) yl).set (j:=2) (v:= .slice V.se.a V.se.n V.se.c) yl).set (j:=3) (v:= .slice V.on.a V.on.n V.on.c) yl).set (j:=4) (v:= .slice V.gr.a V.gr.n V.gr.c) yl).set (j:=5) (v:= .slice V.ba.a V.ba.n V.ba.c) yl).set (j:=6) (v:= .slice V.ch.a V.ch.n V.ch.c) yl).set (j:=7) (v:= .slice V.sa.a V.sa.n V.sa.c) yl).set (j:=8) (v:=uy V.fl) yl));have h7:=h.setV 1 rfl V;go_wp2;exact zM (v:=V.val) (by simp[results,Tryz.results51,go_sem,h7.c9 1 rfl]) rfl ⟨V,M,rfl,h7.st.sub jv,HN,I7.o⟩
theorem Xf (v:zu) (L:zQ) (s:zp) (w:World) (hr:yZ w v L s) (hz:GE s):
  Calls Tryz.prog 51 #[v.val] w λe w'=>∃(v':zu) (L':zQ),e= .returned v'.val/\yr [] w.heap.size w' v' L' s/\yz w.heap.size L'/\xW w w':=
 (JL v L s w hr hz).mono λ_ _ ⟨v',L',e,h,hn,F⟩=>⟨v',L',e,h,hn,F.bel⟩
abbrev vL (x:Int×Int×Int):uZ:=[uy x.1,uy x.2.1,uy x.2.2]
theorem Dj:(Tryz.prog.info? 133).map (λi=>(i.zero,i.size,i.bytes))=some (some (.agg #[uy 0,uy 0,uy 0]),3,24):=by kernel_rfl
theorem Gy (w:World):(zeroValue 131).run Tryz.prog w= .ok uk w:=by kernel_rfl
theorem KB (w:World):(zeroValue 23).run Tryz.prog w= .ok uk w:=by kernel_rfl
theorem Yb (t k on a0:Int) (C B:Nat) (es:List xq) (W:World) (hc:W.cell? ⟨C,0,none⟩=some (.map (some B))) (hm:jE vL W B es) (ht:t∉es.map (·.1)):
  Calls Tryz.prog 124 (#[uy t,uy k,uy on,uy a0]++ #[.pointer (some ⟨C,0,none⟩)]) W λe W'=>e= .returned (.tuple #[])/\jE vL W' B (es++[(t,k,on,a0)])/\W.grownBy W' (some B):=by
 obtain⟨Z,z1,z2,z3⟩:=hm;have HT:=zd ht;have HL:uH (∀w1,xW W w1->(Instr.lookup 127 (.map (some B)) (uy t) false).run Tryz.prog w1= .ok uk w1):=zd (λw1 hb=>by
  have h:=uC (P:=Tryz.prog) Tryz.underlying127 Tryz.underlying3 Gy (z2.below hb) t;rw[jE.absent z1 HT.o] at h;exact h)
 clear ht;go_enter Tryz.func124,Tryz.ntmps124;go_wp2_with fail;apply xZ 11 [.k _,.k _,.k _,.k _,.k uk,.k _,.k _,.k _,.k _,.r λdz uz wz=>∃gz:Nat,uz= .slice (some ⟨gz,0,none⟩) 1 1/\zm wz gz #[uy k,uy on,uy a0] 133,.r λdz uz wz=>∃(az:uQ) (cz:Nat),uz= .slice az 1 cz/\wz.ownsRow W.heap.size 133 3 (.slice az 1 cz) 1 (vL (k,on,a0))] ⟨λ_ _ _ _ hb ⟨g,e,h⟩=>⟨g,e,h.below hb⟩,λ_ _ _ _ hb ⟨a,c,e,h⟩=>⟨a,c,e,zl h hb⟩,trivial⟩ ?s1 ?e1
 case s1=>
  repeat' apply And.intro
  all_goals first|trivial|(intro ρ w1 hG hfr hd;obtain⟨fc,ff⟩:=xu hfr;have f4:=hfr (.tmp 4) rfl;have f0:=hfr (.tmp 0) rfl;have f1:=hfr (.tmp 1) rfl;have f2:=hfr (.tmp 2) rfl;have f3:=hfr (.tmp 3) rfl;have cc:=ze hG hc)
  exact yj;exact yj;exact yj;exact yj
  ·obtain⟨d0,d1,-⟩:=hd;have d0:ρ (.tmp 11)=_:=d0;have d1:ρ (.tmp 12)=_:=d1;have m0:=HL.o w1 hG;exact Zh hG (by go_simp) rfl yn
  exact yj;exact yj;exact yj;exact PB
  ·obtain⟨d0,-⟩:=hd;have d0:ρ (.tmp 17)=_:=d0;refine zh (u:= .slice (some ⟨w1.heap.size,0,none⟩) 1 1) (w':=w1.alloc (.cells #[uy k,uy on,uy a0] 133)) (by go_simp) ⟨zY,⟨_,rfl,zm.new _ _ _⟩,yn,hG.alloc hG.size _⟩
  ·obtain⟨d0,d1,-⟩:=hd;have d0:ρ (.tmp 13)=_:=d0;have d1:∃gz:Nat,(ρ (.tmp 18))= .slice (some ⟨gz,0,none⟩) 1 1/\zm w1 gz #[uy k,uy on,uy a0] 133:=d1;obtain⟨gz,d1,i0⟩:=d1;refine jr (m:=1) (news:=vL (k,on,a0)) _ _ 131 rfl Tryz.underlying131 Dj rfl jk d0 (jf _ _ _ _) d1 rfl (Rd.of_blk i0) (by intro u hu;simp only[vL,List.mem_cons,jw,or_false] at hu;rcases hu with rfl|rfl|rfl<;>rfl) jq jk hG.size ?_;intro a' c' w2 b0 hb hf h0;exact⟨hb,⟨a',c',rfl,b0⟩,yn,hG.trans (hb.mono hG.size)⟩
 intro w2 hG;refine yv ?_;intro o0 k0 l0 c0;obtain⟨az,cz,rfl,ho⟩:=c0;clear k0;have y2:=z2.below hG;have y3:∀z∈Z,Rd w2 z.2.1 (vL z.1.2)/\1<=z.2.2:=λz hz=>⟨(z3 z hz).1.below hG,(z3 z hz).2⟩
 clear z2 z3;go_wp2_with (at_mapUpdate;refine ZV rfl _ _ _ rfl Tryz.underlying127 Tryz.underlying3 rfl y2 rfl rfl ?_;intro w5 j0 g0 n0);exact bodyPost_end (v:= .tuple #[]) (by simp[results,Tryz.results124,go_sem]) rfl ⟨rfl,jE.put z1 y2 y3 HT.o (Rd.of_owns ho) (yB ho).1 (λ_=>by simp[vL]) g0 j0,zi (Uq hG) g0⟩
theorem uP (f:Nat->List α):∀{n k:Nat},k<n->(zt f k++f k)<+:zt f n
 |0,k,h=>jq
 |n+1,k,h=>by
  rcases Nat.lt_or_ge k n with h1|h1
  ·exact(uP f h1).trans (List.prefix_append _ _)
  ·obtain rfl:k=n:=jq;exact List.prefix_refl _
theorem ZW {l es:List (Int×α)} {e:Int×α} (h:(l.map (·.1)).Nodup) (hp:es++[e]<+:l):e.1∉es.map (·.1):=by
 obtain⟨r,rfl⟩:=hp;intro hm;rw[vQ,vQ,qh,List.nodup_append] at h;exact h.2.2 e.1 hm e.1 jv rfl
abbrev uL (x:Int):uZ:=[uy x]
abbrev Pa (w:World) (v:zu):List It:=[.blk (w.heap.size+2) #[.map (some (w.heap.size+1))] 127,.blk w.heap.size (yN v) 38]
structure WF (w W:World) (v:zu) (l:List It) (es:List xq) (os:List (Int×Int)):Prop where
 fr:Fr w W (l++Pa w v)
 wm:jE vL W (w.heap.size+1) es
 om:jE uL W (w.heap.size+3) os
theorem WF.call {es:List xq} {os:List (Int×Int)} (h:WF w W v l es os) (hb:xW W W'):WF w W' v l es os:=⟨h.fr.call hb,h.wm.below hb,h.om.below hb⟩
theorem WF.alloc {es:List xq} {os:List (Int×Int)} (h:WF w W v l es os) (cs:Array Value) (T:TypeId):WF w (W.alloc (.cells cs T)) v (.blk W.heap.size cs T::l) es os:=
 ⟨h.fr.alloc cs T,h.wm.below (zY),h.om.below (zY)⟩
theorem WF.tail {i:It} {es:List xq} {os:List (Int×Int)} (h:WF w W v (i::l) es os):WF w W v l es os:=⟨h.fr.sub (.cons _ (.refl _)),h.wm,h.om⟩
theorem WF.mapIn {es:List xq} {os:List (Int×Int)} (h:WF w W v l es os) (B:Nat) (hB:B=w.heap.size+1\/B=w.heap.size+3):w.heap.size<=B/\B∉zO (l++Pa w v):=by
 refine⟨jq,λhm=> ?_⟩;obtain⟨i,hi,hq⟩:=List.mem_flatMap.1 hm;have hh:=h.fr.has i hi;have a0:∃L,qe W B L:=by
  rcases hB with rfl|rfl
  ·obtain⟨Z,_,h2,_⟩:=h.wm;exact⟨_,h2⟩
  ·obtain⟨Z,_,h2,_⟩:=h.om;exact⟨_,h2⟩
 obtain⟨L,f0,b0,hb,_⟩:=a0
 cases i with
 |blk b cs T=>
  obtain rfl:=yh hq;have h9:=hh.2;unfold zm at h9;rw[h9] at hb
  cases hb
 |row a n c E sz cs=>
  have c0:zj a=some B:=by simpa[It.foot] using hq
  obtain⟨d0,fr,h9⟩:=Yi hh B c0;rw[h9] at hb
  cases hb
theorem WF.add {es a0:List xq} {os:List (Int×Int)} (h:WF w W v l es os) (hw:jE vL W' (w.heap.size+1) a0) (hg:W.grownBy W' (some (w.heap.size+1))):WF w W' v l a0 os:=by
 obtain⟨Z,_,h2,_⟩:=h.wm;exact⟨h.fr.other (zo.of_grown (S:=[w.heap.size+1]) hg λk hk=>by cases hk;simp) (λk hk=>by obtain rfl:=yh hk;exact h.mapIn _ (.inl rfl)),hw,h.om.grown hg jq (λ_=>jv) h2⟩
theorem WF.own {es:List xq} {os a0:List (Int×Int)} (h:WF w W v l es os) (hw:jE uL W' (w.heap.size+3) a0) (hg:W.grownBy W' (some (w.heap.size+3))):WF w W' v l es a0:=by
 obtain⟨Z,_,h2,_⟩:=h.om;exact⟨h.fr.other (zo.of_grown (S:=[w.heap.size+3]) hg λk hk=>by cases hk;simp) (λk hk=>by obtain rfl:=yh hk;exact h.mapIn _ (.inr rfl)),h.wm.grown hg jq (λ_=>jv) h2,hw⟩
theorem V3 (v:zu) (L:zQ) (s:zp) (w:World) (hr:yZ w v L s) (hz:GE s) (J0:(eT s).Nodup) (K0:(oT s).Nodup):
  Calls Tryz.prog 91 #[v.val] w λe w'=>e= .returned (.tuple #[.map (some (w.heap.size+1)),.map (some (w.heap.size+3))])/\jE vL w' (w.heap.size+1) (yD s)/\jE uL w' (w.heap.size+3) (jg s)/\xW w w':=by
 have HS:=zd hr;have HZ:=zd hz;have v0:=zd J0;have M0:=zd K0;have nse:v.se.n<=1048576:=by rw[hr.se.len];exact hz.se
 have non:v.on.n<=1048576:=by rw[hr.on.len];exact hz.on
 have ngr:v.gr.n<=1048576:=by rw[hr.gr.len];exact hz.gr
 have nba:v.ba.n<=1048576:=by rw[hr.ba.len];exact hz.ba
 have nch:v.ch.n<=1048576:=by rw[hr.ch.len];exact hz.ch
 have a1:= @run_makeMap Tryz.prog;have Z0:∀(fn:Fn) (first cap:Array Value) (w:World),(Instr.makeFunc fn first cap).run Tryz.prog w= .ok (.func fn first cap) w:=λ_ _ _ _=>rfl;have EG:uH (∀args w,(callFunc 124 args).run Tryz.prog w= .ok (.enter 124 args) w):=zd (enters_of Tryz.func124 (by kernel_rfl) rfl);have eg:=EG.o;have F:=(Fr.start w).alloc (yN v) 38;have b1:Below (w.alloc (.cells (yN v) 38)).heap.size (w.alloc (.cells (yN v) 38)) ((w.alloc (.cells (yN v) 38)).alloc (.map #[] 0)):=zY;have H0:=jE.made (f:=vL) (w.alloc (.cells (yN v) 38));have F1:=(F.call b1).alloc #[.map (some (w.heap.size+1))] 127;have I0:=H0.below (xd.alloc yk (.cells #[.map (some (w.heap.size+1))] 127));have b2:=((Below.refl _ (((w.alloc (.cells (yN v) 38)).alloc (.map #[] 0)).alloc (.cells #[.map (some (w.heap.size+1))] 127))).alloc yk (.map #[] 0))
 have F2:=F1.call b2;have E0:=I0.below b2;have F0:=jE.made (f:=uL) (((w.alloc (.cells (yN v) 38)).alloc (.map #[] 0)).alloc (.cells #[.map (some (w.heap.size+1))] 127));simp only[yY] at F2 E0 F0;have h0:WF w _ v [] [] []:=⟨F2,E0,F0⟩
 clear hr hz J0 K0 F b1 H0 F1 I0 b2 F2 E0 F0;go_enter Tryz.func91,Tryz.ntmps91;go_upto_region 4 with fail;obtain⟨w1,hw,h⟩:∃x,x=_/\WF w x v [] [] []:=⟨_,rfl,h0⟩
 rw[<-hw];clear hw h0;have cs:=h.fr.c9 1 rfl;go_wp2;clear cs
 go_loopw [35] (λi wr=>∃k:Nat,k<=v.se.n/\i=uy k/\WF w wr v [] (([]:List xq)++zt (λi=>yL (s.sems.getD i yi) i) k) ([])) (λi _=>v.se.n-(intOf i).toNat)
 case atStart=>exact⟨0,jq,rfl,by simpa[zt] using h⟩
 case round=>
  clear h;obtain⟨k,hk,rfl,h⟩:=hrel;obtain⟨wo,rfl⟩:=jy wr;by_cases u0:k<v.se.n
  ·have i0:k<s.sems.length:=by have:=HS.o.se.len;omega
   obtain⟨x,q,b1,o1,HX,ea,g0,g1,g2,Q0,n0,A0⟩:=HS.o.at_se (j:=k) i0;replace g0:=ze h.fr.bel g0;replace g1:=ze h.fr.bel g1;replace g2:=ze h.fr.bel g2;have r0:uH (zt (λi=>yL (s.sems.getD i yi) i) k++yL x k<+:zt (λi=>yL (s.sems.getD i yi) i) s.sems.length):=zd (by have h9:=uP (λi=>yL (s.sems.getD i yi) i) i0;rw[<-HX.o] at h9;exact h9);have s0:uH (zt (λi=>yL (s.sems.getD i yi) i) (k+1)=zt (λi=>yL (s.sems.getD i yi) i) k++yL x k):=zd (by rw[HX.o];rfl);have h2:=h.alloc #[uy x.free,uy x.limit,.slice q.a q.n q.c] 74;have cx:=h2.fr.c3 0 rfl;have y0:=zd i0;clear i0 h;have B0:q.n<=1048576:=by rw[n0.out,HX.o];exact HZ.o.qse k
   go_upto_region 7 with fail;clear ea;go_wp2;clear cx g0 g1 g2
   go_loopw [43] (λi q0=>∃j:Nat,j<=q.n/\i=uy j/\WF w q0 v [.blk wo.heap.size #[uy x.free,uy x.limit,.slice q.a q.n q.c] 74] (([]:List xq)++zt (λi=>yL (s.sems.getD i yi) i) k++((x.queue).map (λw=>(w.1,(2:Int),(k:Int),w.2))).take j) ([])) (λi _=>q.n-(intOf i).toNat)
   case atStart=>exact⟨0,jq,rfl,by simpa using h2⟩
   case round=>
    clear h2;obtain⟨j,hj,rfl,h2⟩:=hrel;by_cases l0:j<q.n
    ·have c0:j<(x.queue).length:=by rw[<-n0.out];exact l0
     obtain⟨b,o,eb,g'⟩:=((h2.fr.rd Q0.o)).pair jq;obtain⟨g1,g2⟩:=g' j c0;obtain⟨y,et⟩:=jy ((x.queue).getD j (0,0));rw[<-et] at g1 g2;have j0:((x.queue).map (λw=>(w.1,(2:Int),(k:Int),w.2))).take j++[(y.1,(2:Int),(k:Int),y.2)]=((x.queue).map (λw=>(w.1,(2:Int),(k:Int),w.2))).take (j+1):=by
      have h9:=xQ ((x.queue).map (λw=>(w.1,(2:Int),(k:Int),w.2))) ((λw=>(w.1,(2:Int),(k:Int),w.2)) (0,0)) (j:=j) (by rw[yG];exact c0);rwa [xm,List.getElem?_map,xV c0,Option.map_some,Option.getD_some,show(x.queue)[j]=y by rw[et,xm,xV c0];rfl] at h9
     have f0:(([]:List xq)++zt (λi=>yL (s.sems.getD i yi) i) k++((x.queue).map (λw=>(w.1,(2:Int),(k:Int),w.2))).take j)++[(y.1,(2:Int),(k:Int),y.2)]<+:yD s:=by
      rw[qh,j0];have e1:(((x.queue).map (λw=>(w.1,(2:Int),(k:Int),w.2))).take (j+1))<+:yL x k:=by
       exact List.take_prefix _ _
      have e2:zt (λi=>yL (s.sems.getD i yi) i) k++((x.queue).map (λw=>(w.1,(2:Int),(k:Int),w.2))).take (j+1)<+:zt (λi=>yL (s.sems.getD i yi) i) s.sems.length:=by
       exact((List.prefix_append_right_inj _).2 e1).trans r0.out
      simp only[qZ];exact e2.trans (List.prefix_append _ _)
     have b0:=ZW v0.out f0;have p0:=zd j0;have o0:=zd b0;clear g' et c0 j0 f0 b0;have h3:=h2.alloc #[uy y.1,uy y.2] 151;have cy:=h3.fr.c2 0 rfl;go_upto_region 10 with fail;clear eb g1 g2;have a0:=h3.fr.cell 2 0 rfl rfl;go_wp2_with fail;refine(Yb y.1 2 k y.2 (w.heap.size+2) (w.heap.size+1) _ _ a0 h3.wm o0.out).mono ?_;rintro e w6 ⟨rfl,m0,k0⟩;have h4:=h3.add m0 k0;rw[qh,p0.out] at h4;clear h3 h2 a0 m0 k0;go_wp2
     go_roundw
     case rel=>exact⟨j+1,jq,by go_num,h4.tail⟩
     case measure=>exact uq
    ·obtain rfl:j=q.n:=jq;clear l0 hj;rw[Jh (by rw[yG];have:=n0.out;omega)] at h2;have e1:([]:List xq)++zt (λi=>yL (s.sems.getD i yi) i) (k+1)=([]:List xq)++zt (λi=>yL (s.sems.getD i yi) i) k++(x.queue).map (λw=>(w.1,(2:Int),(k:Int),w.2)):=by
      rw[s0.out];simp only[yL,qh]
     rw[<-e1] at h2;clear e1;have h4:=h2.tail;clear h2;go_wp2
     go_roundw
     case rel=>exact⟨k+1,jq,by go_num,h4⟩
     case measure=>exact uq
  ·obtain rfl:k=v.se.n:=jq;clear u0 hk;rw[HS.o.se.len] at h;have cs:=h.fr.c9 1 rfl;go_wp2;clear cs
   go_loopw [59] (λi wr=>∃k:Nat,k<=v.on.n/\i=uy k/\WF w wr v [] (([]:List xq)++zt (λi=>yL (s.sems.getD i yi) i) s.sems.length++zt (λi=>yx (s.onces.getD i zH) i) k) (zt (λi=>xP (s.onces.getD i zH) i) k)) (λi _=>v.on.n-(intOf i).toNat)
   case atStart=>exact⟨0,jq,rfl,by simpa[zt] using h⟩
   case round=>
    clear h;obtain⟨k,hk,rfl,h⟩:=hrel;obtain⟨wo,rfl⟩:=jy wr;by_cases u0:k<v.on.n
    ·have i0:k<s.onces.length:=by have:=HS.o.on.len;omega
     obtain⟨x,q,b1,o1,HX,ea,g0,g1,g2,g3,Q0,n0,A0⟩:=HS.o.at_on (j:=k) i0;replace g0:=ze h.fr.bel g0;replace g1:=ze h.fr.bel g1;replace g2:=ze h.fr.bel g2;replace g3:=ze h.fr.bel g3;have r0:uH (zt (λi=>yx (s.onces.getD i zH) i) k++yx x k<+:zt (λi=>yx (s.onces.getD i zH) i) s.onces.length):=zd (by have h9:=uP (λi=>yx (s.onces.getD i zH) i) i0;rw[<-HX.o] at h9;exact h9);have s0:uH (zt (λi=>yx (s.onces.getD i zH) i) (k+1)=zt (λi=>yx (s.onces.getD i zH) i) k++yx x k):=zd (by rw[HX.o];rfl);have h2:=h.alloc #[uy x.state,uy x.owner,uy x.value,.slice q.a q.n q.c] 81;have cx:=h2.fr.c4 0 rfl;have y0:=zd i0;clear i0 h;have B0:q.n<=1048576:=by rw[n0.out,HX.o];exact HZ.o.qon k
     go_upto_region 16 with fail;clear ea;go_wp2;clear cx g0 g1 g2 g3
     go_loopw [67] (λi q0=>∃j:Nat,j<=q.n/\i=uy j/\WF w q0 v [.blk wo.heap.size #[uy x.state,uy x.owner,uy x.value,.slice q.a q.n q.c] 81] (([]:List xq)++zt (λi=>yL (s.sems.getD i yi) i) s.sems.length++zt (λi=>yx (s.onces.getD i zH) i) k++((x.waits).map (λt=>(t,(4:Int),(k:Int),(0:Int)))).take j) (zt (λi=>xP (s.onces.getD i zH) i) k)) (λi _=>q.n-(intOf i).toNat)
     case atStart=>exact⟨0,jq,rfl,by simpa using h2⟩
     case round=>
      clear h2;obtain⟨j,hj,rfl,h2⟩:=hrel;by_cases l0:j<q.n
      ·have c0:j<(x.waits).length:=by rw[<-n0.out];exact l0
       obtain⟨b,o,eb,g'⟩:=((h2.fr.rd Q0.o)).int jq;have g1:=g' j c0;obtain⟨t,et⟩:=jy ((x.waits).getD j 0);rw[<-et] at g1;have j0:((x.waits).map (λt=>(t,(4:Int),(k:Int),(0:Int)))).take j++[(t,(4:Int),(k:Int),(0:Int))]=((x.waits).map (λt=>(t,(4:Int),(k:Int),(0:Int)))).take (j+1):=by
        have h9:=xQ ((x.waits).map (λt=>(t,(4:Int),(k:Int),(0:Int)))) ((λt=>(t,(4:Int),(k:Int),(0:Int))) 0) (j:=j) (by rw[yG];exact c0);rwa [xm,List.getElem?_map,xV c0,Option.map_some,Option.getD_some,show(x.waits)[j]=t by rw[et,xm,xV c0];rfl] at h9
       have f0:(([]:List xq)++zt (λi=>yL (s.sems.getD i yi) i) s.sems.length++zt (λi=>yx (s.onces.getD i zH) i) k++((x.waits).map (λt=>(t,(4:Int),(k:Int),(0:Int)))).take j)++[(t,(4:Int),(k:Int),(0:Int))]<+:yD s:=by
        rw[qh,j0];have e1:(((x.waits).map (λt=>(t,(4:Int),(k:Int),(0:Int)))).take (j+1))<+:yx x k:=by
         exact List.take_prefix _ _
        have e2:zt (λi=>yx (s.onces.getD i zH) i) k++((x.waits).map (λt=>(t,(4:Int),(k:Int),(0:Int)))).take (j+1)<+:zt (λi=>yx (s.onces.getD i zH) i) s.onces.length:=by
         exact((List.prefix_append_right_inj _).2 e1).trans r0.out
        have e3:=(List.prefix_append_right_inj (([]:List xq)++zt (λi=>yL (s.sems.getD i yi) i) s.sems.length)).2 e2;have e4:(([]:List xq)++zt (λi=>yL (s.sems.getD i yi) i) s.sems.length)++zt (λi=>yx (s.onces.getD i zH) i) s.onces.length<+:yD s:=by
         unfold yD;simp only[qZ];simp only[<-qh];exact((List.prefix_append _ _).trans (List.prefix_append _ _)).trans (List.prefix_append _ _)
        have e5:=e3.trans e4;simpa only[qh] using e5
       have b0:=ZW v0.out f0;have p0:=zd j0;have o0:=zd b0;clear g' et c0 j0 f0 b0;have h3:=h2;go_upto_region 19 with fail;clear eb g1;have a0:=h3.fr.cell 1 0 rfl rfl;go_wp2_with fail;refine(Yb t 4 k 0 (w.heap.size+2) (w.heap.size+1) _ _ a0 h3.wm o0.out).mono ?_;rintro e w6 ⟨rfl,m0,k0⟩;have h4:=h3.add m0 k0;rw[qh,p0.out] at h4;clear h3 h2 a0 m0 k0;go_wp2
       go_roundw
       case rel=>exact⟨j+1,jq,by go_num,h4⟩
       case measure=>exact uq
      ·obtain rfl:j=q.n:=jq;clear l0 hj;rw[Jh (by rw[yG];have:=n0.out;omega)] at h2;have e1:([]:List xq)++zt (λi=>yL (s.sems.getD i yi) i) s.sems.length++zt (λi=>yx (s.onces.getD i zH) i) (k+1)=([]:List xq)++zt (λi=>yL (s.sems.getD i yi) i) s.sems.length++zt (λi=>yx (s.onces.getD i zH) i) k++(x.waits).map (λt=>(t,(4:Int),(k:Int),(0:Int))):=by
        rw[s0.out];simp only[yx,qh]
       rw[<-e1] at h2;clear e1;have cx:=h2.fr.c4 0 rfl;have e2:zt (λi=>xP (s.onces.getD i zH) i) (k+1)=zt (λi=>xP (s.onces.getD i zH) i) k++xP x k:=by rw[HX.o];rfl
       by_cases x0:x.state=1
       ·have t0:(x.state==1)=true:=(by simpa using x0);have e3:xP x k=[(x.owner,(k:Int))]:=by unfold xP;rw[if_pos x0]
        have b0:x.owner∉(zt (λi=>xP (s.onces.getD i zH) i) k).map (·.1):=by
         have h9:=uP (λi=>xP (s.onces.getD i zH) i) y0.out;rw[<-HX.o,e3] at h9;exact ZW (e:=(x.owner,(k:Int))) M0.o h9
        rw[e3] at e2;have HT:=zd b0;have L0:=zd e2;obtain⟨Z,z1,z2,z3⟩:=h2.om;have HL:uH (∀w1,xW wr w1->(Instr.lookup 128 (.map (some (w.heap.size+3))) (uy x.owner) false).run Tryz.prog w1= .ok uk w1):=zd (λw1 hb=>by
         have h:=uC (P:=Tryz.prog) Tryz.underlying128 Tryz.underlying3 KB (z2.below hb) x.owner;rw[jE.absent z1 HT.o] at h;exact h)
        clear x0 b0 e2 e3;go_wp2_with fail;apply xZ 10 [.k _,.k _,.k _,.k _,.k _,.k _,.k uk,.k _,.r λdz uz wz=>∃gz:Nat,uz= .slice (some ⟨gz,0,none⟩) 1 1/\zm wz gz #[uy k] 3,.r λdz uz wz=>∃(az:uQ) (cz:Nat),uz= .slice az 1 cz/\wz.ownsRow wr.heap.size 3 1 (.slice az 1 cz) 1 (uL (k:Int))] ⟨λ_ _ _ _ hb ⟨g,e,h⟩=>⟨g,e,h.below hb⟩,λ_ _ _ _ hb ⟨a,c,e,h⟩=>⟨a,c,e,zl h hb⟩,trivial⟩ ?s2 ?e2
        case s2=>
         repeat' apply And.intro
         all_goals first|trivial|(intro ρ w1 hG hfr hd;obtain⟨fc,ff⟩:=xu hfr;have f5:=hfr (.tmp 5) rfl;have X0:=hfr (.tmp 12) rfl;have V0:=hfr (.tmp 11) rfl;have F1:=h2.fr.call hG;have cx:=F1.c4 0 rfl;clear F1)
         exact yj;exact yj;exact yI;exact yj;exact yj;exact yI
         ·obtain⟨d0,d1,-⟩:=hd;have d0:ρ (.tmp 82)=_:=d0;have d1:ρ (.tmp 84)=_:=d1;have Y0:=HL.o w1 hG;exact Zh hG (by go_simp) rfl yn
         exact yj
         ·obtain⟨d0,-⟩:=hd;have d0:ρ (.tmp 86)=_:=d0;refine zh (u:= .slice (some ⟨w1.heap.size,0,none⟩) 1 1) (w':=w1.alloc (.cells #[uy k] 3)) (by go_simp) ⟨zY,⟨_,rfl,zm.new _ _ _⟩,yn,hG.alloc hG.size _⟩
         ·obtain⟨d0,d1,-⟩:=hd;have d0:ρ (.tmp 85)=_:=d0;have d1:∃gz:Nat,(ρ (.tmp 87))= .slice (some ⟨gz,0,none⟩) 1 1/\zm w1 gz #[uy k] 3:=d1;obtain⟨gz,d1,N0⟩:=d1;refine jr (m:=1) (news:=uL (k:Int)) _ _ 23 rfl Tryz.underlying23 yb rfl jk d0 (jf _ _ _ _) d1 rfl (Rd.of_blk N0) (by intro u hu;simp only[uL,List.mem_cons,jw,or_false] at hu;subst hu;rfl) jq jk hG.size ?_;intro a' c' w2 z0 hb hf h0;exact⟨hb,⟨a',c',rfl,z0⟩,yn,hG.trans (hb.mono hG.size)⟩
        intro w2 hG;refine yv ?_;intro i1 P0 j1 R0;obtain⟨az,cz,rfl,ho⟩:=R0;clear P0;have y2:=z2.below hG;have y3:∀z∈Z,Rd w2 z.2.1 (uL z.1.2)/\1<=z.2.2:=λz hz=>⟨(z3 z hz).1.below hG,(z3 z hz).2⟩
        have h3:=h2.call hG;clear z2 z3 h2 cx hG;go_wp2_with (at_mapUpdate;refine ZV rfl _ _ _ rfl Tryz.underlying128 Tryz.underlying3 rfl y2 rfl rfl ?_;intro w5 O0 G0 f1;have S0:jE uL w5 (w.heap.size+3) (zt (λi=>xP (s.onces.getD i zH) i) k++[(x.owner,(k:Int))]):=jE.put z1 y2 y3 HT.o (Rd.of_owns ho) (yB ho).1 (λ_=>jv) G0 O0;have h4:=(h3.own S0 G0).tail;rw[<-L0.o] at h4)
        go_roundw
        case rel=>exact⟨k+1,jq,by go_num,h4⟩
        case measure=>exact uq
       ·have t0:(x.state==1)=false:=(by simpa using x0);have e3:xP x k=[]:=by unfold xP;rw[if_neg x0]
        rw[e3,List.append_nil] at e2;have h4:=h2.tail;rw[<-e2] at h4;clear h2 e2 e3 x0;go_wp2
        go_roundw
        case rel=>exact⟨k+1,jq,by go_num,h4⟩
        case measure=>exact uq
    ·obtain rfl:k=v.on.n:=jq;clear u0 hk;rw[HS.o.on.len] at h;have cs:=h.fr.c9 1 rfl;go_wp2;clear cs
     go_loopw [93] (λi wr=>∃k:Nat,k<=v.gr.n/\i=uy k/\WF w wr v [] (([]:List xq)++zt (λi=>yL (s.sems.getD i yi) i) s.sems.length++zt (λi=>yx (s.onces.getD i zH) i) s.onces.length++zt (λi=>xj (s.groups.getD i yH) i) k) (zt (λi=>xP (s.onces.getD i zH) i) s.onces.length)) (λi _=>v.gr.n-(intOf i).toNat)
     case atStart=>exact⟨0,jq,rfl,by simpa[zt] using h⟩
     case round=>
      clear h;obtain⟨k,hk,rfl,h⟩:=hrel;obtain⟨wo,rfl⟩:=jy wr;by_cases u0:k<v.gr.n
      ·have i0:k<s.groups.length:=by have:=HS.o.gr.len;omega
       obtain⟨x,q,b1,o1,HX,ea,g0,g1,Q0,n0,A0⟩:=HS.o.at_gr (j:=k) i0;replace g0:=ze h.fr.bel g0;replace g1:=ze h.fr.bel g1;have r0:uH (zt (λi=>xj (s.groups.getD i yH) i) k++xj x k<+:zt (λi=>xj (s.groups.getD i yH) i) s.groups.length):=zd (by have h9:=uP (λi=>xj (s.groups.getD i yH) i) i0;rw[<-HX.o] at h9;exact h9);have s0:uH (zt (λi=>xj (s.groups.getD i yH) i) (k+1)=zt (λi=>xj (s.groups.getD i yH) i) k++xj x k):=zd (by rw[HX.o];rfl);have h2:=h.alloc #[uy x.count,.slice q.a q.n q.c] 87;have cx:=h2.fr.c2 0 rfl;have y0:=zd i0;clear i0 h;have B0:q.n<=1048576:=by rw[n0.out,HX.o];exact HZ.o.qgr k
       go_upto_region 27 with fail;clear ea;go_wp2;clear cx g0 g1
       go_loopw [101] (λi q0=>∃j:Nat,j<=q.n/\i=uy j/\WF w q0 v [.blk wo.heap.size #[uy x.count,.slice q.a q.n q.c] 87] (([]:List xq)++zt (λi=>yL (s.sems.getD i yi) i) s.sems.length++zt (λi=>yx (s.onces.getD i zH) i) s.onces.length++zt (λi=>xj (s.groups.getD i yH) i) k++((x.waits).map (λt=>(t,(6:Int),(k:Int),(0:Int)))).take j) (zt (λi=>xP (s.onces.getD i zH) i) s.onces.length)) (λi _=>q.n-(intOf i).toNat)
       case atStart=>exact⟨0,jq,rfl,by simpa using h2⟩
       case round=>
        clear h2;obtain⟨j,hj,rfl,h2⟩:=hrel;by_cases l0:j<q.n
        ·have c0:j<(x.waits).length:=by rw[<-n0.out];exact l0
         obtain⟨b,o,eb,g'⟩:=((h2.fr.rd Q0.o)).int jq;have g1:=g' j c0;obtain⟨t,et⟩:=jy ((x.waits).getD j 0);rw[<-et] at g1;have j0:((x.waits).map (λt=>(t,(6:Int),(k:Int),(0:Int)))).take j++[(t,(6:Int),(k:Int),(0:Int))]=((x.waits).map (λt=>(t,(6:Int),(k:Int),(0:Int)))).take (j+1):=by
          have h9:=xQ ((x.waits).map (λt=>(t,(6:Int),(k:Int),(0:Int)))) ((λt=>(t,(6:Int),(k:Int),(0:Int))) 0) (j:=j) (by rw[yG];exact c0);rwa [xm,List.getElem?_map,xV c0,Option.map_some,Option.getD_some,show(x.waits)[j]=t by rw[et,xm,xV c0];rfl] at h9
         have f0:(([]:List xq)++zt (λi=>yL (s.sems.getD i yi) i) s.sems.length++zt (λi=>yx (s.onces.getD i zH) i) s.onces.length++zt (λi=>xj (s.groups.getD i yH) i) k++((x.waits).map (λt=>(t,(6:Int),(k:Int),(0:Int)))).take j)++[(t,(6:Int),(k:Int),(0:Int))]<+:yD s:=by
          rw[qh,j0];have e1:(((x.waits).map (λt=>(t,(6:Int),(k:Int),(0:Int)))).take (j+1))<+:xj x k:=by
           exact List.take_prefix _ _
          have e2:zt (λi=>xj (s.groups.getD i yH) i) k++((x.waits).map (λt=>(t,(6:Int),(k:Int),(0:Int)))).take (j+1)<+:zt (λi=>xj (s.groups.getD i yH) i) s.groups.length:=by
           exact((List.prefix_append_right_inj _).2 e1).trans r0.out
          have e3:=(List.prefix_append_right_inj (([]:List xq)++zt (λi=>yL (s.sems.getD i yi) i) s.sems.length++zt (λi=>yx (s.onces.getD i zH) i) s.onces.length)).2 e2;have e4:(([]:List xq)++zt (λi=>yL (s.sems.getD i yi) i) s.sems.length++zt (λi=>yx (s.onces.getD i zH) i) s.onces.length)++zt (λi=>xj (s.groups.getD i yH) i) s.groups.length<+:yD s:=by
           unfold yD;simp only[qZ,qh];simp only[<-qh];exact(List.prefix_append _ _).trans (List.prefix_append _ _)
          have e5:=e3.trans e4;simpa only[qh] using e5
         have b0:=ZW v0.out f0;have p0:=zd j0;have o0:=zd b0;clear g' et c0 j0 f0 b0;have h3:=h2;go_upto_region 30 with fail;clear eb g1;have a0:=h3.fr.cell 1 0 rfl rfl;go_wp2_with fail;refine(Yb t 6 k 0 (w.heap.size+2) (w.heap.size+1) _ _ a0 h3.wm o0.out).mono ?_;rintro e w6 ⟨rfl,m0,k0⟩;have h4:=h3.add m0 k0;rw[qh,p0.out] at h4;clear h3 h2 a0 m0 k0;go_wp2
         go_roundw
         case rel=>exact⟨j+1,jq,by go_num,h4⟩
         case measure=>exact uq
        ·obtain rfl:j=q.n:=jq;clear l0 hj;rw[Jh (by rw[yG];have:=n0.out;omega)] at h2;have e1:([]:List xq)++zt (λi=>yL (s.sems.getD i yi) i) s.sems.length++zt (λi=>yx (s.onces.getD i zH) i) s.onces.length++zt (λi=>xj (s.groups.getD i yH) i) (k+1)=([]:List xq)++zt (λi=>yL (s.sems.getD i yi) i) s.sems.length++zt (λi=>yx (s.onces.getD i zH) i) s.onces.length++zt (λi=>xj (s.groups.getD i yH) i) k++(x.waits).map (λt=>(t,(6:Int),(k:Int),(0:Int))):=by
          rw[s0.out];simp only[xj,qh]
         rw[<-e1] at h2;clear e1;have h4:=h2.tail;clear h2;go_wp2
         go_roundw
         case rel=>exact⟨k+1,jq,by go_num,h4⟩
         case measure=>exact uq
      ·obtain rfl:k=v.gr.n:=jq;clear u0 hk;rw[HS.o.gr.len] at h;have cs:=h.fr.c9 1 rfl;go_wp2;clear cs
       go_loopw [114] (λi wr=>∃k:Nat,k<=v.ba.n/\i=uy k/\WF w wr v [] (([]:List xq)++zt (λi=>yL (s.sems.getD i yi) i) s.sems.length++zt (λi=>yx (s.onces.getD i zH) i) s.onces.length++zt (λi=>xj (s.groups.getD i yH) i) s.groups.length++zt (λi=>xz (s.bars.getD i ye) i) k) (zt (λi=>xP (s.onces.getD i zH) i) s.onces.length)) (λi _=>v.ba.n-(intOf i).toNat)
       case atStart=>exact⟨0,jq,rfl,by simpa[zt] using h⟩
       case round=>
        clear h;obtain⟨k,hk,rfl,h⟩:=hrel;obtain⟨wo,rfl⟩:=jy wr;by_cases u0:k<v.ba.n
        ·have i0:k<s.bars.length:=by have:=HS.o.ba.len;omega
         obtain⟨x,q,b1,o1,HX,ea,g0,g1,g2,Q0,n0,A0⟩:=HS.o.at_ba (j:=k) i0;replace g0:=ze h.fr.bel g0;replace g1:=ze h.fr.bel g1;replace g2:=ze h.fr.bel g2;have r0:uH (zt (λi=>xz (s.bars.getD i ye) i) k++xz x k<+:zt (λi=>xz (s.bars.getD i ye) i) s.bars.length):=zd (by have h9:=uP (λi=>xz (s.bars.getD i ye) i) i0;rw[<-HX.o] at h9;exact h9);have s0:uH (zt (λi=>xz (s.bars.getD i ye) i) (k+1)=zt (λi=>xz (s.bars.getD i ye) i) k++xz x k):=zd (by rw[HX.o];rfl);have h2:=h.alloc #[uy x.parties,uy x.round,.slice q.a q.n q.c] 93;have cx:=h2.fr.c3 0 rfl;have y0:=zd i0;clear i0 h;have B0:q.n<=1048576:=by rw[n0.out,HX.o];exact HZ.o.qba k
         go_upto_region 36 with fail;clear ea;go_wp2;clear cx g0 g1 g2
         go_loopw [122] (λi q0=>∃j:Nat,j<=q.n/\i=uy j/\WF w q0 v [.blk wo.heap.size #[uy x.parties,uy x.round,.slice q.a q.n q.c] 93] (([]:List xq)++zt (λi=>yL (s.sems.getD i yi) i) s.sems.length++zt (λi=>yx (s.onces.getD i zH) i) s.onces.length++zt (λi=>xj (s.groups.getD i yH) i) s.groups.length++zt (λi=>xz (s.bars.getD i ye) i) k++((x.waits).map (λt=>(t,(7:Int),(k:Int),(0:Int)))).take j) (zt (λi=>xP (s.onces.getD i zH) i) s.onces.length)) (λi _=>q.n-(intOf i).toNat)
         case atStart=>exact⟨0,jq,rfl,by simpa using h2⟩
         case round=>
          clear h2;obtain⟨j,hj,rfl,h2⟩:=hrel;by_cases l0:j<q.n
          ·have c0:j<(x.waits).length:=by rw[<-n0.out];exact l0
           obtain⟨b,o,eb,g'⟩:=((h2.fr.rd Q0.o)).int jq;have g1:=g' j c0;obtain⟨t,et⟩:=jy ((x.waits).getD j 0);rw[<-et] at g1;have j0:((x.waits).map (λt=>(t,(7:Int),(k:Int),(0:Int)))).take j++[(t,(7:Int),(k:Int),(0:Int))]=((x.waits).map (λt=>(t,(7:Int),(k:Int),(0:Int)))).take (j+1):=by
            have h9:=xQ ((x.waits).map (λt=>(t,(7:Int),(k:Int),(0:Int)))) ((λt=>(t,(7:Int),(k:Int),(0:Int))) 0) (j:=j) (by rw[yG];exact c0);rwa [xm,List.getElem?_map,xV c0,Option.map_some,Option.getD_some,show(x.waits)[j]=t by rw[et,xm,xV c0];rfl] at h9
           have f0:(([]:List xq)++zt (λi=>yL (s.sems.getD i yi) i) s.sems.length++zt (λi=>yx (s.onces.getD i zH) i) s.onces.length++zt (λi=>xj (s.groups.getD i yH) i) s.groups.length++zt (λi=>xz (s.bars.getD i ye) i) k++((x.waits).map (λt=>(t,(7:Int),(k:Int),(0:Int)))).take j)++[(t,(7:Int),(k:Int),(0:Int))]<+:yD s:=by
            rw[qh,j0];have e1:(((x.waits).map (λt=>(t,(7:Int),(k:Int),(0:Int)))).take (j+1))<+:xz x k:=by
             exact List.take_prefix _ _
            have e2:zt (λi=>xz (s.bars.getD i ye) i) k++((x.waits).map (λt=>(t,(7:Int),(k:Int),(0:Int)))).take (j+1)<+:zt (λi=>xz (s.bars.getD i ye) i) s.bars.length:=by
             exact((List.prefix_append_right_inj _).2 e1).trans r0.out
            have e3:=(List.prefix_append_right_inj (([]:List xq)++zt (λi=>yL (s.sems.getD i yi) i) s.sems.length++zt (λi=>yx (s.onces.getD i zH) i) s.onces.length++zt (λi=>xj (s.groups.getD i yH) i) s.groups.length)).2 e2;have e4:(([]:List xq)++zt (λi=>yL (s.sems.getD i yi) i) s.sems.length++zt (λi=>yx (s.onces.getD i zH) i) s.onces.length++zt (λi=>xj (s.groups.getD i yH) i) s.groups.length)++zt (λi=>xz (s.bars.getD i ye) i) s.bars.length<+:yD s:=by
             unfold yD;simp only[qZ,qh];simp only[<-qh];exact List.prefix_append _ _
            have e5:=e3.trans e4;simpa only[qh] using e5
           have b0:=ZW v0.out f0;have p0:=zd j0;have o0:=zd b0;clear g' et c0 j0 f0 b0;have h3:=h2;go_upto_region 39 with fail;clear eb g1;have a0:=h3.fr.cell 1 0 rfl rfl;go_wp2_with fail;refine(Yb t 7 k 0 (w.heap.size+2) (w.heap.size+1) _ _ a0 h3.wm o0.out).mono ?_;rintro e w6 ⟨rfl,m0,k0⟩;have h4:=h3.add m0 k0;rw[qh,p0.out] at h4;clear h3 h2 a0 m0 k0;go_wp2
           go_roundw
           case rel=>exact⟨j+1,jq,by go_num,h4⟩
           case measure=>exact uq
          ·obtain rfl:j=q.n:=jq;clear l0 hj;rw[Jh (by rw[yG];have:=n0.out;omega)] at h2;have e1:([]:List xq)++zt (λi=>yL (s.sems.getD i yi) i) s.sems.length++zt (λi=>yx (s.onces.getD i zH) i) s.onces.length++zt (λi=>xj (s.groups.getD i yH) i) s.groups.length++zt (λi=>xz (s.bars.getD i ye) i) (k+1)=([]:List xq)++zt (λi=>yL (s.sems.getD i yi) i) s.sems.length++zt (λi=>yx (s.onces.getD i zH) i) s.onces.length++zt (λi=>xj (s.groups.getD i yH) i) s.groups.length++zt (λi=>xz (s.bars.getD i ye) i) k++(x.waits).map (λt=>(t,(7:Int),(k:Int),(0:Int))):=by
            rw[s0.out];simp only[xz,qh]
           rw[<-e1] at h2;clear e1;have h4:=h2.tail;clear h2;go_wp2
           go_roundw
           case rel=>exact⟨k+1,jq,by go_num,h4⟩
           case measure=>exact uq
        ·obtain rfl:k=v.ba.n:=jq;clear u0 hk;rw[HS.o.ba.len] at h;have cs:=h.fr.c9 1 rfl;go_wp2;clear cs
         go_loopw [135] (λi wr=>∃k:Nat,k<=v.ch.n/\i=uy k/\WF w wr v [] (([]:List xq)++zt (λi=>yL (s.sems.getD i yi) i) s.sems.length++zt (λi=>yx (s.onces.getD i zH) i) s.onces.length++zt (λi=>xj (s.groups.getD i yH) i) s.groups.length++zt (λi=>xz (s.bars.getD i ye) i) s.bars.length++zt (λi=>yT (s.chans.getD i yq) i) k) (zt (λi=>xP (s.onces.getD i zH) i) s.onces.length)) (λi _=>v.ch.n-(intOf i).toNat)
         case atStart=>exact⟨0,jq,rfl,by simpa[zt] using h⟩
         case round=>
          clear h;obtain⟨k,hk,rfl,h⟩:=hrel;obtain⟨wo,rfl⟩:=jy wr;by_cases u0:k<v.ch.n
          ·have i0:k<s.chans.length:=by have:=HS.o.ch.len;omega
           obtain⟨x,q,b1,o1,HX,ea,g0,g1,g2,g3,g4,Q0,n0,A0,Q1,C0,T0,Q2,D0,U0⟩:=HS.o.at_ch (j:=k) i0;replace g0:=ze h.fr.bel g0;replace g1:=ze h.fr.bel g1;replace g2:=ze h.fr.bel g2;replace g3:=ze h.fr.bel g3;replace g4:=ze h.fr.bel g4;have r0:uH (zt (λi=>yT (s.chans.getD i yq) i) k++yT x k<+:zt (λi=>yT (s.chans.getD i yq) i) s.chans.length):=zd (by have h9:=uP (λi=>yT (s.chans.getD i yq) i) i0;rw[<-HX.o] at h9;exact h9);have s0:uH (zt (λi=>yT (s.chans.getD i yq) i) (k+1)=zt (λi=>yT (s.chans.getD i yq) i) k++yT x k):=zd (by rw[HX.o];rfl);have h2:=h.alloc #[uy x.room,.slice q.1.a q.1.n q.1.c,.slice q.2.1.a q.2.1.n q.2.1.c,.slice q.2.2.a q.2.2.n q.2.2.c,.bool x.closed] 98;have cx:=h2.fr.c5 0 rfl;have y0:=zd i0;clear i0 h;have B0:q.2.1.n<=1048576:=by rw[C0.o,HX.o];exact(HZ.o.qch k).2.1
           go_upto_region 45 with fail;clear ea;go_wp2;clear cx g0 g1 g2 g3 g4
           go_loopw [143] (λi q0=>∃j:Nat,j<=q.2.1.n/\i=uy j/\WF w q0 v [.blk wo.heap.size #[uy x.room,.slice q.1.a q.1.n q.1.c,.slice q.2.1.a q.2.1.n q.2.1.c,.slice q.2.2.a q.2.2.n q.2.2.c,.bool x.closed] 98] (([]:List xq)++zt (λi=>yL (s.sems.getD i yi) i) s.sems.length++zt (λi=>yx (s.onces.getD i zH) i) s.onces.length++zt (λi=>xj (s.groups.getD i yH) i) s.groups.length++zt (λi=>xz (s.bars.getD i ye) i) s.bars.length++zt (λi=>yT (s.chans.getD i yq) i) k++((x.senders).map (λw=>(w.1,(8:Int),(k:Int),w.2))).take j) (zt (λi=>xP (s.onces.getD i zH) i) s.onces.length)) (λi _=>q.2.1.n-(intOf i).toNat)
           case atStart=>exact⟨0,jq,rfl,by simpa using h2⟩
           case round=>
            clear h2;obtain⟨j,hj,rfl,h2⟩:=hrel;by_cases l0:j<q.2.1.n
            ·have c0:j<(x.senders).length:=by rw[<-C0.o];exact l0
             obtain⟨b,o,eb,g'⟩:=((h2.fr.rd Q1.o)).pair jq;obtain⟨g1,g2⟩:=g' j c0;obtain⟨y,et⟩:=jy ((x.senders).getD j (0,0));rw[<-et] at g1 g2;have j0:((x.senders).map (λw=>(w.1,(8:Int),(k:Int),w.2))).take j++[(y.1,(8:Int),(k:Int),y.2)]=((x.senders).map (λw=>(w.1,(8:Int),(k:Int),w.2))).take (j+1):=by
              have h9:=xQ ((x.senders).map (λw=>(w.1,(8:Int),(k:Int),w.2))) ((λw=>(w.1,(8:Int),(k:Int),w.2)) (0,0)) (j:=j) (by rw[yG];exact c0);rwa [xm,List.getElem?_map,xV c0,Option.map_some,Option.getD_some,show(x.senders)[j]=y by rw[et,xm,xV c0];rfl] at h9
             have f0:(([]:List xq)++zt (λi=>yL (s.sems.getD i yi) i) s.sems.length++zt (λi=>yx (s.onces.getD i zH) i) s.onces.length++zt (λi=>xj (s.groups.getD i yH) i) s.groups.length++zt (λi=>xz (s.bars.getD i ye) i) s.bars.length++zt (λi=>yT (s.chans.getD i yq) i) k++((x.senders).map (λw=>(w.1,(8:Int),(k:Int),w.2))).take j)++[(y.1,(8:Int),(k:Int),y.2)]<+:yD s:=by
              rw[qh,j0];have e1:(((x.senders).map (λw=>(w.1,(8:Int),(k:Int),w.2))).take (j+1))<+:yT x k:=by
               exact(List.take_prefix _ _).trans (List.prefix_append _ _)
              have e2:zt (λi=>yT (s.chans.getD i yq) i) k++((x.senders).map (λw=>(w.1,(8:Int),(k:Int),w.2))).take (j+1)<+:zt (λi=>yT (s.chans.getD i yq) i) s.chans.length:=by
               exact((List.prefix_append_right_inj _).2 e1).trans r0.out
              have e3:=(List.prefix_append_right_inj (([]:List xq)++zt (λi=>yL (s.sems.getD i yi) i) s.sems.length++zt (λi=>yx (s.onces.getD i zH) i) s.onces.length++zt (λi=>xj (s.groups.getD i yH) i) s.groups.length++zt (λi=>xz (s.bars.getD i ye) i) s.bars.length)).2 e2;have e4:(([]:List xq)++zt (λi=>yL (s.sems.getD i yi) i) s.sems.length++zt (λi=>yx (s.onces.getD i zH) i) s.onces.length++zt (λi=>xj (s.groups.getD i yH) i) s.groups.length++zt (λi=>xz (s.bars.getD i ye) i) s.bars.length)++zt (λi=>yT (s.chans.getD i yq) i) s.chans.length<+:yD s:=by
               unfold yD;simp only[qZ,qh];exact List.prefix_refl _
              have e5:=e3.trans e4;simpa only[qh] using e5
             have b0:=ZW v0.out f0;have p0:=zd j0;have o0:=zd b0;clear g' et c0 j0 f0 b0;have h3:=h2.alloc #[uy y.1,uy y.2] 154;have cy:=h3.fr.c2 0 rfl;go_upto_region 48 with fail;clear eb g1 g2;have a0:=h3.fr.cell 2 0 rfl rfl;go_wp2_with fail;refine(Yb y.1 8 k y.2 (w.heap.size+2) (w.heap.size+1) _ _ a0 h3.wm o0.out).mono ?_;rintro e w6 ⟨rfl,m0,k0⟩;have h4:=h3.add m0 k0;rw[qh,p0.out] at h4;clear h3 h2 a0 m0 k0;go_wp2
             go_roundw
             case rel=>exact⟨j+1,jq,by go_num,h4.tail⟩
             case measure=>exact uq
            ·obtain rfl:j=q.2.1.n:=jq;clear l0 hj;rw[Jh (by rw[yG];have:=C0.o;omega)] at h2;have cx:=h2.fr.c5 0 rfl;have h1:q.2.2.n<=1048576:=by rw[D0.o,HX.o];exact(HZ.o.qch k).2.2
             go_wp2;clear cx
             go_loopw [158] (λi q0=>∃j:Nat,j<=q.2.2.n/\i=uy j/\WF w q0 v [.blk wo.heap.size #[uy x.room,.slice q.1.a q.1.n q.1.c,.slice q.2.1.a q.2.1.n q.2.1.c,.slice q.2.2.a q.2.2.n q.2.2.c,.bool x.closed] 98] (([]:List xq)++zt (λi=>yL (s.sems.getD i yi) i) s.sems.length++zt (λi=>yx (s.onces.getD i zH) i) s.onces.length++zt (λi=>xj (s.groups.getD i yH) i) s.groups.length++zt (λi=>xz (s.bars.getD i ye) i) s.bars.length++zt (λi=>yT (s.chans.getD i yq) i) k++(x.senders).map (λw=>(w.1,(8:Int),(k:Int),w.2))++((x.getters).map (λt=>(t,(9:Int),(k:Int),(0:Int)))).take j) (zt (λi=>xP (s.onces.getD i zH) i) s.onces.length)) (λi _=>q.2.2.n-(intOf i).toNat)
             case atStart=>exact⟨0,jq,rfl,by simpa using h2⟩
             case round=>
              clear h2;obtain⟨j,hj,rfl,h2⟩:=hrel;by_cases l0:j<q.2.2.n
              ·have c0:j<(x.getters).length:=by rw[<-D0.o];exact l0
               obtain⟨b,o,eb,g'⟩:=((h2.fr.rd Q2.o)).int jq;have g1:=g' j c0;obtain⟨t,et⟩:=jy ((x.getters).getD j 0);rw[<-et] at g1;have j0:((x.getters).map (λt=>(t,(9:Int),(k:Int),(0:Int)))).take j++[(t,(9:Int),(k:Int),(0:Int))]=((x.getters).map (λt=>(t,(9:Int),(k:Int),(0:Int)))).take (j+1):=by
                have h9:=xQ ((x.getters).map (λt=>(t,(9:Int),(k:Int),(0:Int)))) ((λt=>(t,(9:Int),(k:Int),(0:Int))) 0) (j:=j) (by rw[yG];exact c0);rwa [xm,List.getElem?_map,xV c0,Option.map_some,Option.getD_some,show(x.getters)[j]=t by rw[et,xm,xV c0];rfl] at h9
               have f0:(([]:List xq)++zt (λi=>yL (s.sems.getD i yi) i) s.sems.length++zt (λi=>yx (s.onces.getD i zH) i) s.onces.length++zt (λi=>xj (s.groups.getD i yH) i) s.groups.length++zt (λi=>xz (s.bars.getD i ye) i) s.bars.length++zt (λi=>yT (s.chans.getD i yq) i) k++(x.senders).map (λw=>(w.1,(8:Int),(k:Int),w.2))++((x.getters).map (λt=>(t,(9:Int),(k:Int),(0:Int)))).take j)++[(t,(9:Int),(k:Int),(0:Int))]<+:yD s:=by
                rw[qh,j0];have e1:((x.senders).map (λw=>(w.1,(8:Int),(k:Int),w.2))++((x.getters).map (λt=>(t,(9:Int),(k:Int),(0:Int)))).take (j+1))<+:yT x k:=by
                 exact(List.prefix_append_right_inj _).2 (List.take_prefix _ _)
                have e2:zt (λi=>yT (s.chans.getD i yq) i) k++(x.senders).map (λw=>(w.1,(8:Int),(k:Int),w.2))++((x.getters).map (λt=>(t,(9:Int),(k:Int),(0:Int)))).take (j+1)<+:zt (λi=>yT (s.chans.getD i yq) i) s.chans.length:=by
                 rw[qh];exact((List.prefix_append_right_inj _).2 e1).trans r0.out
                have e3:=(List.prefix_append_right_inj (([]:List xq)++zt (λi=>yL (s.sems.getD i yi) i) s.sems.length++zt (λi=>yx (s.onces.getD i zH) i) s.onces.length++zt (λi=>xj (s.groups.getD i yH) i) s.groups.length++zt (λi=>xz (s.bars.getD i ye) i) s.bars.length)).2 e2;have e4:(([]:List xq)++zt (λi=>yL (s.sems.getD i yi) i) s.sems.length++zt (λi=>yx (s.onces.getD i zH) i) s.onces.length++zt (λi=>xj (s.groups.getD i yH) i) s.groups.length++zt (λi=>xz (s.bars.getD i ye) i) s.bars.length)++zt (λi=>yT (s.chans.getD i yq) i) s.chans.length<+:yD s:=by
                 unfold yD;simp only[qZ,qh];exact List.prefix_refl _
                have e5:=e3.trans e4;simpa only[qh] using e5
               have b0:=ZW v0.out f0;have p0:=zd j0;have o0:=zd b0;clear g' et c0 j0 f0 b0;have h3:=h2;go_upto_region 53 with fail;clear eb g1;have a0:=h3.fr.cell 1 0 rfl rfl;go_wp2_with fail;refine(Yb t 9 k 0 (w.heap.size+2) (w.heap.size+1) _ _ a0 h3.wm o0.out).mono ?_;rintro e w6 ⟨rfl,m0,k0⟩;have h4:=h3.add m0 k0;rw[qh,p0.out] at h4;clear h3 h2 a0 m0 k0;go_wp2
               go_roundw
               case rel=>exact⟨j+1,jq,by go_num,h4⟩
               case measure=>exact uq
              ·obtain rfl:j=q.2.2.n:=jq;clear l0 hj;rw[Jh (by rw[yG];have:=D0.o;omega)] at h2;have e1:([]:List xq)++zt (λi=>yL (s.sems.getD i yi) i) s.sems.length++zt (λi=>yx (s.onces.getD i zH) i) s.onces.length++zt (λi=>xj (s.groups.getD i yH) i) s.groups.length++zt (λi=>xz (s.bars.getD i ye) i) s.bars.length++zt (λi=>yT (s.chans.getD i yq) i) (k+1)=([]:List xq)++zt (λi=>yL (s.sems.getD i yi) i) s.sems.length++zt (λi=>yx (s.onces.getD i zH) i) s.onces.length++zt (λi=>xj (s.groups.getD i yH) i) s.groups.length++zt (λi=>xz (s.bars.getD i ye) i) s.bars.length++zt (λi=>yT (s.chans.getD i yq) i) k++(x.senders).map (λw=>(w.1,(8:Int),(k:Int),w.2))++(x.getters).map (λt=>(t,(9:Int),(k:Int),(0:Int))):=by
                rw[s0.out];simp only[yT,qh]
               rw[<-e1] at h2;clear e1;have h4:=h2.tail;clear h2;go_wp2
               go_roundw
               case rel=>exact⟨k+1,jq,by go_num,h4⟩
               case measure=>exact uq
          ·obtain rfl:k=v.ch.n:=jq;clear u0 hk;rw[HS.o.ch.len] at h;have he:([]:List xq)++zt (λi=>yL (s.sems.getD i yi) i) s.sems.length++zt (λi=>yx (s.onces.getD i zH) i) s.onces.length++zt (λi=>xj (s.groups.getD i yH) i) s.groups.length++zt (λi=>xz (s.bars.getD i ye) i) s.bars.length++zt (λi=>yT (s.chans.getD i yq) i) s.chans.length=yD s:=by
            unfold yD;simp only[qZ,qh]
           rw[he] at h;have cc:=h.fr.cell 0 0 rfl rfl;go_wp2;exact zM (v:= .tuple #[.map (some (w.heap.size+1)),.map (some (w.heap.size+3))]) (by simp[results,Tryz.results91,go_sem]) rfl ⟨rfl,h.wm,h.om,h.fr.bel⟩
theorem tA (F:Fr w W l) (k:Nat) {v:Value} (hi:l[k]? =some (.blk b #[v] E)):W.ownsRow w.heap.size E 1 (.slice (some ⟨b,0,none⟩) 1 1) 1 [v]:=
 qi (cs:= #[v]) (F.blk k hi) (F.has _ (vB hi)).1 rfl jk
theorem KC (x:xi) (ai al ag:uQ) (ni ci nl cl ng cg:Nat) (t v:Int) (w:World) (h1:x.items.length=ni) (h2:x.senders.length=nl) (h3:x.getters.length=ng) (r1:Rd w ai (zf x.items)) (r2:Rd w al (zK x.senders)) (r3:Rd w ag (zf x.getters)) (ok:ZB x) (ht:0<=t/\t<6) (hv:0<=v/\v<=99) (o0:t∉x.senders.map (·.1)) (l0:t∉x.getters):
  Calls Tryz.prog 63 #[.agg #[uy x.room,.slice ai ni ci,.slice al nl cl,.slice ag ng cg,.bool x.closed],uy t,uy v] w λe w'=>∃(y:xi) (s1 s2 s3 u:zP) (l:List Int) (sent b:Bool),jI x t v=(if b=true then some (y,l,sent) else none)/\e= .returned (.tuple #[US y s1 s2 s3,u.val,.bool sent,.bool b])/\yy w w' s1 (zf y.items) y.items.length/\yy w w' s2 (zK y.senders) y.senders.length/\yy w w' s3 (zf y.getters) y.getters.length/\w'.ownsRow w.heap.size 3 1 u.val u.n (zf l)/\xW w w':=by
 obtain⟨room,b0,a0,g0,n0⟩:=x;dsimp only at*;have T6:=zd ht;have V9:=zd hv;have HS:=zd o0;have HG:=zd l0;clear ht hv o0 l0;have OK:=zd ok;have h6:=ok.2.2.2.2.1.1;rw[xp,yG,h2,h3] at h6;have o1:=ok.1.1;have o2:=ok.1.2;have o3:(ni:Int)<=room:=by rw[<-h1];exact ok.2.1
 have d0:=zd h1;have c0:=zd h2;have f0:=zd h3;have F:=((Fr.start w).alloc #[uy room,.slice ai ni ci,.slice al nl cl,.slice ag ng cg,.bool n0] 98).alloc #[uy 0,uk,uk,uk,.bool false] 98;simp only[yY] at F;have cs:=F.c5 1 rfl;clear ok h1 h2 h3
 cases n0
 ·go_enter Tryz.func63,Tryz.ntmps63;go_wp2_with fail;refine(ve ⟨room,b0,a0,g0,false⟩ ai al ag ni ci nl cl ng cg _ d0.out c0.out f0.out (F.rd r1) (F.rd r2) (F.rd r3) OK.o).mono ?_;rintro e w1 ⟨rfl,hb⟩;replace F:=F.call hb;replace cs:=F.c5 1 rfl;clear hb;go_wp2_with fail;refine(jx t _ T6.o).mono ?_;rintro e wz ⟨rfl,hw⟩;obtain rfl:=hw;go_wp2_with fail;refine(ZI ⟨room,b0,a0,g0,false⟩ ai al ag ni ci nl cl ng cg _ c0.out f0.out jq jq (F.rd r2) (F.rd r3)).mono ?_;rintro e w1 ⟨a3,c3,rfl,ho,hb⟩;have j0:=Rd.of_owns ho;replace F:=F.call hb;replace cs:=F.c5 1 rfl;clear hb ho;go_wp2_with fail;refine(jK a3 (nl+ng) c3 (a0.map (·.1)++g0) t _ (by rw[xp,yG,c0.out,f0.out]) (by unfold maxLen;omega) j0).mono ?_;rintro e wz ⟨rfl,hw⟩;obtain rfl:=hw;rw[vX (by rw[List.mem_append,not_or];exact⟨HS.o,HG.o⟩)];clear j0;go_wp2_with fail;refine(vC v _ V9.o).mono ?_;rintro e wz ⟨rfl,hw⟩;obtain rfl:=hw;go_wp2_with fail;refine(jN ⟨room,b0,a0,g0,false⟩ ai al ag ni ci nl cl ng cg _ d0.out c0.out f0.out jq jq jq (F.rd r1) (F.rd r2) (F.rd r3)).mono ?_;rintro e w2 ⟨bi,bs,bg,di,ds,dg,rfl,F'⟩;have F2:=F.join F';simp only[List.cons_append,qZ] at F2;replace cs:=F2.c5 4 rfl
  have F3:=F2.set5 4 rfl (uy room) (.slice bi ni di) (.slice bs nl ds) (.slice bg ng dg) (.bool false);clear F F' F2;go_upto_region 4 with fail;obtain⟨W3,hW,F⟩:=F3.named;rw[<-hW];clear hW F3 cs;have cs:=F.c5 4 rfl
  cases g0 with
  |cons g gs=>
   have l0:gs.length+1=ng:=f0.out;have p0:(0:Int)<(ng:Int):=jq;have HV:uH (jI ⟨room,b0,a0,g::gs,false⟩ t v=some (⟨room,b0,a0,gs,false⟩,[g],true)):=zd rfl;have m0:=(yB (F.own 0 rfl)).1;obtain⟨A,q0,hA,-⟩:=VT (F.rdRow 0 rfl) (by rw[yG];exact l0) m0;obtain⟨b,o,rfl,g'⟩:=(F.rdRow 0 rfl).int jv;have g1:=g' 0 jv;rw[Nat.add_zero,List.getD_cons_zero] at g1;have HA:=zd hA;clear g' hA;go_wp2_with fail;refine(yV A (ng-1) (dg-1) gs _ jq jq (HA.o _ (F.rdRow 0 rfl))).mono ?_;rintro e w5 ⟨a6,c6,rfl,ho,hb⟩;have F6:=F.row hb ho;have F7:=F6.set 5 rfl 3 (.slice a6 (ng-1) c6);replace cs:=F6.c5 5 rfl;clear ho hb F g1;go_upto_region 7 with fail;obtain⟨W7,hW,F8⟩:=F7.named;rw[<-hW];clear hW F7 F6 cs;have F9:=F8.alloc #[uy g] 3;have cs:=F8.c5 5 rfl;have cr:=F9.c5 5 rfl;have h0:=F9.set5 5 rfl (uy room) (.slice bi ni di) (.slice bs nl ds) (.slice a6 (ng-1) c6) (.bool false);go_wp2
   exact zM (v:= .tuple #[.agg #[uy room,.slice bi ni di,.slice bs nl ds,.slice a6 (ng-1) c6,.bool false],.slice (some ⟨W7.heap.size,0,none⟩) 1 1,.bool true,.bool true]) (by simp[results,Tryz.results63,go_sem,h0.c5 5 rfl]) rfl ⟨⟨room,b0,a0,gs,false⟩,⟨bi,ni,di⟩,⟨bs,nl,ds⟩,⟨a6,ng-1,c6⟩,⟨some ⟨W7.heap.size,0,none⟩,1,1⟩,[g],true,true,HV.o,rfl,by rw[d0.out];exact h0.sln 4 rfl,by rw[c0.out];exact h0.sln 3 rfl,by rw[show gs.length=ng-1 by omega];exact h0.sln 1 rfl,tA h0 0 rfl,h0.bel⟩
  |nil=>
   obtain rfl:ng=0:=f0.out.symm;by_cases k0:(b0.length:Int)<room
   ·have HV:uH (jI ⟨room,b0,a0,[],false⟩ t v=some (⟨room,b0++[v],a0,[],false⟩,[],true)):=zd (by unfold jI;dsimp only;rw[if_neg jv,if_pos k0]);rw[d0.out] at k0;have F4:=F.alloc #[uy v] 3;have i0:uH ((b0++[v]).length=ni+1):=zd (by rw[xp,d0.out];rfl);go_wp2_with (at_builtin;refine F4.appI 3 rfl _ _ rfl rfl rfl [v] rfl rfl (Rd.of_blk (F4.blk 0 rfl)) jq ?_;intro a4 c4 W4 F5;simp only[List.set_cons_succ,List.set_cons_zero] at F5;rw[<-xy] at F5;clear cs;have cs:=F5.c5 5 rfl;have F6:=F5.set 5 rfl 1 (.slice a4 (ni+1) c4));refine(jN ⟨room,b0++[v],a0,[],false⟩ a4 bs bg (ni+1) c4 nl ds 0 dg _ i0.out c0.out rfl jq jq jq (F6.rdRow 3 rfl) (F6.rdRow 2 rfl) (F6.rdRow 1 rfl)).mono ?_;rintro e w8 ⟨ei,es,eg,ki,ks,kg,rfl,F'⟩;have F7:=F6.join F';simp only[List.cons_append,qZ] at F7;have cr:=F7.c5 7 rfl;have F8:=F7.set5 7 rfl (uy room) (.slice ei (ni+1) ki) (.slice es nl ks) (.slice eg 0 kg) (.bool false);clear F' F6;go_wp2
    exact zM (v:= .tuple #[.agg #[uy room,.slice ei (ni+1) ki,.slice es nl ks,.slice eg 0 kg,.bool false],uk,.bool true,.bool true]) (by simp[results,Tryz.results63,go_sem,F8.c5 7 rfl]) rfl ⟨⟨room,b0++[v],a0,[],false⟩,⟨ei,ni+1,ki⟩,⟨es,nl,ks⟩,⟨eg,0,kg⟩,zR,[],true,true,HV.o,rfl,by rw[i0.out];exact F8.sln 2 rfl,by rw[c0.out];exact F8.sln 1 rfl,F8.sln 0 rfl,jf _ _ _ _,F8.bel⟩
   ·have HV:uH (jI ⟨room,b0,a0,[],false⟩ t v=some (⟨room,b0,a0++[(t,v)],[],false⟩,[],false)):=zd (by unfold jI;dsimp only;rw[if_neg jv,if_neg k0]);rw[d0.out] at k0;have F4:=F.alloc #[uy t,uy v] 154;have i0:uH ((a0++[(t,v)]).length=nl+1):=zd (by rw[xp,c0.out];rfl);go_wp2_with (at_builtin;refine F4.appL 2 rfl _ _ rfl rfl rfl [(t,v)] rfl rfl (Rd.of_blk (F4.blk 0 rfl)) jq ?_;intro a4 c4 W4 F5;simp only[List.set_cons_succ,List.set_cons_zero] at F5;rw[<-JY] at F5;clear cs;have cs:=F5.c5 5 rfl;have F6:=F5.set 5 rfl 2 (.slice a4 (nl+1) c4));refine(jN ⟨room,b0,a0++[(t,v)],[],false⟩ bi a4 bg ni di (nl+1) c4 0 dg _ d0.out i0.out rfl jq jq jq (F6.rdRow 3 rfl) (F6.rdRow 2 rfl) (F6.rdRow 1 rfl)).mono ?_;rintro e w8 ⟨ei,es,eg,ki,ks,kg,rfl,F'⟩;have F7:=F6.join F';simp only[List.cons_append,qZ] at F7;have cr:=F7.c5 7 rfl;have F8:=F7.set5 7 rfl (uy room) (.slice ei ni ki) (.slice es (nl+1) ks) (.slice eg 0 kg) (.bool false);clear F' F6;go_wp2
    exact zM (v:= .tuple #[.agg #[uy room,.slice ei ni ki,.slice es (nl+1) ks,.slice eg 0 kg,.bool false],uk,.bool false,.bool true]) (by simp[results,Tryz.results63,go_sem,F8.c5 7 rfl]) rfl ⟨⟨room,b0,a0++[(t,v)],[],false⟩,⟨ei,ni,ki⟩,⟨es,nl+1,ks⟩,⟨eg,0,kg⟩,zR,[],false,true,HV.o,rfl,by rw[d0.out];exact F8.sln 2 rfl,by rw[i0.out];exact F8.sln 1 rfl,F8.sln 0 rfl,jf _ _ _ _,F8.bel⟩
 ·go_enter Tryz.func63,Tryz.ntmps63;go_wp2_with fail;refine(ve ⟨room,b0,a0,g0,true⟩ ai al ag ni ci nl cl ng cg _ d0.out c0.out f0.out (F.rd r1) (F.rd r2) (F.rd r3) OK.o).mono ?_;rintro e w1 ⟨rfl,hb⟩;replace F:=F.call hb;replace cs:=F.c5 1 rfl;clear hb;go_wp2_with fail;refine(jx t _ T6.o).mono ?_;rintro e wz ⟨rfl,hw⟩;obtain rfl:=hw;go_wp2_with fail;refine(ZI ⟨room,b0,a0,g0,true⟩ ai al ag ni ci nl cl ng cg _ c0.out f0.out jq jq (F.rd r2) (F.rd r3)).mono ?_;rintro e w1 ⟨a3,c3,rfl,ho,hb⟩;have j0:=Rd.of_owns ho;replace F:=F.call hb;replace cs:=F.c5 1 rfl;clear hb ho;go_wp2_with fail;refine(jK a3 (nl+ng) c3 (a0.map (·.1)++g0) t _ (by rw[xp,yG,c0.out,f0.out]) (by unfold maxLen;omega) j0).mono ?_;rintro e wz ⟨rfl,hw⟩;obtain rfl:=hw;rw[vX (by rw[List.mem_append,not_or];exact⟨HS.o,HG.o⟩)];clear j0;have HV:uH (jI ⟨room,b0,a0,g0,true⟩ t v=none):=zd (by unfold jI;rw[if_pos rfl]);have cr:=F.c5 0 rfl;have F2:=F.set5 0 rfl (uy 0) uk uk uk (.bool false);go_wp2;exact zM (v:= .tuple #[.agg #[uy 0,uk,uk,uk,.bool false],uk,.bool false,.bool false]) (by simp[results,Tryz.results63,go_sem,F2.c5 0 rfl]) rfl ⟨yq,zR,zR,zR,zR,[],false,false,HV.o,rfl,yy.nil _ _,yy.nil _ _,yy.nil _ _,jf _ _ _ _,F2.bel⟩
theorem UI (x:xi) (ai al ag:uQ) (ni ci nl cl ng cg:Nat) (w:World) (h1:x.items.length=ni) (h2:x.senders.length=nl) (h3:x.getters.length=ng) (r1:Rd w ai (zf x.items)) (r2:Rd w al (zK x.senders)) (r3:Rd w ag (zf x.getters)) (ok:ZB x):
  Calls Tryz.prog 65 #[.agg #[uy x.room,.slice ai ni ci,.slice al nl cl,.slice ag ng cg,.bool x.closed]] w λe w'=>∃(y:xi) (s1 s2 s3 u:zP) (l:List Int) (b:Bool),qd x=(if b=true then some (y,l) else none)/\e= .returned (.tuple #[US y s1 s2 s3,u.val,.bool b])/\yy w w' s1 (zf y.items) y.items.length/\yy w w' s2 (zK y.senders) y.senders.length/\yy w w' s3 (zf y.getters) y.getters.length/\w'.ownsRow w.heap.size 3 1 u.val u.n (zf l)/\xW w w':=by
 obtain⟨room,c0,a0,b0,j0⟩:=x;dsimp only at*;have OK:=zd ok;have h6:=ok.2.2.2.2.1.1;rw[xp,yG,h2,h3] at h6;have o1:=ok.1.1;have o2:=ok.1.2;have o3:(ni:Int)<=room:=by rw[<-h1];exact ok.2.1
 have g0:=zd h1;have d0:=zd h2;have i0:=zd h3;have F:=((Fr.start w).alloc #[uy room,.slice ai ni ci,.slice al nl cl,.slice ag ng cg,.bool j0] 98).alloc #[uy 0,uk,uk,uk,.bool false] 98;simp only[yY] at F;have cs:=F.c5 1 rfl;clear ok h1 h2 h3;have X:uH (ZB ⟨room,c0,a0,b0,j0⟩):=OK;clear X
 cases j0
 ·go_enter Tryz.func65,Tryz.ntmps65;go_wp2_with fail;refine(ve ⟨room,c0,a0,b0,false⟩ ai al ag ni ci nl cl ng cg _ g0.out d0.out i0.out (F.rd r1) (F.rd r2) (F.rd r3) OK.o).mono ?_;rintro e w1 ⟨rfl,hb⟩;replace F:=F.call hb;replace cs:=F.c5 1 rfl;clear hb;by_cases hs:nl=0
  ·have f0:a0=[]:=List.eq_nil_of_length_eq_zero (by rw[d0.out];exact hs);have HV:uH (qd ⟨room,c0,a0,b0,false⟩=some (⟨room,c0,a0,[],true⟩,b0)):=zd (by unfold qd;rw[if_neg (by simp[f0])]);clear f0;subst hs;go_wp2_with fail;refine(jN ⟨room,c0,a0,b0,false⟩ ai al ag ni ci 0 cl ng cg _ g0.out d0.out i0.out jq jq jq (F.rd r1) (F.rd r2) (F.rd r3)).mono ?_;rintro e w2 ⟨bi,bs,bg,di,ds,dg,rfl,F'⟩;have F2:=F.join F';simp only[List.cons_append,qZ] at F2;replace cs:=F2.c5 4 rfl;have F3:=F2.set5 4 rfl (uy room) (.slice bi ni di) (.slice bs 0 ds) (.slice bg ng dg) (.bool false);clear F F' F2;go_upto_region 4 with fail;obtain⟨W3,hW,F⟩:=F3.named;rw[<-hW];clear hW F3 cs;have cs:=F.c5 4 rfl;have cr:=F.c5 3 rfl;have F5:=((F.set 4 rfl 3 uk).set 4 rfl 4 (.bool true)).set5 3 rfl (uy room) (.slice bi ni di) (.slice bs 0 ds) uk (.bool true);go_wp2;exact zM (v:= .tuple #[.agg #[uy room,.slice bi ni di,.slice bs 0 ds,uk,.bool true],.slice bg ng dg,.bool true]) (by simp[results,Tryz.results65,go_sem,F5.c5 3 rfl]) rfl ⟨⟨room,c0,a0,[],true⟩,⟨bi,ni,di⟩,⟨bs,0,ds⟩,zR,⟨bg,ng,dg⟩,b0,true,HV.o,rfl,by rw[g0.out];exact F5.sln 2 rfl,by rw[d0.out];exact F5.sln 1 rfl,yy.nil _ _,F5.own 0 rfl,F5.bel⟩
  ·have f0:a0≠[]:=λh=>hs (by rw[<-d0.out,h];rfl);have HV:uH (qd ⟨room,c0,a0,b0,false⟩=none):=zd (by unfold qd;rw[if_pos (.inr f0)]);have h0:(0:Int)<(nl:Int):=jq;clear f0 hs;have cr:=F.c5 0 rfl;have F2:=F.set5 0 rfl (uy 0) uk uk uk (.bool false);go_wp2;exact zM (v:= .tuple #[.agg #[uy 0,uk,uk,uk,.bool false],uk,.bool false]) (by simp[results,Tryz.results65,go_sem,F2.c5 0 rfl]) rfl ⟨yq,zR,zR,zR,zR,[],false,HV.o,rfl,yy.nil _ _,yy.nil _ _,yy.nil _ _,jf _ _ _ _,F2.bel⟩
 ·go_enter Tryz.func65,Tryz.ntmps65;go_wp2_with fail;refine(ve ⟨room,c0,a0,b0,true⟩ ai al ag ni ci nl cl ng cg _ g0.out d0.out i0.out (F.rd r1) (F.rd r2) (F.rd r3) OK.o).mono ?_;rintro e w1 ⟨rfl,hb⟩;replace F:=F.call hb;replace cs:=F.c5 1 rfl;clear hb;have HV:uH (qd ⟨room,c0,a0,b0,true⟩=none):=zd (by unfold qd;rw[if_pos (.inl rfl)]);have cr:=F.c5 0 rfl;have F2:=F.set5 0 rfl (uy 0) uk uk uk (.bool false);go_wp2;exact zM (v:= .tuple #[.agg #[uy 0,uk,uk,uk,.bool false],uk,.bool false]) (by simp[results,Tryz.results65,go_sem,F2.c5 0 rfl]) rfl ⟨yq,zR,zR,zR,zR,[],false,HV.o,rfl,yy.nil _ _,yy.nil _ _,yy.nil _ _,jf _ _ _ _,F2.bel⟩
theorem pY {y:Int×Int} {q:List (Int×Int)} (h0:Rd w0 a (zK (y::q))) (hl:q.length+1=n) (hc:n<=c):
  ∃A:uQ,(∀W:World,(Instr.slice 72 (.slice a n c) (some (uy 1)) none none).run Tryz.prog W= .ok (.slice A (n-1) (c-1)) W)/\∀W:World,Rd W a (zK (y::q))->Rd W A (zK q):=by
 rcases h0 with h0|⟨b,o,rfl,h0⟩
 ·cases h0
 refine⟨some (if c=1 then (⟨b,o,none⟩:Addr) else ⟨b,o+2,none⟩),λW=> ?_,λW h=> ?_⟩
 ·have u1:(1:Int)<=(n:Int):=jq;have u2:(n:Int)<=(c:Int):=jq;have u3:(1:Int)<=(c:Int):=jq;go_simp;split<;>rfl
 ·by_cases h1:c=1
  ·have:q=[]:=List.eq_nil_of_length_eq_zero jq;subst this;exact .inl rfl
  ·rw[if_neg h1];exact K8 (h:=pair y) h rfl
theorem YA {o:Nat} {y:Int×Int} {q:List (Int×Int)} (h:Rd W (some ⟨b,o,none⟩) (zK (y::q))):W.cell? ⟨b,o,none⟩=some (uy y.1)/\W.cell? ⟨b,o+1,none⟩=some (uy y.2):=by
 obtain⟨b',o',e,g⟩:=h.pair jv
 cases e
 simpa using g 0 jv
theorem gQ (w0:World) (l:List It) (b n c:Nat) (f d0:Int) (a:uQ) (q:List (Int×Int)) (w:World) (F:Fr w0 w (.blk b #[uy f,uy d0,.slice a n c] 74:: .row a n c 151 2 (zK q)::l)) (hl:q.length=n) (hn:n<=6) (hf:0<=f/\f<=9) (hc:∀y∈q,1<=y.2/\y.2<=9):
  Calls Tryz.prog 112 #[.pointer (some ⟨b,0,none⟩)] w λe w'=>∃(a' u:uQ) (n' c' m d:Nat),e= .returned (.slice u m d)/\(yC f q).2.1.length=m/\(yC f q).2.2.length=n'/\Fr w0 w' (.row a' n' c' 151 2 (zK (yC f q).2.2):: .row u m d 3 1 (zf (yC f q).2.1):: .blk b #[uy (yC f q).1,uy d0,.slice a' n' c'] 74:: .row a n c 151 2 (zK q)::l):=by
 have HL:=zd hl;have HC:=zd hc;have a0:=(yB (F.own 1 rfl)).1;clear hl hc;go_enter Tryz.func112,Tryz.ntmps112;go_wp2
 go_loopw [3] (λth wr=>∃(A u:uQ) (nk ck m d:Nat) (fk:Int) (g qk:List _),th= .slice u m d/\g.length=m/\qk.length=nk/\nk<=ck/\m+nk=n/\(0<=fk/\fk<=9)/\uH (yC f q=((yC fk qk).1,g++(yC fk qk).2.1,(yC fk qk).2.2))/\uH (∀y∈qk,1<=y.2/\y.2<=9)/\uH (∀W,Rd W a (zK q)->Rd W A (zK qk))/\
  Fr w0 wr (.row u m d 3 1 (zf g):: .blk b #[uy fk,uy d0,.slice A nk ck] 74:: .row a n c 151 2 (zK q)::l)) (λth _=>6-(match th with| .slice _ m _=>m|_=>0))
 case atStart=>exact⟨a,none,n,c,0,0,f,[],q,rfl,rfl,HL.o,a0,jq,hf,zd jv,zd HC.o,zd (λ_ h=>h),F.nil _ _⟩
 case round=>
  obtain⟨A,u,nk,ck,m,d,fk,g0,qk,rfl,hg,i0,a0,m0,h0,HS,HC,HA,F⟩:=hrel;have HG:=zd hg;have HQ:=zd i0;clear hg i0;have cs:=F.c3 1 rfl;go_wp2;rcases qk with _|⟨y,qk⟩
  ·obtain rfl:nk=0:=HQ.o.symm;have hx:uH (yC fk []=(fk,[],[])):=zd rfl
   go_quiet (fail)
   replace F:=F.drewN nq;replace cs:=F.c3 1 rfl;go_wp2_with (at_builtin;refine(F.nil _ 2).appW 0 rfl _ _ rfl rfl rfl [] rfl HQ.o (HA.o _ (F.rdRow 2 rfl)) jq ?_;intro a4 c4 W4 F5;simp only[List.set_cons_zero,qZ,Nat.zero_add] at F5;clear cs;have cs:=F5.c3 2 rfl;have F6:=F5.set 2 rfl 2 (.slice a4 0 c4));go_ret;exact⟨a4,u,0,c4,m,d,rfl,by rw[HS.o,hx.out,List.append_nil];exact HG.o,by rw[HS.o,hx.out];exact HQ.o,by rw[HS.o,hx.out,List.append_nil];exact F6⟩
  ·have n0:0<nk:=by have:=HQ.o;simp only[List.length_cons] at this;omega
   have l0:(0:Int)<(nk:Int):=jq;have hy:=HC.o y jv;have p0:=hy.1;have q0:=hy.2;clear hy;obtain⟨bA,oA,rfl,-⟩:=(HA.o _ (F.rdRow 2 rfl)).pair jv;have g:=YA (HA.o _ (F.rdRow 2 rfl));by_cases c0:y.2<=fk
   ·have HX:uH (yC fk (y::qk)=((yC (fk-y.2) qk).1,y.1::(yC (fk-y.2) qk).2.1,(yC (fk-y.2) qk).2.2)):=zd (by rw[yC,if_pos c0]);obtain⟨A',o0,f0⟩:=pY (HA.o _ (F.rdRow 2 rfl)) (by have:=HQ.o;simpa using this) a0;have k0:decide (y.2<=fk)=true:=xK c0;have j0:=zd f0;clear f0
    go_quiet (fail)
    obtain⟨wq,b0,F1⟩:=(F.drewN nq).named;rw[<-b0];clear b0 cs F g;have cs:=F1.c3 1 rfl;have g:=YA (HA.o _ (F1.rdRow 2 rfl));have e0:=h0.1;have e1:=h0.2;go_wp2;go_still_tail 12,(by kernel_rfl)
    have F2:=(F1.set 1 rfl 0 (uy (fk-y.2))).drew;go_upto_region 4 with fail;obtain⟨w4,hw,F3⟩:=F2.named;rw[<-hw];clear hw cs g F1 F2;have F4:=F3.alloc #[uy y.1] 3;have cs:=F3.c3 1 rfl;have g:=YA (HA.o _ (F3.rdRow 2 rfl));go_wp2_with (at_builtin;refine F4.appI 1 rfl _ _ rfl rfl rfl [y.1] rfl rfl (Rd.of_blk (F4.blk 0 rfl)) jq ?_;intro a4 c4 W4 F5;simp only[List.set_cons_succ,List.set_cons_zero] at F5;clear cs g;have cs:=F5.c3 2 rfl;have F6:=F5.set 2 rfl 2 (.slice A' (nk-1) (ck-1)))
    go_roundw
    case rel=>exact⟨A',a4,nk-1,ck-1,m+1,c4,fk-y.2,g0++[y.1],qk,rfl,by rw[xp,HG.o];rfl,by have:=HQ.o;simp only[List.length_cons] at this;omega,jq,jq,jq,zd (by rw[HS.o,HX.o];simp),zd (λz hz=>HC.o z (by simp[hz])),zd (λW h=>j0.out W (HA.o W h)),by rw[xy];exact F6.sub (.cons _ (.refl _))⟩
    case measure=>show 6-(m+1)<6-m;omega
   ·have hx:uH (yC fk (y::qk)=(fk,[],y::qk)):=zd (by rw[yC,if_neg c0]);have k0:decide (y.2<=fk)=false:=xr c0
    go_quiet (fail)
    obtain⟨wq,b0,F1⟩:=(F.drewN nq).named;rw[<-b0];clear b0 cs F;have F:=F1;have cs:=F.c3 1 rfl;go_wp2_with (at_builtin;refine(F.nil _ 2).appW 0 rfl _ _ rfl rfl rfl (y::qk) rfl HQ.o (HA.o _ (F.rdRow 2 rfl)) jq ?_;intro a4 c4 W4 F5;simp only[List.set_cons_zero,qZ,Nat.zero_add] at F5;clear cs;have cs:=F5.c3 2 rfl;have F6:=F5.set 2 rfl 2 (.slice a4 nk c4));go_ret;exact⟨a4,u,nk,c4,m,d,rfl,by rw[HS.o,hx.out,List.append_nil];exact HG.o,by rw[HS.o,hx.out];exact HQ.o,by rw[HS.o,hx.out,List.append_nil];exact F6⟩
theorem KN (x:xS) (a:uQ) (n c:Nat) (m:Int) (w:World) (hl:x.queue.length=n) (hr:Rd w a (zK x.queue)) (ok:Xb x) (hm:1<=m/\m<=9):
  Calls Tryz.prog 57 #[.agg #[uy x.free,uy x.limit,.slice a n c],uy m] w λe w'=>∃(y:xS) (s u:zP) (l:List Int) (b:Bool),qP x m=(if b=true then some (y,l) else none)/\e= .returned (.tuple #[UM y s,u.val,.bool b])/\yy w w' s (zK y.queue) y.queue.length/\w'.ownsRow w.heap.size 3 1 u.val u.n (zf l)/\(zK y.queue=[]\/∀q,zj s.a=some q->zj u.a≠some q)/\xW w w':=by
 have h6:n<=6:=by rw[<-hl];simpa using ok.2.2.2.1.1
 have HL:=zd hl;have HR:=zd hr;have a0:=zd ok;have f1:=ok.2.1.1;have f2:=ok.2.1.2;have f3:=ok.1.2;have d0:=hm.1;have f0:=hm.2;have F:=((Fr.start w).alloc #[uy x.free,uy x.limit,.slice a n c] 74).alloc #[uy 0,uy 0,uk] 74;simp only[yY] at F;have cs:=F.c3 1 rfl;clear hl hr ok hm;go_enter Tryz.func57,Tryz.ntmps57;go_wp2_with fail;refine(Y6 x a n c _ HL.o (F.rd HR.o) a0.out).mono ?_;rintro e w1 ⟨rfl,hb⟩;replace F:=F.call hb;replace cs:=F.c3 1 rfl;clear hb;by_cases b0:m<=x.limit-x.free
 ·have HV:uH (qP x m=some (⟨(yC (x.free+m) x.queue).1,x.limit,(yC (x.free+m) x.queue).2.2⟩,(yC (x.free+m) x.queue).2.1)):=zd (by unfold qP;rw[if_pos b0]);go_wp2_with fail;refine(ue x a n c _ HL.o jq (F.rd HR.o)).mono ?_;rintro e w2 ⟨a2,c2,rfl,ho,hb⟩;have F2:=F.row hb ho;replace cs:=F2.c3 2 rfl;have F3:=((F2.set3 2 rfl (uy x.free) (uy x.limit) (.slice a2 n c2)).set 2 rfl 0 (uy (x.free+m))).pull 2 rfl;clear F hb ho;go_wp2_with fail;refine(gQ w _ w.heap.size n c2 (x.free+m) x.limit a2 x.queue _ (F3.perm (.cons _ (.refl _))) HL.o h6 jq (λy hy=>by have h1:=(a0.out.2.2.1 y hy);omega)).mono ?_;rintro e w4 ⟨a',u,n',c',k,d,rfl,hk,c0,F4⟩;have HK:=zd hk;have HN:=zd c0;obtain⟨fr,hfr⟩:=jy ((yC (x.free+m) x.queue).1);rw[<-hfr] at F4 HV;clear hfr hk c0 cs F2 F3;have cs:=F4.c3 2 rfl;have cr:=F4.c3 4 rfl;have F5:=F4.set3 4 rfl (uy fr) (uy x.limit) (.slice a' n' c');go_wp2;refine zM (v:= .tuple #[.agg #[uy fr,uy x.limit,.slice a' n' c'],.slice u k d,.bool true]) (by simp[results,Tryz.results57,go_sem,F5.c3 4 rfl]) rfl ⟨_,⟨a',n',c'⟩,⟨u,k,d⟩,_,true,HV.o,rfl,?_,F5.own 1 rfl,.inr λq h1 h2=>F5.apart 0 1 rfl rfl jk q (by simp[It.foot,h1]) (by simp[It.foot,h2]),F5.bel⟩;exact HN.o▸F5.sln 0 rfl
 ·have HV:uH (qP x m=none):=zd (by unfold qP;rw[if_neg b0]);have F5:=F.set3 0 rfl (uy 0) (uy 0) uk;have cr:=F.c3 0 rfl;go_wp2;exact zM (v:= .tuple #[.agg #[uy 0,uy 0,uk],uk,.bool false]) (by simp[results,Tryz.results57,go_sem,F5.c3 0 rfl]) rfl ⟨yi,zR,zR,[],false,HV.o,rfl,yy.nil _ _,jf _ _ _ _,.inl rfl,F5.bel⟩
theorem KX (x:xi) (ai al ag:uQ) (ni ci nl cl ng cg:Nat) (t:Int) (w:World) (h1:x.items.length=ni) (h2:x.senders.length=nl) (h3:x.getters.length=ng) (r1:Rd w ai (zf x.items)) (r2:Rd w al (zK x.senders)) (r3:Rd w ag (zf x.getters)) (ok:ZB x) (ht:0<=t/\t<6) (u0:t∉x.senders.map (·.1)) (t0:t∉x.getters):
  Calls Tryz.prog 64 #[.agg #[uy x.room,.slice ai ni ci,.slice al nl cl,.slice ag ng cg,.bool x.closed],uy t] w λe w'=>∃(y:xi) (s1 s2 s3 u:zP) (l:List Int) (val how:Int),xR x t=(y,val,how,l)/\e= .returned (.tuple #[US y s1 s2 s3,uy val,uy how,u.val,.bool true])/\yy w w' s1 (zf y.items) y.items.length/\yy w w' s2 (zK y.senders) y.senders.length/\yy w w' s3 (zf y.getters) y.getters.length/\w'.ownsRow w.heap.size 3 1 u.val u.n (zf l)/\xW w w':=by
 obtain⟨room,h0,n0,a0,b0⟩:=x;dsimp only at*;have T6:=zd ht;have HS:=zd u0;have HG:=zd t0;clear ht u0 t0;have OK:=zd ok;have h6:=ok.2.2.2.2.1.1;rw[xp,yG,h2,h3] at h6;have o1:=ok.1.1;have o2:=ok.1.2;have o3:(ni:Int)<=room:=by rw[<-h1];exact ok.2.1
 have j0:=zd h1;have i0:=zd h2;have f0:=zd h3;have F:=((Fr.start w).alloc #[uy room,.slice ai ni ci,.slice al nl cl,.slice ag ng cg,.bool b0] 98).alloc #[uy 0,uk,uk,uk,.bool false] 98;simp only[yY] at F;have cs:=F.c5 1 rfl;clear ok h1 h2 h3;go_enter Tryz.func64,Tryz.ntmps64;go_wp2_with fail;refine(ve ⟨room,h0,n0,a0,b0⟩ ai al ag ni ci nl cl ng cg _ j0.out i0.out f0.out (F.rd r1) (F.rd r2) (F.rd r3) OK.o).mono ?_;rintro e w1 ⟨rfl,hb⟩;replace F:=F.call hb;replace cs:=F.c5 1 rfl;clear hb;go_wp2_with fail;refine(jx t _ T6.o).mono ?_;rintro e wz ⟨rfl,hw⟩;obtain rfl:=hw;go_wp2_with fail;refine(ZI ⟨room,h0,n0,a0,b0⟩ ai al ag ni ci nl cl ng cg _ i0.out f0.out jq jq (F.rd r2) (F.rd r3)).mono ?_;rintro e w1 ⟨a3,c3,rfl,ho,hb⟩;have v0:=Rd.of_owns ho;replace F:=F.call hb;replace cs:=F.c5 1 rfl;clear hb ho;go_wp2_with fail;refine(jK a3 (nl+ng) c3 (n0.map (·.1)++a0) t _ (by rw[xp,yG,i0.out,f0.out]) (by unfold maxLen;omega) v0).mono ?_;rintro e wz ⟨rfl,hw⟩;obtain rfl:=hw;rw[vX (by rw[List.mem_append,not_or];exact⟨HS.o,HG.o⟩)];clear v0;go_wp2_with fail;refine(jN ⟨room,h0,n0,a0,b0⟩ ai al ag ni ci nl cl ng cg _ j0.out i0.out f0.out jq jq jq (F.rd r1) (F.rd r2) (F.rd r3)).mono ?_
 rintro e w2 ⟨bi,bs,bg,di,ds,dg,rfl,F'⟩;have F2:=F.join F';simp only[List.cons_append,qZ] at F2;replace cs:=F2.c5 4 rfl;have F3:=F2.set5 4 rfl (uy room) (.slice bi ni di) (.slice bs nl ds) (.slice bg ng dg) (.bool b0);clear F F' F2;go_upto_region 4 with fail;obtain⟨W3,hW,F⟩:=F3.named;rw[<-hW];clear hW F3 cs;have cs:=F.c5 4 rfl
 cases n0 with
 |cons l ls=>
  have D0:ls.length+1=nl:=i0.out;have k0:uH (ls.length=nl-1):=zd jq;have E0:(0:Int)<(nl:Int):=jq;obtain⟨y,ys,g0⟩:∃y ys,h0++[l.2]=y::ys:=List.exists_cons_of_ne_nil jv;have HV:uH (xR ⟨room,h0,l::ls,a0,b0⟩ t=(⟨room,ys,ls,a0,b0⟩,y,1,[l.1])):=zd (by
   cases h0 with
   |nil=>simp only[qZ,List.cons.injEq] at g0;obtain⟨rfl,rfl⟩:=g0;rfl
   |cons x xs=>simp only[List.cons_append,List.cons.injEq] at g0;obtain⟨rfl,rfl⟩:=g0;rfl)
  have p0:ys.length+1=ni+1:=by have:=congrArg List.length g0;rw[xp,j0.out] at this;simpa using this.symm
  have y0:=zd g0;have m0:=(yB (F.own 1 rfl)).1;obtain⟨AS,A0,s0,-⟩:=DJ (F.rdRow 1 rfl) (by show(zK ls).length+2=nl*2;rw[vZ];omega) m0;have x0:=zd s0;obtain⟨b,o,rfl,-⟩:=(F.rdRow 1 rfl).pair jv;have g:=YA (F.rdRow 1 rfl);clear g0 s0;go_wp2_with fail;apply xZ 8 [.k _,.k _,.k _,.k _,.k _,.k _,.k _,.r λdz uz wz=>(∃gz:Nat,uz= .slice (some ⟨gz,0,none⟩) 1 1/\wz.ownsRow W3.heap.size 3 1 (.slice (some ⟨gz,0,none⟩) 1 1) 1 (zf [l.2]))] ⟨λ_ _ _ _ hb ⟨g,e,h⟩=>⟨g,e,zl h hb⟩,trivial⟩ ?s1 ?e1
  case s1=>
   repeat' apply And.intro
   all_goals first|trivial|(intro ρ w1 hG hfr hd;obtain⟨fc,ff⟩:=xu hfr;have f2:=hfr (.tmp 2) rfl;have F1:=F.call hG;have cs:=F1.c5 4 rfl;have g:=YA (F1.rdRow 1 rfl);clear F1)
   exact yj;exact yI;exact yj;exact yI;exact yI;exact yI;exact yI
   ·obtain⟨d0,-⟩:=hd;have d0:ρ (.tmp 38)=_:=d0;refine zh (u:= .slice (some ⟨w1.heap.size,0,none⟩) 1 1) (w':=w1.alloc (.cells #[uy l.2] 3)) (by go_simp) ⟨zY,⟨_,rfl,zw (qi (cs:= #[uy l.2]) (m:=1) (zm.new _ _ _) yk rfl jk) hG.size⟩,yn,hG.alloc hG.size _⟩
  intro w2 hG;refine yv ?_;intro F0 B0;obtain⟨gz,rfl,ho⟩:=B0;have F4:=F.row hG ho;clear cs g hG ho F;have cs:=F4.c5 5 rfl;go_upto_region 7 with (at_builtin;refine F4.appI 3 rfl _ _ rfl rfl rfl [l.2] rfl rfl (F4.rdRow 0 rfl) jq ?_;intro bj dj W5 F5;simp only[List.set_cons_succ,List.set_cons_zero] at F5;rw[<-xy,y0.out] at F5;clear cs F4;have cs:=F5.c5 5 rfl;have g:=YA (F5.rdRow 2 rfl);have F6:=F5.set 5 rfl 1 (.slice bj (ni+1) dj))
  obtain⟨W7,hW,F7⟩:=F6.named;rw[<-hW];clear hW F5 F6 cs g;have cs:=F7.c5 5 rfl;have g:=YA (F7.rdRow 2 rfl);have F8:=F7.alloc #[uy l.1] 3;have z0:=F8.c5 6 rfl;have F9:=F8.set 6 rfl 2 (.slice AS (nl-1) (ds-1));clear F7;go_upto_region 9 with fail;obtain⟨W9,hW,F⟩:=F9.named;rw[<-hW];clear hW F9 cs g z0;have cs:=F.c5 6 rfl;have c0:=(yB (F.own 4 rfl)).1;obtain⟨AI,q0,l0,-⟩:=VT (F.rdRow 4 rfl) (by rw[yG];exact p0) c0;obtain⟨bI,oI,rfl,g'⟩:=(F.rdRow 4 rfl).int jv;have gI:=g' 0 jv;rw[Nat.add_zero,List.getD_cons_zero] at gI;have o0:=zd l0;have F6:=F.set 6 rfl 1 (.slice AI ni (dj-1));clear g' l0;go_wp2_with fail;refine(jN ⟨room,ys,ls,a0,b0⟩ AI AS bg ni (dj-1) (nl-1) (ds-1) ng dg _ (by show ys.length=ni;omega) k0.out f0.out jq jq jq (o0.out _ (F6.rdRow 4 rfl)) (x0.out _ (F6.rdRow 3 rfl)) (F6.rdRow 2 rfl)).mono ?_;rintro e w8 ⟨ei,es,eg,ki,ks,kg,rfl,F'⟩;have F7:=F6.join F';simp only[List.cons_append,qZ] at F7;have cr:=F7.c5 8 rfl;have F8:=F7.set5 8 rfl (uy room) (.slice ei ni ki) (.slice es (nl-1) ks) (.slice eg ng kg) (.bool b0);clear F' F6 F;go_wp2
  exact zM (v:= .tuple #[.agg #[uy room,.slice ei ni ki,.slice es (nl-1) ks,.slice eg ng kg,.bool b0],uy y,uy 1,.slice (some ⟨W7.heap.size,0,none⟩) 1 1,.bool true]) (by simp[results,Tryz.results64,go_sem,F8.c5 8 rfl]) rfl ⟨⟨room,ys,ls,a0,b0⟩,⟨ei,ni,ki⟩,⟨es,(nl-1),ks⟩,⟨eg,ng,kg⟩,(⟨some ⟨W7.heap.size,0,none⟩,1,1⟩:zP),[l.1],y,1,HV.o,rfl,by rw[show ys.length=ni by omega];exact F8.sln 2 rfl,by rw[k0.out];exact F8.sln 1 rfl,by rw[f0.out];exact F8.sln 0 rfl,tA F8 3 rfl,F8.bel⟩
 |nil=>
  obtain rfl:nl=0:=i0.out.symm
  cases h0 with
  |cons y ys=>
   have p0:ys.length+1=ni:=j0.out;have C0:(0:Int)<(ni:Int):=jq;have k0:uH (([]:List (Int×Int)).length=0):=zd rfl;have HV:uH (xR ⟨room,y::ys,[],a0,b0⟩ t=(⟨room,ys,[],a0,b0⟩,y,1,[])):=zd rfl;have c0:=(yB (F.own 2 rfl)).1;obtain⟨AI,q0,l0,-⟩:=VT (F.rdRow 2 rfl) (by rw[yG];exact p0) c0;obtain⟨bI,oI,rfl,g'⟩:=(F.rdRow 2 rfl).int jv;have gI:=g' 0 jv;rw[Nat.add_zero,List.getD_cons_zero] at gI;have o0:=zd l0;have F6:=F.set 4 rfl 1 (.slice AI (ni-1) (di-1));clear g' l0;go_wp2_with fail;refine(jN ⟨room,ys,[],a0,b0⟩ AI bs bg (ni-1) (di-1) 0 ds ng dg _ (by show ys.length=ni-1;omega) k0.out f0.out jq jq jq (o0.out _ (F6.rdRow 2 rfl)) (F6.rdRow 1 rfl) (F6.rdRow 0 rfl)).mono ?_;rintro e w8 ⟨ei,es,eg,ki,ks,kg,rfl,F'⟩;have F7:=F6.join F';simp only[List.cons_append,qZ] at F7;have cr:=F7.c5 6 rfl;have F8:=F7.set5 6 rfl (uy room) (.slice ei (ni-1) ki) (.slice es 0 ks) (.slice eg ng kg) (.bool b0);clear F' F6 F;go_wp2
   exact zM (v:= .tuple #[.agg #[uy room,.slice ei (ni-1) ki,.slice es 0 ks,.slice eg ng kg,.bool b0],uy y,uy 1,uk,.bool true]) (by simp[results,Tryz.results64,go_sem,F8.c5 6 rfl]) rfl ⟨⟨room,ys,[],a0,b0⟩,⟨ei,ni-1,ki⟩,⟨es,0,ks⟩,⟨eg,ng,kg⟩,zR,[],y,1,HV.o,rfl,by rw[show ys.length=ni-1 by omega];exact F8.sln 2 rfl,by rw[k0.out];exact F8.sln 1 rfl,by rw[f0.out];exact F8.sln 0 rfl,jf _ _ _ _,F8.bel⟩
  |nil=>
   obtain rfl:ni=0:=j0.out.symm
   cases b0
   ·have HV:uH (xR ⟨room,[],[],a0,false⟩ t=(⟨room,[],[],a0++[t],false⟩,0,0,[])):=zd rfl;have r0:uH ((a0++[t]).length=ng+1):=zd (by rw[xp,f0.out];rfl);have F4:=F.alloc #[uy t] 3;go_wp2_with (at_builtin;refine F4.appI 1 rfl _ _ rfl rfl rfl [t] rfl rfl (Rd.of_blk (F4.blk 0 rfl)) jq ?_;intro a4 c4 W4 F5;simp only[List.set_cons_succ,List.set_cons_zero] at F5;rw[<-xy] at F5;clear cs;have cs:=F5.c5 5 rfl;have F6:=F5.set 5 rfl 3 (.slice a4 (ng+1) c4));refine(jN ⟨room,[],[],a0++[t],false⟩ bi bs a4 0 di 0 ds (ng+1) c4 _ rfl rfl r0.out jq jq jq (F6.rdRow 3 rfl) (F6.rdRow 2 rfl) (F6.rdRow 1 rfl)).mono ?_;rintro e w8 ⟨ei,es,eg,ki,ks,kg,rfl,F'⟩;have F7:=F6.join F';simp only[List.cons_append,qZ] at F7;have cr:=F7.c5 7 rfl;have F8:=F7.set5 7 rfl (uy room) (.slice ei 0 ki) (.slice es 0 ks) (.slice eg (ng+1) kg) (.bool false);clear F' F6;go_wp2;exact zM (v:= .tuple #[.agg #[uy room,.slice ei 0 ki,.slice es 0 ks,.slice eg (ng+1) kg,.bool false],uy 0,uy 0,uk,.bool true]) (by simp[results,Tryz.results64,go_sem,F8.c5 7 rfl]) rfl ⟨⟨room,[],[],a0++[t],false⟩,⟨ei,0,ki⟩,⟨es,0,ks⟩,⟨eg,ng+1,kg⟩,zR,[],0,0,HV.o,rfl,F8.sln 2 rfl,F8.sln 1 rfl,by rw[r0.out];exact F8.sln 0 rfl,jf _ _ _ _,F8.bel⟩
   ·have HV:uH (xR ⟨room,[],[],a0,true⟩ t=(⟨room,[],[],a0,true⟩,0,2,[])):=zd rfl;have cr:=F.c5 3 rfl;have F8:=F.set5 3 rfl (uy room) (.slice bi 0 di) (.slice bs 0 ds) (.slice bg ng dg) (.bool true);go_wp2;exact zM (v:= .tuple #[.agg #[uy room,.slice bi 0 di,.slice bs 0 ds,.slice bg ng dg,.bool true],uy 0,uy 2,uk,.bool true]) (by simp[results,Tryz.results64,go_sem,F8.c5 3 rfl]) rfl ⟨⟨room,[],[],a0,true⟩,⟨bi,0,di⟩,⟨bs,0,ds⟩,⟨bg,ng,dg⟩,zR,[],0,2,HV.o,rfl,F8.sln 2 rfl,F8.sln 1 rfl,by rw[f0.out];exact F8.sln 0 rfl,jf _ _ _ _,F8.bel⟩
end Go.Proofs.YtfclolgfegdfjaaGreat
