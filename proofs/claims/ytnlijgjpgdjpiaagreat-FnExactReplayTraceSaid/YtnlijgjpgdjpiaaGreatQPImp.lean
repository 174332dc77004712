/- Part of a proof: IThr MDel ISem IOnce IGrp IBar IChan IClone IWait IWait2 IChan2 ISem2 IChan3. -/
import Derived.Test.YtnlijgjpgdjpiaaGreatQPMList
import Derived.Test.YtnlijgjpgdjpiaaGreatQPRk
import Derived.StillTailTactics
set_option maxRecDepth 100000
set_option maxHeartbeats 16000000
namespace Go.Proofs.YtnlijgjpgdjpiaaGreat
open Go.RowKit
theorem zaF (t:Int) (w:World) (h:0<=t/\t<6):Calls Tryz.prog 160 #[.int .i64 t] w λe w'=>e= .returned (.bool true)/\w'=w:=by
 have d1:decide (0<=t)=true:=xDk h.1;have d2:decide (t<6)=true:=xDk h.2;go_enter Tryz.func160,Tryz.ntmps160;go_wp2;go_ret;exact⟨rfl,rfl⟩
theorem zbz (t:Int) (w:World) (h:0<=t/\t<=99):Calls Tryz.prog 157 #[.int .i64 t] w λe w'=>e= .returned (.bool true)/\w'=w:=
 (zcS t w).mono λe w' ⟨h1,h2⟩=>⟨by rw[h1];simp[zbS,h.1,h.2],h2⟩
theorem zhv (l:List Int) (v:Value) (t:Int) (h:t∉l):mget (l.map λx=>(x,v)) t=none:=by
 rw[zfc];simpa using h
theorem zfN:∀(L:List (Int×Value)) (k:Int) (v:Value),k∉L.map Prod.fst->mput L k v=L++[(k,v)]
 |[],_,_,_=>rfl
 |(a,u)::r,k,v,h=>by
  simp only[List.map_cons,List.mem_cons,not_or] at h;simp only[mput,h.1,if_false,List.cons_append,zfN r k v h.2]
theorem zjk (w:World):(zeroValue 4).run Tryz.prog w= .ok (.bool false) w:=by kernel_rfl
theorem zeH (l:List Int) (k:Nat) (hk:k<l.length):l.take (k+1)=l.take k++[l.getD k 0]:=by
 rw[List.take_add_one,xDb hk];simp[List.getD,hk]
theorem zgP {l:List Int} (h:l.Nodup) {k:Nat} (hk:k<l.length):l.getD k 0∉l.take k:=by
 intro hm;obtain⟨j,hj,e⟩:=List.getElem_of_mem hm;simp only[xDp] at hj;have:=zdY h (i:=k) (k:=j) hk (by omega);apply this;rw[<-e];simp[List.getD,show j<l.length by omega]
theorem zbV (a:Option Addr) (n c:Nat) (l:List Int) (w:World) (hl:l.length=n) (hr:Rd w a (ints l)) (h6:thr6 l):
  Calls Tryz.prog 170 #[.slice a n c] w λe w'=>e= .returned (.bool true)/\xW w w':=by
 have hn:n<=6:=by rw[<-hl];exact h6.1
 have HL:=xH1 hl;have H6:=xH1 h6;clear hl h6;have hmm:= @run_makeMap Tryz.prog;go_enter Tryz.func170,Tryz.ntmps170;go_wp2
 go_loopw [9] (λi wr=>∃k:Nat,k<=n/\i= .int .i64 k/\MapI wr w.heap.size ((l.take k).map λx=>(x,.bool true))/\xW w wr) (λi _=>n-(intOf i).toNat)
 case atStart=>exact⟨0,by omega,rfl,MapI.made w,xA1⟩
 case round=>
  obtain⟨k,hk,rfl,hmap,hb⟩:=hrel;by_cases hlt:k<n
  ·obtain⟨b,o,rfl,hc⟩:=(hr.below hb).int (by have:=HL.out;omega);have g1:=hc k (by have:=HL.out;omega);obtain⟨x,hx⟩:∃x,x=l.getD k 0:=⟨_,rfl⟩
   rw[<-hx] at g1;have hnot:x∉l.take k:=by rw[hx];exact zgP H6.out.2.2 (by rw[HL.out];exact hlt)
   have hth:0<=x/\x<6:=H6.out.2.1 x (by rw[hx];exact zbl (by rw[HL.out];exact hlt));have htk:l.take (k+1)=l.take k++[x]:=by rw[hx];exact zeH l k (by rw[HL.out];exact hlt)
   have HT:=xH1 htk;have HN:=xH1 hnot;have HTH:=xH1 hth;clear hc hx htk hnot hth;go_wp2_with fail;refine(zaF x _ HTH.out).mono ?_;rintro e w' ⟨rfl,rfl⟩;have hlk:=zbZ (P:=Tryz.prog) Tryz.underlying199 Tryz.underlying3 zjk hmap x;rw[zhv _ _ _ HN.out] at hlk;replace hlk:(Instr.lookup 199 (.map (some w.heap.size)) (.int .i64 x) false).run Tryz.prog w'= .ok (.bool false) w':=hlk;go_wp2_with (at_mapUpdate;refine zcv rfl _ _ _ rfl Tryz.underlying199 Tryz.underlying3 rfl hmap rfl rfl ?_;intro w5 hm5 hg5 hs5)
   go_roundw
   case rel=>
    refine⟨k+1,by omega,by go_num,?_,hb.trans (zA hg5 hb.size (λq hq=>by cases hq;exact Nat.le_refl _))⟩;rw[HT.out,xDr];rw[zfN _ _ _ (by rw[List.map_map,show(Prod.fst∘λx:Int=>(x,Value.bool true))=id from rfl,List.map_id];exact HN.out)] at hm5;exact hm5
   case measure=>simp[intOf];omega
  ·have hkm:k=n:=(by omega);subst hkm;go_wp2;go_ret;exact⟨rfl,hb⟩
theorem zhB (a:Option Addr) (n c:Nat) (l:List Int) (t:Int) (w:World) (hl:l.length=n) (hn:n<=maxLen) (hr:Rd w a (ints l)):
  Calls Tryz.prog 159 #[.slice a n c,.int .i64 t] w λe w'=>e= .returned (.int .i64 (zay l t))/\w'=w:=by
 unfold maxLen at hn;have HL:=xH1 hl;clear hl;go_enter Tryz.func159,Tryz.ntmps159;go_wp2
 go_loopw [8] (λi wr=>∃k:Nat,k<=n/\i= .int .i64 k/\Hid (∀j,j<k->l.getD j 0≠t)/\wr=w) (λi _=>n-(intOf i).toNat)
 case atStart=>exact⟨0,by omega,rfl,xH1 (by omega),rfl⟩
 case round=>
  obtain⟨k,hk,rfl,hall,rfl⟩:=hrel;by_cases hlt:k<n
  ·obtain⟨b,o,rfl,hc⟩:=hr.int (by have:=HL.out;omega);have g:=hc k (by have:=HL.out;omega);obtain⟨x,hx⟩:∃x,x=l.getD k 0:=⟨_,rfl⟩
   rw[<-hx] at g;have HX:=xH1 hx;clear hc hx;by_cases e:x=t
   ·have t1:(t==x)=true:=(by simpa using e.symm);have HF:Hid (zay l t=k):=xH1 (zeh (by have:=HL.out;omega) (by rw[<-HX.out];exact e) (λj hj=>hall.out j hj));clear e;go_wp2;go_ret;exact⟨zds HF.out.symm,rfl⟩
   ·have t1:(t==x)=false:=(by simpa using λh:t=x=>e h.symm);have HE:=xH1 e;clear e;go_wp2
    go_roundw
    case rel=>exact⟨k+1,by omega,by go_num,xH1 (λj hj=>by
      rcases Nat.lt_or_ge j k with h|h
      ·exact hall.out j h
      ·have:j=k:=(by omega);subst this;rw[<-HX.out];exact HE.out),trivial⟩
    case measure=>simp[intOf];omega
  ·have hkm:k=n:=(by omega);subst hkm;have HF:Hid (zay l t= -1):=xH1 (zdt (λj hj=>hall.out j (by have:=HL.out;omega)));go_wp2;go_ret;exact⟨zds HF.out.symm,rfl⟩
theorem zaP (a:Option Addr) (n c:Nat) (l:List Int) (t:Int) (w:World) (hl:l.length=n) (hn:n<=maxLen) (hr:Rd w a (ints l)):
  Calls Tryz.prog 106 #[.slice a n c,.int .i64 t] w λe w'=>e= .returned (.bool (decide (0<=zay l t)))/\w'=w:=by
 go_enter Tryz.func106,Tryz.ntmps106;go_wp2_with fail;refine(zhB a n c l t w hl hn hr).mono ?_;rintro e w' ⟨rfl,rfl⟩;go_wp2;go_ret;exact⟨rfl,rfl⟩
theorem zbI {l:List Int} {t:Int} (h:t∉l):decide (0<=zay l t)=false:=by rw[zcb h];rfl
theorem ziv {l:List Int} {t:Int} (h:t∈l):decide (0<=zay l t)=true:=xDk (zcx h).1
theorem zgc:∀(L:List (Int×Value)) (k:Int) (i j:Nat) (v:Value),zbg L k i=some (j,v)->i<=j/\mdel L k=L.eraseIdx (j-i)
 |[],k,i,j,v,h=>by simp[zbg] at h
 |(a,u)::r,k,i,j,v,h=>by
  by_cases e:k=a
  ·simp only[zbg,e,if_true,xDn,Prod.mk.injEq] at h;obtain⟨rfl,rfl⟩:=h;simp[mdel,e]
  ·simp only[zbg,e,if_false] at h;obtain⟨h1,h2⟩:=zgc r k (i+1) j v h;refine⟨by omega,?_⟩;rw[show j-i=(j-(i+1))+1 by omega];simp[mdel,e,h2]
theorem zg9:∀(L:List (Int×Value)) (k:Int) (i:Nat),zbg L k i=none->mdel L k=L
 |[],_,_,_=>rfl
 |(a,u)::r,k,i,h=>by
  by_cases e:k=a
  ·simp[zbg,e] at h
  ·simp only[zbg,e,if_false] at h;simp[mdel,e,zg9 r k (i+1) h]
theorem zfJ:∀(L:List (Int×Value)) (k:Int),(L.map Prod.fst).Nodup->mdel L k=L.filter λe=>decide (e.1≠k)
 |[],_,_=>rfl
 |(a,u)::r,k,h=>by
  simp only[List.map_cons,List.nodup_cons] at h;by_cases e:k=a
  ·subst e;have h2:r.filter (λe=>decide (e.1≠k))=r:=List.filter_eq_self.2 λx hx=>xDk λhh=>h.1 (hh▸xDl.2 ⟨x,hx,rfl⟩);simp only[mdel,if_true,List.filter_cons,ne_eq,not_true_eq_false,decide_false,Bool.false_eq_true,if_false];exact h2.symm
  ·have h3:¬a=k:=λhh=>e hh.symm;simp only[mdel,e,if_false,List.filter_cons,ne_eq,h3,not_false_eq_true,decide_true,if_true,zfJ r k h.2]
section
variable {P:Program} {w:World} {B:Nat} {L:List (Int×Value)}
theorem zcz {α β:Type} (f:α->β):∀(l:List α) (j:Nat),(l.eraseIdx j).map f=(l.map f).eraseIdx j
 |[],_=>rfl
 |_::_,0=>rfl
 |a::l,j+1=>by simp[zcz f l j]
theorem zgk {T K E:TypeId} {q:IntKind} (ty:TypeId) (hT:P.underlying T=some (.map K E)) (hK:P.underlying K=some (.int q)) (h:MapI w B L) (k:Int):
  ∃w',(Builtin.delete_ #[T,K] ty #[.map (some B),.int .i64 k]).run P w= .ok (.tuple #[]) w'/\MapI w' B (mdel L k)/\w.grownBy w' (some B)/\w'.heap.size=w.heap.size:=by
 have hlt:=h.lt;obtain⟨es,clock,hb,he,hnd,hbn,hcl⟩:=h;have hf:=zd1 q k es.toList L 0 he
 cases hm:zbg L k 0 with
 |none=>
  rw[hm] at hf;refine⟨World.setMap w B (.map es clock),?_,?_,zdl _ _ _,zdA _ _ _⟩
  ·simp[Builtin.delete_,Sem.run_bind,run_underlying hT,getObj,setObj,Sem.run,hb,zbr _ 9999 K q hK,Instr.findKey,run_underlying hK,hf,World.setMap,Result.andThen]
  ·rw[zg9 L k 0 hm];exact⟨_,_,zeu _ _ _ hlt,he,hnd,hbn,hcl⟩
 |some p=>
  obtain⟨j,u⟩:=p;rw[hm] at hf;obtain⟨_,h3⟩:=zgc L k 0 j u hm;rw[Nat.sub_zero] at h3;refine⟨World.setMap w B (.map (es.eraseIdxIfInBounds j) clock),?_,?_,zdl _ _ _,zdA _ _ _⟩
  ·simp[Builtin.delete_,Sem.run_bind,run_underlying hT,getObj,setObj,Sem.run,hb,zbr _ 9999 K q hK,Instr.findKey,run_underlying hK,hf,World.setMap,Result.andThen]
  ·have hl:(es.eraseIdxIfInBounds j).toList=es.toList.eraseIdx j:=(by simp);refine⟨_,_,zeu _ _ _ hlt,?_,?_,?_,?_⟩
   ·rw[hl,h3,zcz,zcz,he]
   ·rw[h3,zcz];exact hnd.sublist (List.eraseIdx_sublist _ _)
   ·rw[hl,zcz];exact hbn.sublist (List.eraseIdx_sublist _ _)
   ·rw[hl];exact λe hm'=>hcl e (List.mem_of_mem_eraseIdx hm')
end
section
variable {P:Program} {w:World} {ops:Array Oper} {rest:List Oper} {o:Oper} {a:Act} {Q:Exit->Act->World->Prop} {B:Nat} {L:List (Int×Value)} {T K E:TypeId} {q:IntKind}
theorem zfa (hg:o.guard=none) (m x:Operand) (hop:o.op=Op.call {callee:=Callee.builtin Builtin.delete,args:= #[m,x],argTypes:= #[T,K]}) (hT:P.underlying T=some (.map K E)) (hK:P.underlying K=some (.int q))
  (hm:a.eval m= .map (some B)) (hown:MapI w B L) {k:Int} (hx:a.eval x= .int .i64 k)
  (h:∀w',MapI w' B (mdel L k)->w.grownBy w' (some B)->w'.heap.size=w.heap.size->wpList P ops Q rest (a.put o.dst (.tuple #[])) w'):wpList P ops Q (o::rest) a w:=by
 refine wpList_plain hg λK' hK''=> ?_;obtain⟨w',hrun,h1,h2,h3⟩:=zgk (P:=P) o.type hT hK hown k;unfold Oper.wp;simp[execOp,hop,resolve,invoke,builtin,hm,hx,hrun,Result.andThen];exact hK'' _ _ (h w' h1 h2 h3)
end
def WMap {α:Type} (f:α->List Value) (W:World) (B:Nat) (es:List (Int×α)):Prop:=
 ∃Z:List ((Int×α)×Option Addr×Nat),Z.map (·.1)=es/\MapI W B (Z.map λz=>(z.1.1,.slice z.2.1 1 z.2.2))/\∀z∈Z,Rd W z.2.1 (f z.1.2)/\1<=z.2.2
theorem zer {W:World} {B:Nat} {L:List (Int×Value)} (h:MapI W B L) {a:Option Addr} {cs:List Value} (hr:Rd W a cs) (hne:cs≠[]):∀b,ze a=some b->b≠B:=by
 intro b hb e;subst e;obtain⟨es,clock,hB,_⟩:=h;rcases hr with h0|⟨b',o,rfl,hc⟩
 ·exact hne h0
 ·obtain rfl:b'=b:=by simpa[ze] using hb
  have:=hc 0 (List.length_pos_iff.2 hne);unfold World.cell? at this;simp[hB] at this
section
variable {α:Type} {f:α->List Value} {W W':World} {B:Nat} {es:List (Int×α)}
theorem WMap.made (W:World):WMap f (W.alloc (.map #[] 0)) W.heap.size []:=⟨[],rfl,MapI.made W,by simp⟩
theorem WMap.below (h:WMap f W B es) (hb:xW W W'):WMap f W' B es:=by
 obtain⟨Z,h1,h2,h3⟩:=h;exact⟨Z,h1,h2.below hb,λz hz=>⟨(h3 z hz).1.below hb,(h3 z hz).2⟩⟩
theorem WMap.grown (h:WMap f W B es) {g:Nat} (hg:W.grownBy W' (some g)) (hne:g≠B) (hr:∀x,f x≠[]) {L:List (Int×Value)} (hm:MapI W g L):WMap f W' B es:=by
 obtain⟨Z,h1,h2,h3⟩:=h;refine⟨Z,h1,h2.grown hg (λe=>hne (by simpa using e)),λz hz=>⟨(h3 z hz).1.grown hg (.inr λe=> ?_),(h3 z hz).2⟩⟩;exact zer hm (h3 z hz).1 (hr _) g e rfl
theorem WMap.put {Z:List ((Int×α)×Option Addr×Nat)} (h1:Z.map (·.1)=es) (h2:MapI W B (Z.map λz=>(z.1.1,.slice z.2.1 1 z.2.2))) (h3:∀z∈Z,Rd W z.2.1 (f z.1.2)/\1<=z.2.2) {t:Int} {x:α} (ht:t∉es.map (·.1)) {a:Option Addr} {c:Nat} (hr:Rd W a (f x)) (hc:1<=c) (hf:∀x,f x≠[]) (hg:W.grownBy W' (some B)) (h4:MapI W' B (mput (Z.map λz=>(z.1.1,.slice z.2.1 1 z.2.2)) t (.slice a 1 c))):WMap f W' B (es++[(t,x)]):=by
 have hk:t∉(Z.map λz=>(z.1.1,Value.slice z.2.1 1 z.2.2)).map Prod.fst:=by
  rw[List.map_map];intro hm';apply ht;rw[<-h1,List.map_map];exact hm'
 rw[zfN _ _ _ hk] at h4;refine⟨Z++[((t,x),a,c)],by rw[xDr,h1];rfl,by rw[xDr];exact h4,λz hz=> ?_⟩;have key:∀{a':Option Addr} {y:α},Rd W a' (f y)->Rd W' a' (f y):=λhr'=>hr'.grown hg (.inr λe=>zer h2 hr' (hf _) B e rfl);rcases xP1 hz with hz|hz
 ·exact⟨key (h3 z hz).1,(h3 z hz).2⟩
 ·obtain rfl:=xS1 hz;exact⟨key hr,hc⟩
theorem WMap.absent {Z:List ((Int×α)×Option Addr×Nat)} (h1:Z.map (·.1)=es) {t:Int} (ht:t∉es.map (·.1)):mget (Z.map λz=>(z.1.1,Value.slice z.2.1 1 z.2.2)) t=none:=by
 rw[zfc,List.map_map];intro hm';apply ht;rw[<-h1,List.map_map];exact hm'
end
theorem zbO (x:SemD) (a:Option Addr) (n c:Nat) (w:World) (hl:x.queue.length=n) (hn:n<=1048576) (hr:Rd w a (zt x.queue)):
  Calls Tryz.prog 102 #[.agg #[.int .i64 x.free,.int .i64 x.limit,.slice a n c]] w λe w'=>∃(a':Option Addr) (c':Nat),e= .returned (.agg #[.int .i64 x.free,.int .i64 x.limit,.slice a' n c'])/\w'.ownsRow w.heap.size 167 2 (.slice a' n c') n (zt x.queue)/\xW w w':=by
 have HL:=xH1 hl;have F:=((Fr.start w).alloc #[.int .i64 x.free,.int .i64 x.limit,.slice a n c] 74).alloc #[.int .i64 0,.int .i64 0,.slice none 0 0] 74;simp only[xDe] at F;have q0:=F.cell 1 0 rfl rfl;have q1:=F.cell 1 1 rfl rfl;have q2:=F.cell 1 2 rfl rfl;have HR:=xH1 hr;clear hl hr;go_enter Tryz.func102,Tryz.ntmps102;go_wp2_with (at_builtin;refine(F.nil _ 2).appW 0 rfl _ _ rfl rfl rfl x.queue rfl HL.out (F.rd HR.out) (by omega) ?_;intro a1 c1 W1 F1;clear F q0 q1 q2;simp only[List.set_cons_zero,xDq,Nat.zero_add] at F1;have q:=F1.c3 2 rfl;have r:=F1.c3 1 rfl);have F2:=(F1.set 2 rfl 2 (.slice a1 n c1)).set3 1 rfl (.int .i64 x.free) (.int .i64 x.limit) (.slice a1 n c1);exact xDd (v:= .agg #[.int .i64 x.free,.int .i64 x.limit,.slice a1 n c1]) (by simp[results,Tryz.results102,go_sem,F2.c3 1 rfl]) rfl ⟨a1,c1,rfl,F2.own 0 rfl,F2.bel⟩
theorem zbF {w w6:World} (hw6:∃p:Regrown,w6=Go.Sort.grow (redrawn w p.d) p.os):xW w w6:=by
 obtain⟨p,rfl⟩:=hw6;exact below_regrown _ _ _
theorem zeG (l:List (Int×Int)) (k:Nat) (hk:k<l.length):(l.take (k+1)).map (·.1)=(l.take k).map (·.1)++[(l.getD k (0,0)).1]:=by
 rw[List.take_add_one,xDb hk,xDr];simp[List.getD,hk]
theorem zdb (x:SemD) (a:Option Addr) (n c:Nat) (w:World) (hl:x.queue.length=n) (hr:Rd w a (zt x.queue)) (ok:zdg x):
  Calls Tryz.prog 152 #[.agg #[.int .i64 x.free,.int .i64 x.limit,.slice a n c]] w λe w'=>e= .returned (.bool true)/\xW w w':=by
 obtain⟨f,lim,q⟩:=x;obtain⟨⟨l1,l2⟩,⟨f1,f2⟩,hc,ht,hf⟩:=ok;dsimp only at*;have hn:n<=6:=by rw[<-hl];simpa using ht.1
 have HL:=xH1 hl;have HC:=xH1 hc;have HT:=xH1 ht;have HF:=xH1 hf;have HR:=xH1 hr;have F:=(Fr.start w).alloc #[.int .i64 f,.int .i64 lim,.slice a n c] 74;have cs:=F.c3 0 rfl;clear hl hc ht hf hr;go_enter Tryz.func152,Tryz.ntmps152;go_wp2;clear cs
 go_loopw [35,3] (λi th wr=>∃(k:Nat) (a3:Option Addr) (c3:Nat),k<=n/\i= .int .i64 k/\th= .slice a3 k c3/\Fr w wr [.row a3 k c3 3 1 (ints ((q.take k).map (·.1))),.blk w.heap.size #[.int .i64 f,.int .i64 lim,.slice a n c] 74]) (λi _ _=>n-(intOf i).toNat)
 case atStart=>exact⟨0,none,0,by omega,rfl,rfl,F.nil _ _⟩
 case round=>
  obtain⟨k,a3,c3,hk,rfl,rfl,F1⟩:=hrel;by_cases hlt:k<n
  ·obtain⟨b,o,rfl,g'⟩:=(F1.rd HR.out).pair (by have:=HL.out;omega);obtain⟨g1,g2⟩:=g' k (by have:=HL.out;omega);obtain⟨y,hy⟩:∃y,y=q.getD k (0,0):=⟨_,rfl⟩
   rw[<-hy] at g1 g2;have hm:=HC.out y (by rw[hy];exact zbl (by have:=HL.out;omega));have HM:Hid ((q.take (k+1)).map (·.1)=(q.take k).map (·.1)++[y.1]):=xH1 (by rw[hy];exact zeG q k (by have:=HL.out;omega));have hm1:=hm.1;have hm2:=hm.2;have F2:=F1.alloc #[.int .i64 y.1,.int .i64 y.2] 167;have cy:=F2.c2 0 rfl;have cs:=F2.c3 2 rfl;have F3:=F2.alloc #[.int .i64 y.1] 3;simp only[xDe] at F3;clear g' hy hm;go_wp2_with (at_builtin;refine F3.appI 2 rfl _ _ rfl rfl rfl [y.1] rfl rfl (Rd.of_blk (F3.blk 0 rfl)) (by omega) ?_;intro a4 c4 W4 F4)
   go_roundw
   case rel=>exact⟨k+1,a4,c4,by omega,by go_num,rfl,by rw[HM.out,zaw];exact F4.sub (by simp)⟩
   case measure=>simp[intOf];omega
  ·have hkm:k=n:=(by omega);subst hkm;rw[xDt (by have:=HL.out;omega)] at F1;have cs:=F1.c3 1 rfl;go_wp2_with fail;have hcl:=λd os=>Calls.regrown_of (zbV a3 k c3 _ (Sort.grow (redrawn wr d) os) (by rw[xDf];exact HL.out) ((F1.rdRow 0 rfl).below (below_regrown _ d os)) HT.out);have HCL:=xH1 hcl;clear hcl;by_cases hn0:k=0
   ·subst hn0;have rc:=λd os=>cell_regrown cs.2.2.2.2.1 d os;clear cs;refine wp_region_quiet_below (by kernel_rfl) (by kernel_rfl) ?_
    repeat (go_big_quiet_step (with_reducible exact HCL.out _ _))
    refine wpQuiet_nil ?_;intro w6 hw6;have hb:=F1.bel.trans ((zbF hw6).mono F1.bel.size);clear hw6;go_wp2;go_ret;exact⟨rfl,hb⟩
   ·obtain⟨b,o,rfl,g'⟩:=(F1.rd HR.out).pair (by have:=HL.out;omega);have g2:=(g' 0 (by have:=HL.out;omega)).2;obtain⟨y,u,hy⟩:∃y u,q=y::u:=List.exists_cons_of_length_pos (by have:=HL.out;omega);have hlt:=HF.out y u hy;rw[hy,show((y::u).getD 0 (0,0)).2=y.2 from rfl,Nat.zero_mul,Nat.add_zero] at g2;have hz:((k:Int)==0)=false:=(by simpa using hn0);have hk0:(0:Int)<(k:Int):=(by omega);have rc:=λd os=>cell_regrown cs.2.2.2.2.1 d os;have rc0:=λd os=>cell_regrown cs.1 d os;have rg:=λd os=>cell_regrown g2 d os;clear cs g' hy;refine wp_region_quiet_below (by kernel_rfl) (by kernel_rfl) ?_
    repeat (go_big_quiet_step (with_reducible exact HCL.out _ _))
    refine wpQuiet_nil ?_;intro w6 hw6;have hb:=F1.bel.trans ((zbF hw6).mono F1.bel.size);clear hw6;go_wp2;go_ret;exact⟨rfl,hb⟩
theorem ziJ (g:Nat) (lb:Array Value) (a:Option Addr) (n c:Nat) (l:List (Int×Int)) (w:World) (eg:∀args w,(callFunc g args).run Tryz.prog w= .ok (.enter g args) w)
  (hl:l.length=n) (hn:n<=maxLen) (hr:Rd w a (zt l)) (hp:∀x∈l,∀w',xW w w'->Calls Tryz.prog g (#[.agg #[.int .i64 x.1,.int .i64 x.2]]++lb) w' λe w2=>e= .returned (.bool false)/\xW w' w2):
  Calls Tryz.prog 172 #[.slice a n c,.func (.func g) #[] lb] w λe w'=>e= .returned (.int .i64 (-1))/\xW w w':=by
 unfold maxLen at hn;have HL:=xH1 hl;have HP:=xH1 hp;clear hl hp;go_enter Tryz.func172,Tryz.ntmps172;go_wp2
 go_loopw [8] (λi wr=>∃k:Nat,k<=n/\i= .int .i64 k/\xW w wr) (λi _=>n-(intOf i).toNat)
 case atStart=>exact⟨0,by omega,rfl,Below.refl _ _⟩
 case round=>
  obtain⟨k,hk,rfl,hb⟩:=hrel;by_cases hlt:k<n
  ·obtain⟨b,o,rfl,hc⟩:=(hr.below hb).pair (by have:=HL.out;omega);obtain⟨g1,g2⟩:=hc k (by have:=HL.out;omega);obtain⟨x,hx⟩:∃x,x=l.getD k (0,0):=⟨_,rfl⟩
   rw[<-hx] at g1 g2;have HX:Hid (x∈l):=xH1 (by rw[hx];exact zbl (by have:=HL.out;omega));have HB:=xH1 hb;clear hc hx hb;go_wp2_with (go_at_fn g;refine(HP.out x HX.out _ HB.out).mono ?_;rintro e w2 ⟨rfl,hb2⟩)
   go_roundw
   case rel=>exact⟨k+1,by omega,by go_num,HB.out.trans (hb2.mono HB.out.size)⟩
   case measure=>simp[intOf];omega
  ·have hkm:k=n:=(by omega);subst hkm;go_wp2;go_ret;exact⟨rfl,hb⟩
theorem zjH (y:Int×Int) (t:Int) (b:Nat) (w:World) (h:w.cell? ⟨b,0,none⟩=some (.int .i64 t)) (hne:y.1≠t):
  Calls Tryz.prog 173 (#[.agg #[.int .i64 y.1,.int .i64 y.2]]++ #[.pointer (some ⟨b,0,none⟩)]) w λe w2=>e= .returned (.bool false)/\xW w w2:=by
 have t0:(y.1==t)=false:=by simpa using hne
 have F:=(Fr.start w).alloc #[.int .i64 y.1,.int .i64 y.2] 167;have cy:=F.c2 0 rfl;have ct:=zd F.bel h;clear hne;go_enter Tryz.func173,Tryz.ntmps173;go_wp2;go_ret;exact⟨rfl,F.bel⟩
theorem ziO (x:SemD) (a:Option Addr) (n c:Nat) (t:Int) (w:World) (hl:x.queue.length=n) (hn:n<=6) (hr:Rd w a (zt x.queue)) (hno:t∉x.queue.map (·.1)):
  Calls Tryz.prog 161 #[.agg #[.int .i64 x.free,.int .i64 x.limit,.slice a n c],.int .i64 t] w λe w'=>e= .returned (.int .i64 (-1))/\xW w w':=by
 have hmf:∀(fn:Fn) (first cap:Array Value) (w:World),(Instr.makeFunc fn first cap).run Tryz.prog w= .ok (.func fn first cap) w:=λ_ _ _ _=>rfl;have F:=((Fr.start w).alloc #[.int .i64 x.free,.int .i64 x.limit,.slice a n c] 74).alloc #[.int .i64 t] 3;simp only[xDe] at F;have cs:=F.c3 1 rfl;have ct:=F.cell 0 0 rfl rfl;have HN:=xH1 hno;clear hno;go_enter Tryz.func161,Tryz.ntmps161;go_wp2_with fail;refine(ziJ 173 #[.pointer (some ⟨w.heap.size+1,0,none⟩)] a n c x.queue _ (enters_of Tryz.func173 (by kernel_rfl) rfl) hl (by unfold maxLen;omega) (F.rd hr) (λy hy w' hb=>zjH y t _ w' (zd hb ct) (λe=>HN.out (xDl.2 ⟨y,hy,e⟩)))).mono ?_;rintro e w1 ⟨rfl,hb⟩;have F1:=F.call hb;go_wp2;go_ret;exact⟨rfl,F1.bel⟩
theorem zgS (x:SemD) (a:Option Addr) (n c:Nat) (t m:Int) (w:World) (hl:x.queue.length=n) (hr:Rd w a (zt x.queue)) (ok:zdg x) (ht:0<=t/\t<6) (hm:1<=m/\m<=x.limit) (hno:t∉x.queue.map (·.1)):
  Calls Tryz.prog 110 #[.agg #[.int .i64 x.free,.int .i64 x.limit,.slice a n c],.int .i64 t,.int .i64 m] w λe w'=>∃(y:SemD) (s:SlV),y=(zaH x t m).1/\e= .returned (.tuple #[semV y s,.bool (zaH x t m).2,.bool true])/\SlN w w' s (zt y.queue) y.queue.length/\xW w w':=by
 have h6:n<=6:=by rw[<-hl];simpa using ok.2.2.2.1.1
 have HL:=xH1 hl;have HR:=xH1 hr;have HOK:=xH1 ok;have HT:=xH1 ht;have HN:=xH1 hno;have f1:=ok.2.1.1;have f2:=ok.2.1.2;have f3:=ok.1.2;have hm1:=hm.1;have hm2:=hm.2;have F:=((Fr.start w).alloc #[.int .i64 x.free,.int .i64 x.limit,.slice a n c] 74).alloc #[.int .i64 0,.int .i64 0,.slice none 0 0] 74;simp only[xDe] at F;have cs:=F.c3 1 rfl;clear hl hr ok ht hno hm;go_enter Tryz.func110,Tryz.ntmps110;go_wp2_with fail;refine(zdb x a n c _ HL.out (F.rd HR.out) HOK.out).mono ?_;rintro e w1 ⟨rfl,hb⟩;replace F:=F.call hb;replace cs:=F.c3 1 rfl;clear hb;go_wp2_with fail;refine(zaF t _ HT.out).mono ?_;rintro e w3 ⟨rfl,hw⟩;obtain rfl:=hw;go_wp2_with fail;refine(ziO x a n c t _ HL.out h6 (F.rd HR.out) HN.out).mono ?_;rintro e w1 ⟨rfl,hb⟩;replace F:=F.call hb;replace cs:=F.c3 1 rfl;clear hb;go_wp2_with fail;refine(zbO x a n c _ HL.out (by omega) (F.rd HR.out)).mono ?_;rintro e w2 ⟨a2,c2,rfl,ho,hb⟩;have F2:=F.row hb ho;have F3:=F2.set3 2 rfl (.int .i64 x.free) (.int .i64 x.limit) (.slice a2 n c2);replace cs:=F2.c3 2 rfl;clear F hb ho;go_upto_region 4 with fail;obtain⟨W3,hW,F4⟩:=F3.named;rw[<-hW];clear hW F3 F2 cs;have F3:=F4;have cs:=F3.c3 2 rfl;have cr:=F3.c3 1 rfl
 by_cases hif:x.queue=[]/\m<=x.free
 ·have hn0:n=0:=by rw[<-HL.out,hif.1];rfl
  have hmf:=hif.2;have HV:Hid (zaH x t m=(⟨x.free-m,x.limit,x.queue⟩,true)):=xH1 (by unfold zaH;rw[if_pos hif]);clear hif;subst hn0;have F5:=(F3.set 2 rfl 0 (.int .i64 (x.free-m))).set3 1 rfl (.int .i64 (x.free-m)) (.int .i64 x.limit) (.slice a2 0 c2);go_wp2;exact xDd (v:= .tuple #[.agg #[.int .i64 (x.free-m),.int .i64 x.limit,.slice a2 0 c2],.bool true,.bool true]) (by simp[results,Tryz.results110,go_sem,F5.c3 1 rfl]) rfl ⟨⟨x.free-m,x.limit,x.queue⟩,⟨a2,0,c2⟩,by rw[HV.out],by rw[HV.out],HL.out▸F5.sln 0 rfl,F5.bel⟩
 ·have HV:Hid (zaH x t m=(⟨x.free,x.limit,x.queue++[(t,m)]⟩,false)):=xH1 (by unfold zaH;rw[if_neg hif]);have hq0:n=0->decide (m<=x.free)=false:=λh0=>xDj (λhm=>hif ⟨List.eq_nil_of_length_eq_zero (by rw[HL.out];exact h0),hm⟩);clear hif;have F4:=F3.alloc #[.int .i64 t,.int .i64 m] 167;by_cases hn0:n=0
  ·have t1:=hq0 hn0;subst hn0;clear hq0;go_wp2_with (at_builtin;refine F4.appW 1 rfl _ _ rfl rfl rfl [(t,m)] rfl rfl (Rd.of_blk (F4.blk 0 rfl)) (by omega) ?_;intro a4 c4 W4 F5;simp only[List.set_cons_succ,List.set_cons_zero] at F5;rw[<-zes] at F5;clear cs cr;have cs:=F5.c3 3 rfl;have F6:=F5.set 3 rfl 2 (.slice a4 (0+1) c4));refine(zbO ⟨x.free,x.limit,x.queue++[(t,m)]⟩ a4 (0+1) c4 _ (by rw[xDh,HL.out];rfl) (by omega) (F6.rdRow 1 rfl)).mono ?_;rintro e w7 ⟨a5,c5,rfl,ho,hb⟩;have F7:=F6.row hb ho;have cr:=F7.c3 3 rfl;have F8:=F7.set3 3 rfl (.int .i64 x.free) (.int .i64 x.limit) (.slice a5 (0+1) c5);clear hb ho;go_wp2;exact xDd (v:= .tuple #[.agg #[.int .i64 x.free,.int .i64 x.limit,.slice a5 (0+1) c5],.bool false,.bool true]) (by simp[results,Tryz.results110,go_sem,F8.c3 3 rfl]) rfl ⟨⟨x.free,x.limit,x.queue++[(t,m)]⟩,⟨a5,(0+1),c5⟩,by rw[HV.out],by rw[HV.out],by rw[xDh,HL.out];exact F8.sln 0 rfl,F8.bel⟩
  ·have t0:((n:Int)==0)=false:=(by simpa using hn0);clear hq0;go_wp2_with (at_builtin;refine F4.appW 1 rfl _ _ rfl rfl rfl [(t,m)] rfl rfl (Rd.of_blk (F4.blk 0 rfl)) (by omega) ?_;intro a4 c4 W4 F5;simp only[List.set_cons_succ,List.set_cons_zero] at F5;rw[<-zes] at F5;clear cs cr;have cs:=F5.c3 3 rfl;have F6:=F5.set 3 rfl 2 (.slice a4 (n+1) c4));refine(zbO ⟨x.free,x.limit,x.queue++[(t,m)]⟩ a4 (n+1) c4 _ (by rw[xDh,HL.out];rfl) (by omega) (F6.rdRow 1 rfl)).mono ?_;rintro e w7 ⟨a5,c5,rfl,ho,hb⟩;have F7:=F6.row hb ho;have cr:=F7.c3 3 rfl;have F8:=F7.set3 3 rfl (.int .i64 x.free) (.int .i64 x.limit) (.slice a5 (n+1) c5);clear hb ho;go_wp2;exact xDd (v:= .tuple #[.agg #[.int .i64 x.free,.int .i64 x.limit,.slice a5 (n+1) c5],.bool false,.bool true]) (by simp[results,Tryz.results110,go_sem,F8.c3 3 rfl]) rfl ⟨⟨x.free,x.limit,x.queue++[(t,m)]⟩,⟨a5,(n+1),c5⟩,by rw[HV.out],by rw[HV.out],by rw[xDh,HL.out];exact F8.sln 0 rfl,F8.bel⟩
theorem zcL (x:zaj) (a:Option Addr) (n c:Nat) (w:World) (hl:x.waits.length=n) (hn:n<=1048576) (hr:Rd w a (ints x.waits)):
  Calls Tryz.prog 103 #[.agg #[.int .i64 x.state,.int .i64 x.owner,.int .i64 x.value,.slice a n c]] w λe w'=>∃(a':Option Addr) (c':Nat),e= .returned (.agg #[.int .i64 x.state,.int .i64 x.owner,.int .i64 x.value,.slice a' n c'])/\w'.ownsRow w.heap.size 3 1 (.slice a' n c') n (ints x.waits)/\xW w w':=by
 have F:=((Fr.start w).alloc #[.int .i64 x.state,.int .i64 x.owner,.int .i64 x.value,.slice a n c] 78).alloc #[.int .i64 0,.int .i64 0,.int .i64 0,.slice none 0 0] 78;simp only[xDe] at F;have cs:=F.c4 1 rfl;go_enter Tryz.func103,Tryz.ntmps103;go_wp2_with fail;refine(z9 a n c x.waits _ hl (by omega) (F.rd hr)).mono ?_;rintro e w1 ⟨a1,c1,rfl,ho,hb⟩;replace F:=F.row hb ho;have cs:=F.c4 2 rfl;have cr:=F.c4 1 rfl;clear hb ho;have F2:=(F.set 2 rfl 3 (.slice a1 n c1)).set4 1 rfl (.int .i64 x.state) (.int .i64 x.owner) (.int .i64 x.value) (.slice a1 n c1);go_wp2;exact xDd (v:= .agg #[.int .i64 x.state,.int .i64 x.owner,.int .i64 x.value,.slice a1 n c1]) (by simp[results,Tryz.results103,go_sem,F2.c4 1 rfl]) rfl ⟨a1,c1,rfl,F2.own 0 rfl,F2.bel⟩
theorem zbM (x:zaj) (a:Option Addr) (n c:Nat) (w:World) (hl:x.waits.length=n) (hr:Rd w a (ints x.waits)) (ok:zbW x):
  Calls Tryz.prog 156 #[.agg #[.int .i64 x.state,.int .i64 x.owner,.int .i64 x.value,.slice a n c]] w λe w'=>e= .returned (.bool true)/\xW w w':=by
 obtain⟨st,ow,va,ws⟩:=x;dsimp only at*;rcases ok with ⟨h1,h2,h3,h4⟩|⟨h1,h2,h3,h4,h5⟩|⟨h1,h2,h3,h4⟩
 ·dsimp only at h1 h2 h3 h4;subst h1 h2 h3 h4;obtain rfl:n=0:=hl.symm;have F:=(Fr.start w).alloc #[.int .i64 0,.int .i64 0,.int .i64 0,.slice a 0 c] 78;have cs:=F.c4 0 rfl;go_enter Tryz.func156,Tryz.ntmps156;go_wp2;go_ret;exact⟨rfl,F.bel⟩
 ·dsimp only at h1 h2 h3 h4 h5;subst h1 h3;have h6:n<=6:=by rw[<-hl];exact h4.1
  have F:=(Fr.start w).alloc #[.int .i64 1,.int .i64 ow,.int .i64 0,.slice a n c] 78;have cs:=F.c4 0 rfl;go_enter Tryz.func156,Tryz.ntmps156;go_wp2_with fail;refine(zaF ow _ h2).mono ?_;rintro e wz ⟨rfl,hw⟩;obtain rfl:=hw;go_wp2_with fail;refine(zbV a n c ws _ hl (F.rd hr) h4).mono ?_;rintro e w1 ⟨rfl,hb⟩;replace F:=F.call hb;replace cs:=F.c4 0 rfl;clear hb;go_wp2_with fail;refine(zaP a n c ws ow _ hl (by unfold maxLen;omega) (F.rd hr)).mono ?_;rintro e wz ⟨rfl,hw⟩;obtain rfl:=hw;rw[zbI h5];go_wp2;go_ret;exact⟨rfl,F.bel⟩
 ·dsimp only at h1 h2 h3 h4;subst h1 h4;obtain rfl:n=0:=hl.symm;have F:=(Fr.start w).alloc #[.int .i64 2,.int .i64 ow,.int .i64 va,.slice a 0 c] 78;have cs:=F.c4 0 rfl;go_enter Tryz.func156,Tryz.ntmps156;go_wp2_with fail;refine(zaF ow _ h2).mono ?_;rintro e wz ⟨rfl,hw⟩;obtain rfl:=hw;go_wp2_with fail;refine(zbz va _ h3).mono ?_;rintro e wz ⟨rfl,hw⟩;obtain rfl:=hw;go_wp2;go_ret;exact⟨rfl,F.bel⟩
theorem zf3 (x:zaj) (a:Option Addr) (n c:Nat) (t:Int) (w:World) (hl:x.waits.length=n) (hr:Rd w a (ints x.waits)) (ok:zbW x) (ht:0<=t/\t<6) (hno:x.state=1->t≠x.owner/\t∉x.waits):
  Calls Tryz.prog 114 #[.agg #[.int .i64 x.state,.int .i64 x.owner,.int .i64 x.value,.slice a n c],.int .i64 t] w λe w'=>∃(y:zaj) (s:SlV),y=zbm x t/\e= .returned (.tuple #[zhM y s,.int .i64 x.state,.bool true])/\SlN w w' s (ints y.waits) y.waits.length/\xW w w':=by
 obtain⟨st,ow,va,ws⟩:=x;have OK:=xH1 ok;have T6:=xH1 ht;have h6:n<=6:=by
  rw[<-hl];rcases ok with ⟨-,-,-,h4⟩|⟨-,-,-,h4,-⟩|⟨-,-,-,h4⟩
  ·rw[h4];simp
  ·exact h4.1
  ·rw[h4];simp
 dsimp only at*;clear ht;rcases ok with ⟨h1,h2,h3,h4⟩|⟨h1,h2,h3,h4,h5⟩|⟨h1,h2,h3,h4⟩
 ·dsimp only at h1 h2 h3 h4;subst h1 h2 h3 h4;obtain rfl:n=0:=hl.symm;have F:=((Fr.start w).alloc #[.int .i64 0,.int .i64 0,.int .i64 0,.slice a 0 c] 78).alloc #[.int .i64 0,.int .i64 0,.int .i64 0,.slice none 0 0] 78;simp only[xDe] at F;have cs:=F.c4 1 rfl;go_enter Tryz.func114,Tryz.ntmps114;go_wp2_with fail;refine(zbM ⟨0,0,0,[]⟩ a 0 c _ hl (F.rd hr) OK.out).mono ?_;rintro e w1 ⟨rfl,hb⟩;replace F:=F.call hb;replace cs:=F.c4 1 rfl;clear hb;go_wp2_with fail;refine(zaF t _ T6.out).mono ?_;rintro e wz ⟨rfl,hw⟩;obtain rfl:=hw;have cr:=F.c4 0 rfl;have F2:=F.set4 0 rfl (.int .i64 1) (.int .i64 t) (.int .i64 0) (.slice none 0 0);go_wp2;exact xDd (v:= .tuple #[.agg #[.int .i64 1,.int .i64 t,.int .i64 0,.slice none 0 0],.int .i64 0,.bool true]) (by simp[results,Tryz.results114,go_sem,F2.c4 0 rfl]) rfl ⟨_,nilV,rfl,rfl,SlN.nil _ _,F2.bel⟩
 ·dsimp only at h1 h2 h3 h4 h5;subst h1 h3;obtain⟨hne,hnw⟩:=hno rfl;have t0:(ow==t)=false:=by simpa using λe:ow=t=>hne e.symm
  have F:=((Fr.start w).alloc #[.int .i64 1,.int .i64 ow,.int .i64 0,.slice a n c] 78).alloc #[.int .i64 0,.int .i64 0,.int .i64 0,.slice none 0 0] 78;simp only[xDe] at F;have cs:=F.c4 1 rfl;go_enter Tryz.func114,Tryz.ntmps114;go_wp2_with fail;refine(zbM ⟨1,ow,0,ws⟩ a n c _ hl (F.rd hr) OK.out).mono ?_;rintro e w1 ⟨rfl,hb⟩;replace F:=F.call hb;replace cs:=F.c4 1 rfl;clear hb;go_wp2_with fail;refine(zaF t _ T6.out).mono ?_;rintro e wz ⟨rfl,hw⟩;obtain rfl:=hw;go_wp2_with fail;refine(zaP a n c ws t _ hl (by unfold maxLen;omega) (F.rd hr)).mono ?_;rintro e wz ⟨rfl,hw⟩;obtain rfl:=hw;rw[zbI hnw];go_wp2_with fail;refine(zcL ⟨1,ow,0,ws⟩ a n c _ hl (by omega) (F.rd hr)).mono ?_;rintro e w1 ⟨a1,c1,rfl,ho,hb⟩;replace F:=F.row hb ho;clear hb ho;replace cs:=F.c4 2 rfl;have F2:=F.set4 2 rfl (.int .i64 1) (.int .i64 ow) (.int .i64 0) (.slice a1 n c1);go_upto_region 11 with fail;obtain⟨W3,hW,F3⟩:=F2.named;rw[<-hW];clear hW F2 cs F;have cs:=F3.c4 2 rfl;have F4:=F3.alloc #[.int .i64 t] 3;go_wp2_with (at_builtin;refine F4.appI 1 rfl _ _ rfl rfl rfl [t] rfl rfl (Rd.of_blk (F4.blk 0 rfl)) (by omega) ?_;intro a4 c4 W4 F5;simp only[List.set_cons_succ,List.set_cons_zero] at F5;rw[<-zaw] at F5)
  refine(z9 a4 (n+1) c4 (ws++[t]) _ (by rw[xDh,hl];rfl) (by omega) (F5.rdRow 1 rfl)).mono ?_;rintro e w7 ⟨a5,c5,rfl,ho,hb⟩;have F7:=F5.row hb ho;have cr:=F7.c4 3 rfl;replace cs:=F7.c4 4 rfl;have F8:=(F7.set 4 rfl 3 (.slice a5 (n+1) c5)).set4 3 rfl (.int .i64 1) (.int .i64 ow) (.int .i64 0) (.slice a5 (n+1) c5);clear hb ho;go_wp2;exact xDd (v:= .tuple #[.agg #[.int .i64 1,.int .i64 ow,.int .i64 0,.slice a5 (n+1) c5],.int .i64 1,.bool true]) (by simp[results,Tryz.results114,go_sem,F8.c4 3 rfl]) rfl ⟨⟨1,ow,0,ws++[t]⟩,⟨a5,n+1,c5⟩,rfl,rfl,by rw[xDh,hl];exact F8.sln 0 rfl,F8.bel⟩
 ·dsimp only at h1 h2 h3 h4;subst h1 h4;obtain rfl:n=0:=hl.symm;have F:=((Fr.start w).alloc #[.int .i64 2,.int .i64 ow,.int .i64 va,.slice a 0 c] 78).alloc #[.int .i64 0,.int .i64 0,.int .i64 0,.slice none 0 0] 78;simp only[xDe] at F;have cs:=F.c4 1 rfl;go_enter Tryz.func114,Tryz.ntmps114;go_wp2_with fail;refine(zbM ⟨2,ow,va,[]⟩ a 0 c _ hl (F.rd hr) OK.out).mono ?_;rintro e w1 ⟨rfl,hb⟩;replace F:=F.call hb;replace cs:=F.c4 1 rfl;clear hb;go_wp2_with fail;refine(zaF t _ T6.out).mono ?_;rintro e wz ⟨rfl,hw⟩;obtain rfl:=hw;go_wp2_with fail;refine(zcL ⟨2,ow,va,[]⟩ a 0 c _ hl (by omega) (F.rd hr)).mono ?_;rintro e w1 ⟨a1,c1,rfl,ho,hb⟩;replace F:=F.row hb ho;clear hb ho;have cr:=F.c4 1 rfl;have F2:=F.set4 1 rfl (.int .i64 2) (.int .i64 ow) (.int .i64 va) (.slice a1 0 c1);go_wp2;exact xDd (v:= .tuple #[.agg #[.int .i64 2,.int .i64 ow,.int .i64 va,.slice a1 0 c1],.int .i64 2,.bool true]) (by simp[results,Tryz.results114,go_sem,F2.c4 1 rfl]) rfl ⟨⟨2,ow,va,[]⟩,⟨a1,0,c1⟩,rfl,rfl,F2.sln 0 rfl,F2.bel⟩
theorem zfx (ws:List Int) (a:Option Addr) (n c:Nat) (t v:Int) (w:World) (hl:ws.length=n) (hr:Rd w a (ints ws)) (ok:zbW ⟨1,t,0,ws⟩) (hv:0<=v/\v<=99):
  Calls Tryz.prog 113 #[.agg #[.int .i64 1,.int .i64 t,.int .i64 0,.slice a n c],.int .i64 t,.int .i64 v] w λe w'=>∃u:SlV,e= .returned (.tuple #[zhM (zcJ t v) nilV,u.val,.bool true])/\w'.ownsRow w.heap.size 3 1 u.val u.n (ints ws)/\xW w w':=by
 have HV:=xH1 hv;have h6:n<=6:=by
  rw[<-hl];rcases ok with ⟨h,-⟩|⟨-,-,-,h4,-⟩|⟨h,-⟩
  ·simp at h
  ·exact h4.1
  ·simp at h
 clear hv;have F:=((Fr.start w).alloc #[.int .i64 1,.int .i64 t,.int .i64 0,.slice a n c] 78).alloc #[.int .i64 0,.int .i64 0,.int .i64 0,.slice none 0 0] 78;simp only[xDe] at F;have cs:=F.c4 1 rfl;go_enter Tryz.func113,Tryz.ntmps113;go_wp2_with fail;refine(zbM ⟨1,t,0,ws⟩ a n c _ hl (F.rd hr) ok).mono ?_;rintro e w1 ⟨rfl,hb⟩;replace F:=F.call hb;replace cs:=F.c4 1 rfl;clear hb;go_wp2_with fail;refine(zbz v _ HV.out).mono ?_;rintro e wz ⟨rfl,hw⟩;obtain rfl:=hw;go_wp2_with fail;refine(z9 a n c ws _ hl (by omega) (F.rd hr)).mono ?_;rintro e w1 ⟨a1,c1,rfl,ho,hb⟩;replace F:=F.row hb ho;have cr:=F.c4 1 rfl;clear hb ho;have F2:=F.set4 1 rfl (.int .i64 2) (.int .i64 t) (.int .i64 v) (.slice none 0 0);go_wp2;exact xDd (v:= .tuple #[.agg #[.int .i64 2,.int .i64 t,.int .i64 v,.slice none 0 0],.slice a1 n c1,.bool true]) (by simp[results,Tryz.results113,go_sem,F2.c4 1 rfl]) rfl ⟨⟨a1,n,c1⟩,rfl,F2.own 0 rfl,F2.bel⟩
theorem zgn (a:Option Addr) (n c:Nat) (xs:List Int) (w:World) (hl:xs.length=n) (hn:n<=1048576) (hr:Rd w a (ints xs)):
  Calls Tryz.prog 62 #[.slice a n c] w λe w'=>∃a' c',e= .returned (.slice a' n c')/\w'.ownsRow w.heap.size 3 1 (.slice a' n c') n (ints xs)/\xW w w'/\(n=0->c'=0):=by
 have H1:Hid ((ints xs).length=n*1):=xH1 (by simp[hl]);clear hl;go_enter Tryz.func62,Tryz.ntmps62;go_wp2_with (at_builtin;refine zfw rfl _ _ 22 rfl Tryz.underlying22 zM rfl (by decide) rfl (xDi _ w.heap.size 3 1) rfl H1.out hr (zaa xs) (by omega) (by decide) xL1 ?_;intro a3 c3 w3 hown3 hb3 h03);go_ret;exact⟨_,_,rfl,hown3,hb3,h03⟩
theorem zcO (x:GrpD) (a:Option Addr) (n c:Nat) (w:World) (hl:x.waits.length=n) (hr:Rd w a (ints x.waits)) (ok:zdf x):
  Calls Tryz.prog 153 #[.agg #[.int .i64 x.count,.slice a n c]] w λe w'=>e= .returned (.bool true)/\xW w w':=by
 have h6:n<=6:=by rw[<-hl];exact ok.2.1.1
 have OK:=xH1 ok;have o1:=ok.1.1;have h0:x.count=0->n=0:=λh=>by rw[<-hl,ok.2.2 h];rfl
 clear ok;have F:=(Fr.start w).alloc #[.int .i64 x.count,.slice a n c] 80;have cs:=F.c2 0 rfl;go_enter Tryz.func153,Tryz.ntmps153;go_wp2_with fail;refine(zbz _ _ OK.out.1).mono ?_;rintro e wz ⟨rfl,hw⟩;obtain rfl:=hw;go_wp2_with fail;refine(zbV a n c _ _ hl (F.rd hr) OK.out.2.1).mono ?_;rintro e w1 ⟨rfl,hb⟩;replace F:=F.call hb;replace cs:=F.c2 0 rfl;clear hb;by_cases hc:x.count=0
 ·have hd:decide (0<x.count)=false:=xDj (by omega);obtain rfl:=h0 hc;clear hc;go_wp2;go_ret;exact⟨rfl,F.bel⟩
 ·have hd:decide (0<x.count)=true:=xDk (by omega);clear h0;go_wp2;go_ret;exact⟨rfl,F.bel⟩
theorem zgz (x:GrpD) (a:Option Addr) (n c:Nat) (m:Int) (w:World) (hl:x.waits.length=n) (hr:Rd w a (ints x.waits)) (ok:zdf x) (hm: -99<=m/\m<=99):
  Calls Tryz.prog 115 #[.agg #[.int .i64 x.count,.slice a n c],.int .i64 m] w λe w'=>∃(y:GrpD) (s u:SlV) (l:List Int) (b:Bool),zaU x m=(if b=true then some (y,l) else none)/\e= .returned (.tuple #[grpV y s,u.val,.bool b])/\SlN w w' s (ints y.waits) y.waits.length/\w'.ownsRow w.heap.size 3 1 u.val u.n (ints l)/\(ints y.waits=[]\/∀q,ze s.a=some q->ze u.a≠some q)/\xW w w':=by
 have h6:n<=6:=by rw[<-hl];exact ok.2.1.1
 have OK:=xH1 ok;have m1:=hm.1;have m2:=hm.2;have o1:=ok.1.1;have o2:=ok.1.2;clear ok hm;have F:=((Fr.start w).alloc #[.int .i64 x.count,.slice a n c] 80).alloc #[.int .i64 0,.slice none 0 0] 80;simp only[xDe] at F;have cs:=F.c2 1 rfl;go_enter Tryz.func115,Tryz.ntmps115;go_wp2_with fail;refine(zcO x a n c _ hl (F.rd hr) OK.out).mono ?_;rintro e w1 ⟨rfl,hb⟩;replace F:=F.call hb;replace cs:=F.c2 1 rfl;clear hb;by_cases hv:0<=x.count+m/\x.count+m<=99
 ·have HV:=xH1 hv;have v1:=hv.1;have v2:=hv.2;clear hv;go_wp2_with fail;refine(zbz _ _ HV.out).mono ?_;rintro e wz ⟨rfl,hw⟩;obtain rfl:=hw;by_cases h0:x.count+m=0
  ·have HG:Hid (zaU x m=some (⟨0,[]⟩,x.waits)):=xH1 (by unfold zaU;rw[if_pos HV.out,if_pos h0]);have t0:(x.count+m==0)=true:=(by simpa using h0);clear h0;go_wp2_with fail;refine(z9 a n c x.waits _ hl (by omega) (F.rd hr)).mono ?_;rintro e w1 ⟨a1,c1,rfl,ho,hb⟩;replace F:=F.row hb ho;have cr:=F.c2 1 rfl;clear hb ho;have F2:=F.set2 1 rfl (.int .i64 0) (.slice none 0 0);go_wp2;exact xDd (v:= .tuple #[.agg #[.int .i64 0,.slice none 0 0],.slice a1 n c1,.bool true]) (by simp[results,Tryz.results115,go_sem,F2.c2 1 rfl]) rfl ⟨⟨0,[]⟩,nilV,⟨a1,n,c1⟩,x.waits,true,HG.out,rfl,SlN.nil _ _,F2.own 0 rfl,.inl rfl,F2.bel⟩
  ·have HG:Hid (zaU x m=some (⟨x.count+m,x.waits⟩,[])):=xH1 (by unfold zaU;rw[if_pos HV.out,if_neg h0]);have t0:(x.count+m==0)=false:=(by simpa using h0);clear h0;go_wp2_with fail;obtain⟨u1,hu,F0⟩:=F.named;rw[<-hu];clear hu F cs;have F:=F0;clear F0;apply zbc 8 [.k _,.k _,.k _,.k (.int .i64 (x.count+m)),.k _,.k _,.r λdz uz wz=>∃(az:Option Addr) (cz:Nat),uz= .slice az n cz/\wz.ownsRow u1.heap.size 3 1 (.slice az n cz) n (ints x.waits),.r λdz uz wz=>uz=(.agg #[(dz.getD 0 undef),(dz.getD 1 undef)]:Value)] ⟨λ_ _ _ _ hb ⟨a,c,e,h⟩=>⟨a,c,e,zf h hb⟩,λ_ _ _ _ _ h=>h,trivial⟩ ?s1 ?e1
   case s1=>
    repeat' apply And.intro
    all_goals first|trivial|(intro ρ w1 hG hfr hd;obtain⟨fc,ff⟩:=fcff hfr;have f2:=hfr (.tmp 2) rfl;have f1:=hfr (.tmp 1) rfl;have F1:=F.call hG;have cs:=F1.c2 1 rfl;clear F1)
    exact rk0;exact rk1;exact rk0
    ·obtain⟨d0,d1,-⟩:=hd;have d0:ρ (.tmp 37)=_:=d0;have d1:ρ (.tmp 38)=_:=d1;have hw:IntKind.i64.wrap (x.count+m)=x.count+m:=Go.IntWalk.i64_in _ (by omega);exact gvF hG (by go_simp) rfl xN1
    exact rk0;exact rk1
    ·obtain⟨d0,-⟩:=hd;have d0:ρ (.tmp 41)=_:=d0;refine zac (by go_simp;exact⟨⟨rfl,rfl⟩,rfl⟩) ?_;refine(z9 a n c x.waits _ hl (by omega) ((F.call hG).rd hr)).mono ?_;rintro e w2 ⟨a1,c1,rfl,ho,hb⟩;exact⟨_,rfl,hb,⟨a1,c1,rfl,zl ho hG.size⟩,xN1,hG.trans (hb.mono hG.size)⟩
    ·obtain⟨d0,d1,-⟩:=hd;have d0:ρ (.tmp 39)=_:=d0;have d1:∃(az:Option Addr) (cz:Nat),(ρ (.tmp 42))= .slice az n cz/\w1.ownsRow u1.heap.size 3 1 (.slice az n cz) n (ints x.waits):=d1;obtain⟨azz,czz,d1,-⟩:=d1;refine zh (u:= .agg #[.int .i64 (x.count+m),.slice azz n czz]) (w':=w1) (by go_simp) ⟨Below.refl _ _,?_,xN1,hG⟩;show Value.agg #[.int .i64 (x.count+m),.slice azz n czz]=(.agg #[(ρ (.tmp 39)),(ρ (.tmp 42))]:Value);rw[d0,d1]
   intro w2 hG;refine zao ?_;intro xv6 hv6 xv7 hv7;replace hv7:xv7=(.agg #[(.int .i64 (x.count+m)),xv6]:Value):=hv7;obtain⟨a1,c1,rfl,ho⟩:=hv6;have F3:=F.row hG ho;have cr:=F3.c2 1 rfl;have F2:=F3.set2 1 rfl (.int .i64 (x.count+m)) (.slice a1 n c1);clear F3 ho;go_wp2;exact xDd (v:= .tuple #[.agg #[.int .i64 (x.count+m),.slice a1 n c1],.slice none 0 0,.bool true]) (by simp[results,Tryz.results115,go_sem,F2.c2 1 rfl]) rfl ⟨⟨x.count+m,x.waits⟩,⟨a1,n,c1⟩,nilV,[],true,HG.out,rfl,hl▸F2.sln 0 rfl,xDi _ _ _ _,.inr (λq _ h=>by cases h),F2.bel⟩
 ·have HG:Hid (zaU x m=none):=xH1 (by unfold zaU;rw[if_neg hv]);have hq:zbS (x.count+m)=false:=by
   unfold zbS;rw[<-Bool.decide_and];exact xDj hv
  clear hv;go_wp2_with fail;refine(zcS (x.count+m) _).mono ?_;rintro e wz ⟨rfl,hw⟩;obtain rfl:=hw;rw[hq];have cr:=F.c2 0 rfl;have F2:=F.set2 0 rfl (.int .i64 0) (.slice none 0 0);go_wp2;exact xDd (v:= .tuple #[.agg #[.int .i64 0,.slice none 0 0],.slice none 0 0,.bool false]) (by simp[results,Tryz.results115,go_sem,F2.c2 0 rfl]) rfl ⟨zQ,nilV,nilV,[],false,HG.out,rfl,SlN.nil _ _,xDi _ _ _ _,.inl rfl,F2.bel⟩
theorem zf1 (x:GrpD) (a:Option Addr) (n c:Nat) (t:Int) (w:World) (hl:x.waits.length=n) (hr:Rd w a (ints x.waits)) (ok:zdf x) (ht:0<=t/\t<6) (hno:t∉x.waits):
  Calls Tryz.prog 116 #[.agg #[.int .i64 x.count,.slice a n c],.int .i64 t] w λe w'=>∃(y:GrpD) (s:SlV),y=(zaz x t).1/\e= .returned (.tuple #[grpV y s,.bool (zaz x t).2,.bool true])/\SlN w w' s (ints y.waits) y.waits.length/\xW w w':=by
 have h6:n<=6:=by rw[<-hl];exact ok.2.1.1
 have OK:=xH1 ok;have T6:=xH1 ht;clear ok ht;have F:=((Fr.start w).alloc #[.int .i64 x.count,.slice a n c] 80).alloc #[.int .i64 0,.slice none 0 0] 80;simp only[xDe] at F;have cs:=F.c2 1 rfl;go_enter Tryz.func116,Tryz.ntmps116;go_wp2_with fail;refine(zcO x a n c _ hl (F.rd hr) OK.out).mono ?_;rintro e w1 ⟨rfl,hb⟩;replace F:=F.call hb;replace cs:=F.c2 1 rfl;clear hb;go_wp2_with fail;refine(zaF t _ T6.out).mono ?_;rintro e wz ⟨rfl,hw⟩;obtain rfl:=hw;go_wp2_with fail;refine(zaP a n c x.waits t _ hl (by unfold maxLen;omega) (F.rd hr)).mono ?_;rintro e wz ⟨rfl,hw⟩;obtain rfl:=hw;rw[zbI hno];by_cases h0:x.count=0
 ·have HV:Hid (zaz x t=(x,true)):=xH1 (by unfold zaz;rw[if_pos h0]);have h1:x.waits=[]:=OK.out.2.2 h0;have hx:Hid (x=⟨0,[]⟩):=xH1 (by rw[<-h0,<-h1]);have t0:(x.count==0)=true:=by simp[h0]
  clear h0 h1;have cr:=F.c2 0 rfl;have F2:=F.set2 0 rfl (.int .i64 0) (.slice none 0 0);go_wp2;exact xDd (v:= .tuple #[.agg #[.int .i64 0,.slice none 0 0],.bool true,.bool true]) (by simp[results,Tryz.results116,go_sem,F2.c2 0 rfl]) rfl ⟨⟨0,[]⟩,nilV,by rw[HV.out];exact hx.out.symm,by rw[HV.out];rfl,SlN.nil _ _,F2.bel⟩
 ·have HV:Hid (zaz x t=(⟨x.count,x.waits++[t]⟩,false)):=xH1 (by unfold zaz;rw[if_neg h0]);have t0:(x.count==0)=false:=by simpa using h0
  clear h0;go_wp2_with fail;obtain⟨u1,hu,F0⟩:=F.named;rw[<-hu];clear hu F cs;have F:=F0;clear F0;by_cases hn0:n=0
  ·subst hn0;have hw0':x.waits=[]:=List.eq_nil_of_length_eq_zero hl;have hw0:ints x.waits=[]:=by rw[hw0'];rfl
   apply zbc 9 [.k _,.k _,.k _,.k _,.r λdz uz wz=>∃az:Option Addr,uz= .slice az 0 0/\wz.ownsRow u1.heap.size 3 1 (.slice az 0 0) 0 [],.k _,.r λdz uz wz=>(∃gz:Nat,uz= .slice (some ⟨gz,0,none⟩) 1 1/\wz.ownsRow u1.heap.size 3 1 (.slice (some ⟨gz,0,none⟩) 1 1) 1 (ints [t])),.r λdz uz wz=>∃(az:Option Addr) (cz:Nat),uz= .slice az 1 cz/\wz.ownsRow u1.heap.size 3 1 (.slice az 1 cz) 1 (ints [t]),.r λdz uz wz=>uz=(.agg #[(dz.getD 0 undef),(dz.getD 1 undef)]:Value)] ⟨λ_ _ _ _ hb ⟨a,e,h⟩=>⟨a,e,zf h hb⟩,λ_ _ _ _ hb ⟨g,e,h⟩=>⟨g,e,zf h hb⟩,λ_ _ _ _ hb ⟨a,c,e,h⟩=>⟨a,c,e,zf h hb⟩,λ_ _ _ _ _ h=>h,trivial⟩ ?s2 ?e2
   case s2=>
    repeat' apply And.intro
    all_goals first|trivial|(intro ρ w1 hG hfr hd;obtain⟨fc,ff⟩:=fcff hfr;have f2:=hfr (.tmp 2) rfl;have f1:=hfr (.tmp 1) rfl;have F1:=F.call hG;have cs:=F1.c2 1 rfl;clear F1)
    exact rk0;exact rk1;exact rk0;exact rk1
    ·obtain⟨d0,-⟩:=hd;have d0:ρ (.tmp 29)=_:=d0;refine zac (by go_simp;exact⟨⟨rfl,rfl⟩,rfl⟩) ?_;refine(zgn a 0 c x.waits _ hl (by omega) ((F.call hG).rd hr)).mono ?_;rintro e w2 ⟨a1,c1,rfl,ho,hb,hz⟩;exact⟨_,rfl,hb,by obtain rfl:=hz rfl;exact⟨a1,rfl,zl (hw0▸ho) hG.size⟩,xN1,hG.trans (hb.mono hG.size)⟩
    exact rk0
    ·obtain⟨d0,-⟩:=hd;have d0:ρ (.tmp 31)=_:=d0;refine zh (u:= .slice (some ⟨w1.heap.size,0,none⟩) 1 1) (w':=w1.alloc (.cells #[.int .i64 t] 3)) (by go_simp) ⟨xA1,⟨_,rfl,zl (zb5 (cs:= #[.int .i64 t]) (m:=1) (Blk.new _ _ _) xL1 rfl (by decide)) hG.size⟩,xN1,hG.alloc hG.size _⟩
    ·obtain⟨d0,d1,-⟩:=hd;have d0:∃az:Option Addr,(ρ (.tmp 30))= .slice az 0 0/\w1.ownsRow u1.heap.size 3 1 (.slice az 0 0) 0 []:=d0;have d1:(∃gz:Nat,(ρ (.tmp 32))= .slice (some ⟨gz,0,none⟩) 1 1/\w1.ownsRow u1.heap.size 3 1 (.slice (some ⟨gz,0,none⟩) 1 1) 1 (ints [t])):=d1;obtain⟨azo,d0,hown⟩:=d0;obtain⟨gz,d1,hgz⟩:=d1;refine zag (m:=1) (news:=ints [t]) _ _ 22 rfl Tryz.underlying22 zM rfl (by decide) d0 hown d1 rfl (Rd.of_owns hgz) (zaa _) (by omega) (by decide) hG.size ?_;intro a' c' w2 hown2 hb hf h0;exact⟨hb,⟨a',c',rfl,hown2⟩,xN1,hG.trans (hb.mono hG.size)⟩
    ·obtain⟨d0,d1,-⟩:=hd;have d0:ρ (.tmp 27)=_:=d0;have d1:∃(az:Option Addr) (cz:Nat),(ρ (.tmp 33))= .slice az 1 cz/\w1.ownsRow u1.heap.size 3 1 (.slice az 1 cz) 1 (ints [t]):=d1;obtain⟨azz,czz,d1,-⟩:=d1;refine zh (u:= .agg #[.int .i64 x.count,.slice azz 1 czz]) (w':=w1) (by go_simp) ⟨Below.refl _ _,?_,xN1,hG⟩;show Value.agg #[.int .i64 x.count,.slice azz 1 czz]=(.agg #[(ρ (.tmp 27)),(ρ (.tmp 33))]:Value);rw[d0,d1]
   intro w2 hG;refine zao ?_;intro xv4 hv4 xv6 hv6 xv7 hv7 xv8 hv8;replace hv8:xv8=(.agg #[(.int .i64 x.count),xv7]:Value):=hv8;obtain⟨a1,c1,rfl,ho⟩:=hv7;have F3:=F.row hG ho;have cr:=F3.c2 1 rfl;have F2:=F3.set2 1 rfl (.int .i64 x.count) (.slice a1 1 c1);clear F3 ho;go_wp2;refine xDd (v:= .tuple #[.agg #[.int .i64 x.count,.slice a1 1 c1],.bool false,.bool true]) (by simp[results,Tryz.results116,go_sem,F2.c2 1 rfl]) rfl ⟨⟨x.count,x.waits++[t]⟩,⟨a1,1,c1⟩,by rw[HV.out],by rw[HV.out],?_,F2.bel⟩;rw[hw0'];exact F2.sln 0 rfl
  ·refine za1 9 (by kernel_rfl) (by kernel_rfl) [isV (.pointer (some ⟨w.heap.size,0,none⟩)),isV (.int .i64 x.count),isV (.pointer (some ⟨w.heap.size,1,none⟩)),isV (.slice a n c),λdz uz wz=>∃(az:Option Addr) (cz:Nat),uz= .slice az n cz/\wz.ownsRow u1.heap.size 3 1 (.slice az n cz) n (ints x.waits),isV (.int .i64 t),λdz uz wz=>(∃gz:Nat,uz= .slice (some ⟨gz,0,none⟩) 1 1/\wz.ownsRow u1.heap.size 3 1 (.slice (some ⟨gz,0,none⟩) 1 1) 1 (ints [t])),λdz uz wz=>∃(az:Option Addr) (cz:Nat),uz= .slice az (n+1) cz/\wz.ownsRow u1.heap.size 3 1 (.slice az (n+1) cz) (n+1) (ints x.waits++ints [t]),λdz uz wz=>uz=(.agg #[(dz.getD 0 undef),(dz.getD 1 undef)]:Value)] (St1 7 (λwa wb=>Below u1.heap.size wa wb/\zcy 3 1 n wa wb)) (λ_ _=>none) (λ_ w'=>xW u1 w') (λ_ _=>xB1.drew) (zcZ (λ_ _ h=>h.1.size)) (zc1 ⟨pS,pS,pS,pS,λ_ _ _ _ hb ⟨a,c,e,h⟩=>⟨a,c,e,zf h hb⟩,pS,λ_ _ _ _ hb ⟨g,e,h⟩=>⟨g,e,zf h hb⟩,λ_ _ _ _ hb ⟨a,c,e,h⟩=>⟨a,c,e,zf h hb⟩,λ_ _ _ _ _ h=>h,trivial⟩ ⟨.inr (pS),.inr (pS),.inr (pS),.inr (pS),.inr (λ_ _ _ _ hT ⟨a,c,e,h⟩=>⟨a,c,e,hT.2 _ _ _ _ _ (by omega) h⟩),.inr (pS),.inr (λ_ _ _ _ hT ⟨g,e,h⟩=>⟨g,e,hT.2 _ _ _ _ _ (by omega) h⟩),.inl rfl,.inr (λ_ _ _ _ _ h=>h),trivial⟩) ?_ ?_
   ·simp only[List.take_succ_cons,List.take_zero];refine⟨?_,?_,?_,?_,?_,?_,?_,?_,?_,trivial⟩
    all_goals (intro ρ w1 L hG hny hfr hd;obtain⟨fc,ff⟩:=fcff hfr;have f2:ρ (.tmp 2)= .pointer (some ⟨w.heap.size,0,none⟩):=hfr _ rfl;have f1:ρ (.tmp 1)= .int .i64 t:=hfr _ rfl;have F1:=F.call hG;have cs:=F1.c2 1 rfl;clear F1)
    ·exact gvT hG (by go_simp) rfl xN1
    ·obtain⟨d0,-⟩:=hd;have d0:ρ (.tmp 26)=_:=d0;exact gvT hG (by go_simp) rfl xN1
    ·exact gvT hG (by go_simp) rfl xN1
    ·obtain⟨d0,-⟩:=hd;have d0:ρ (.tmp 28)=_:=d0;exact gvT hG (by go_simp) rfl xN1
    ·obtain⟨d0,-⟩:=hd;have d0:ρ (.tmp 29)=_:=d0;refine zac (by go_simp;exact⟨⟨rfl,rfl⟩,rfl⟩) ?_;refine(z9 a n c x.waits _ hl (by omega) ((F.call hG).rd hr)).mono ?_;rintro e w2 ⟨a1,c1,rfl,ho,hb⟩;exact⟨_,rfl,zI (by decide) (hb),⟨a1,c1,rfl,zl ho hG.size⟩,xN1,hG.trans (hb.mono hG.size)⟩
    ·exact gvT hG (by go_simp) rfl xN1
    ·obtain⟨d0,-⟩:=hd;have d0:ρ (.tmp 31)=_:=d0;refine zh (u:= .slice (some ⟨w1.heap.size,0,none⟩) 1 1) (w':=w1.alloc (.cells #[.int .i64 t] 3)) (by go_simp) ⟨zI (by decide) (xA1),⟨_,rfl,zl (zb5 (cs:= #[.int .i64 t]) (m:=1) (Blk.new _ _ _) xL1 rfl (by decide)) hG.size⟩,xN1,hG.alloc hG.size _⟩
    ·obtain⟨d0,d1,-⟩:=hd;have d0:∃(az:Option Addr) (cz:Nat),(ρ (.tmp 30))= .slice az n cz/\w1.ownsRow u1.heap.size 3 1 (.slice az n cz) n (ints x.waits):=d0;have d1:(∃gz:Nat,(ρ (.tmp 32))= .slice (some ⟨gz,0,none⟩) 1 1/\w1.ownsRow u1.heap.size 3 1 (.slice (some ⟨gz,0,none⟩) 1 1) 1 (ints [t])):=d1;obtain⟨azo,czo,d0,hown⟩:=d0;obtain⟨gz,d1,hgz⟩:=d1;refine zcK (m:=1) (news:=ints [t]) _ _ 22 rfl Tryz.underlying22 zM rfl (by decide) d0 hown d1 rfl (Rd.of_owns hgz) (zaa _) (by omega) (by decide) hG.size ?_;intro a' c' w2 hown2 hgr hkeep;have hbB:=zA hgr hG.size (λq hq=>(zp hown q hq).1);exact⟨zdw ⟨hbB,hkeep⟩,⟨a',c',rfl,hown2⟩,xN1,hG.trans hbB⟩
    ·obtain⟨d0,d1,-⟩:=hd;have d0:ρ (.tmp 27)=_:=d0;have d1:∃(az:Option Addr) (cz:Nat),(ρ (.tmp 33))= .slice az (n+1) cz/\w1.ownsRow u1.heap.size 3 1 (.slice az (n+1) cz) (n+1) (ints x.waits++ints [t]):=d1;obtain⟨azz,czz,d1,-⟩:=d1;refine zh (u:= .agg #[.int .i64 x.count,.slice azz (n+1) czz]) (w':=w1) (by go_simp) ⟨zI (by decide) xB1,?_,xN1,hG⟩;show Value.agg #[.int .i64 x.count,.slice azz (n+1) czz]=(.agg #[(ρ (.tmp 27)),(ρ (.tmp 33))]:Value);rw[d0,d1]
   intro vs w2 LL hG hlen hall hap hbd;clear hap hbd;obtain⟨xv0,xv1,xv2,xv3,xv4,xv5,xv6,xv7,xv8,rfl⟩:=len9 hlen;clear hlen;simp only[List.take_succ_cons,List.take_zero,List.drop_succ_cons,List.drop_zero] at hall⊢;obtain⟨hv0,hv1,hv2,hv3,hv4,hv5,hv6,hv7,hv8,-⟩:=hall;replace hv4:∃(az:Option Addr) (cz:Nat),xv4= .slice az n cz/\w2.ownsRow u1.heap.size 3 1 (.slice az n cz) n (ints x.waits):=hv4;replace hv6:(∃gz:Nat,xv6= .slice (some ⟨gz,0,none⟩) 1 1/\w2.ownsRow u1.heap.size 3 1 (.slice (some ⟨gz,0,none⟩) 1 1) 1 (ints [t])):=hv6;replace hv7:∃(az:Option Addr) (cz:Nat),xv7= .slice az (n+1) cz/\w2.ownsRow u1.heap.size 3 1 (.slice az (n+1) cz) (n+1) (ints x.waits++ints [t]):=hv7;replace hv8:xv8=(.agg #[xv1,xv7]:Value):=hv8;obtain rfl:xv0=_:=hv0;obtain rfl:xv1=_:=hv1;obtain rfl:xv2=_:=hv2;obtain rfl:xv3=_:=hv3;obtain rfl:xv5=_:=hv5;simp only[zap,Act.put,List.setIfInBounds_toArray,List.set_cons_succ,List.set_cons_zero];obtain⟨a1,c1,rfl,ho⟩:=hv7;have F3:=F.row hG ho;have cr:=F3.c2 1 rfl;have F2:=F3.set2 1 rfl (.int .i64 x.count) (.slice a1 (n+1) c1);clear F3 ho;go_wp2
   refine xDd (v:= .tuple #[.agg #[.int .i64 x.count,.slice a1 (n+1) c1],.bool false,.bool true]) (by simp[results,Tryz.results116,go_sem,F2.c2 1 rfl]) rfl ⟨⟨x.count,x.waits++[t]⟩,⟨a1,(n+1),c1⟩,by rw[HV.out],by rw[HV.out],?_,F2.bel⟩;have hs:=F2.sln 0 rfl;rw[<-zaw] at hs;have hle:(x.waits++[t]).length=n+1:=by rw[xDh,hl];rfl
   rw[hle];exact hs
theorem zet (x:BarD) (a:Option Addr) (n c:Nat) (w:World) (hl:x.waits.length=n) (hr:Rd w a (ints x.waits)) (ok:zdU x):
  Calls Tryz.prog 154 #[.agg #[.int .i64 x.parties,.int .i64 x.round,.slice a n c]] w λe w'=>e= .returned (.bool true)/\xW w w':=by
 have OK:=xH1 ok;have p1:=ok.1.1;have p2:=ok.1.2;have r1:=ok.2.1.1;have r2:=ok.2.1.2;have l1:(n:Int)<x.parties:=by rw[<-hl];exact ok.2.2.2
 clear ok;have F:=(Fr.start w).alloc #[.int .i64 x.parties,.int .i64 x.round,.slice a n c] 82;have cs:=F.c3 0 rfl;go_enter Tryz.func154,Tryz.ntmps154;go_wp2_with fail;refine(zbV a n c _ _ hl (F.rd hr) OK.out.2.2.1).mono ?_;rintro e w1 ⟨rfl,hb⟩;replace F:=F.call hb;replace cs:=F.c3 0 rfl;clear hb;go_wp2;go_ret;exact⟨rfl,F.bel⟩
theorem zhH (x:BarD) (a:Option Addr) (n c:Nat) (t:Int) (w:World) (hl:x.waits.length=n) (hr:Rd w a (ints x.waits)) (ok:zdU x) (ht:0<=t/\t<6) (hno:t∉x.waits) (hrd:x.round<9999):
  Calls Tryz.prog 117 #[.agg #[.int .i64 x.parties,.int .i64 x.round,.slice a n c],.int .i64 t] w λe w'=>∃(y:BarD) (s u:SlV) (l:List Int),zaA x t=(y,l)/\e= .returned (.tuple #[barV y s,u.val,.bool true])/\SlN w w' s (ints y.waits) y.waits.length/\w'.ownsRow w.heap.size 3 1 u.val u.n (ints l)/\(ints y.waits=[]\/u=nilV)/\(l=[]\/y.waits=[])/\xW w w':=by
 have OK:=xH1 ok;have p1:=ok.1.1;have p2:=ok.1.2;have r1:=ok.2.1.1;have r2:=ok.2.1.2;have l1:(n:Int)<x.parties:=by rw[<-hl];exact ok.2.2.2
 clear ok;have T6:=xH1 ht;clear ht;have F:=((Fr.start w).alloc #[.int .i64 x.parties,.int .i64 x.round,.slice a n c] 82).alloc #[.int .i64 0,.int .i64 0,.slice none 0 0] 82;simp only[xDe] at F;have cs:=F.c3 1 rfl;go_enter Tryz.func117,Tryz.ntmps117;go_wp2_with fail;refine(zet x a n c _ hl (F.rd hr) OK.out).mono ?_;rintro e w1 ⟨rfl,hb⟩;replace F:=F.call hb;replace cs:=F.c3 1 rfl;clear hb;go_wp2_with fail;refine(zaF t _ T6.out).mono ?_;rintro e wz ⟨rfl,hw⟩;obtain rfl:=hw;go_wp2_with fail;refine(zaP a n c x.waits t _ hl (by unfold maxLen;omega) (F.rd hr)).mono ?_;rintro e wz ⟨rfl,hw⟩;obtain rfl:=hw;rw[zbI hno];go_wp2_with fail;refine(z9 a n c x.waits _ hl (by omega) (F.rd hr)).mono ?_;rintro e w1 ⟨a1,c1,rfl,ho,hb⟩;replace F:=F.row hb ho;clear hb ho;clear cs;have F4:=F.alloc #[.int .i64 t] 3;have HLN:Hid ((x.waits++[t]).length=n+1):=xH1 (by rw[xDh,hl];rfl);by_cases hlt:(x.waits.length:Int)+1<x.parties
 ·have HV:Hid (zaA x t=(⟨x.parties,x.round,x.waits++[t]⟩,[])):=xH1 (by unfold zaA;rw[if_pos hlt]);rw[hl] at hlt;have d0:decide ((n:Int)+1<x.parties)=true:=by simpa using hlt
  clear hlt;go_wp2_with (at_builtin;refine F4.appI 1 rfl _ _ rfl rfl rfl [t] rfl rfl (Rd.of_blk (F4.blk 0 rfl)) (by omega) ?_;intro a4 c4 W4 F5;simp only[List.set_cons_succ,List.set_cons_zero] at F5;rw[<-zaw] at F5;clear F4;have cs:=F5.c3 3 rfl;have cr:=F5.c3 2 rfl);have F6:=F5.set3 2 rfl (.int .i64 x.parties) (.int .i64 x.round) (.slice a4 (n+1) c4);exact xDd (v:= .tuple #[.agg #[.int .i64 x.parties,.int .i64 x.round,.slice a4 (n+1) c4],.slice none 0 0,.bool true]) (by simp[results,Tryz.results117,go_sem,F6.c3 2 rfl]) rfl ⟨⟨x.parties,x.round,x.waits++[t]⟩,⟨a4,n+1,c4⟩,nilV,[],HV.out,rfl,HLN.out▸F6.sln 1 rfl,xDi _ _ _ _,.inr rfl,.inl rfl,F6.bel⟩
 ·have HV:Hid (zaA x t=(⟨x.parties,x.round+1,[]⟩,x.waits++[t])):=xH1 (by unfold zaA;rw[if_neg hlt]);rw[hl] at hlt;have d0:decide ((n:Int)+1<x.parties)=false:=by simpa using hlt
  clear hlt;go_wp2_with (at_builtin;refine F4.appI 1 rfl _ _ rfl rfl rfl [t] rfl rfl (Rd.of_blk (F4.blk 0 rfl)) (by omega) ?_;intro a4 c4 W4 F5;simp only[List.set_cons_succ,List.set_cons_zero] at F5;rw[<-zaw] at F5;clear F4;have cs:=F5.c3 3 rfl;have cr:=F5.c3 2 rfl);have F6:=F5.set3 2 rfl (.int .i64 x.parties) (.int .i64 (x.round+1)) (.slice none 0 0);exact xDd (v:= .tuple #[.agg #[.int .i64 x.parties,.int .i64 (x.round+1),.slice none 0 0],.slice a4 (n+1) c4,.bool true]) (by simp[results,Tryz.results117,go_sem,F6.c3 2 rfl]) rfl ⟨⟨x.parties,x.round+1,[]⟩,nilV,⟨a4,n+1,c4⟩,x.waits++[t],HV.out,rfl,SlN.nil _ _,F6.own 1 rfl,.inl rfl,.inr rfl,F6.bel⟩
theorem zaQ (x:ChnD) (ai al ag:Option Addr) (ni ci nl cl ng cg:Nat) (w:World) (h1:x.items.length=ni) (h2:x.senders.length=nl) (h3:x.getters.length=ng) (n1:ni<=1048576) (n2:nl<=1048576) (n3:ng<=1048576) (r1:Rd w ai (ints x.items)) (r2:Rd w al (zt x.senders)) (r3:Rd w ag (ints x.getters)):
  Calls Tryz.prog 104 #[.agg #[.int .i64 x.room,.slice ai ni ci,.slice al nl cl,.slice ag ng cg,.bool x.closed]] w λe w'=>∃(bi bs bg:Option Addr) (di ds dg:Nat),e= .returned (.agg #[.int .i64 x.room,.slice bi ni di,.slice bs nl ds,.slice bg ng dg,.bool x.closed])/\Fr w w' [.row bg ng dg 3 1 (ints x.getters),.row bs nl ds 187 2 (zt x.senders),.row bi ni di 3 1 (ints x.items)]:=by
 have HH1:=xH1 h1;have HH2:=xH1 h2;have HH3:=xH1 h3;have F:=((Fr.start w).alloc #[.int .i64 x.room,.slice ai ni ci,.slice al nl cl,.slice ag ng cg,.bool x.closed] 87).alloc #[.int .i64 0,.slice none 0 0,.slice none 0 0,.slice none 0 0,.bool false] 87;simp only[xDe] at F;have cs:=F.c5 1 rfl;clear h1 h2 h3;go_enter Tryz.func104,Tryz.ntmps104;go_wp2_with fail;refine(z9 ai ni ci x.items _ HH1.out (by omega) (F.rd r1)).mono ?_;rintro e w1 ⟨bi,di,rfl,ho,hb⟩;replace F:=F.row hb ho;clear hb ho;replace cs:=F.c5 2 rfl;have F2:=F.set 2 rfl 1 (.slice bi ni di);go_upto_region 2 with fail;obtain⟨W3,hW,F3⟩:=F2.named;rw[<-hW];clear hW F2 cs F;have cs:=F3.c5 2 rfl;go_wp2_with (at_builtin;refine(F3.nil _ 2).appL 0 rfl _ _ rfl rfl rfl x.senders rfl HH2.out (F3.rd r2) (by omega) ?_;intro bs ds W4 F4;simp only[List.set_cons_zero,xDq,Nat.zero_add] at F4;clear cs;have cs:=F4.c5 3 rfl;have F5:=F4.set 3 rfl 2 (.slice bs nl ds));refine(z9 ag ng cg x.getters _ HH3.out (by omega) (F5.rd r3)).mono ?_;rintro e w6 ⟨bg,dg,rfl,ho,hb⟩;have F6:=F5.row hb ho;have cr:=F6.c5 3 rfl;replace cs:=F6.c5 4 rfl
 have F7:=(F6.set 4 rfl 3 (.slice bg ng dg)).set5 3 rfl (.int .i64 x.room) (.slice bi ni di) (.slice bs nl ds) (.slice bg ng dg) (.bool x.closed);clear hb ho;go_wp2;exact xDd (v:= .agg #[.int .i64 x.room,.slice bi ni di,.slice bs nl ds,.slice bg ng dg,.bool x.closed]) (by simp[results,Tryz.results104,go_sem,F7.c5 3 rfl]) rfl ⟨bi,bs,bg,di,ds,dg,rfl,F7.sub (by simp)⟩
theorem zcs (x:ChnD) (ai al ag:Option Addr) (ni ci nl cl ng cg:Nat) (w:World) (h2:x.senders.length=nl) (h3:x.getters.length=ng) (n2:nl<=6) (n3:ng<=6) (r2:Rd w al (zt x.senders)) (r3:Rd w ag (ints x.getters)):
  Calls Tryz.prog 163 #[.agg #[.int .i64 x.room,.slice ai ni ci,.slice al nl cl,.slice ag ng cg,.bool x.closed]] w λe w'=>∃(a':Option Addr) (c':Nat),e= .returned (.slice a' (nl+ng) c')/\w'.ownsRow w.heap.size 3 1 (.slice a' (nl+ng) c') (nl+ng) (ints (x.senders.map (·.1)++x.getters))/\xW w w':=by
 have HH2:=xH1 h2;have HH3:=xH1 h3;have HR:=xH1 r2;have F:=(Fr.start w).alloc #[.int .i64 x.room,.slice ai ni ci,.slice al nl cl,.slice ag ng cg,.bool x.closed] 87;have cs:=F.c5 0 rfl;clear h2 h3 r2;go_enter Tryz.func163,Tryz.ntmps163;go_wp2;clear cs
 go_loopw [9,3] (λi th wr=>∃(k:Nat) (a3:Option Addr) (c3:Nat),k<=nl/\i= .int .i64 k/\th= .slice a3 k c3/\Fr w wr [.row a3 k c3 3 1 (ints ((x.senders.take k).map (·.1))),.blk w.heap.size #[.int .i64 x.room,.slice ai ni ci,.slice al nl cl,.slice ag ng cg,.bool x.closed] 87]) (λi _ _=>nl-(intOf i).toNat)
 case atStart=>exact⟨0,none,0,by omega,rfl,rfl,F.nil _ _⟩
 case round=>
  obtain⟨k,a3,c3,hk,rfl,rfl,F1⟩:=hrel;by_cases hlt:k<nl
  ·obtain⟨b,o,rfl,g'⟩:=(F1.rd HR.out).pair (by have:=HH2.out;omega);obtain⟨g1,g2⟩:=g' k (by have:=HH2.out;omega);obtain⟨y,hy⟩:∃y,y=x.senders.getD k (0,0):=⟨_,rfl⟩
   rw[<-hy] at g1 g2;have HM:Hid ((x.senders.take (k+1)).map (·.1)=(x.senders.take k).map (·.1)++[y.1]):=xH1 (by rw[hy];exact zeG _ k (by have:=HH2.out;omega));have F2:=F1.alloc #[.int .i64 y.1,.int .i64 y.2] 187;have cy:=F2.c2 0 rfl;have F3:=F2.alloc #[.int .i64 y.1] 3;simp only[xDe] at F3;clear g' hy;go_wp2_with (at_builtin;refine F3.appI 2 rfl _ _ rfl rfl rfl [y.1] rfl rfl (Rd.of_blk (F3.blk 0 rfl)) (by omega) ?_;intro a4 c4 W4 F4)
   go_roundw
   case rel=>exact⟨k+1,a4,c4,by omega,by go_num,rfl,by rw[HM.out,zaw];exact F4.sub (by simp)⟩
   case measure=>simp[intOf];omega
  ·have hkm:k=nl:=(by omega);subst hkm;rw[xDt (by have:=HH2.out;omega)] at F1;have cs:=F1.c5 1 rfl;go_wp2_with (at_builtin;refine F1.appI 0 rfl _ _ rfl rfl rfl x.getters rfl HH3.out (F1.rd r3) (by omega) ?_;intro a4 c4 W4 F4;simp only[List.set_cons_zero] at F4;rw[<-zaw] at F4);go_ret;exact⟨a4,c4,rfl,F4.own 0 rfl,F4.bel⟩
theorem zbs (x:ChnD) (ai al ag:Option Addr) (ni ci nl cl ng cg:Nat) (w:World) (h1:x.items.length=ni) (h2:x.senders.length=nl) (h3:x.getters.length=ng) (r1:Rd w ai (ints x.items)) (r2:Rd w al (zt x.senders)) (r3:Rd w ag (ints x.getters)) (ok:zce x):
  Calls Tryz.prog 155 #[.agg #[.int .i64 x.room,.slice ai ni ci,.slice al nl cl,.slice ag ng cg,.bool x.closed]] w λe w'=>e= .returned (.bool true)/\xW w w':=by
 have OK:=xH1 ok;have h6:=ok.2.2.2.2.1.1;rw[xDh,xDf,h2,h3] at h6;have o1:=ok.1.1;have o2:=ok.1.2;have o3:(ni:Int)<=x.room:=by rw[<-h1];exact ok.2.1
 have HH1:=xH1 h1;have HH2:=xH1 h2;have HH3:=xH1 h3;have HR1:=xH1 r1;have HR2:=xH1 r2;have HR3:=xH1 r3;have F:=(Fr.start w).alloc #[.int .i64 x.room,.slice ai ni ci,.slice al nl cl,.slice ag ng cg,.bool x.closed] 87;have cs:=F.c5 0 rfl;clear ok h1 h2 h3 r1 r2 r3;go_enter Tryz.func155,Tryz.ntmps155;go_wp2;clear cs
 go_loopw [26] (λi wr=>∃k:Nat,k<=ni/\i= .int .i64 k/\Fr w wr [.blk w.heap.size #[.int .i64 x.room,.slice ai ni ci,.slice al nl cl,.slice ag ng cg,.bool x.closed] 87]) (λi _=>ni-(intOf i).toNat)
 case atStart=>exact⟨0,by omega,rfl,F⟩
 case round=>
  obtain⟨k,hk,rfl,F1⟩:=hrel;by_cases hlt:k<ni
  ·obtain⟨b,o,rfl,g'⟩:=(F1.rd HR1.out).int (by have:=HH1.out;omega);have g1:=g' k (by have:=HH1.out;omega);obtain⟨y,hy⟩:∃y,y=x.items.getD k 0:=⟨_,rfl⟩
   rw[<-hy] at g1;have HY:Hid (0<=y/\y<=99):=xH1 (OK.out.2.2.1 y (by rw[hy];exact zbl (by have:=HH1.out;omega)));clear g' hy;go_wp2_with fail;refine(zbz y _ HY.out).mono ?_;rintro e wz ⟨rfl,hw⟩;obtain rfl:=hw;go_wp2
   go_roundw
   case rel=>exact⟨k+1,by omega,by go_num,F1⟩
   case measure=>simp[intOf];omega
  ·have hkm:k=ni:=(by omega);subst hkm;have cs:=F1.c5 0 rfl;go_wp2;clear cs
   go_loopw [37] (λi wr=>∃j:Nat,j<=nl/\i= .int .i64 j/\Fr w wr [.blk w.heap.size #[.int .i64 x.room,.slice ai k ci,.slice al nl cl,.slice ag ng cg,.bool x.closed] 87]) (λi _=>nl-(intOf i).toNat)
   case atStart=>exact⟨0,by omega,rfl,F1⟩
   case round=>
    obtain⟨j,hj,rfl,F2⟩:=hrel;by_cases hjt:j<nl
    ·obtain⟨b,o,rfl,g'⟩:=(F2.rd HR2.out).pair (by have:=HH2.out;omega);obtain⟨g1,g2⟩:=g' j (by have:=HH2.out;omega);obtain⟨y,hy⟩:∃y,y=x.senders.getD j (0,0):=⟨_,rfl⟩
     rw[<-hy] at g1 g2;have HY:Hid (0<=y.2/\y.2<=99):=xH1 (OK.out.2.2.2.1 y (by rw[hy];exact zbl (by have:=HH2.out;omega)));have F3:=F2.alloc #[.int .i64 y.1,.int .i64 y.2] 187;have cy:=F3.c2 0 rfl;clear g' hy;go_wp2_with fail;refine(zbz y.2 _ HY.out).mono ?_;rintro e wz ⟨rfl,hw⟩;obtain rfl:=hw;go_wp2
     go_roundw
     case rel=>exact⟨j+1,by omega,by go_num,F3.sub (by simp)⟩
     case measure=>simp[intOf];omega
    ·have hjm:j=nl:=(by omega);subst hjm;have cs:=F2.c5 0 rfl;go_wp2_with fail;refine(zcs x ai al ag k ci j cl ng cg _ HH2.out HH3.out (by omega) (by omega) (F2.rd HR2.out) (F2.rd HR3.out)).mono ?_;rintro e w3 ⟨a5,c5,rfl,ho,hb⟩;have F3:=F2.row hb ho;clear hb ho;go_wp2_with fail;refine(zbV a5 _ c5 (x.senders.map (·.1)++x.getters) _ (by rw[xDh,xDf,HH2.out,HH3.out]) (F3.rdRow 0 rfl) OK.out.2.2.2.2.1).mono ?_;rintro e w4 ⟨rfl,hb⟩;have F4:=F3.call hb;replace cs:=F4.c5 1 rfl;clear hb;by_cases hs:j=0
     ·by_cases hg:ng=0
      ·subst hs hg;go_wp2;go_ret;exact⟨rfl,F4.bel⟩
      ·have hgg:=OK.out.2.2.2.2.2.2 (λh=>hg (by rw[<-HH3.out,h];rfl));obtain rfl:k=0:=by rw[<-HH1.out,hgg.1];rfl
       have hcl:=hgg.2;have h0:(0:Int)<(ng:Int):=(by omega);have hz:((ng:Int)==0)=false:=(by simpa using hg);rw[hcl] at cs;subst hs;clear hgg hcl;go_wp2;go_ret;exact⟨rfl,F4.bel⟩
     ·have hss:=OK.out.2.2.2.2.2.1 (λh=>hs (by rw[<-HH2.out,h];rfl));have hk2:(k:Int)=x.room:=by rw[<-HH1.out];exact hss.1
      obtain rfl:ng=0:=by rw[<-HH3.out,hss.2.1];rfl
      have hcl:=hss.2.2;have h0:(0:Int)<(j:Int):=(by omega);rw[hcl] at cs;clear hss hcl hs;go_wp2;go_ret;exact⟨rfl,F4.bel⟩
theorem Sf.appg_se {w W:World} {l:List It} {v:StV} {L:StL} {s:StD} {ops:Array Oper} {rest:List Oper} {o:Oper} {ac:Act} {Q:Exit->Act->World->Prop} (h:Sf w W l v L s) (hgd:o.guard=none) (y z:Operand) (ho:o.op= .call {callee:= .builtin .append,args:= #[y,z],argTypes:= #[27,27]}) (hs:ac.eval y=v.se.val) {a2:Option Addr} {c2:Nat} {x:SemD} {q:SlV} (hx:ac.eval z= .slice a2 1 c2) (hr:Rd W a2 (semC (x,q))) (hq:semR (zv l++v.blks) W x q) (hn:v.se.n+1<=1048576)
  (K:∀(r:SlV) W',Sf w W' l {v with se:=r} {L with se:=L.se++[(x,q)]} {s with sems:=s.sems++[x]}->W.grownBy W' (ze v.se.a)->wpList Tryz.prog ops Q rest (ac.put o.dst r.val) W'):wpList Tryz.prog ops Q (o::rest) ac W:=
 zad hgd y z _ ho Tryz.underlying27 ziw rfl (by decide) hs h.st.se hx rfl hr (by intro u hu;simp only[semC,List.mem_cons,xDm,or_false] at hu;(rcases hu with rfl|rfl|rfl)<;>rfl) (by omega) (by decide) h.fr.bel.size λa' c' W' ho' hg hn'=>
  K ⟨a',v.se.n+1,c'⟩ W' (h.upd (zi.of_grown hg λk hk=>StV.mem_se hk) (h.st.push_se hg hn' hq (by show v.se.n+1=_;rw[h.st.nse]) (by rw[List.flatMap_append];simpa using ho'))) hg
theorem Sf.appg_on {w W:World} {l:List It} {v:StV} {L:StL} {s:StD} {ops:Array Oper} {rest:List Oper} {o:Oper} {ac:Act} {Q:Exit->Act->World->Prop} (h:Sf w W l v L s) (hgd:o.guard=none) (y z:Operand) (ho:o.op= .call {callee:= .builtin .append,args:= #[y,z],argTypes:= #[28,28]}) (hs:ac.eval y=v.on.val) {a2:Option Addr} {c2:Nat} {x:zaj} {q:SlV} (hx:ac.eval z= .slice a2 1 c2) (hr:Rd W a2 (zbo (x,q))) (hq:zda (zv l++v.blks) W x q) (hn:v.on.n+1<=1048576)
  (K:∀(r:SlV) W',Sf w W' l {v with on:=r} {L with on:=L.on++[(x,q)]} {s with onces:=s.onces++[x]}->W.grownBy W' (ze v.on.a)->wpList Tryz.prog ops Q rest (ac.put o.dst r.val) W'):wpList Tryz.prog ops Q (o::rest) ac W:=
 zad hgd y z _ ho Tryz.underlying28 zff rfl (by decide) hs h.st.on hx rfl hr (by intro u hu;simp only[zbo,List.mem_cons,xDm,or_false] at hu;(rcases hu with rfl|rfl|rfl|rfl)<;>rfl) (by omega) (by decide) h.fr.bel.size λa' c' W' ho' hg hn'=>
  K ⟨a',v.on.n+1,c'⟩ W' (h.upd (zi.of_grown hg λk hk=>StV.mem_on hk) (h.st.push_on hg hn' hq (by show v.on.n+1=_;rw[h.st.non]) (by rw[List.flatMap_append];simpa using ho'))) hg
theorem Sf.appg_gr {w W:World} {l:List It} {v:StV} {L:StL} {s:StD} {ops:Array Oper} {rest:List Oper} {o:Oper} {ac:Act} {Q:Exit->Act->World->Prop} (h:Sf w W l v L s) (hgd:o.guard=none) (y z:Operand) (ho:o.op= .call {callee:= .builtin .append,args:= #[y,z],argTypes:= #[29,29]}) (hs:ac.eval y=v.gr.val) {a2:Option Addr} {c2:Nat} {x:GrpD} {q:SlV} (hx:ac.eval z= .slice a2 1 c2) (hr:Rd W a2 (grpC (x,q))) (hq:grpR (zv l++v.blks) W x q) (hn:v.gr.n+1<=1048576)
  (K:∀(r:SlV) W',Sf w W' l {v with gr:=r} {L with gr:=L.gr++[(x,q)]} {s with groups:=s.groups++[x]}->W.grownBy W' (ze v.gr.a)->wpList Tryz.prog ops Q rest (ac.put o.dst r.val) W'):wpList Tryz.prog ops Q (o::rest) ac W:=
 zad hgd y z _ ho Tryz.underlying29 zig rfl (by decide) hs h.st.gr hx rfl hr (by intro u hu;simp only[grpC,List.mem_cons,xDm,or_false] at hu;(rcases hu with rfl|rfl)<;>rfl) (by omega) (by decide) h.fr.bel.size λa' c' W' ho' hg hn'=>
  K ⟨a',v.gr.n+1,c'⟩ W' (h.upd (zi.of_grown hg λk hk=>StV.mem_gr hk) (h.st.push_gr hg hn' hq (by show v.gr.n+1=_;rw[h.st.ngr]) (by rw[List.flatMap_append];simpa using ho'))) hg
theorem Sf.appg_ba {w W:World} {l:List It} {v:StV} {L:StL} {s:StD} {ops:Array Oper} {rest:List Oper} {o:Oper} {ac:Act} {Q:Exit->Act->World->Prop} (h:Sf w W l v L s) (hgd:o.guard=none) (y z:Operand) (ho:o.op= .call {callee:= .builtin .append,args:= #[y,z],argTypes:= #[30,30]}) (hs:ac.eval y=v.ba.val) {a2:Option Addr} {c2:Nat} {x:BarD} {q:SlV} (hx:ac.eval z= .slice a2 1 c2) (hr:Rd W a2 (barC (x,q))) (hq:barR (zv l++v.blks) W x q) (hn:v.ba.n+1<=1048576)
  (K:∀(r:SlV) W',Sf w W' l {v with ba:=r} {L with ba:=L.ba++[(x,q)]} {s with bars:=s.bars++[x]}->W.grownBy W' (ze v.ba.a)->wpList Tryz.prog ops Q rest (ac.put o.dst r.val) W'):wpList Tryz.prog ops Q (o::rest) ac W:=
 zad hgd y z _ ho Tryz.underlying30 zhT rfl (by decide) hs h.st.ba hx rfl hr (by intro u hu;simp only[barC,List.mem_cons,xDm,or_false] at hu;(rcases hu with rfl|rfl|rfl)<;>rfl) (by omega) (by decide) h.fr.bel.size λa' c' W' ho' hg hn'=>
  K ⟨a',v.ba.n+1,c'⟩ W' (h.upd (zi.of_grown hg λk hk=>StV.mem_ba hk) (h.st.push_ba hg hn' hq (by show v.ba.n+1=_;rw[h.st.nba]) (by rw[List.flatMap_append];simpa using ho'))) hg
theorem Sf.appg_ch {w W:World} {l:List It} {v:StV} {L:StL} {s:StD} {ops:Array Oper} {rest:List Oper} {o:Oper} {ac:Act} {Q:Exit->Act->World->Prop} (h:Sf w W l v L s) (hgd:o.guard=none) (y z:Operand) (ho:o.op= .call {callee:= .builtin .append,args:= #[y,z],argTypes:= #[31,31]}) (hs:ac.eval y=v.ch.val) {a2:Option Addr} {c2:Nat} {x:ChnD} {q:SlV×SlV×SlV} (hx:ac.eval z= .slice a2 1 c2) (hr:Rd W a2 (chnC (x,q))) (hq:chnR (zv l++v.blks) W x q) (hn:v.ch.n+1<=1048576)
  (K:∀(r:SlV) W',Sf w W' l {v with ch:=r} {L with ch:=L.ch++[(x,q)]} {s with chans:=s.chans++[x]}->W.grownBy W' (ze v.ch.a)->wpList Tryz.prog ops Q rest (ac.put o.dst r.val) W'):wpList Tryz.prog ops Q (o::rest) ac W:=
 zad hgd y z _ ho Tryz.underlying31 zim rfl (by decide) hs h.st.ch hx rfl hr (by intro u hu;simp only[chnC,List.mem_cons,xDm,or_false] at hu;(rcases hu with rfl|rfl|rfl|rfl|rfl)<;>rfl) (by omega) (by decide) h.fr.bel.size λa' c' W' ho' hg hn'=>
  K ⟨a',v.ch.n+1,c'⟩ W' (h.upd (zi.of_grown hg λk hk=>StV.mem_ch hk) (h.st.push_ch hg hn' hq (by show v.ch.n+1=_;rw[h.st.nch]) (by rw[List.flatMap_append];simpa using ho'))) hg
theorem zka {w W:World} {l:List It} {v:StV} {L0:StL} {s s0:StD} (h:Sf w W l v L0 s0) (e1:s0.places=s.places:=by rfl) (e2:s0.status=s.status:=by rfl) (e3:s0.said=s.said:=by rfl):Fr w W (xI v s ⟨[],[],[],[],[]⟩):=by
 refine⟨h.bel,λi hi=> ?_,?_⟩
 ·simp only[xI,innI,List.map_nil,List.flatMap_nil,List.append_nil,List.mem_cons,xDm,or_false] at hi;rcases hi with rfl|rfl|rfl
  ·rw[<-e1];exact h.st.pl
  ·rw[<-e2];exact h.st.st
  ·rw[<-e3];exact h.st.sa
 ·have h1:=h.st.dps;have h2:=h.st.dpa;have h3:=h.st.dsa;simp only[zv,xI,innI,List.map_nil,List.flatMap_nil,List.append_nil,List.flatMap_cons,It.foot];generalize ze v.pl.a=o1 at*;generalize ze v.st.a=o2 at*;generalize ze v.sa.a=o3 at*
  cases o1 with
  |none=>cases o2 with
   |none=>cases o3<;>simp
   |some y=>cases o3 with
    |none=>simp
    |some z=>simpa using λe=>h3 y rfl (by rw[e])
  |some x=>cases o2 with
   |none=>cases o3 with
    |none=>simp
    |some z=>simpa using λe=>h2 x rfl (by rw[e])
   |some y=>cases o3 with
    |none=>simpa using λe=>h1 x rfl (by rw[e])
    |some z=>simpa using⟨⟨λe=>h1 x rfl (by rw[e]),λe=>h2 x rfl (by rw[e])⟩,λe=>h3 y rfl (by rw[e])⟩
theorem zef (v:StV) (L:StL) (s:StD) (w:World) (hr:StR w v L s) (hz:SmS s):
  Calls Tryz.prog 61 #[v.val] w λe w'=>∃(v':StV) (L':StL),e= .returned v'.val/\StO [] w.heap.size w' v' L' s/\NewB w.heap.size L'/\Fr w w' (xI v' s L'):=by
 have npl:v.pl.n<=1048576:=by rw[hr.pl.len];exact hz.pl.2
 have Lpl:=xH1 hr.pl.len;have nst:v.st.n<=1048576:=by rw[hr.st.len];exact hz.st.2
 have Lst:=xH1 hr.st.len;have nse:v.se.n<=1048576:=by rw[hr.se.len];exact hz.se
 have Lse:=xH1 hr.se.len;have non:v.on.n<=1048576:=by rw[hr.on.len];exact hz.on
 have Lon:=xH1 hr.on.len;have ngr:v.gr.n<=1048576:=by rw[hr.gr.len];exact hz.gr
 have Lgr:=xH1 hr.gr.len;have nba:v.ba.n<=1048576:=by rw[hr.ba.len];exact hz.ba
 have Lba:=xH1 hr.ba.len;have nch:v.ch.n<=1048576:=by rw[hr.ch.len];exact hz.ch
 have Lch:=xH1 hr.ch.len;have nsa:v.sa.n<=1048576:=by rw[hr.sa.len];exact hz.sa
 have Lsa:=xH1 hr.sa.len;have HZ:=xH1 hz;have HS:=xH1 hr;have F:=((Fr.start w).alloc (svC v) 33).alloc zC 33;simp only[xDe] at F;clear hz hr;go_enter Tryz.func61,Tryz.ntmps61;go_wp2_with fail;obtain⟨u1,hu,F0⟩:=F.named;rw[<-hu];clear hu F;have F:=F0;clear F0
 refine zaJ 13 (by kernel_rfl) (by kernel_rfl) [isV (.pointer (some ⟨w.heap.size,0,none⟩)),isV (.slice v.pl.a v.pl.n v.pl.c),λdz uz wz=>∃(az:Option Addr) (cz:Nat),uz= .slice az v.pl.n cz/\wz.ownsRow u1.heap.size 3 1 (.slice az v.pl.n cz) v.pl.n (ints s.places),isV (.pointer (some ⟨w.heap.size,1,none⟩)),isV (.slice v.st.a v.st.n v.st.c),λdz uz wz=>∃(az:Option Addr) (cz:Nat),uz= .slice az v.st.n cz/\wz.ownsRow u1.heap.size 3 1 (.slice az v.st.n cz) v.st.n (ints s.status),isV (.pointer (some ⟨w.heap.size,7,none⟩)),isV (.slice v.sa.a v.sa.n v.sa.c),λdz uz wz=>∃(az:Option Addr) (cz:Nat),uz= .slice az v.sa.n cz/\wz.ownsRow u1.heap.size 3 1 (.slice az v.sa.n cz) v.sa.n (ints s.said),isV (.pointer (some ⟨w.heap.size,8,none⟩)),isV (.int .i64 v.fl),λdz uz wz=>uz=(.agg #[(dz.getD 0 undef),(dz.getD 1 undef),.slice none 0 0,.slice none 0 0,.slice none 0 0,.slice none 0 0,.slice none 0 0,(dz.getD 2 undef),(dz.getD 3 undef)]:Value),λdz uz wz=>∃gz:Nat,uz= .pointer (some ⟨gz,0,none⟩)/\Blk wz gz zC 33/\u1.heap.size<=gz] (λi=>match i with|2=>Value.ownBlock|5=>Value.ownBlock|8=>Value.ownBlock|12=>ptBk|_=>λ_=>none) (λw'=>xW u1 w') xB1.drew (zbT ⟨pS,pS,λ_ _ _ _ hb ⟨a,c,e,h⟩=>⟨a,c,e,zf h hb⟩,pS,pS,λ_ _ _ _ hb ⟨a,c,e,h⟩=>⟨a,c,e,zf h hb⟩,pS,pS,λ_ _ _ _ hb ⟨a,c,e,h⟩=>⟨a,c,e,zf h hb⟩,pS,pS,λ_ _ _ _ _ h=>h,stZ,trivial⟩) ?_ ?_
 ·simp only[List.take_succ_cons,List.take_zero];refine⟨?_,?_,?_,?_,?_,?_,?_,?_,?_,?_,?_,?_,?_,trivial⟩
  all_goals (intro ρ w1 hG hfr hd;obtain⟨fc,ff⟩:=fcff hfr;have f1:ρ (.tmp 1)= .pointer (some ⟨w.heap.size,0,none⟩):=hfr _ rfl;have F1:=F.call hG;have cs:=F1.c9 1 rfl;clear F1)
  ·exact gvF hG (by go_simp) rfl xN1
  ·obtain⟨d0,-⟩:=hd;have d0:ρ (.tmp 14)=_:=d0;exact gvF hG (by go_simp) rfl xN1
  ·obtain⟨d0,-⟩:=hd;have d0:ρ (.tmp 15)=_:=d0;refine zac (by go_simp;exact⟨⟨rfl,rfl⟩,rfl⟩) ?_;refine(z9 v.pl.a v.pl.n v.pl.c s.places _ Lpl.out.symm (by omega) ((F.rd HS.out.pl.rd).below hG)).mono ?_;rintro e w2 ⟨a1,c1,rfl,ho,hb⟩;exact⟨_,rfl,hb,⟨a1,c1,rfl,zl ho hG.size⟩,ho.lt,hG.trans (hb.mono hG.size)⟩
  ·exact gvF hG (by go_simp) rfl xN1
  ·obtain⟨d0,-⟩:=hd;have d0:ρ (.tmp 17)=_:=d0;exact gvF hG (by go_simp) rfl xN1
  ·obtain⟨d0,d1,-⟩:=hd;have d0:ρ (.tmp 18)=_:=d0;have d1:∃(az:Option Addr) (cz:Nat),(ρ (.tmp 16))= .slice az v.pl.n cz/\w1.ownsRow u1.heap.size 3 1 (.slice az v.pl.n cz) v.pl.n (ints s.places):=d1;refine zac (by go_simp;exact⟨⟨rfl,rfl⟩,rfl⟩) ?_;refine(z9 v.st.a v.st.n v.st.c s.status _ Lst.out.symm (by omega) ((F.rd HS.out.st.rd).below hG)).mono ?_;rintro e w2 ⟨a1,c1,rfl,ho,hb⟩;exact⟨_,rfl,hb,⟨a1,c1,rfl,zl ho hG.size⟩,ho.lt,hG.trans (hb.mono hG.size)⟩
  ·exact gvF hG (by go_simp) rfl xN1
  ·obtain⟨d0,-⟩:=hd;have d0:ρ (.tmp 20)=_:=d0;exact gvF hG (by go_simp) rfl xN1
  ·obtain⟨d0,d1,-⟩:=hd;have d0:ρ (.tmp 21)=_:=d0;have d1:∃(az:Option Addr) (cz:Nat),(ρ (.tmp 19))= .slice az v.st.n cz/\w1.ownsRow u1.heap.size 3 1 (.slice az v.st.n cz) v.st.n (ints s.status):=d1;refine zac (by go_simp;exact⟨⟨rfl,rfl⟩,rfl⟩) ?_;refine(z9 v.sa.a v.sa.n v.sa.c s.said _ Lsa.out.symm (by omega) ((F.rd HS.out.sa.rd).below hG)).mono ?_;rintro e w2 ⟨a1,c1,rfl,ho,hb⟩;exact⟨_,rfl,hb,⟨a1,c1,rfl,zl ho hG.size⟩,ho.lt,hG.trans (hb.mono hG.size)⟩
  ·exact gvF hG (by go_simp) rfl xN1
  ·obtain⟨d0,-⟩:=hd;have d0:ρ (.tmp 23)=_:=d0;exact gvF hG (by go_simp) rfl xN1
  ·obtain⟨d0,d1,d2,d3,-⟩:=hd;have d0:∃(az:Option Addr) (cz:Nat),(ρ (.tmp 16))= .slice az v.pl.n cz/\w1.ownsRow u1.heap.size 3 1 (.slice az v.pl.n cz) v.pl.n (ints s.places):=d0;have d1:∃(az:Option Addr) (cz:Nat),(ρ (.tmp 19))= .slice az v.st.n cz/\w1.ownsRow u1.heap.size 3 1 (.slice az v.st.n cz) v.st.n (ints s.status):=d1;have d2:∃(az:Option Addr) (cz:Nat),(ρ (.tmp 22))= .slice az v.sa.n cz/\w1.ownsRow u1.heap.size 3 1 (.slice az v.sa.n cz) v.sa.n (ints s.said):=d2;have d3:ρ (.tmp 24)=_:=d3;obtain⟨az0,cz0,d0,-⟩:=d0;obtain⟨az1,cz1,d1,-⟩:=d1;obtain⟨az2,cz2,d2,-⟩:=d2;refine zh (u:= .agg #[.slice az0 v.pl.n cz0,.slice az1 v.st.n cz1,.slice none 0 0,.slice none 0 0,.slice none 0 0,.slice none 0 0,.slice none 0 0,.slice az2 v.sa.n cz2,.int .i64 v.fl]) (w':=w1) (by go_simp) ⟨Below.refl _ _,?_,xN1,hG⟩;show Value.agg #[.slice az0 v.pl.n cz0,.slice az1 v.st.n cz1,.slice none 0 0,.slice none 0 0,.slice none 0 0,.slice none 0 0,.slice none 0 0,.slice az2 v.sa.n cz2,.int .i64 v.fl]=(.agg #[(ρ (.tmp 16)),(ρ (.tmp 19)),.slice none 0 0,.slice none 0 0,.slice none 0 0,.slice none 0 0,.slice none 0 0,(ρ (.tmp 22)),(ρ (.tmp 24))]:Value);rw[d0,d1,d2,d3]
  ·refine zh (u:= .pointer (some ⟨w1.heap.size,0,none⟩)) (w':=w1.alloc (.cells zC 33)) (by go_simp) ⟨xA1,⟨_,rfl,Blk.new _ _ _,hG.size⟩,zfT _ _,hG.alloc hG.size _⟩
 intro vs w2 hG hlen hall hap hbd;obtain⟨xv0,xv1,xv2,xv3,xv4,xv5,xv6,xv7,xv8,xv9,xv10,xv11,xv12,rfl⟩:=zkq hlen;clear hlen;simp only[List.take_succ_cons,List.take_zero,List.drop_succ_cons,List.drop_zero] at hall⊢;obtain⟨hv0,hv1,hv2,hv3,hv4,hv5,hv6,hv7,hv8,hv9,hv10,hv11,hv12,-⟩:=hall;replace hv2:∃(az:Option Addr) (cz:Nat),xv2= .slice az v.pl.n cz/\w2.ownsRow u1.heap.size 3 1 (.slice az v.pl.n cz) v.pl.n (ints s.places):=hv2;replace hv5:∃(az:Option Addr) (cz:Nat),xv5= .slice az v.st.n cz/\w2.ownsRow u1.heap.size 3 1 (.slice az v.st.n cz) v.st.n (ints s.status):=hv5;replace hv8:∃(az:Option Addr) (cz:Nat),xv8= .slice az v.sa.n cz/\w2.ownsRow u1.heap.size 3 1 (.slice az v.sa.n cz) v.sa.n (ints s.said):=hv8;replace hv11:xv11=(.agg #[xv2,xv5,.slice none 0 0,.slice none 0 0,.slice none 0 0,.slice none 0 0,.slice none 0 0,xv8,xv10]:Value):=hv11;replace hv12:∃gz:Nat,xv12= .pointer (some ⟨gz,0,none⟩)/\Blk w2 gz zC 33/\u1.heap.size<=gz:=hv12;obtain rfl:xv0=_:=hv0;obtain rfl:xv1=_:=hv1;obtain rfl:xv3=_:=hv3;obtain rfl:xv4=_:=hv4;obtain rfl:xv6=_:=hv6;obtain rfl:xv7=_:=hv7;obtain rfl:xv9=_:=hv9;obtain rfl:xv10=_:=hv10
 have pv2_5:∀k,(Value.ownBlock) xv2=some k->(Value.ownBlock) xv5≠some k:=hap 2 5 (by simp) (by simp) (by decide);have pv2_8:∀k,(Value.ownBlock) xv2=some k->(Value.ownBlock) xv8≠some k:=hap 2 8 (by simp) (by simp) (by decide);have pv5_8:∀k,(Value.ownBlock) xv5=some k->(Value.ownBlock) xv8≠some k:=hap 5 8 (by simp) (by simp) (by decide);clear hap hbd;simp only[zap,Act.put,List.setIfInBounds_toArray,List.set_cons_succ,List.set_cons_zero];obtain⟨a1,c1,rfl,o1⟩:=hv2;obtain⟨a2,c2,rfl,o2⟩:=hv5;obtain⟨a8,c8,rfl,o8⟩:=hv8;obtain⟨G,rfl,kG,hG0⟩:=hv12;simp only[zO] at pv2_5 pv2_8 pv5_8;have F2:=F.more hG (i:= .blk G zC 33) ⟨hG0,kG⟩;have hsz:=F.bel.size;have h0:Sf w w2 [.blk G zC 33,.blk (w.heap.size+1) zC 33,.blk w.heap.size (svC v) 33] ⟨⟨a1,v.pl.n,c1⟩,⟨a2,v.st.n,c2⟩,nilV,nilV,nilV,nilV,nilV,⟨a8,v.sa.n,c8⟩,v.fl⟩ ⟨[],[],[],[],[]⟩ (part s 0 0 0 0 0):=by
  refine⟨F2,?_⟩;refine⟨zl o1 hsz,Lpl.out,zl o2 hsz,Lst.out,xDi _ _ _ _,rfl,xDi _ _ _ _,rfl,xDi _ _ _ _,rfl,xDi _ _ _ _,rfl,xDi _ _ _ _,rfl,zl o8 hsz,Lsa.out,HS.out.fl,pv2_5,pv2_8,pv5_8,λq hq=>⟨(F2.inside q hq).2,λhm=> ?_⟩,⟨InL.nil,InL.nil,InL.nil,InL.nil,InL.nil⟩⟩;have hB:∃cs,Blk w2 q cs 33:=by
   obtain⟨i,hi,hqi⟩:=List.mem_flatMap.1 hq;simp only[List.mem_cons,xDm,or_false] at hi;rcases hi with rfl|rfl|rfl<;>obtain rfl:=xS1 hqi
   ·exact⟨_,F2.blk 0 rfl⟩
   ·exact⟨_,F2.blk 1 rfl⟩
   ·exact⟨_,F2.blk 2 rfl⟩
  obtain⟨cs,hB⟩:=hB;obtain⟨z,hz,hzk⟩:=xDc.1 hm;simp only[nilV,List.mem_cons,xDm,or_false] at hz;rcases hz with rfl|rfl|rfl|rfl|rfl|rfl|rfl|rfl
  ·exact zab hB o1 (by decide) hzk
  ·exact zab hB o2 (by decide) hzk
  iterate 5 cases hzk
  ·exact zab hB o8 (by decide) hzk
 have co:=h0.c9 0 rfl;have h1:=h0.set9 0 rfl (.slice a1 v.pl.n c1) (.slice a2 v.st.n c2) (.slice none 0 0) (.slice none 0 0) (.slice none 0 0) (.slice none 0 0) (.slice none 0 0) (.slice a8 v.sa.n c8) (.int .i64 v.fl);clear o1 o2 o8 pv2_5 pv2_8 pv5_8 kG hG0 F2 F h0 hsz hG;go_upto_region 2 with fail;obtain⟨wz,hw,h⟩:=h1.named;rw[<-hw];clear hw h1 co hv11;have HN:=NewB.nil w.heap.size;have HI:Hid (Fr w wz (xI ⟨⟨a1,v.pl.n,c1⟩,⟨a2,v.st.n,c2⟩,nilV,nilV,nilV,nilV,nilV,⟨a8,v.sa.n,c8⟩,v.fl⟩ s ⟨[],[],[],[],[]⟩)):=xH1 (zka h);have cs:=h.c9 2 rfl;go_wp2;clear cs
 go_loopw [29] (λi wr=>∃(k:Nat) (V:StV) (M:StL),k<=v.se.n/\i= .int .i64 k/\Sf w wr (cl3 w G V v) V M (part s k 0 0 0 0)/\NewB w.heap.size M/\Hid (Fr w wr (xI V s M))) (λi _=>v.se.n-(intOf i).toNat)
 case atStart=>exact⟨0,⟨⟨a1,v.pl.n,c1⟩,⟨a2,v.st.n,c2⟩,nilV,nilV,nilV,nilV,nilV,⟨a8,v.sa.n,c8⟩,v.fl⟩,_,by omega,rfl,h,HN,HI⟩
 case round=>
  clear h HN HI;obtain⟨k,V,M,hk,rfl,h,HN,HI⟩:=hrel;by_cases hlt:k<v.se.n
  ·have hks:k<s.sems.length:=by have:=Lse.out;omega
   obtain⟨x,q,b1,o1,HX,ea,g0,g1,g2,Q0,QL0,QC0⟩:=HS.out.at_se (j:=k) hks;replace g0:=zd h.bel g0;replace g1:=zd h.bel g1;replace g2:=zd h.bel g2;have hVn:V.se.n=k:=by rw[h.st.nse];show(s.sems.take k).length=k;rw[xDp];omega
   have HP:Hid (s.sems.take (k+1)=s.sems.take k++[x]):=xH1 (by rw[HX.out];exact(zas _ _ hks).symm);have h2:=h.alloc #[.int .i64 x.free,.int .i64 x.limit,.slice q.a q.n q.c] 74;have I2:=HI.out.call (xB1.alloc xL1 (.cells #[.int .i64 x.free,.int .i64 x.limit,.slice q.a q.n q.c] 74));have cx:=h2.c3 0 rfl;have HVN:=xH1 hVn;clear hks hVn;go_upto_region 5 with fail;obtain⟨u2,hu,h3⟩:=h2.named;rw[<-hu] at I2⊢;clear hu h2 h cx ea g0 g1 g2;apply zbc 5 [.k _,.k _,.k _,.r λdz uz wz=>∃(az:Option Addr) (cz:Nat),uz= .agg #[.int .i64 x.free,.int .i64 x.limit,.slice az q.n cz]/\wz.ownsRow u2.heap.size 167 2 (.slice az q.n cz) q.n (zt x.queue),.r λdz uz wz=>∃(gz:Nat) (az:Option Addr) (cz:Nat),uz= .slice (some ⟨gz,0,none⟩) 1 1/\Blk wz gz #[.int .i64 x.free,.int .i64 x.limit,.slice az q.n cz] 74/\wz.ownsRow u2.heap.size 167 2 (.slice az q.n cz) q.n (zt x.queue)] ⟨λ_ _ _ _ hb ⟨a,c,e,h⟩=>⟨a,c,e,zf h hb⟩,λ_ _ _ _ hb ⟨g,a,c,e,h,h1⟩=>⟨g,a,c,e,h.below hb,zf h1 hb⟩,trivial⟩ ?s1 ?e1
   case s1=>
    repeat' apply And.intro
    all_goals first|trivial|(intro ρ w1 hG hfr hd;obtain⟨fc,ff⟩:=fcff hfr;have f3:=hfr (.tmp 3) rfl;have f5:=hfr (.tmp 5) rfl;have F1:=h3.fr.call hG;have co:=F1.c9 1 rfl;have cx:=F1.c3 0 rfl;clear F1)
    exact rk0;exact rk1;exact rk0
    ·obtain⟨d0,-⟩:=hd;have d0:ρ (.tmp 35)=_:=d0;refine zac (by go_simp;exact⟨⟨rfl,rfl⟩,rfl⟩) ?_;refine(zbO x q.a q.n q.c _ QL0.out.symm (by rw[QL0.out,HX.out];exact HZ.out.qse k) ((h3.fr.call hG).rd Q0.out)).mono ?_;rintro e w2 ⟨a1,c1,rfl,ho,hb⟩;exact⟨_,rfl,hb,⟨a1,c1,rfl,zl ho hG.size⟩,xN1,hG.trans (hb.mono hG.size)⟩
    ·obtain⟨d0,-⟩:=hd;have d0:∃(az:Option Addr) (cz:Nat),(ρ (.tmp 36))= .agg #[.int .i64 x.free,.int .i64 x.limit,.slice az q.n cz]/\w1.ownsRow u2.heap.size 167 2 (.slice az q.n cz) q.n (zt x.queue):=d0;obtain⟨azz,czz,d0,ho⟩:=d0;have hb:xW w1 (w1.alloc (.cells #[.int .i64 x.free,.int .i64 x.limit,.slice azz q.n czz] 74)):=xA1;refine zh (u:= .slice (some ⟨w1.heap.size,0,none⟩) 1 1) (w':=w1.alloc (.cells #[.int .i64 x.free,.int .i64 x.limit,.slice azz q.n czz] 74)) (by go_simp) ⟨hb,⟨_,azz,czz,rfl,Blk.new _ _ _,zf ho hb⟩,xN1,hG.alloc hG.size _⟩
   intro w2 hG;refine zao ?_;intro xv3 hv3 xv4 hv4;obtain⟨gz,az,cz,rfl,kL,ho⟩:=hv4;have I3:=(I2.row hG ho).perm (zhN _ _ _ (zku M x ⟨az,q.n,cz⟩));have hq:semR (zv (.blk wr.heap.size #[.int .i64 x.free,.int .i64 x.limit,.slice q.a q.n q.c] 74::cl3 w G V v)++V.blks) w2 x ⟨az,q.n,cz⟩:=by
    have h9:=h3.apart (SlN.of_owns ho xL1);show SlR _ _ _ _ x.queue.length;rw[<-QL0.out];exact h9
   have HN2:=HN.se1 (x:=x) (q:=⟨az,q.n,cz⟩) (newS.lower (SlN.of_owns ho xL1).new h3.bel.size);have h4:=h3.call hG;have HQ:=xH1 hq;clear hq hG h3 hv3;go_wp2_with (at_builtin;refine h4.appg_se rfl _ _ rfl rfl rfl (Rd.of_blk kL) HQ.out (by have:=HVN.out;omega) ?_;intro r W5 h5 hgr;have I6:=xH1 (zeN (zfq I3 h4.st.se ⟨by decide,by decide,by decide⟩ hgr) (h5.fr.blk 1 rfl) ⟨by decide,by decide,by decide⟩ (h5.fr.inside G (by simp[zv,It.foot,cl3])).1 ((zi.refl _ _).set (j:=2) (v:=r.val) xS2));have co:=h5.c9 1 rfl;have h6:=(h5.set 1 rfl 2 r.val).sub (l':=cl3 w G {V with se:=r} v) (.cons _ (.refl _)))
   go_roundw
   case rel=>exact⟨k+1,{V with se:=r},_,by omega,by go_num,by
    have e:part s (k+1) 0 0 0 0={part s k 0 0 0 0 with sems:=s.sems.take k++[x]}:=by unfold part;rw[HP.out]
    rw[e];exact h6,HN2,I6⟩
   case measure=>simp[intOf];omega
  ·obtain rfl:k=v.se.n:=by omega
   clear hlt hk;have cs:=h.c9 2 rfl;go_wp2;clear cs
   go_loopw [44] (λi wr=>∃(k:Nat) (V:StV) (M:StL),k<=v.on.n/\i= .int .i64 k/\Sf w wr (cl3 w G V v) V M (part s v.se.n k 0 0 0)/\NewB w.heap.size M/\Hid (Fr w wr (xI V s M))) (λi _=>v.on.n-(intOf i).toNat)
   case atStart=>exact⟨0,V,_,by omega,rfl,h,HN,HI⟩
   case round=>
    clear h HN HI;obtain⟨k,V,M,hk,rfl,h,HN,HI⟩:=hrel;by_cases hlt:k<v.on.n
    ·have hks:k<s.onces.length:=by have:=Lon.out;omega
     obtain⟨x,q,b1,o1,HX,ea,g0,g1,g2,g3,Q0,QL0,QC0⟩:=HS.out.at_on (j:=k) hks;replace g0:=zd h.bel g0;replace g1:=zd h.bel g1;replace g2:=zd h.bel g2;replace g3:=zd h.bel g3;have hVn:V.on.n=k:=by rw[h.st.non];show(s.onces.take k).length=k;rw[xDp];omega
     have HP:Hid (s.onces.take (k+1)=s.onces.take k++[x]):=xH1 (by rw[HX.out];exact(zas _ _ hks).symm);have h2:=h.alloc #[.int .i64 x.state,.int .i64 x.owner,.int .i64 x.value,.slice q.a q.n q.c] 78;have I2:=HI.out.call (xB1.alloc xL1 (.cells #[.int .i64 x.state,.int .i64 x.owner,.int .i64 x.value,.slice q.a q.n q.c] 78));have cx:=h2.c4 0 rfl;have HVN:=xH1 hVn;clear hks hVn;go_upto_region 10 with fail;obtain⟨u2,hu,h3⟩:=h2.named;rw[<-hu] at I2⊢;clear hu h2 h cx ea g0 g1 g2 g3;apply zbc 5 [.k _,.k _,.k _,.r λdz uz wz=>∃(az:Option Addr) (cz:Nat),uz= .agg #[.int .i64 x.state,.int .i64 x.owner,.int .i64 x.value,.slice az q.n cz]/\wz.ownsRow u2.heap.size 3 1 (.slice az q.n cz) q.n (ints x.waits),.r λdz uz wz=>∃(gz:Nat) (az:Option Addr) (cz:Nat),uz= .slice (some ⟨gz,0,none⟩) 1 1/\Blk wz gz #[.int .i64 x.state,.int .i64 x.owner,.int .i64 x.value,.slice az q.n cz] 78/\wz.ownsRow u2.heap.size 3 1 (.slice az q.n cz) q.n (ints x.waits)] ⟨λ_ _ _ _ hb ⟨a,c,e,h⟩=>⟨a,c,e,zf h hb⟩,λ_ _ _ _ hb ⟨g,a,c,e,h,h1⟩=>⟨g,a,c,e,h.below hb,zf h1 hb⟩,trivial⟩ ?s2 ?e2
     case s2=>
      repeat' apply And.intro
      all_goals first|trivial|(intro ρ w1 hG hfr hd;obtain⟨fc,ff⟩:=fcff hfr;have f3:=hfr (.tmp 3) rfl;have f7:=hfr (.tmp 7) rfl;have F1:=h3.fr.call hG;have co:=F1.c9 1 rfl;have cx:=F1.c4 0 rfl;clear F1)
      exact rk0;exact rk1;exact rk0
      ·obtain⟨d0,-⟩:=hd;have d0:ρ (.tmp 50)=_:=d0;refine zac (by go_simp;exact⟨⟨rfl,rfl⟩,rfl⟩) ?_;refine(zcL x q.a q.n q.c _ QL0.out.symm (by rw[QL0.out,HX.out];exact HZ.out.qon k) ((h3.fr.call hG).rd Q0.out)).mono ?_;rintro e w2 ⟨a1,c1,rfl,ho,hb⟩;exact⟨_,rfl,hb,⟨a1,c1,rfl,zl ho hG.size⟩,xN1,hG.trans (hb.mono hG.size)⟩
      ·obtain⟨d0,-⟩:=hd;have d0:∃(az:Option Addr) (cz:Nat),(ρ (.tmp 51))= .agg #[.int .i64 x.state,.int .i64 x.owner,.int .i64 x.value,.slice az q.n cz]/\w1.ownsRow u2.heap.size 3 1 (.slice az q.n cz) q.n (ints x.waits):=d0;obtain⟨azz,czz,d0,ho⟩:=d0;have hb:xW w1 (w1.alloc (.cells #[.int .i64 x.state,.int .i64 x.owner,.int .i64 x.value,.slice azz q.n czz] 78)):=xA1;refine zh (u:= .slice (some ⟨w1.heap.size,0,none⟩) 1 1) (w':=w1.alloc (.cells #[.int .i64 x.state,.int .i64 x.owner,.int .i64 x.value,.slice azz q.n czz] 78)) (by go_simp) ⟨hb,⟨_,azz,czz,rfl,Blk.new _ _ _,zf ho hb⟩,xN1,hG.alloc hG.size _⟩
     intro w2 hG;refine zao ?_;intro xv3 hv3 xv4 hv4;obtain⟨gz,az,cz,rfl,kL,ho⟩:=hv4;have I3:=(I2.row hG ho).perm (zhN _ _ _ (zkt M x ⟨az,q.n,cz⟩));have hq:zda (zv (.blk wr.heap.size #[.int .i64 x.state,.int .i64 x.owner,.int .i64 x.value,.slice q.a q.n q.c] 78::cl3 w G V v)++V.blks) w2 x ⟨az,q.n,cz⟩:=by
      have h9:=h3.apart (SlN.of_owns ho xL1);show SlR _ _ _ _ x.waits.length;rw[<-QL0.out];exact h9
     have HN2:=HN.on1 (x:=x) (q:=⟨az,q.n,cz⟩) (newS.lower (SlN.of_owns ho xL1).new h3.bel.size);have h4:=h3.call hG;have HQ:=xH1 hq;clear hq hG h3 hv3;go_wp2_with (at_builtin;refine h4.appg_on rfl _ _ rfl rfl rfl (Rd.of_blk kL) HQ.out (by have:=HVN.out;omega) ?_;intro r W5 h5 hgr;have I6:=xH1 (zeN (zfq I3 h4.st.on ⟨by decide,by decide,by decide⟩ hgr) (h5.fr.blk 1 rfl) ⟨by decide,by decide,by decide⟩ (h5.fr.inside G (by simp[zv,It.foot,cl3])).1 ((zi.refl _ _).set (j:=3) (v:=r.val) xS2));have co:=h5.c9 1 rfl;have h6:=(h5.set 1 rfl 3 r.val).sub (l':=cl3 w G {V with on:=r} v) (.cons _ (.refl _)))
     go_roundw
     case rel=>exact⟨k+1,{V with on:=r},_,by omega,by go_num,by
      have e:part s v.se.n (k+1) 0 0 0={part s v.se.n k 0 0 0 with onces:=s.onces.take k++[x]}:=by unfold part;rw[HP.out]
      rw[e];exact h6,HN2,I6⟩
     case measure=>simp[intOf];omega
    ·obtain rfl:k=v.on.n:=by omega
     clear hlt hk;have cs:=h.c9 2 rfl;go_wp2;clear cs
     go_loopw [59] (λi wr=>∃(k:Nat) (V:StV) (M:StL),k<=v.gr.n/\i= .int .i64 k/\Sf w wr (cl3 w G V v) V M (part s v.se.n v.on.n k 0 0)/\NewB w.heap.size M/\Hid (Fr w wr (xI V s M))) (λi _=>v.gr.n-(intOf i).toNat)
     case atStart=>exact⟨0,V,_,by omega,rfl,h,HN,HI⟩
     case round=>
      clear h HN HI;obtain⟨k,V,M,hk,rfl,h,HN,HI⟩:=hrel;by_cases hlt:k<v.gr.n
      ·have hks:k<s.groups.length:=by have:=Lgr.out;omega
       obtain⟨x,q,b1,o1,HX,ea,g0,g1,Q0,QL0,QC0⟩:=HS.out.at_gr (j:=k) hks;replace g0:=zd h.bel g0;replace g1:=zd h.bel g1;have hVn:V.gr.n=k:=by rw[h.st.ngr];show(s.groups.take k).length=k;rw[xDp];omega
       have HP:Hid (s.groups.take (k+1)=s.groups.take k++[x]):=xH1 (by rw[HX.out];exact(zas _ _ hks).symm);have h2:=h.alloc #[.int .i64 x.count,.slice q.a q.n q.c] 80;have I2:=HI.out.call (xB1.alloc xL1 (.cells #[.int .i64 x.count,.slice q.a q.n q.c] 80));have cx:=h2.c2 0 rfl;have HVN:=xH1 hVn;clear hks hVn;go_upto_region 15 with fail;obtain⟨u2,hu,h3⟩:=h2.named;rw[<-hu] at I2⊢;clear hu h2 h cx ea g0 g1;apply zbc 9 [.k _,.k _,.k _,.k _,.k _,.k _,.r λdz uz wz=>∃(az:Option Addr) (cz:Nat),uz= .slice az q.n cz/\wz.ownsRow u2.heap.size 3 1 (.slice az q.n cz) q.n (ints x.waits),.r λdz uz wz=>∃(az:Option Addr) (cz:Nat),uz= .agg #[.int .i64 x.count,.slice az q.n cz]/\wz.ownsRow u2.heap.size 3 1 (.slice az q.n cz) q.n (ints x.waits),.r λdz uz wz=>∃(gz:Nat) (az:Option Addr) (cz:Nat),uz= .slice (some ⟨gz,0,none⟩) 1 1/\Blk wz gz #[.int .i64 x.count,.slice az q.n cz] 80/\wz.ownsRow u2.heap.size 3 1 (.slice az q.n cz) q.n (ints x.waits)] ⟨λ_ _ _ _ hb ⟨a,c,e,h⟩=>⟨a,c,e,zf h hb⟩,λ_ _ _ _ hb ⟨a,c,e,h⟩=>⟨a,c,e,zf h hb⟩,λ_ _ _ _ hb ⟨g,a,c,e,h,h1⟩=>⟨g,a,c,e,h.below hb,zf h1 hb⟩,trivial⟩ ?s3 ?e3
       case s3=>
        repeat' apply And.intro
        all_goals first|trivial|(intro ρ w1 hG hfr hd;obtain⟨fc,ff⟩:=fcff hfr;have f3:=hfr (.tmp 3) rfl;have f9:=hfr (.tmp 9) rfl;have F1:=h3.fr.call hG;have co:=F1.c9 1 rfl;have cx:=F1.c2 0 rfl;clear F1)
        exact rk0;exact rk1;exact rk0;exact rk1;exact rk0;exact rk1
        ·obtain⟨d0,-⟩:=hd;have d0:ρ (.tmp 68)=_:=d0;refine zac (by go_simp;exact⟨⟨rfl,rfl⟩,rfl⟩) ?_;refine(z9 q.a q.n q.c x.waits _ QL0.out.symm (by have h1:=HZ.out.qgr k;rw[<-HX.out,<-QL0.out] at h1;omega) ((h3.fr.call hG).rd Q0.out)).mono ?_;rintro e w2 ⟨a1,c1,rfl,ho,hb⟩;exact⟨_,rfl,hb,⟨a1,c1,rfl,zl ho hG.size⟩,xN1,hG.trans (hb.mono hG.size)⟩
        ·obtain⟨d0,d1,-⟩:=hd;have d0:ρ (.tmp 66)=_:=d0;have d1:∃(az:Option Addr) (cz:Nat),(ρ (.tmp 69))= .slice az q.n cz/\w1.ownsRow u2.heap.size 3 1 (.slice az q.n cz) q.n (ints x.waits):=d1;obtain⟨azz,czz,d1,ho⟩:=d1;exact gvF hG (by go_simp) ⟨azz,czz,rfl,ho⟩ xN1
        ·obtain⟨d0,-⟩:=hd;have d0:∃(az:Option Addr) (cz:Nat),(ρ (.tmp 70))= .agg #[.int .i64 x.count,.slice az q.n cz]/\w1.ownsRow u2.heap.size 3 1 (.slice az q.n cz) q.n (ints x.waits):=d0;obtain⟨azz,czz,d0,ho⟩:=d0;have hb:xW w1 (w1.alloc (.cells #[.int .i64 x.count,.slice azz q.n czz] 80)):=xA1;refine zh (u:= .slice (some ⟨w1.heap.size,0,none⟩) 1 1) (w':=w1.alloc (.cells #[.int .i64 x.count,.slice azz q.n czz] 80)) (by go_simp) ⟨hb,⟨_,azz,czz,rfl,Blk.new _ _ _,zf ho hb⟩,xN1,hG.alloc hG.size _⟩
       intro w2 hG;refine zao ?_;intro xv6 hv6 xv7 hv7 xv8 hv8;obtain⟨gz,az,cz,rfl,kL,ho⟩:=hv8;have I3:=(I2.row hG ho).perm (zhN _ _ _ (zkz M x ⟨az,q.n,cz⟩));have hq:grpR (zv (.blk wr.heap.size #[.int .i64 x.count,.slice q.a q.n q.c] 80::cl3 w G V v)++V.blks) w2 x ⟨az,q.n,cz⟩:=by
        have h9:=h3.apart (SlN.of_owns ho xL1);show SlR _ _ _ _ x.waits.length;rw[<-QL0.out];exact h9
       have HN2:=HN.gr1 (x:=x) (q:=⟨az,q.n,cz⟩) (newS.lower (SlN.of_owns ho xL1).new h3.bel.size);have h4:=h3.call hG;have HQ:=xH1 hq;clear hq hG h3 hv7;go_wp2_with (at_builtin;refine h4.appg_gr rfl _ _ rfl rfl rfl (Rd.of_blk kL) HQ.out (by have:=HVN.out;omega) ?_;intro r W5 h5 hgr;have I6:=xH1 (zeN (zfq I3 h4.st.gr ⟨by decide,by decide,by decide⟩ hgr) (h5.fr.blk 1 rfl) ⟨by decide,by decide,by decide⟩ (h5.fr.inside G (by simp[zv,It.foot,cl3])).1 ((zi.refl _ _).set (j:=4) (v:=r.val) xS2));have co:=h5.c9 1 rfl;have h6:=(h5.set 1 rfl 4 r.val).sub (l':=cl3 w G {V with gr:=r} v) (.cons _ (.refl _)))
       go_roundw
       case rel=>exact⟨k+1,{V with gr:=r},_,by omega,by go_num,by
        have e:part s v.se.n v.on.n (k+1) 0 0={part s v.se.n v.on.n k 0 0 with groups:=s.groups.take k++[x]}:=by unfold part;rw[HP.out]
        rw[e];exact h6,HN2,I6⟩
       case measure=>simp[intOf];omega
      ·obtain rfl:k=v.gr.n:=by omega
       clear hlt hk;have cs:=h.c9 2 rfl;go_wp2;clear cs
       go_loopw [78] (λi wr=>∃(k:Nat) (V:StV) (M:StL),k<=v.ba.n/\i= .int .i64 k/\Sf w wr (cl3 w G V v) V M (part s v.se.n v.on.n v.gr.n k 0)/\NewB w.heap.size M/\Hid (Fr w wr (xI V s M))) (λi _=>v.ba.n-(intOf i).toNat)
       case atStart=>exact⟨0,V,_,by omega,rfl,h,HN,HI⟩
       case round=>
        clear h HN HI;obtain⟨k,V,M,hk,rfl,h,HN,HI⟩:=hrel;by_cases hlt:k<v.ba.n
        ·have hks:k<s.bars.length:=by have:=Lba.out;omega
         obtain⟨x,q,b1,o1,HX,ea,g0,g1,g2,Q0,QL0,QC0⟩:=HS.out.at_ba (j:=k) hks;replace g0:=zd h.bel g0;replace g1:=zd h.bel g1;replace g2:=zd h.bel g2;have hVn:V.ba.n=k:=by rw[h.st.nba];show(s.bars.take k).length=k;rw[xDp];omega
         have HP:Hid (s.bars.take (k+1)=s.bars.take k++[x]):=xH1 (by rw[HX.out];exact(zas _ _ hks).symm);have h2:=h.alloc #[.int .i64 x.parties,.int .i64 x.round,.slice q.a q.n q.c] 82;have I2:=HI.out.call (xB1.alloc xL1 (.cells #[.int .i64 x.parties,.int .i64 x.round,.slice q.a q.n q.c] 82));have cx:=h2.c3 0 rfl;have HVN:=xH1 hVn;clear hks hVn;go_upto_region 20 with fail;obtain⟨u2,hu,h3⟩:=h2.named;rw[<-hu] at I2⊢;clear hu h2 h cx ea g0 g1 g2;apply zbc 11 [.k _,.k _,.k _,.k _,.k _,.k _,.k _,.k _,.r λdz uz wz=>∃(az:Option Addr) (cz:Nat),uz= .slice az q.n cz/\wz.ownsRow u2.heap.size 3 1 (.slice az q.n cz) q.n (ints x.waits),.r λdz uz wz=>∃(az:Option Addr) (cz:Nat),uz= .agg #[.int .i64 x.parties,.int .i64 x.round,.slice az q.n cz]/\wz.ownsRow u2.heap.size 3 1 (.slice az q.n cz) q.n (ints x.waits),.r λdz uz wz=>∃(gz:Nat) (az:Option Addr) (cz:Nat),uz= .slice (some ⟨gz,0,none⟩) 1 1/\Blk wz gz #[.int .i64 x.parties,.int .i64 x.round,.slice az q.n cz] 82/\wz.ownsRow u2.heap.size 3 1 (.slice az q.n cz) q.n (ints x.waits)] ⟨λ_ _ _ _ hb ⟨a,c,e,h⟩=>⟨a,c,e,zf h hb⟩,λ_ _ _ _ hb ⟨a,c,e,h⟩=>⟨a,c,e,zf h hb⟩,λ_ _ _ _ hb ⟨g,a,c,e,h,h1⟩=>⟨g,a,c,e,h.below hb,zf h1 hb⟩,trivial⟩ ?s4 ?e4
         case s4=>
          repeat' apply And.intro
          all_goals first|trivial|(intro ρ w1 hG hfr hd;obtain⟨fc,ff⟩:=fcff hfr;have f3:=hfr (.tmp 3) rfl;have f11:=hfr (.tmp 11) rfl;have F1:=h3.fr.call hG;have co:=F1.c9 1 rfl;have cx:=F1.c3 0 rfl;clear F1)
          exact rk0;exact rk1;exact rk0;exact rk1;exact rk0;exact rk1;exact rk0;exact rk1
          ·obtain⟨d0,-⟩:=hd;have d0:ρ (.tmp 89)=_:=d0;refine zac (by go_simp;exact⟨⟨rfl,rfl⟩,rfl⟩) ?_;refine(z9 q.a q.n q.c x.waits _ QL0.out.symm (by have h1:=HZ.out.qba k;rw[<-HX.out,<-QL0.out] at h1;omega) ((h3.fr.call hG).rd Q0.out)).mono ?_;rintro e w2 ⟨a1,c1,rfl,ho,hb⟩;exact⟨_,rfl,hb,⟨a1,c1,rfl,zl ho hG.size⟩,xN1,hG.trans (hb.mono hG.size)⟩
          ·obtain⟨d0,d1,d2,-⟩:=hd;have d0:ρ (.tmp 85)=_:=d0;have d1:ρ (.tmp 87)=_:=d1;have d2:∃(az:Option Addr) (cz:Nat),(ρ (.tmp 90))= .slice az q.n cz/\w1.ownsRow u2.heap.size 3 1 (.slice az q.n cz) q.n (ints x.waits):=d2;obtain⟨azz,czz,d2,ho⟩:=d2;exact gvF hG (by go_simp) ⟨azz,czz,rfl,ho⟩ xN1
          ·obtain⟨d0,-⟩:=hd;have d0:∃(az:Option Addr) (cz:Nat),(ρ (.tmp 91))= .agg #[.int .i64 x.parties,.int .i64 x.round,.slice az q.n cz]/\w1.ownsRow u2.heap.size 3 1 (.slice az q.n cz) q.n (ints x.waits):=d0;obtain⟨azz,czz,d0,ho⟩:=d0;have hb:xW w1 (w1.alloc (.cells #[.int .i64 x.parties,.int .i64 x.round,.slice azz q.n czz] 82)):=xA1;refine zh (u:= .slice (some ⟨w1.heap.size,0,none⟩) 1 1) (w':=w1.alloc (.cells #[.int .i64 x.parties,.int .i64 x.round,.slice azz q.n czz] 82)) (by go_simp) ⟨hb,⟨_,azz,czz,rfl,Blk.new _ _ _,zf ho hb⟩,xN1,hG.alloc hG.size _⟩
         intro w2 hG;refine zao ?_;intro xv8 hv8 xv9 hv9 xv10 hv10;obtain⟨gz,az,cz,rfl,kL,ho⟩:=hv10;have I3:=(I2.row hG ho).perm (zhN _ _ _ (zkA M x ⟨az,q.n,cz⟩));have hq:barR (zv (.blk wr.heap.size #[.int .i64 x.parties,.int .i64 x.round,.slice q.a q.n q.c] 82::cl3 w G V v)++V.blks) w2 x ⟨az,q.n,cz⟩:=by
          have h9:=h3.apart (SlN.of_owns ho xL1);show SlR _ _ _ _ x.waits.length;rw[<-QL0.out];exact h9
         have HN2:=HN.ba1 (x:=x) (q:=⟨az,q.n,cz⟩) (newS.lower (SlN.of_owns ho xL1).new h3.bel.size);have h4:=h3.call hG;have HQ:=xH1 hq;clear hq hG h3 hv9;go_wp2_with (at_builtin;refine h4.appg_ba rfl _ _ rfl rfl rfl (Rd.of_blk kL) HQ.out (by have:=HVN.out;omega) ?_;intro r W5 h5 hgr;have I6:=xH1 (zeN (zfq I3 h4.st.ba ⟨by decide,by decide,by decide⟩ hgr) (h5.fr.blk 1 rfl) ⟨by decide,by decide,by decide⟩ (h5.fr.inside G (by simp[zv,It.foot,cl3])).1 ((zi.refl _ _).set (j:=5) (v:=r.val) xS2));have co:=h5.c9 1 rfl;have h6:=(h5.set 1 rfl 5 r.val).sub (l':=cl3 w G {V with ba:=r} v) (.cons _ (.refl _)))
         go_roundw
         case rel=>exact⟨k+1,{V with ba:=r},_,by omega,by go_num,by
          have e:part s v.se.n v.on.n v.gr.n (k+1) 0={part s v.se.n v.on.n v.gr.n k 0 with bars:=s.bars.take k++[x]}:=by unfold part;rw[HP.out]
          rw[e];exact h6,HN2,I6⟩
         case measure=>simp[intOf];omega
        ·obtain rfl:k=v.ba.n:=by omega
         clear hlt hk;have cs:=h.c9 2 rfl;go_wp2;clear cs
         go_loopw [99] (λi wr=>∃(k:Nat) (V:StV) (M:StL),k<=v.ch.n/\i= .int .i64 k/\Sf w wr (cl3 w G V v) V M (part s v.se.n v.on.n v.gr.n v.ba.n k)/\NewB w.heap.size M/\Hid (Fr w wr (xI V s M))) (λi _=>v.ch.n-(intOf i).toNat)
         case atStart=>exact⟨0,V,_,by omega,rfl,h,HN,HI⟩
         case round=>
          clear h HN HI;obtain⟨k,V,M,hk,rfl,h,HN,HI⟩:=hrel;by_cases hlt:k<v.ch.n
          ·have hks:k<s.chans.length:=by have:=Lch.out;omega
           obtain⟨x,q,b1,o1,HX,ea,g0,g1,g2,g3,g4,Q0,QL0,QC0,Q1,QL1,QC1,Q2,QL2,QC2⟩:=HS.out.at_ch (j:=k) hks;replace g0:=zd h.bel g0;replace g1:=zd h.bel g1;replace g2:=zd h.bel g2;replace g3:=zd h.bel g3;replace g4:=zd h.bel g4;have hVn:V.ch.n=k:=by rw[h.st.nch];show(s.chans.take k).length=k;rw[xDp];omega
           have HP:Hid (s.chans.take (k+1)=s.chans.take k++[x]):=xH1 (by rw[HX.out];exact(zas _ _ hks).symm);have h2:=h.alloc #[.int .i64 x.room,.slice q.1.a q.1.n q.1.c,.slice q.2.1.a q.2.1.n q.2.1.c,.slice q.2.2.a q.2.2.n q.2.2.c,.bool x.closed] 87;have I2:=HI.out.call (xB1.alloc xL1 (.cells #[.int .i64 x.room,.slice q.1.a q.1.n q.1.c,.slice q.2.1.a q.2.1.n q.2.1.c,.slice q.2.2.a q.2.2.n q.2.2.c,.bool x.closed] 87));have cx:=h2.c5 0 rfl;have HVN:=xH1 hVn;clear hks hVn;go_upto_region 25 with fail;obtain⟨u2,hu,h3⟩:=h2.named;rw[<-hu] at I2⊢;clear hu h2 h cx ea g0 g1 g2 g3 g4
           apply zbc 5 [.k _,.k _,.k _,.r λdz uz wz=>∃(bi bs bg:Option Addr) (di ds dg:Nat),uz= .agg #[.int .i64 x.room,.slice bi q.1.n di,.slice bs q.2.1.n ds,.slice bg q.2.2.n dg,.bool x.closed]/\Fr u2 wz [rwI ⟨bg,q.2.2.n,dg⟩ x.getters,rwL ⟨bs,q.2.1.n,ds⟩ x.senders,rwI ⟨bi,q.1.n,di⟩ x.items],.r λdz uz wz=>∃(gz:Nat) (bi bs bg:Option Addr) (di ds dg:Nat),uz= .slice (some ⟨gz,0,none⟩) 1 1/\Blk wz gz #[.int .i64 x.room,.slice bi q.1.n di,.slice bs q.2.1.n ds,.slice bg q.2.2.n dg,.bool x.closed] 87/\Fr u2 wz [rwI ⟨bg,q.2.2.n,dg⟩ x.getters,rwL ⟨bs,q.2.1.n,ds⟩ x.senders,rwI ⟨bi,q.1.n,di⟩ x.items]] ⟨λ_ _ _ _ hb ⟨a,b,c,d1,d2,d3,e,h1⟩=>⟨a,b,c,d1,d2,d3,e,h1.call hb⟩,λ_ _ _ _ hb ⟨g,a,b,c,d1,d2,d3,e,h,h1⟩=>⟨g,a,b,c,d1,d2,d3,e,h.below hb,h1.call hb⟩,trivial⟩ ?s5 ?e5
           case s5=>
            repeat' apply And.intro
            all_goals first|trivial|(intro ρ w1 hG hfr hd;obtain⟨fc,ff⟩:=fcff hfr;have f3:=hfr (.tmp 3) rfl;have f13:=hfr (.tmp 13) rfl;have F1:=h3.fr.call hG;have co:=F1.c9 1 rfl;have cx:=F1.c5 0 rfl;clear F1)
            exact rk0;exact rk1;exact rk0
            ·obtain⟨d0,-⟩:=hd;have d0:ρ (.tmp 105)=_:=d0;refine zac (by go_simp;exact⟨⟨rfl,rfl⟩,rfl⟩) ?_;refine(zaQ x q.1.a q.2.1.a q.2.2.a q.1.n q.1.c q.2.1.n q.2.1.c q.2.2.n q.2.2.c _ QL0.out.symm QL1.out.symm QL2.out.symm (by rw[QL0.out,HX.out];exact(HZ.out.qch k).1) (by rw[QL1.out,HX.out];exact(HZ.out.qch k).2.1) (by rw[QL2.out,HX.out];exact(HZ.out.qch k).2.2) ((h3.fr.call hG).rd Q0.out) ((h3.fr.call hG).rd Q1.out) ((h3.fr.call hG).rd Q2.out)).mono ?_;rintro e w2 ⟨bi,bs,bg,di,ds,dg,rfl,F'⟩;exact⟨_,rfl,F'.bel,⟨bi,bs,bg,di,ds,dg,rfl,Fr.early hG F'⟩,xN1,hG.trans (F'.bel.mono hG.size)⟩
            ·obtain⟨d0,-⟩:=hd;have d0:∃(bi bs bg:Option Addr) (di ds dg:Nat),(ρ (.tmp 106))= .agg #[.int .i64 x.room,.slice bi q.1.n di,.slice bs q.2.1.n ds,.slice bg q.2.2.n dg,.bool x.closed]/\Fr u2 w1 [rwI ⟨bg,q.2.2.n,dg⟩ x.getters,rwL ⟨bs,q.2.1.n,ds⟩ x.senders,rwI ⟨bi,q.1.n,di⟩ x.items]:=d0;obtain⟨bi,bs,bg,di,ds,dg,d0,F3⟩:=d0;have hb:xW w1 (w1.alloc (.cells #[.int .i64 x.room,.slice bi q.1.n di,.slice bs q.2.1.n ds,.slice bg q.2.2.n dg,.bool x.closed] 87)):=xA1;refine zh (u:= .slice (some ⟨w1.heap.size,0,none⟩) 1 1) (w':=w1.alloc (.cells #[.int .i64 x.room,.slice bi q.1.n di,.slice bs q.2.1.n ds,.slice bg q.2.2.n dg,.bool x.closed] 87)) (by go_simp) ⟨hb,⟨_,bi,bs,bg,di,ds,dg,rfl,Blk.new _ _ _,F3.call hb⟩,xN1,hG.alloc hG.size _⟩
           intro w2 hG;refine zao ?_;intro xv3 hv3 xv4 hv4;obtain⟨gz,bi,bs,bg,di,ds,dg,rfl,kL,F3⟩:=hv4;have I3:=(I2.join F3).perm (zkI _ _ _ (zkw M x (⟨bi,q.1.n,di⟩,⟨bs,q.2.1.n,ds⟩,⟨bg,q.2.2.n,dg⟩)));have o1:=F3.own 2 rfl;have o2:=F3.own 1 rfl;have o3:=F3.own 0 rfl;have hq:chnR (zv (.blk wr.heap.size #[.int .i64 x.room,.slice q.1.a q.1.n q.1.c,.slice q.2.1.a q.2.1.n q.2.1.c,.slice q.2.2.a q.2.2.n q.2.2.c,.bool x.closed] 87::cl3 w G V v)++V.blks) w2 x (⟨bi,q.1.n,di⟩,⟨bs,q.2.1.n,ds⟩,⟨bg,q.2.2.n,dg⟩):=⟨by rw[<-QL0.out];exact h3.apart (SlN.of_owns o1 xL1),by rw[<-QL1.out];exact h3.apart (SlN.of_owns o2 xL1),by rw[<-QL2.out];exact h3.apart (SlN.of_owns o3 xL1)⟩
           have HN2:=HN.ch1 (x:=x) (q:=(⟨bi,q.1.n,di⟩,⟨bs,q.2.1.n,ds⟩,⟨bg,q.2.2.n,dg⟩)) ⟨newS.lower (SlN.of_owns o1 xL1).new h3.bel.size,newS.lower (SlN.of_owns o2 xL1).new h3.bel.size,newS.lower (SlN.of_owns o3 xL1).new h3.bel.size⟩;have h4:=h3.call hG;have HQ:=xH1 hq;clear hq hG h3 hv3;go_wp2_with (at_builtin;refine h4.appg_ch rfl _ _ rfl rfl rfl (Rd.of_blk kL) HQ.out (by have:=HVN.out;omega) ?_;intro r W5 h5 hgr;have I6:=xH1 (zeN (zfq I3 h4.st.ch ⟨by decide,by decide,by decide⟩ hgr) (h5.fr.blk 1 rfl) ⟨by decide,by decide,by decide⟩ (h5.fr.inside G (by simp[zv,It.foot,cl3])).1 ((zi.refl _ _).set (j:=6) (v:=r.val) xS2));have co:=h5.c9 1 rfl;have h6:=(h5.set 1 rfl 6 r.val).sub (l':=cl3 w G {V with ch:=r} v) (.cons _ (.refl _)))
           go_roundw
           case rel=>exact⟨k+1,{V with ch:=r},_,by omega,by go_num,by
            have e:part s v.se.n v.on.n v.gr.n v.ba.n (k+1)={part s v.se.n v.on.n v.gr.n v.ba.n k with chans:=s.chans.take k++[x]}:=by unfold part;rw[HP.out]
            rw[e];exact h6,HN2,I6⟩
           case measure=>simp[intOf];omega
          ·obtain rfl:k=v.ch.n:=by omega
           clear hlt hk;have cs:=h.c9 2 rfl;have co:=h.c9 0 rfl;have cr:=h.c9 1 rfl;have hp:part s v.se.n v.on.n v.gr.n v.ba.n v.ch.n=s:=by rw[Lse.out,Lon.out,Lgr.out,Lba.out,Lch.out];exact zhV s
           rw[hp] at h;have I7:=xH1 (zeN HI.out (h.fr.blk 1 rfl) ⟨by decide,by decide,by decide⟩ (h.fr.inside (w.heap.size+1) (by simp[zv,It.foot,cl3])).1 ((((((((((zi.refl _ _).set (j:=0) (v:= .slice V.pl.a V.pl.n V.pl.c) xS2).set (j:=1) (v:= .slice V.st.a V.st.n V.st.c) xS2).set (j:=2) (v:= .slice V.se.a V.se.n V.se.c) xS2).set (j:=3) (v:= .slice V.on.a V.on.n V.on.c) xS2).set (j:=4) (v:= .slice V.gr.a V.gr.n V.gr.c) xS2).set (j:=5) (v:= .slice V.ba.a V.ba.n V.ba.c) xS2).set (j:=6) (v:= .slice V.ch.a V.ch.n V.ch.c) xS2).set (j:=7) (v:= .slice V.sa.a V.sa.n V.sa.c) xS2).set (j:=8) (v:= .int .i64 V.fl) xS2));have h7:=h.setV 1 rfl V;go_wp2;exact xDd (v:=V.val) (by simp[results,Tryz.results61,go_sem,h7.c9 1 rfl]) rfl ⟨V,M,rfl,h7.st.sub (by simp),HN,I7.out⟩
theorem zdk (v:StV) (L:StL) (s:StD) (w:World) (hr:StR w v L s) (hz:SmS s):
  Calls Tryz.prog 61 #[v.val] w λe w'=>∃(v':StV) (L':StL),e= .returned v'.val/\StO [] w.heap.size w' v' L' s/\NewB w.heap.size L'/\xW w w':=
 (zef v L s w hr hz).mono λ_ _ ⟨v',L',e,h,hn,F⟩=>⟨v',L',e,h,hn,F.bel⟩
abbrev entC (x:Int×Int×Int):List Value:=[.int .i64 x.1,.int .i64 x.2.1,.int .i64 x.2.2]
theorem zkj:(Tryz.prog.info? 183).map (λi=>(i.zero,i.size,i.bytes))=some (some (.agg #[.int .i64 0,.int .i64 0,.int .i64 0]),3,24):=by kernel_rfl
theorem zhh (w:World):(zeroValue 181).run Tryz.prog w= .ok (.slice none 0 0) w:=by kernel_rfl
theorem zgp (w:World):(zeroValue 22).run Tryz.prog w= .ok (.slice none 0 0) w:=by kernel_rfl
theorem zcC (t k on arg:Int) (C B:Nat) (es:List Ent) (W:World) (hc:W.cell? ⟨C,0,none⟩=some (.map (some B))) (hm:WMap entC W B es) (ht:t∉es.map (·.1)):
  Calls Tryz.prog 171 (#[.int .i64 t,.int .i64 k,.int .i64 on,.int .i64 arg]++ #[.pointer (some ⟨C,0,none⟩)]) W λe W'=>e= .returned (.tuple #[])/\WMap entC W' B (es++[(t,k,on,arg)])/\W.grownBy W' (some B):=by
 obtain⟨Z,z1,z2,z3⟩:=hm;have HT:=xH1 ht;have HL:Hid (∀w1,xW W w1->(Instr.lookup 177 (.map (some B)) (.int .i64 t) false).run Tryz.prog w1= .ok (.slice none 0 0) w1):=xH1 (λw1 hb=>by
  have h:=zbZ (P:=Tryz.prog) Tryz.underlying177 Tryz.underlying3 zhh (z2.below hb) t;rw[WMap.absent z1 HT.out] at h;exact h)
 clear ht;go_enter Tryz.func171,Tryz.ntmps171;go_wp2_with fail;apply zbc 11 [.k _,.k _,.k _,.k _,.k (.slice none 0 0),.k _,.k _,.k _,.k _,.r λdz uz wz=>∃gz:Nat,uz= .slice (some ⟨gz,0,none⟩) 1 1/\Blk wz gz #[.int .i64 k,.int .i64 on,.int .i64 arg] 183,.r λdz uz wz=>∃(az:Option Addr) (cz:Nat),uz= .slice az 1 cz/\wz.ownsRow W.heap.size 183 3 (.slice az 1 cz) 1 (entC (k,on,arg))] ⟨λ_ _ _ _ hb ⟨g,e,h⟩=>⟨g,e,h.below hb⟩,λ_ _ _ _ hb ⟨a,c,e,h⟩=>⟨a,c,e,zf h hb⟩,trivial⟩ ?s1 ?e1
 case s1=>
  repeat' apply And.intro
  all_goals first|trivial|(intro ρ w1 hG hfr hd;obtain⟨fc,ff⟩:=fcff hfr;have f4:=hfr (.tmp 4) rfl;have f0:=hfr (.tmp 0) rfl;have f1:=hfr (.tmp 1) rfl;have f2:=hfr (.tmp 2) rfl;have f3:=hfr (.tmp 3) rfl;have cc:=zd hG hc)
  exact rk0;exact rk0;exact rk0;exact rk0
  ·obtain⟨d0,d1,-⟩:=hd;have d0:ρ (.tmp 11)=_:=d0;have d1:ρ (.tmp 12)=_:=d1;have hlk:=HL.out w1 hG;exact gvF hG (by go_simp) rfl xN1
  exact rk0;exact rk0;exact rk0;exact rk3
  ·obtain⟨d0,-⟩:=hd;have d0:ρ (.tmp 17)=_:=d0;refine zh (u:= .slice (some ⟨w1.heap.size,0,none⟩) 1 1) (w':=w1.alloc (.cells #[.int .i64 k,.int .i64 on,.int .i64 arg] 183)) (by go_simp) ⟨xA1,⟨_,rfl,Blk.new _ _ _⟩,xN1,hG.alloc hG.size _⟩
  ·obtain⟨d0,d1,-⟩:=hd;have d0:ρ (.tmp 13)=_:=d0;have d1:∃gz:Nat,(ρ (.tmp 18))= .slice (some ⟨gz,0,none⟩) 1 1/\Blk w1 gz #[.int .i64 k,.int .i64 on,.int .i64 arg] 183:=d1;obtain⟨gz,d1,hgz⟩:=d1;refine zag (m:=1) (news:=entC (k,on,arg)) _ _ 181 rfl Tryz.underlying181 zkj rfl (by decide) d0 (xDi _ _ _ _) d1 rfl (Rd.of_blk hgz) (by intro u hu;simp only[entC,List.mem_cons,xDm,or_false] at hu;rcases hu with rfl|rfl|rfl<;>rfl) (by omega) (by decide) hG.size ?_;intro a' c' w2 hown2 hb hf h0;exact⟨hb,⟨a',c',rfl,hown2⟩,xN1,hG.trans (hb.mono hG.size)⟩
 intro w2 hG;refine zao ?_;intro xv9 hv9 xv10 hv10;obtain⟨az,cz,rfl,ho⟩:=hv10;clear hv9;have y2:=z2.below hG;have y3:∀z∈Z,Rd w2 z.2.1 (entC z.1.2)/\1<=z.2.2:=λz hz=>⟨(z3 z hz).1.below hG,(z3 z hz).2⟩
 clear z2 z3;go_wp2_with (at_mapUpdate;refine zcv rfl _ _ _ rfl Tryz.underlying177 Tryz.underlying3 rfl y2 rfl rfl ?_;intro w5 hm5 hg5 hs5);exact bodyPost_end (v:= .tuple #[]) (by simp[results,Tryz.results171,go_sem]) rfl ⟨rfl,WMap.put z1 y2 y3 HT.out (Rd.of_owns ho) (zbe ho).1 (λ_=>by simp[entC]) hg5 hm5,za5 (ziR hG) hg5⟩
theorem zb3 {α:Type} (f:Nat->List α):∀{n k:Nat},k<n->(allE f k++f k)<+:allE f n
 |0,k,h=>by omega
 |n+1,k,h=>by
  rcases Nat.lt_or_ge k n with h1|h1
  ·exact(zb3 f h1).trans (List.prefix_append _ _)
  ·obtain rfl:k=n:=by omega
   exact List.prefix_refl _
theorem zcu {α:Type} {l es:List (Int×α)} {e:Int×α} (h:(l.map (·.1)).Nodup) (hp:es++[e]<+:l):e.1∉es.map (·.1):=by
 obtain⟨r,rfl⟩:=hp;intro hm;rw[xDr,xDr,xDg,List.nodup_append] at h;exact h.2.2 e.1 hm e.1 (by simp) rfl
abbrev oneC (x:Int):List Value:=[.int .i64 x]
abbrev wfb (w:World) (v:StV):List It:=[.blk (w.heap.size+2) #[.map (some (w.heap.size+1))] 177,.blk w.heap.size (svC v) 33]
structure WF (w W:World) (v:StV) (l:List It) (es:List Ent) (os:List (Int×Int)):Prop where
 fr:Fr w W (l++wfb w v)
 wm:WMap entC W (w.heap.size+1) es
 om:WMap oneC W (w.heap.size+3) os
theorem WF.call {w W W':World} {v:StV} {l:List It} {es:List Ent} {os:List (Int×Int)} (h:WF w W v l es os) (hb:xW W W'):WF w W' v l es os:=⟨h.fr.call hb,h.wm.below hb,h.om.below hb⟩
theorem WF.alloc {w W:World} {v:StV} {l:List It} {es:List Ent} {os:List (Int×Int)} (h:WF w W v l es os) (cs:Array Value) (T:TypeId):WF w (W.alloc (.cells cs T)) v (.blk W.heap.size cs T::l) es os:=
 ⟨h.fr.alloc cs T,h.wm.below (xA1),h.om.below (xA1)⟩
theorem WF.tail {w W:World} {v:StV} {i:It} {l:List It} {es:List Ent} {os:List (Int×Int)} (h:WF w W v (i::l) es os):WF w W v l es os:=⟨h.fr.sub (.cons _ (.refl _)),h.wm,h.om⟩
theorem WF.mapIn {w W:World} {v:StV} {l:List It} {es:List Ent} {os:List (Int×Int)} (h:WF w W v l es os) (B:Nat) (hB:B=w.heap.size+1\/B=w.heap.size+3):w.heap.size<=B/\B∉zv (l++wfb w v):=by
 refine⟨by omega,λhm=> ?_⟩;obtain⟨i,hi,hq⟩:=List.mem_flatMap.1 hm;have hh:=h.fr.has i hi;have hmap:∃L,MapI W B L:=by
  rcases hB with rfl|rfl
  ·obtain⟨Z,_,h2,_⟩:=h.wm;exact⟨_,h2⟩
  ·obtain⟨Z,_,h2,_⟩:=h.om;exact⟨_,h2⟩
 obtain⟨L,es',clock,hb,_⟩:=hmap
 cases i with
 |blk b cs T=>
  obtain rfl:=xS1 hq;have h9:=hh.2;unfold Blk at h9;rw[h9] at hb
  cases hb
 |row a n c E sz cs=>
  have hq':ze a=some B:=by simpa[It.foot] using hq
  obtain⟨cur,fr,h9⟩:=zbU hh B hq';rw[h9] at hb
  cases hb
theorem WF.add {w W W':World} {v:StV} {l:List It} {es es':List Ent} {os:List (Int×Int)} (h:WF w W v l es os) (hw:WMap entC W' (w.heap.size+1) es') (hg:W.grownBy W' (some (w.heap.size+1))):WF w W' v l es' os:=by
 obtain⟨Z,_,h2,_⟩:=h.wm;exact⟨h.fr.other (zi.of_grown (S:=[w.heap.size+1]) hg λk hk=>by cases hk;simp) (λk hk=>by obtain rfl:=xS1 hk;exact h.mapIn _ (.inl rfl)),hw,h.om.grown hg (by omega) (λ_=>by simp) h2⟩
theorem WF.own {w W W':World} {v:StV} {l:List It} {es:List Ent} {os os':List (Int×Int)} (h:WF w W v l es os) (hw:WMap oneC W' (w.heap.size+3) os') (hg:W.grownBy W' (some (w.heap.size+3))):WF w W' v l es os':=by
 obtain⟨Z,_,h2,_⟩:=h.om;exact⟨h.fr.other (zi.of_grown (S:=[w.heap.size+3]) hg λk hk=>by cases hk;simp) (λk hk=>by obtain rfl:=xS1 hk;exact h.mapIn _ (.inr rfl)),h.wm.grown hg (by omega) (λ_=>by simp) h2,hw⟩
theorem zfz (v:StV) (L:StL) (s:StD) (w:World) (hr:StR w v L s) (hz:SmS s) (hne:(eT s).Nodup) (hno:(oT s).Nodup):
  Calls Tryz.prog 158 #[v.val] w λe w'=>e= .returned (.tuple #[.map (some (w.heap.size+1)),.map (some (w.heap.size+3))])/\WMap entC w' (w.heap.size+1) (ents s)/\WMap oneC w' (w.heap.size+3) (owns s)/\xW w w':=by
 have HS:=xH1 hr;have HZ:=xH1 hz;have HNE:=xH1 hne;have HNO:=xH1 hno;have nse:v.se.n<=1048576:=by rw[hr.se.len];exact hz.se
 have non:v.on.n<=1048576:=by rw[hr.on.len];exact hz.on
 have ngr:v.gr.n<=1048576:=by rw[hr.gr.len];exact hz.gr
 have nba:v.ba.n<=1048576:=by rw[hr.ba.len];exact hz.ba
 have nch:v.ch.n<=1048576:=by rw[hr.ch.len];exact hz.ch
 have hmm:= @run_makeMap Tryz.prog;have hmf:∀(fn:Fn) (first cap:Array Value) (w:World),(Instr.makeFunc fn first cap).run Tryz.prog w= .ok (.func fn first cap) w:=λ_ _ _ _=>rfl;have EG:Hid (∀args w,(callFunc 171 args).run Tryz.prog w= .ok (.enter 171 args) w):=xH1 (enters_of Tryz.func171 (by kernel_rfl) rfl);have eg:=EG.out;have F:=(Fr.start w).alloc (svC v) 33;have b1:Below (w.alloc (.cells (svC v) 33)).heap.size (w.alloc (.cells (svC v) 33)) ((w.alloc (.cells (svC v) 33)).alloc (.map #[] 0)):=xA1;have hm1:=WMap.made (f:=entC) (w.alloc (.cells (svC v) 33));have F1:=(F.call b1).alloc #[.map (some (w.heap.size+1))] 177;have hm2:=hm1.below (xB1.alloc xL1 (.cells #[.map (some (w.heap.size+1))] 177));have b2:=((Below.refl _ (((w.alloc (.cells (svC v) 33)).alloc (.map #[] 0)).alloc (.cells #[.map (some (w.heap.size+1))] 177))).alloc xL1 (.map #[] 0))
 have F2:=F1.call b2;have hm3:=hm2.below b2;have hm4:=WMap.made (f:=oneC) (((w.alloc (.cells (svC v) 33)).alloc (.map #[] 0)).alloc (.cells #[.map (some (w.heap.size+1))] 177));simp only[xDe] at F2 hm3 hm4;have h0:WF w _ v [] [] []:=⟨F2,hm3,hm4⟩
 clear hr hz hne hno F b1 hm1 F1 hm2 b2 F2 hm3 hm4;go_enter Tryz.func158,Tryz.ntmps158;go_upto_region 4 with fail;obtain⟨w1,hw,h⟩:∃x,x=_/\WF w x v [] [] []:=⟨_,rfl,h0⟩
 rw[<-hw];clear hw h0;have cs:=h.fr.c9 1 rfl;go_wp2;clear cs
 go_loopw [35] (λi wr=>∃k:Nat,k<=v.se.n/\i= .int .i64 k/\WF w wr v [] (([]:List Ent)++allE (λi=>zU (s.sems.getD i zG) i) k) ([])) (λi _=>v.se.n-(intOf i).toNat)
 case atStart=>exact⟨0,by omega,rfl,by simpa[allE] using h⟩
 case round=>
  clear h;obtain⟨k,hk,rfl,h⟩:=hrel;obtain⟨wo,rfl⟩:∃x,x=wr:=⟨_,rfl⟩
  by_cases hlt:k<v.se.n
  ·have hks:k<s.sems.length:=by have:=HS.out.se.len;omega
   obtain⟨x,q,b1,o1,HX,ea,g0,g1,g2,Q0,QL0,QC0⟩:=HS.out.at_se (j:=k) hks;replace g0:=zd h.fr.bel g0;replace g1:=zd h.fr.bel g1;replace g2:=zd h.fr.bel g2;have HPF:Hid (allE (λi=>zU (s.sems.getD i zG) i) k++zU x k<+:allE (λi=>zU (s.sems.getD i zG) i) s.sems.length):=xH1 (by have h9:=zb3 (λi=>zU (s.sems.getD i zG) i) hks;rw[<-HX.out] at h9;exact h9);have HK1:Hid (allE (λi=>zU (s.sems.getD i zG) i) (k+1)=allE (λi=>zU (s.sems.getD i zG) i) k++zU x k):=xH1 (by rw[HX.out];rfl);have h2:=h.alloc #[.int .i64 x.free,.int .i64 x.limit,.slice q.a q.n q.c] 74;have cx:=h2.fr.c3 0 rfl;have HKS:=xH1 hks;clear hks h;have nq0:q.n<=1048576:=by rw[QL0.out,HX.out];exact HZ.out.qse k
   go_upto_region 7 with fail;clear ea;go_wp2;clear cx g0 g1 g2
   go_loopw [43] (λi wr2=>∃j:Nat,j<=q.n/\i= .int .i64 j/\WF w wr2 v [.blk wo.heap.size #[.int .i64 x.free,.int .i64 x.limit,.slice q.a q.n q.c] 74] (([]:List Ent)++allE (λi=>zU (s.sems.getD i zG) i) k++((x.queue).map (λw=>(w.1,(2:Int),(k:Int),w.2))).take j) ([])) (λi _=>q.n-(intOf i).toNat)
   case atStart=>exact⟨0,by omega,rfl,by simpa using h2⟩
   case round=>
    clear h2;obtain⟨j,hj,rfl,h2⟩:=hrel;by_cases hjt:j<q.n
    ·have hjl:j<(x.queue).length:=by rw[<-QL0.out];exact hjt
     obtain⟨b,o,eb,g'⟩:=((h2.fr.rd Q0.out)).pair (by omega);obtain⟨g1,g2⟩:=g' j hjl;obtain⟨y,et⟩:∃y,y=(x.queue).getD j (0,0):=⟨_,rfl⟩
     rw[<-et] at g1 g2;have hsn:((x.queue).map (λw=>(w.1,(2:Int),(k:Int),w.2))).take j++[(y.1,(2:Int),(k:Int),y.2)]=((x.queue).map (λw=>(w.1,(2:Int),(k:Int),w.2))).take (j+1):=by
      have h9:=zas ((x.queue).map (λw=>(w.1,(2:Int),(k:Int),w.2))) ((λw=>(w.1,(2:Int),(k:Int),w.2)) (0,0)) (j:=j) (by rw[xDf];exact hjl);rwa [xDa,List.getElem?_map,xDb hjl,Option.map_some,Option.getD_some,show(x.queue)[j]=y by rw[et,xDa,xDb hjl];rfl] at h9
     have hpre:(([]:List Ent)++allE (λi=>zU (s.sems.getD i zG) i) k++((x.queue).map (λw=>(w.1,(2:Int),(k:Int),w.2))).take j)++[(y.1,(2:Int),(k:Int),y.2)]<+:ents s:=by
      rw[xDg,hsn];have e1:(((x.queue).map (λw=>(w.1,(2:Int),(k:Int),w.2))).take (j+1))<+:zU x k:=by
       exact List.take_prefix _ _
      have e2:allE (λi=>zU (s.sems.getD i zG) i) k++((x.queue).map (λw=>(w.1,(2:Int),(k:Int),w.2))).take (j+1)<+:allE (λi=>zU (s.sems.getD i zG) i) s.sems.length:=by
       exact((List.prefix_append_right_inj _).2 e1).trans HPF.out
      simp only[xDq];exact e2.trans (List.prefix_append _ _)
     have hnot:=zcu HNE.out hpre;have HSN:=xH1 hsn;have HNT:=xH1 hnot;clear g' et hjl hsn hpre hnot;have h3:=h2.alloc #[.int .i64 y.1,.int .i64 y.2] 167;have cy:=h3.fr.c2 0 rfl;go_upto_region 10 with fail;clear eb g1 g2;have hcell:=h3.fr.cell 2 0 rfl rfl;go_wp2_with fail;refine(zcC y.1 2 k y.2 (w.heap.size+2) (w.heap.size+1) _ _ hcell h3.wm HNT.out).mono ?_;rintro e w6 ⟨rfl,hw6,hg6⟩;have h4:=h3.add hw6 hg6;rw[xDg,HSN.out] at h4;clear h3 h2 hcell hw6 hg6;go_wp2
     go_roundw
     case rel=>exact⟨j+1,by omega,by go_num,h4.tail⟩
     case measure=>simp[intOf];omega
    ·obtain rfl:j=q.n:=by omega
     clear hjt hj;rw[xDt (by rw[xDf];have:=QL0.out;omega)] at h2;have e1:([]:List Ent)++allE (λi=>zU (s.sems.getD i zG) i) (k+1)=([]:List Ent)++allE (λi=>zU (s.sems.getD i zG) i) k++(x.queue).map (λw=>(w.1,(2:Int),(k:Int),w.2)):=by
      rw[HK1.out];simp only[zU,xDg]
     rw[<-e1] at h2;clear e1;have h4:=h2.tail;clear h2;go_wp2
     go_roundw
     case rel=>exact⟨k+1,by omega,by go_num,h4⟩
     case measure=>simp[intOf];omega
  ·obtain rfl:k=v.se.n:=by omega
   clear hlt hk;rw[HS.out.se.len] at h;have cs:=h.fr.c9 1 rfl;go_wp2;clear cs
   go_loopw [59] (λi wr=>∃k:Nat,k<=v.on.n/\i= .int .i64 k/\WF w wr v [] (([]:List Ent)++allE (λi=>zU (s.sems.getD i zG) i) s.sems.length++allE (λi=>zN (s.onces.getD i zq) i) k) (allE (λi=>zaq (s.onces.getD i zq) i) k)) (λi _=>v.on.n-(intOf i).toNat)
   case atStart=>exact⟨0,by omega,rfl,by simpa[allE] using h⟩
   case round=>
    clear h;obtain⟨k,hk,rfl,h⟩:=hrel;obtain⟨wo,rfl⟩:∃x,x=wr:=⟨_,rfl⟩
    by_cases hlt:k<v.on.n
    ·have hks:k<s.onces.length:=by have:=HS.out.on.len;omega
     obtain⟨x,q,b1,o1,HX,ea,g0,g1,g2,g3,Q0,QL0,QC0⟩:=HS.out.at_on (j:=k) hks;replace g0:=zd h.fr.bel g0;replace g1:=zd h.fr.bel g1;replace g2:=zd h.fr.bel g2;replace g3:=zd h.fr.bel g3;have HPF:Hid (allE (λi=>zN (s.onces.getD i zq) i) k++zN x k<+:allE (λi=>zN (s.onces.getD i zq) i) s.onces.length):=xH1 (by have h9:=zb3 (λi=>zN (s.onces.getD i zq) i) hks;rw[<-HX.out] at h9;exact h9);have HK1:Hid (allE (λi=>zN (s.onces.getD i zq) i) (k+1)=allE (λi=>zN (s.onces.getD i zq) i) k++zN x k):=xH1 (by rw[HX.out];rfl);have h2:=h.alloc #[.int .i64 x.state,.int .i64 x.owner,.int .i64 x.value,.slice q.a q.n q.c] 78;have cx:=h2.fr.c4 0 rfl;have HKS:=xH1 hks;clear hks h;have nq0:q.n<=1048576:=by rw[QL0.out,HX.out];exact HZ.out.qon k
     go_upto_region 16 with fail;clear ea;go_wp2;clear cx g0 g1 g2 g3
     go_loopw [67] (λi wr2=>∃j:Nat,j<=q.n/\i= .int .i64 j/\WF w wr2 v [.blk wo.heap.size #[.int .i64 x.state,.int .i64 x.owner,.int .i64 x.value,.slice q.a q.n q.c] 78] (([]:List Ent)++allE (λi=>zU (s.sems.getD i zG) i) s.sems.length++allE (λi=>zN (s.onces.getD i zq) i) k++((x.waits).map (λt=>(t,(4:Int),(k:Int),(0:Int)))).take j) (allE (λi=>zaq (s.onces.getD i zq) i) k)) (λi _=>q.n-(intOf i).toNat)
     case atStart=>exact⟨0,by omega,rfl,by simpa using h2⟩
     case round=>
      clear h2;obtain⟨j,hj,rfl,h2⟩:=hrel;by_cases hjt:j<q.n
      ·have hjl:j<(x.waits).length:=by rw[<-QL0.out];exact hjt
       obtain⟨b,o,eb,g'⟩:=((h2.fr.rd Q0.out)).int (by omega);have g1:=g' j hjl;obtain⟨t,et⟩:∃t,t=(x.waits).getD j 0:=⟨_,rfl⟩
       rw[<-et] at g1;have hsn:((x.waits).map (λt=>(t,(4:Int),(k:Int),(0:Int)))).take j++[(t,(4:Int),(k:Int),(0:Int))]=((x.waits).map (λt=>(t,(4:Int),(k:Int),(0:Int)))).take (j+1):=by
        have h9:=zas ((x.waits).map (λt=>(t,(4:Int),(k:Int),(0:Int)))) ((λt=>(t,(4:Int),(k:Int),(0:Int))) 0) (j:=j) (by rw[xDf];exact hjl);rwa [xDa,List.getElem?_map,xDb hjl,Option.map_some,Option.getD_some,show(x.waits)[j]=t by rw[et,xDa,xDb hjl];rfl] at h9
       have hpre:(([]:List Ent)++allE (λi=>zU (s.sems.getD i zG) i) s.sems.length++allE (λi=>zN (s.onces.getD i zq) i) k++((x.waits).map (λt=>(t,(4:Int),(k:Int),(0:Int)))).take j)++[(t,(4:Int),(k:Int),(0:Int))]<+:ents s:=by
        rw[xDg,hsn];have e1:(((x.waits).map (λt=>(t,(4:Int),(k:Int),(0:Int)))).take (j+1))<+:zN x k:=by
         exact List.take_prefix _ _
        have e2:allE (λi=>zN (s.onces.getD i zq) i) k++((x.waits).map (λt=>(t,(4:Int),(k:Int),(0:Int)))).take (j+1)<+:allE (λi=>zN (s.onces.getD i zq) i) s.onces.length:=by
         exact((List.prefix_append_right_inj _).2 e1).trans HPF.out
        have e3:=(List.prefix_append_right_inj (([]:List Ent)++allE (λi=>zU (s.sems.getD i zG) i) s.sems.length)).2 e2;have e4:(([]:List Ent)++allE (λi=>zU (s.sems.getD i zG) i) s.sems.length)++allE (λi=>zN (s.onces.getD i zq) i) s.onces.length<+:ents s:=by
         unfold ents;simp only[xDq];simp only[<-xDg];exact((List.prefix_append _ _).trans (List.prefix_append _ _)).trans (List.prefix_append _ _)
        have e5:=e3.trans e4;simpa only[xDg] using e5
       have hnot:=zcu HNE.out hpre;have HSN:=xH1 hsn;have HNT:=xH1 hnot;clear g' et hjl hsn hpre hnot;have h3:=h2;go_upto_region 19 with fail;clear eb g1;have hcell:=h3.fr.cell 1 0 rfl rfl;go_wp2_with fail;refine(zcC t 4 k 0 (w.heap.size+2) (w.heap.size+1) _ _ hcell h3.wm HNT.out).mono ?_;rintro e w6 ⟨rfl,hw6,hg6⟩;have h4:=h3.add hw6 hg6;rw[xDg,HSN.out] at h4;clear h3 h2 hcell hw6 hg6;go_wp2
       go_roundw
       case rel=>exact⟨j+1,by omega,by go_num,h4⟩
       case measure=>simp[intOf];omega
      ·obtain rfl:j=q.n:=by omega
       clear hjt hj;rw[xDt (by rw[xDf];have:=QL0.out;omega)] at h2;have e1:([]:List Ent)++allE (λi=>zU (s.sems.getD i zG) i) s.sems.length++allE (λi=>zN (s.onces.getD i zq) i) (k+1)=([]:List Ent)++allE (λi=>zU (s.sems.getD i zG) i) s.sems.length++allE (λi=>zN (s.onces.getD i zq) i) k++(x.waits).map (λt=>(t,(4:Int),(k:Int),(0:Int))):=by
        rw[HK1.out];simp only[zN,xDg]
       rw[<-e1] at h2;clear e1;have cx:=h2.fr.c4 0 rfl;have e2:allE (λi=>zaq (s.onces.getD i zq) i) (k+1)=allE (λi=>zaq (s.onces.getD i zq) i) k++zaq x k:=by rw[HX.out];rfl
       by_cases hst:x.state=1
       ·have t0:(x.state==1)=true:=(by simpa using hst);have e3:zaq x k=[(x.owner,(k:Int))]:=by unfold zaq;rw[if_pos hst]
        have hnot:x.owner∉(allE (λi=>zaq (s.onces.getD i zq) i) k).map (·.1):=by
         have h9:=zb3 (λi=>zaq (s.onces.getD i zq) i) HKS.out;rw[<-HX.out,e3] at h9;exact zcu (e:=(x.owner,(k:Int))) HNO.out h9
        rw[e3] at e2;have HT:=xH1 hnot;have HE2:=xH1 e2;obtain⟨Z,z1,z2,z3⟩:=h2.om;have HL:Hid (∀w1,xW wr w1->(Instr.lookup 178 (.map (some (w.heap.size+3))) (.int .i64 x.owner) false).run Tryz.prog w1= .ok (.slice none 0 0) w1):=xH1 (λw1 hb=>by
         have h:=zbZ (P:=Tryz.prog) Tryz.underlying178 Tryz.underlying3 zgp (z2.below hb) x.owner;rw[WMap.absent z1 HT.out] at h;exact h)
        clear hst hnot e2 e3;go_wp2_with fail;apply zbc 10 [.k _,.k _,.k _,.k _,.k _,.k _,.k (.slice none 0 0),.k _,.r λdz uz wz=>∃gz:Nat,uz= .slice (some ⟨gz,0,none⟩) 1 1/\Blk wz gz #[.int .i64 k] 3,.r λdz uz wz=>∃(az:Option Addr) (cz:Nat),uz= .slice az 1 cz/\wz.ownsRow wr.heap.size 3 1 (.slice az 1 cz) 1 (oneC (k:Int))] ⟨λ_ _ _ _ hb ⟨g,e,h⟩=>⟨g,e,h.below hb⟩,λ_ _ _ _ hb ⟨a,c,e,h⟩=>⟨a,c,e,zf h hb⟩,trivial⟩ ?s2 ?e2
        case s2=>
         repeat' apply And.intro
         all_goals first|trivial|(intro ρ w1 hG hfr hd;obtain⟨fc,ff⟩:=fcff hfr;have f5:=hfr (.tmp 5) rfl;have f12:=hfr (.tmp 12) rfl;have f11:=hfr (.tmp 11) rfl;have F1:=h2.fr.call hG;have cx:=F1.c4 0 rfl;clear F1)
         exact rk0;exact rk0;exact rk1;exact rk0;exact rk0;exact rk1
         ·obtain⟨d0,d1,-⟩:=hd;have d0:ρ (.tmp 82)=_:=d0;have d1:ρ (.tmp 84)=_:=d1;have hlk:=HL.out w1 hG;exact gvF hG (by go_simp) rfl xN1
         exact rk0
         ·obtain⟨d0,-⟩:=hd;have d0:ρ (.tmp 86)=_:=d0;refine zh (u:= .slice (some ⟨w1.heap.size,0,none⟩) 1 1) (w':=w1.alloc (.cells #[.int .i64 k] 3)) (by go_simp) ⟨xA1,⟨_,rfl,Blk.new _ _ _⟩,xN1,hG.alloc hG.size _⟩
         ·obtain⟨d0,d1,-⟩:=hd;have d0:ρ (.tmp 85)=_:=d0;have d1:∃gz:Nat,(ρ (.tmp 87))= .slice (some ⟨gz,0,none⟩) 1 1/\Blk w1 gz #[.int .i64 k] 3:=d1;obtain⟨gz,d1,hgz⟩:=d1;refine zag (m:=1) (news:=oneC (k:Int)) _ _ 22 rfl Tryz.underlying22 zM rfl (by decide) d0 (xDi _ _ _ _) d1 rfl (Rd.of_blk hgz) (by intro u hu;simp only[oneC,List.mem_cons,xDm,or_false] at hu;subst hu;rfl) (by omega) (by decide) hG.size ?_;intro a' c' w2 hown2 hb hf h0;exact⟨hb,⟨a',c',rfl,hown2⟩,xN1,hG.trans (hb.mono hG.size)⟩
        intro w2 hG;refine zao ?_;intro xv8 hv8 xv9 hv9;obtain⟨az,cz,rfl,ho⟩:=hv9;clear hv8;have y2:=z2.below hG;have y3:∀z∈Z,Rd w2 z.2.1 (oneC z.1.2)/\1<=z.2.2:=λz hz=>⟨(z3 z hz).1.below hG,(z3 z hz).2⟩
        have h3:=h2.call hG;clear z2 z3 h2 cx hG;go_wp2_with (at_mapUpdate;refine zcv rfl _ _ _ rfl Tryz.underlying178 Tryz.underlying3 rfl y2 rfl rfl ?_;intro w5 hm5 hg5 hs5;have hw5:WMap oneC w5 (w.heap.size+3) (allE (λi=>zaq (s.onces.getD i zq) i) k++[(x.owner,(k:Int))]):=WMap.put z1 y2 y3 HT.out (Rd.of_owns ho) (zbe ho).1 (λ_=>by simp) hg5 hm5;have h4:=(h3.own hw5 hg5).tail;rw[<-HE2.out] at h4)
        go_roundw
        case rel=>exact⟨k+1,by omega,by go_num,h4⟩
        case measure=>simp[intOf];omega
       ·have t0:(x.state==1)=false:=(by simpa using hst);have e3:zaq x k=[]:=by unfold zaq;rw[if_neg hst]
        rw[e3,List.append_nil] at e2;have h4:=h2.tail;rw[<-e2] at h4;clear h2 e2 e3 hst;go_wp2
        go_roundw
        case rel=>exact⟨k+1,by omega,by go_num,h4⟩
        case measure=>simp[intOf];omega
    ·obtain rfl:k=v.on.n:=by omega
     clear hlt hk;rw[HS.out.on.len] at h;have cs:=h.fr.c9 1 rfl;go_wp2;clear cs
     go_loopw [93] (λi wr=>∃k:Nat,k<=v.gr.n/\i= .int .i64 k/\WF w wr v [] (([]:List Ent)++allE (λi=>zU (s.sems.getD i zG) i) s.sems.length++allE (λi=>zN (s.onces.getD i zq) i) s.onces.length++allE (λi=>zah (s.groups.getD i zQ) i) k) (allE (λi=>zaq (s.onces.getD i zq) i) s.onces.length)) (λi _=>v.gr.n-(intOf i).toNat)
     case atStart=>exact⟨0,by omega,rfl,by simpa[allE] using h⟩
     case round=>
      clear h;obtain⟨k,hk,rfl,h⟩:=hrel;obtain⟨wo,rfl⟩:∃x,x=wr:=⟨_,rfl⟩
      by_cases hlt:k<v.gr.n
      ·have hks:k<s.groups.length:=by have:=HS.out.gr.len;omega
       obtain⟨x,q,b1,o1,HX,ea,g0,g1,Q0,QL0,QC0⟩:=HS.out.at_gr (j:=k) hks;replace g0:=zd h.fr.bel g0;replace g1:=zd h.fr.bel g1;have HPF:Hid (allE (λi=>zah (s.groups.getD i zQ) i) k++zah x k<+:allE (λi=>zah (s.groups.getD i zQ) i) s.groups.length):=xH1 (by have h9:=zb3 (λi=>zah (s.groups.getD i zQ) i) hks;rw[<-HX.out] at h9;exact h9);have HK1:Hid (allE (λi=>zah (s.groups.getD i zQ) i) (k+1)=allE (λi=>zah (s.groups.getD i zQ) i) k++zah x k):=xH1 (by rw[HX.out];rfl);have h2:=h.alloc #[.int .i64 x.count,.slice q.a q.n q.c] 80;have cx:=h2.fr.c2 0 rfl;have HKS:=xH1 hks;clear hks h;have nq0:q.n<=1048576:=by rw[QL0.out,HX.out];exact HZ.out.qgr k
       go_upto_region 27 with fail;clear ea;go_wp2;clear cx g0 g1
       go_loopw [101] (λi wr2=>∃j:Nat,j<=q.n/\i= .int .i64 j/\WF w wr2 v [.blk wo.heap.size #[.int .i64 x.count,.slice q.a q.n q.c] 80] (([]:List Ent)++allE (λi=>zU (s.sems.getD i zG) i) s.sems.length++allE (λi=>zN (s.onces.getD i zq) i) s.onces.length++allE (λi=>zah (s.groups.getD i zQ) i) k++((x.waits).map (λt=>(t,(6:Int),(k:Int),(0:Int)))).take j) (allE (λi=>zaq (s.onces.getD i zq) i) s.onces.length)) (λi _=>q.n-(intOf i).toNat)
       case atStart=>exact⟨0,by omega,rfl,by simpa using h2⟩
       case round=>
        clear h2;obtain⟨j,hj,rfl,h2⟩:=hrel;by_cases hjt:j<q.n
        ·have hjl:j<(x.waits).length:=by rw[<-QL0.out];exact hjt
         obtain⟨b,o,eb,g'⟩:=((h2.fr.rd Q0.out)).int (by omega);have g1:=g' j hjl;obtain⟨t,et⟩:∃t,t=(x.waits).getD j 0:=⟨_,rfl⟩
         rw[<-et] at g1;have hsn:((x.waits).map (λt=>(t,(6:Int),(k:Int),(0:Int)))).take j++[(t,(6:Int),(k:Int),(0:Int))]=((x.waits).map (λt=>(t,(6:Int),(k:Int),(0:Int)))).take (j+1):=by
          have h9:=zas ((x.waits).map (λt=>(t,(6:Int),(k:Int),(0:Int)))) ((λt=>(t,(6:Int),(k:Int),(0:Int))) 0) (j:=j) (by rw[xDf];exact hjl);rwa [xDa,List.getElem?_map,xDb hjl,Option.map_some,Option.getD_some,show(x.waits)[j]=t by rw[et,xDa,xDb hjl];rfl] at h9
         have hpre:(([]:List Ent)++allE (λi=>zU (s.sems.getD i zG) i) s.sems.length++allE (λi=>zN (s.onces.getD i zq) i) s.onces.length++allE (λi=>zah (s.groups.getD i zQ) i) k++((x.waits).map (λt=>(t,(6:Int),(k:Int),(0:Int)))).take j)++[(t,(6:Int),(k:Int),(0:Int))]<+:ents s:=by
          rw[xDg,hsn];have e1:(((x.waits).map (λt=>(t,(6:Int),(k:Int),(0:Int)))).take (j+1))<+:zah x k:=by
           exact List.take_prefix _ _
          have e2:allE (λi=>zah (s.groups.getD i zQ) i) k++((x.waits).map (λt=>(t,(6:Int),(k:Int),(0:Int)))).take (j+1)<+:allE (λi=>zah (s.groups.getD i zQ) i) s.groups.length:=by
           exact((List.prefix_append_right_inj _).2 e1).trans HPF.out
          have e3:=(List.prefix_append_right_inj (([]:List Ent)++allE (λi=>zU (s.sems.getD i zG) i) s.sems.length++allE (λi=>zN (s.onces.getD i zq) i) s.onces.length)).2 e2;have e4:(([]:List Ent)++allE (λi=>zU (s.sems.getD i zG) i) s.sems.length++allE (λi=>zN (s.onces.getD i zq) i) s.onces.length)++allE (λi=>zah (s.groups.getD i zQ) i) s.groups.length<+:ents s:=by
           unfold ents;simp only[xDq,xDg];simp only[<-xDg];exact(List.prefix_append _ _).trans (List.prefix_append _ _)
          have e5:=e3.trans e4;simpa only[xDg] using e5
         have hnot:=zcu HNE.out hpre;have HSN:=xH1 hsn;have HNT:=xH1 hnot;clear g' et hjl hsn hpre hnot;have h3:=h2;go_upto_region 30 with fail;clear eb g1;have hcell:=h3.fr.cell 1 0 rfl rfl;go_wp2_with fail;refine(zcC t 6 k 0 (w.heap.size+2) (w.heap.size+1) _ _ hcell h3.wm HNT.out).mono ?_;rintro e w6 ⟨rfl,hw6,hg6⟩;have h4:=h3.add hw6 hg6;rw[xDg,HSN.out] at h4;clear h3 h2 hcell hw6 hg6;go_wp2
         go_roundw
         case rel=>exact⟨j+1,by omega,by go_num,h4⟩
         case measure=>simp[intOf];omega
        ·obtain rfl:j=q.n:=by omega
         clear hjt hj;rw[xDt (by rw[xDf];have:=QL0.out;omega)] at h2;have e1:([]:List Ent)++allE (λi=>zU (s.sems.getD i zG) i) s.sems.length++allE (λi=>zN (s.onces.getD i zq) i) s.onces.length++allE (λi=>zah (s.groups.getD i zQ) i) (k+1)=([]:List Ent)++allE (λi=>zU (s.sems.getD i zG) i) s.sems.length++allE (λi=>zN (s.onces.getD i zq) i) s.onces.length++allE (λi=>zah (s.groups.getD i zQ) i) k++(x.waits).map (λt=>(t,(6:Int),(k:Int),(0:Int))):=by
          rw[HK1.out];simp only[zah,xDg]
         rw[<-e1] at h2;clear e1;have h4:=h2.tail;clear h2;go_wp2
         go_roundw
         case rel=>exact⟨k+1,by omega,by go_num,h4⟩
         case measure=>simp[intOf];omega
      ·obtain rfl:k=v.gr.n:=by omega
       clear hlt hk;rw[HS.out.gr.len] at h;have cs:=h.fr.c9 1 rfl;go_wp2;clear cs
       go_loopw [114] (λi wr=>∃k:Nat,k<=v.ba.n/\i= .int .i64 k/\WF w wr v [] (([]:List Ent)++allE (λi=>zU (s.sems.getD i zG) i) s.sems.length++allE (λi=>zN (s.onces.getD i zq) i) s.onces.length++allE (λi=>zah (s.groups.getD i zQ) i) s.groups.length++allE (λi=>zal (s.bars.getD i zE) i) k) (allE (λi=>zaq (s.onces.getD i zq) i) s.onces.length)) (λi _=>v.ba.n-(intOf i).toNat)
       case atStart=>exact⟨0,by omega,rfl,by simpa[allE] using h⟩
       case round=>
        clear h;obtain⟨k,hk,rfl,h⟩:=hrel;obtain⟨wo,rfl⟩:∃x,x=wr:=⟨_,rfl⟩
        by_cases hlt:k<v.ba.n
        ·have hks:k<s.bars.length:=by have:=HS.out.ba.len;omega
         obtain⟨x,q,b1,o1,HX,ea,g0,g1,g2,Q0,QL0,QC0⟩:=HS.out.at_ba (j:=k) hks;replace g0:=zd h.fr.bel g0;replace g1:=zd h.fr.bel g1;replace g2:=zd h.fr.bel g2;have HPF:Hid (allE (λi=>zal (s.bars.getD i zE) i) k++zal x k<+:allE (λi=>zal (s.bars.getD i zE) i) s.bars.length):=xH1 (by have h9:=zb3 (λi=>zal (s.bars.getD i zE) i) hks;rw[<-HX.out] at h9;exact h9);have HK1:Hid (allE (λi=>zal (s.bars.getD i zE) i) (k+1)=allE (λi=>zal (s.bars.getD i zE) i) k++zal x k):=xH1 (by rw[HX.out];rfl);have h2:=h.alloc #[.int .i64 x.parties,.int .i64 x.round,.slice q.a q.n q.c] 82;have cx:=h2.fr.c3 0 rfl;have HKS:=xH1 hks;clear hks h;have nq0:q.n<=1048576:=by rw[QL0.out,HX.out];exact HZ.out.qba k
         go_upto_region 36 with fail;clear ea;go_wp2;clear cx g0 g1 g2
         go_loopw [122] (λi wr2=>∃j:Nat,j<=q.n/\i= .int .i64 j/\WF w wr2 v [.blk wo.heap.size #[.int .i64 x.parties,.int .i64 x.round,.slice q.a q.n q.c] 82] (([]:List Ent)++allE (λi=>zU (s.sems.getD i zG) i) s.sems.length++allE (λi=>zN (s.onces.getD i zq) i) s.onces.length++allE (λi=>zah (s.groups.getD i zQ) i) s.groups.length++allE (λi=>zal (s.bars.getD i zE) i) k++((x.waits).map (λt=>(t,(7:Int),(k:Int),(0:Int)))).take j) (allE (λi=>zaq (s.onces.getD i zq) i) s.onces.length)) (λi _=>q.n-(intOf i).toNat)
         case atStart=>exact⟨0,by omega,rfl,by simpa using h2⟩
         case round=>
          clear h2;obtain⟨j,hj,rfl,h2⟩:=hrel;by_cases hjt:j<q.n
          ·have hjl:j<(x.waits).length:=by rw[<-QL0.out];exact hjt
           obtain⟨b,o,eb,g'⟩:=((h2.fr.rd Q0.out)).int (by omega);have g1:=g' j hjl;obtain⟨t,et⟩:∃t,t=(x.waits).getD j 0:=⟨_,rfl⟩
           rw[<-et] at g1;have hsn:((x.waits).map (λt=>(t,(7:Int),(k:Int),(0:Int)))).take j++[(t,(7:Int),(k:Int),(0:Int))]=((x.waits).map (λt=>(t,(7:Int),(k:Int),(0:Int)))).take (j+1):=by
            have h9:=zas ((x.waits).map (λt=>(t,(7:Int),(k:Int),(0:Int)))) ((λt=>(t,(7:Int),(k:Int),(0:Int))) 0) (j:=j) (by rw[xDf];exact hjl);rwa [xDa,List.getElem?_map,xDb hjl,Option.map_some,Option.getD_some,show(x.waits)[j]=t by rw[et,xDa,xDb hjl];rfl] at h9
           have hpre:(([]:List Ent)++allE (λi=>zU (s.sems.getD i zG) i) s.sems.length++allE (λi=>zN (s.onces.getD i zq) i) s.onces.length++allE (λi=>zah (s.groups.getD i zQ) i) s.groups.length++allE (λi=>zal (s.bars.getD i zE) i) k++((x.waits).map (λt=>(t,(7:Int),(k:Int),(0:Int)))).take j)++[(t,(7:Int),(k:Int),(0:Int))]<+:ents s:=by
            rw[xDg,hsn];have e1:(((x.waits).map (λt=>(t,(7:Int),(k:Int),(0:Int)))).take (j+1))<+:zal x k:=by
             exact List.take_prefix _ _
            have e2:allE (λi=>zal (s.bars.getD i zE) i) k++((x.waits).map (λt=>(t,(7:Int),(k:Int),(0:Int)))).take (j+1)<+:allE (λi=>zal (s.bars.getD i zE) i) s.bars.length:=by
             exact((List.prefix_append_right_inj _).2 e1).trans HPF.out
            have e3:=(List.prefix_append_right_inj (([]:List Ent)++allE (λi=>zU (s.sems.getD i zG) i) s.sems.length++allE (λi=>zN (s.onces.getD i zq) i) s.onces.length++allE (λi=>zah (s.groups.getD i zQ) i) s.groups.length)).2 e2;have e4:(([]:List Ent)++allE (λi=>zU (s.sems.getD i zG) i) s.sems.length++allE (λi=>zN (s.onces.getD i zq) i) s.onces.length++allE (λi=>zah (s.groups.getD i zQ) i) s.groups.length)++allE (λi=>zal (s.bars.getD i zE) i) s.bars.length<+:ents s:=by
             unfold ents;simp only[xDq,xDg];simp only[<-xDg];exact List.prefix_append _ _
            have e5:=e3.trans e4;simpa only[xDg] using e5
           have hnot:=zcu HNE.out hpre;have HSN:=xH1 hsn;have HNT:=xH1 hnot;clear g' et hjl hsn hpre hnot;have h3:=h2;go_upto_region 39 with fail;clear eb g1;have hcell:=h3.fr.cell 1 0 rfl rfl;go_wp2_with fail;refine(zcC t 7 k 0 (w.heap.size+2) (w.heap.size+1) _ _ hcell h3.wm HNT.out).mono ?_;rintro e w6 ⟨rfl,hw6,hg6⟩;have h4:=h3.add hw6 hg6;rw[xDg,HSN.out] at h4;clear h3 h2 hcell hw6 hg6;go_wp2
           go_roundw
           case rel=>exact⟨j+1,by omega,by go_num,h4⟩
           case measure=>simp[intOf];omega
          ·obtain rfl:j=q.n:=by omega
           clear hjt hj;rw[xDt (by rw[xDf];have:=QL0.out;omega)] at h2;have e1:([]:List Ent)++allE (λi=>zU (s.sems.getD i zG) i) s.sems.length++allE (λi=>zN (s.onces.getD i zq) i) s.onces.length++allE (λi=>zah (s.groups.getD i zQ) i) s.groups.length++allE (λi=>zal (s.bars.getD i zE) i) (k+1)=([]:List Ent)++allE (λi=>zU (s.sems.getD i zG) i) s.sems.length++allE (λi=>zN (s.onces.getD i zq) i) s.onces.length++allE (λi=>zah (s.groups.getD i zQ) i) s.groups.length++allE (λi=>zal (s.bars.getD i zE) i) k++(x.waits).map (λt=>(t,(7:Int),(k:Int),(0:Int))):=by
            rw[HK1.out];simp only[zal,xDg]
           rw[<-e1] at h2;clear e1;have h4:=h2.tail;clear h2;go_wp2
           go_roundw
           case rel=>exact⟨k+1,by omega,by go_num,h4⟩
           case measure=>simp[intOf];omega
        ·obtain rfl:k=v.ba.n:=by omega
         clear hlt hk;rw[HS.out.ba.len] at h;have cs:=h.fr.c9 1 rfl;go_wp2;clear cs
         go_loopw [135] (λi wr=>∃k:Nat,k<=v.ch.n/\i= .int .i64 k/\WF w wr v [] (([]:List Ent)++allE (λi=>zU (s.sems.getD i zG) i) s.sems.length++allE (λi=>zN (s.onces.getD i zq) i) s.onces.length++allE (λi=>zah (s.groups.getD i zQ) i) s.groups.length++allE (λi=>zal (s.bars.getD i zE) i) s.bars.length++allE (λi=>zZ (s.chans.getD i zH) i) k) (allE (λi=>zaq (s.onces.getD i zq) i) s.onces.length)) (λi _=>v.ch.n-(intOf i).toNat)
         case atStart=>exact⟨0,by omega,rfl,by simpa[allE] using h⟩
         case round=>
          clear h;obtain⟨k,hk,rfl,h⟩:=hrel;obtain⟨wo,rfl⟩:∃x,x=wr:=⟨_,rfl⟩
          by_cases hlt:k<v.ch.n
          ·have hks:k<s.chans.length:=by have:=HS.out.ch.len;omega
           obtain⟨x,q,b1,o1,HX,ea,g0,g1,g2,g3,g4,Q0,QL0,QC0,Q1,QL1,QC1,Q2,QL2,QC2⟩:=HS.out.at_ch (j:=k) hks;replace g0:=zd h.fr.bel g0;replace g1:=zd h.fr.bel g1;replace g2:=zd h.fr.bel g2;replace g3:=zd h.fr.bel g3;replace g4:=zd h.fr.bel g4;have HPF:Hid (allE (λi=>zZ (s.chans.getD i zH) i) k++zZ x k<+:allE (λi=>zZ (s.chans.getD i zH) i) s.chans.length):=xH1 (by have h9:=zb3 (λi=>zZ (s.chans.getD i zH) i) hks;rw[<-HX.out] at h9;exact h9);have HK1:Hid (allE (λi=>zZ (s.chans.getD i zH) i) (k+1)=allE (λi=>zZ (s.chans.getD i zH) i) k++zZ x k):=xH1 (by rw[HX.out];rfl);have h2:=h.alloc #[.int .i64 x.room,.slice q.1.a q.1.n q.1.c,.slice q.2.1.a q.2.1.n q.2.1.c,.slice q.2.2.a q.2.2.n q.2.2.c,.bool x.closed] 87;have cx:=h2.fr.c5 0 rfl;have HKS:=xH1 hks;clear hks h;have nq0:q.2.1.n<=1048576:=by rw[QL1.out,HX.out];exact(HZ.out.qch k).2.1
           go_upto_region 45 with fail;clear ea;go_wp2;clear cx g0 g1 g2 g3 g4
           go_loopw [143] (λi wr2=>∃j:Nat,j<=q.2.1.n/\i= .int .i64 j/\WF w wr2 v [.blk wo.heap.size #[.int .i64 x.room,.slice q.1.a q.1.n q.1.c,.slice q.2.1.a q.2.1.n q.2.1.c,.slice q.2.2.a q.2.2.n q.2.2.c,.bool x.closed] 87] (([]:List Ent)++allE (λi=>zU (s.sems.getD i zG) i) s.sems.length++allE (λi=>zN (s.onces.getD i zq) i) s.onces.length++allE (λi=>zah (s.groups.getD i zQ) i) s.groups.length++allE (λi=>zal (s.bars.getD i zE) i) s.bars.length++allE (λi=>zZ (s.chans.getD i zH) i) k++((x.senders).map (λw=>(w.1,(8:Int),(k:Int),w.2))).take j) (allE (λi=>zaq (s.onces.getD i zq) i) s.onces.length)) (λi _=>q.2.1.n-(intOf i).toNat)
           case atStart=>exact⟨0,by omega,rfl,by simpa using h2⟩
           case round=>
            clear h2;obtain⟨j,hj,rfl,h2⟩:=hrel;by_cases hjt:j<q.2.1.n
            ·have hjl:j<(x.senders).length:=by rw[<-QL1.out];exact hjt
             obtain⟨b,o,eb,g'⟩:=((h2.fr.rd Q1.out)).pair (by omega);obtain⟨g1,g2⟩:=g' j hjl;obtain⟨y,et⟩:∃y,y=(x.senders).getD j (0,0):=⟨_,rfl⟩
             rw[<-et] at g1 g2;have hsn:((x.senders).map (λw=>(w.1,(8:Int),(k:Int),w.2))).take j++[(y.1,(8:Int),(k:Int),y.2)]=((x.senders).map (λw=>(w.1,(8:Int),(k:Int),w.2))).take (j+1):=by
              have h9:=zas ((x.senders).map (λw=>(w.1,(8:Int),(k:Int),w.2))) ((λw=>(w.1,(8:Int),(k:Int),w.2)) (0,0)) (j:=j) (by rw[xDf];exact hjl);rwa [xDa,List.getElem?_map,xDb hjl,Option.map_some,Option.getD_some,show(x.senders)[j]=y by rw[et,xDa,xDb hjl];rfl] at h9
             have hpre:(([]:List Ent)++allE (λi=>zU (s.sems.getD i zG) i) s.sems.length++allE (λi=>zN (s.onces.getD i zq) i) s.onces.length++allE (λi=>zah (s.groups.getD i zQ) i) s.groups.length++allE (λi=>zal (s.bars.getD i zE) i) s.bars.length++allE (λi=>zZ (s.chans.getD i zH) i) k++((x.senders).map (λw=>(w.1,(8:Int),(k:Int),w.2))).take j)++[(y.1,(8:Int),(k:Int),y.2)]<+:ents s:=by
              rw[xDg,hsn];have e1:(((x.senders).map (λw=>(w.1,(8:Int),(k:Int),w.2))).take (j+1))<+:zZ x k:=by
               exact(List.take_prefix _ _).trans (List.prefix_append _ _)
              have e2:allE (λi=>zZ (s.chans.getD i zH) i) k++((x.senders).map (λw=>(w.1,(8:Int),(k:Int),w.2))).take (j+1)<+:allE (λi=>zZ (s.chans.getD i zH) i) s.chans.length:=by
               exact((List.prefix_append_right_inj _).2 e1).trans HPF.out
              have e3:=(List.prefix_append_right_inj (([]:List Ent)++allE (λi=>zU (s.sems.getD i zG) i) s.sems.length++allE (λi=>zN (s.onces.getD i zq) i) s.onces.length++allE (λi=>zah (s.groups.getD i zQ) i) s.groups.length++allE (λi=>zal (s.bars.getD i zE) i) s.bars.length)).2 e2;have e4:(([]:List Ent)++allE (λi=>zU (s.sems.getD i zG) i) s.sems.length++allE (λi=>zN (s.onces.getD i zq) i) s.onces.length++allE (λi=>zah (s.groups.getD i zQ) i) s.groups.length++allE (λi=>zal (s.bars.getD i zE) i) s.bars.length)++allE (λi=>zZ (s.chans.getD i zH) i) s.chans.length<+:ents s:=by
               unfold ents;simp only[xDq,xDg];exact List.prefix_refl _
              have e5:=e3.trans e4;simpa only[xDg] using e5
             have hnot:=zcu HNE.out hpre;have HSN:=xH1 hsn;have HNT:=xH1 hnot;clear g' et hjl hsn hpre hnot;have h3:=h2.alloc #[.int .i64 y.1,.int .i64 y.2] 187;have cy:=h3.fr.c2 0 rfl;go_upto_region 48 with fail;clear eb g1 g2;have hcell:=h3.fr.cell 2 0 rfl rfl;go_wp2_with fail;refine(zcC y.1 8 k y.2 (w.heap.size+2) (w.heap.size+1) _ _ hcell h3.wm HNT.out).mono ?_;rintro e w6 ⟨rfl,hw6,hg6⟩;have h4:=h3.add hw6 hg6;rw[xDg,HSN.out] at h4;clear h3 h2 hcell hw6 hg6;go_wp2
             go_roundw
             case rel=>exact⟨j+1,by omega,by go_num,h4.tail⟩
             case measure=>simp[intOf];omega
            ·obtain rfl:j=q.2.1.n:=by omega
             clear hjt hj;rw[xDt (by rw[xDf];have:=QL1.out;omega)] at h2;have cx:=h2.fr.c5 0 rfl;have nq1:q.2.2.n<=1048576:=by rw[QL2.out,HX.out];exact(HZ.out.qch k).2.2
             go_wp2;clear cx
             go_loopw [158] (λi wr2=>∃j:Nat,j<=q.2.2.n/\i= .int .i64 j/\WF w wr2 v [.blk wo.heap.size #[.int .i64 x.room,.slice q.1.a q.1.n q.1.c,.slice q.2.1.a q.2.1.n q.2.1.c,.slice q.2.2.a q.2.2.n q.2.2.c,.bool x.closed] 87] (([]:List Ent)++allE (λi=>zU (s.sems.getD i zG) i) s.sems.length++allE (λi=>zN (s.onces.getD i zq) i) s.onces.length++allE (λi=>zah (s.groups.getD i zQ) i) s.groups.length++allE (λi=>zal (s.bars.getD i zE) i) s.bars.length++allE (λi=>zZ (s.chans.getD i zH) i) k++(x.senders).map (λw=>(w.1,(8:Int),(k:Int),w.2))++((x.getters).map (λt=>(t,(9:Int),(k:Int),(0:Int)))).take j) (allE (λi=>zaq (s.onces.getD i zq) i) s.onces.length)) (λi _=>q.2.2.n-(intOf i).toNat)
             case atStart=>exact⟨0,by omega,rfl,by simpa using h2⟩
             case round=>
              clear h2;obtain⟨j,hj,rfl,h2⟩:=hrel;by_cases hjt:j<q.2.2.n
              ·have hjl:j<(x.getters).length:=by rw[<-QL2.out];exact hjt
               obtain⟨b,o,eb,g'⟩:=((h2.fr.rd Q2.out)).int (by omega);have g1:=g' j hjl;obtain⟨t,et⟩:∃t,t=(x.getters).getD j 0:=⟨_,rfl⟩
               rw[<-et] at g1;have hsn:((x.getters).map (λt=>(t,(9:Int),(k:Int),(0:Int)))).take j++[(t,(9:Int),(k:Int),(0:Int))]=((x.getters).map (λt=>(t,(9:Int),(k:Int),(0:Int)))).take (j+1):=by
                have h9:=zas ((x.getters).map (λt=>(t,(9:Int),(k:Int),(0:Int)))) ((λt=>(t,(9:Int),(k:Int),(0:Int))) 0) (j:=j) (by rw[xDf];exact hjl);rwa [xDa,List.getElem?_map,xDb hjl,Option.map_some,Option.getD_some,show(x.getters)[j]=t by rw[et,xDa,xDb hjl];rfl] at h9
               have hpre:(([]:List Ent)++allE (λi=>zU (s.sems.getD i zG) i) s.sems.length++allE (λi=>zN (s.onces.getD i zq) i) s.onces.length++allE (λi=>zah (s.groups.getD i zQ) i) s.groups.length++allE (λi=>zal (s.bars.getD i zE) i) s.bars.length++allE (λi=>zZ (s.chans.getD i zH) i) k++(x.senders).map (λw=>(w.1,(8:Int),(k:Int),w.2))++((x.getters).map (λt=>(t,(9:Int),(k:Int),(0:Int)))).take j)++[(t,(9:Int),(k:Int),(0:Int))]<+:ents s:=by
                rw[xDg,hsn];have e1:((x.senders).map (λw=>(w.1,(8:Int),(k:Int),w.2))++((x.getters).map (λt=>(t,(9:Int),(k:Int),(0:Int)))).take (j+1))<+:zZ x k:=by
                 exact(List.prefix_append_right_inj _).2 (List.take_prefix _ _)
                have e2:allE (λi=>zZ (s.chans.getD i zH) i) k++(x.senders).map (λw=>(w.1,(8:Int),(k:Int),w.2))++((x.getters).map (λt=>(t,(9:Int),(k:Int),(0:Int)))).take (j+1)<+:allE (λi=>zZ (s.chans.getD i zH) i) s.chans.length:=by
                 rw[xDg];exact((List.prefix_append_right_inj _).2 e1).trans HPF.out
                have e3:=(List.prefix_append_right_inj (([]:List Ent)++allE (λi=>zU (s.sems.getD i zG) i) s.sems.length++allE (λi=>zN (s.onces.getD i zq) i) s.onces.length++allE (λi=>zah (s.groups.getD i zQ) i) s.groups.length++allE (λi=>zal (s.bars.getD i zE) i) s.bars.length)).2 e2;have e4:(([]:List Ent)++allE (λi=>zU (s.sems.getD i zG) i) s.sems.length++allE (λi=>zN (s.onces.getD i zq) i) s.onces.length++allE (λi=>zah (s.groups.getD i zQ) i) s.groups.length++allE (λi=>zal (s.bars.getD i zE) i) s.bars.length)++allE (λi=>zZ (s.chans.getD i zH) i) s.chans.length<+:ents s:=by
                 unfold ents;simp only[xDq,xDg];exact List.prefix_refl _
                have e5:=e3.trans e4;simpa only[xDg] using e5
               have hnot:=zcu HNE.out hpre;have HSN:=xH1 hsn;have HNT:=xH1 hnot;clear g' et hjl hsn hpre hnot;have h3:=h2;go_upto_region 53 with fail;clear eb g1;have hcell:=h3.fr.cell 1 0 rfl rfl;go_wp2_with fail;refine(zcC t 9 k 0 (w.heap.size+2) (w.heap.size+1) _ _ hcell h3.wm HNT.out).mono ?_;rintro e w6 ⟨rfl,hw6,hg6⟩;have h4:=h3.add hw6 hg6;rw[xDg,HSN.out] at h4;clear h3 h2 hcell hw6 hg6;go_wp2
               go_roundw
               case rel=>exact⟨j+1,by omega,by go_num,h4⟩
               case measure=>simp[intOf];omega
              ·obtain rfl:j=q.2.2.n:=by omega
               clear hjt hj;rw[xDt (by rw[xDf];have:=QL2.out;omega)] at h2;have e1:([]:List Ent)++allE (λi=>zU (s.sems.getD i zG) i) s.sems.length++allE (λi=>zN (s.onces.getD i zq) i) s.onces.length++allE (λi=>zah (s.groups.getD i zQ) i) s.groups.length++allE (λi=>zal (s.bars.getD i zE) i) s.bars.length++allE (λi=>zZ (s.chans.getD i zH) i) (k+1)=([]:List Ent)++allE (λi=>zU (s.sems.getD i zG) i) s.sems.length++allE (λi=>zN (s.onces.getD i zq) i) s.onces.length++allE (λi=>zah (s.groups.getD i zQ) i) s.groups.length++allE (λi=>zal (s.bars.getD i zE) i) s.bars.length++allE (λi=>zZ (s.chans.getD i zH) i) k++(x.senders).map (λw=>(w.1,(8:Int),(k:Int),w.2))++(x.getters).map (λt=>(t,(9:Int),(k:Int),(0:Int))):=by
                rw[HK1.out];simp only[zZ,xDg]
               rw[<-e1] at h2;clear e1;have h4:=h2.tail;clear h2;go_wp2
               go_roundw
               case rel=>exact⟨k+1,by omega,by go_num,h4⟩
               case measure=>simp[intOf];omega
          ·obtain rfl:k=v.ch.n:=by omega
           clear hlt hk;rw[HS.out.ch.len] at h;have he:([]:List Ent)++allE (λi=>zU (s.sems.getD i zG) i) s.sems.length++allE (λi=>zN (s.onces.getD i zq) i) s.onces.length++allE (λi=>zah (s.groups.getD i zQ) i) s.groups.length++allE (λi=>zal (s.bars.getD i zE) i) s.bars.length++allE (λi=>zZ (s.chans.getD i zH) i) s.chans.length=ents s:=by
            unfold ents;simp only[xDq,xDg]
           rw[he] at h;have cc:=h.fr.cell 0 0 rfl rfl;go_wp2;exact xDd (v:= .tuple #[.map (some (w.heap.size+1)),.map (some (w.heap.size+3))]) (by simp[results,Tryz.results158,go_sem]) rfl ⟨rfl,h.wm,h.om,h.fr.bel⟩
theorem zh8 {w W:World} {l:List It} (F:Fr w W l) (k:Nat) {b:Nat} {v:Value} {E:TypeId} (hi:l[k]? =some (.blk b #[v] E)):W.ownsRow w.heap.size E 1 (.slice (some ⟨b,0,none⟩) 1 1) 1 [v]:=
 zb5 (cs:= #[v]) (F.blk k hi) (F.has _ (xDo hi)).1 rfl (by decide)
theorem zgs (x:ChnD) (ai al ag:Option Addr) (ni ci nl cl ng cg:Nat) (t v:Int) (w:World) (h1:x.items.length=ni) (h2:x.senders.length=nl) (h3:x.getters.length=ng) (r1:Rd w ai (ints x.items)) (r2:Rd w al (zt x.senders)) (r3:Rd w ag (ints x.getters)) (ok:zce x) (ht:0<=t/\t<6) (hv:0<=v/\v<=99) (hns:t∉x.senders.map (·.1)) (hng:t∉x.getters):
  Calls Tryz.prog 118 #[.agg #[.int .i64 x.room,.slice ai ni ci,.slice al nl cl,.slice ag ng cg,.bool x.closed],.int .i64 t,.int .i64 v] w λe w'=>∃(y:ChnD) (s1 s2 s3 u:SlV) (l:List Int) (sent b:Bool),zaO x t v=(if b=true then some (y,l,sent) else none)/\e= .returned (.tuple #[chnV y s1 s2 s3,u.val,.bool sent,.bool b])/\SlN w w' s1 (ints y.items) y.items.length/\SlN w w' s2 (zt y.senders) y.senders.length/\SlN w w' s3 (ints y.getters) y.getters.length/\w'.ownsRow w.heap.size 3 1 u.val u.n (ints l)/\xW w w':=by
 obtain⟨room,its,snd,gts,clo⟩:=x;dsimp only at*;have T6:=xH1 ht;have V9:=xH1 hv;have HS:=xH1 hns;have HG:=xH1 hng;clear ht hv hns hng;have OK:=xH1 ok;have h6:=ok.2.2.2.2.1.1;rw[xDh,xDf,h2,h3] at h6;have o1:=ok.1.1;have o2:=ok.1.2;have o3:(ni:Int)<=room:=by rw[<-h1];exact ok.2.1
 have HH1:=xH1 h1;have HH2:=xH1 h2;have HH3:=xH1 h3;have F:=((Fr.start w).alloc #[.int .i64 room,.slice ai ni ci,.slice al nl cl,.slice ag ng cg,.bool clo] 87).alloc #[.int .i64 0,.slice none 0 0,.slice none 0 0,.slice none 0 0,.bool false] 87;simp only[xDe] at F;have cs:=F.c5 1 rfl;clear ok h1 h2 h3
 cases clo
 ·go_enter Tryz.func118,Tryz.ntmps118;go_wp2_with fail;refine(zbs ⟨room,its,snd,gts,false⟩ ai al ag ni ci nl cl ng cg _ HH1.out HH2.out HH3.out (F.rd r1) (F.rd r2) (F.rd r3) OK.out).mono ?_;rintro e w1 ⟨rfl,hb⟩;replace F:=F.call hb;replace cs:=F.c5 1 rfl;clear hb;go_wp2_with fail;refine(zaF t _ T6.out).mono ?_;rintro e wz ⟨rfl,hw⟩;obtain rfl:=hw;go_wp2_with fail;refine(zcs ⟨room,its,snd,gts,false⟩ ai al ag ni ci nl cl ng cg _ HH2.out HH3.out (by omega) (by omega) (F.rd r2) (F.rd r3)).mono ?_;rintro e w1 ⟨a3,c3,rfl,ho,hb⟩;have hr3:=Rd.of_owns ho;replace F:=F.call hb;replace cs:=F.c5 1 rfl;clear hb ho;go_wp2_with fail;refine(zaP a3 (nl+ng) c3 (snd.map (·.1)++gts) t _ (by rw[xDh,xDf,HH2.out,HH3.out]) (by unfold maxLen;omega) hr3).mono ?_;rintro e wz ⟨rfl,hw⟩;obtain rfl:=hw;rw[zbI (by rw[List.mem_append,not_or];exact⟨HS.out,HG.out⟩)];clear hr3;go_wp2_with fail;refine(zbz v _ V9.out).mono ?_;rintro e wz ⟨rfl,hw⟩;obtain rfl:=hw;go_wp2_with fail;refine(zaQ ⟨room,its,snd,gts,false⟩ ai al ag ni ci nl cl ng cg _ HH1.out HH2.out HH3.out (by omega) (by omega) (by omega) (F.rd r1) (F.rd r2) (F.rd r3)).mono ?_;rintro e w2 ⟨bi,bs,bg,di,ds,dg,rfl,F'⟩;have F2:=F.join F'
  simp only[List.cons_append,xDq] at F2;replace cs:=F2.c5 4 rfl;have F3:=F2.set5 4 rfl (.int .i64 room) (.slice bi ni di) (.slice bs nl ds) (.slice bg ng dg) (.bool false);clear F F' F2;go_upto_region 4 with fail;obtain⟨W3,hW,F⟩:=F3.named;rw[<-hW];clear hW F3 cs;have cs:=F.c5 4 rfl
  cases gts with
  |cons g gs=>
   have hng:gs.length+1=ng:=HH3.out;have hn0:(0:Int)<(ng:Int):=(by omega);have HV:Hid (zaO ⟨room,its,snd,g::gs,false⟩ t v=some (⟨room,its,snd,gs,false⟩,[g],true)):=xH1 rfl;have hcap:=(zbe (F.own 0 rfl)).1;obtain⟨A,hsl,hA,-⟩:=zfr (F.rdRow 0 rfl) (by rw[xDf];exact hng) hcap;obtain⟨b,o,rfl,g'⟩:=(F.rdRow 0 rfl).int (by simp);have g1:=g' 0 (by simp);rw[Nat.add_zero,List.getD_cons_zero] at g1;have HA:=xH1 hA;clear g' hA;go_wp2_with fail;refine(z9 A (ng-1) (dg-1) gs _ (by omega) (by omega) (HA.out _ (F.rdRow 0 rfl))).mono ?_;rintro e w5 ⟨a6,c6,rfl,ho,hb⟩;have F6:=F.row hb ho;have F7:=F6.set 5 rfl 3 (.slice a6 (ng-1) c6);replace cs:=F6.c5 5 rfl;clear ho hb F g1;go_upto_region 7 with fail;obtain⟨W7,hW,F8⟩:=F7.named;rw[<-hW];clear hW F7 F6 cs;have F9:=F8.alloc #[.int .i64 g] 3;have cs:=F8.c5 5 rfl;have cr:=F9.c5 5 rfl;have F10:=F9.set5 5 rfl (.int .i64 room) (.slice bi ni di) (.slice bs nl ds) (.slice a6 (ng-1) c6) (.bool false);go_wp2
   exact xDd (v:= .tuple #[.agg #[.int .i64 room,.slice bi ni di,.slice bs nl ds,.slice a6 (ng-1) c6,.bool false],.slice (some ⟨W7.heap.size,0,none⟩) 1 1,.bool true,.bool true]) (by simp[results,Tryz.results118,go_sem,F10.c5 5 rfl]) rfl ⟨⟨room,its,snd,gs,false⟩,⟨bi,ni,di⟩,⟨bs,nl,ds⟩,⟨a6,ng-1,c6⟩,⟨some ⟨W7.heap.size,0,none⟩,1,1⟩,[g],true,true,HV.out,rfl,by rw[HH1.out];exact F10.sln 4 rfl,by rw[HH2.out];exact F10.sln 3 rfl,by rw[show gs.length=ng-1 by omega];exact F10.sln 1 rfl,zh8 F10 0 rfl,F10.bel⟩
  |nil=>
   obtain rfl:ng=0:=HH3.out.symm;by_cases hlt:(its.length:Int)<room
   ·have HV:Hid (zaO ⟨room,its,snd,[],false⟩ t v=some (⟨room,its++[v],snd,[],false⟩,[],true)):=xH1 (by unfold zaO;dsimp only;rw[if_neg (by simp),if_pos hlt]);rw[HH1.out] at hlt;have F4:=F.alloc #[.int .i64 v] 3;have HL1:Hid ((its++[v]).length=ni+1):=xH1 (by rw[xDh,HH1.out];rfl);go_wp2_with (at_builtin;refine F4.appI 3 rfl _ _ rfl rfl rfl [v] rfl rfl (Rd.of_blk (F4.blk 0 rfl)) (by omega) ?_;intro a4 c4 W4 F5;simp only[List.set_cons_succ,List.set_cons_zero] at F5;rw[<-zaw] at F5;clear cs;have cs:=F5.c5 5 rfl;have F6:=F5.set 5 rfl 1 (.slice a4 (ni+1) c4));refine(zaQ ⟨room,its++[v],snd,[],false⟩ a4 bs bg (ni+1) c4 nl ds 0 dg _ HL1.out HH2.out rfl (by omega) (by omega) (by omega) (F6.rdRow 3 rfl) (F6.rdRow 2 rfl) (F6.rdRow 1 rfl)).mono ?_;rintro e w8 ⟨ei,es,eg,ki,ks,kg,rfl,F'⟩;have F7:=F6.join F';simp only[List.cons_append,xDq] at F7;have cr:=F7.c5 7 rfl;have F8:=F7.set5 7 rfl (.int .i64 room) (.slice ei (ni+1) ki) (.slice es nl ks) (.slice eg 0 kg) (.bool false);clear F' F6;go_wp2
    exact xDd (v:= .tuple #[.agg #[.int .i64 room,.slice ei (ni+1) ki,.slice es nl ks,.slice eg 0 kg,.bool false],.slice none 0 0,.bool true,.bool true]) (by simp[results,Tryz.results118,go_sem,F8.c5 7 rfl]) rfl ⟨⟨room,its++[v],snd,[],false⟩,⟨ei,ni+1,ki⟩,⟨es,nl,ks⟩,⟨eg,0,kg⟩,nilV,[],true,true,HV.out,rfl,by rw[HL1.out];exact F8.sln 2 rfl,by rw[HH2.out];exact F8.sln 1 rfl,F8.sln 0 rfl,xDi _ _ _ _,F8.bel⟩
   ·have HV:Hid (zaO ⟨room,its,snd,[],false⟩ t v=some (⟨room,its,snd++[(t,v)],[],false⟩,[],false)):=xH1 (by unfold zaO;dsimp only;rw[if_neg (by simp),if_neg hlt]);rw[HH1.out] at hlt;have F4:=F.alloc #[.int .i64 t,.int .i64 v] 187;have HL1:Hid ((snd++[(t,v)]).length=nl+1):=xH1 (by rw[xDh,HH2.out];rfl);go_wp2_with (at_builtin;refine F4.appL 2 rfl _ _ rfl rfl rfl [(t,v)] rfl rfl (Rd.of_blk (F4.blk 0 rfl)) (by omega) ?_;intro a4 c4 W4 F5;simp only[List.set_cons_succ,List.set_cons_zero] at F5;rw[<-zes] at F5;clear cs;have cs:=F5.c5 5 rfl;have F6:=F5.set 5 rfl 2 (.slice a4 (nl+1) c4));refine(zaQ ⟨room,its,snd++[(t,v)],[],false⟩ bi a4 bg ni di (nl+1) c4 0 dg _ HH1.out HL1.out rfl (by omega) (by omega) (by omega) (F6.rdRow 3 rfl) (F6.rdRow 2 rfl) (F6.rdRow 1 rfl)).mono ?_;rintro e w8 ⟨ei,es,eg,ki,ks,kg,rfl,F'⟩;have F7:=F6.join F';simp only[List.cons_append,xDq] at F7;have cr:=F7.c5 7 rfl;have F8:=F7.set5 7 rfl (.int .i64 room) (.slice ei ni ki) (.slice es (nl+1) ks) (.slice eg 0 kg) (.bool false);clear F' F6;go_wp2
    exact xDd (v:= .tuple #[.agg #[.int .i64 room,.slice ei ni ki,.slice es (nl+1) ks,.slice eg 0 kg,.bool false],.slice none 0 0,.bool false,.bool true]) (by simp[results,Tryz.results118,go_sem,F8.c5 7 rfl]) rfl ⟨⟨room,its,snd++[(t,v)],[],false⟩,⟨ei,ni,ki⟩,⟨es,nl+1,ks⟩,⟨eg,0,kg⟩,nilV,[],false,true,HV.out,rfl,by rw[HH1.out];exact F8.sln 2 rfl,by rw[HL1.out];exact F8.sln 1 rfl,F8.sln 0 rfl,xDi _ _ _ _,F8.bel⟩
 ·go_enter Tryz.func118,Tryz.ntmps118;go_wp2_with fail;refine(zbs ⟨room,its,snd,gts,true⟩ ai al ag ni ci nl cl ng cg _ HH1.out HH2.out HH3.out (F.rd r1) (F.rd r2) (F.rd r3) OK.out).mono ?_;rintro e w1 ⟨rfl,hb⟩;replace F:=F.call hb;replace cs:=F.c5 1 rfl;clear hb;go_wp2_with fail;refine(zaF t _ T6.out).mono ?_;rintro e wz ⟨rfl,hw⟩;obtain rfl:=hw;go_wp2_with fail;refine(zcs ⟨room,its,snd,gts,true⟩ ai al ag ni ci nl cl ng cg _ HH2.out HH3.out (by omega) (by omega) (F.rd r2) (F.rd r3)).mono ?_;rintro e w1 ⟨a3,c3,rfl,ho,hb⟩;have hr3:=Rd.of_owns ho;replace F:=F.call hb;replace cs:=F.c5 1 rfl;clear hb ho;go_wp2_with fail;refine(zaP a3 (nl+ng) c3 (snd.map (·.1)++gts) t _ (by rw[xDh,xDf,HH2.out,HH3.out]) (by unfold maxLen;omega) hr3).mono ?_;rintro e wz ⟨rfl,hw⟩;obtain rfl:=hw;rw[zbI (by rw[List.mem_append,not_or];exact⟨HS.out,HG.out⟩)];clear hr3;have HV:Hid (zaO ⟨room,its,snd,gts,true⟩ t v=none):=xH1 (by unfold zaO;rw[if_pos rfl]);have cr:=F.c5 0 rfl;have F2:=F.set5 0 rfl (.int .i64 0) (.slice none 0 0) (.slice none 0 0) (.slice none 0 0) (.bool false);go_wp2
  exact xDd (v:= .tuple #[.agg #[.int .i64 0,.slice none 0 0,.slice none 0 0,.slice none 0 0,.bool false],.slice none 0 0,.bool false,.bool false]) (by simp[results,Tryz.results118,go_sem,F2.c5 0 rfl]) rfl ⟨zH,nilV,nilV,nilV,nilV,[],false,false,HV.out,rfl,SlN.nil _ _,SlN.nil _ _,SlN.nil _ _,xDi _ _ _ _,F2.bel⟩
theorem zfO (x:ChnD) (ai al ag:Option Addr) (ni ci nl cl ng cg:Nat) (w:World) (h1:x.items.length=ni) (h2:x.senders.length=nl) (h3:x.getters.length=ng) (r1:Rd w ai (ints x.items)) (r2:Rd w al (zt x.senders)) (r3:Rd w ag (ints x.getters)) (ok:zce x):
  Calls Tryz.prog 120 #[.agg #[.int .i64 x.room,.slice ai ni ci,.slice al nl cl,.slice ag ng cg,.bool x.closed]] w λe w'=>∃(y:ChnD) (s1 s2 s3 u:SlV) (l:List Int) (b:Bool),zaS x=(if b=true then some (y,l) else none)/\e= .returned (.tuple #[chnV y s1 s2 s3,u.val,.bool b])/\SlN w w' s1 (ints y.items) y.items.length/\SlN w w' s2 (zt y.senders) y.senders.length/\SlN w w' s3 (ints y.getters) y.getters.length/\w'.ownsRow w.heap.size 3 1 u.val u.n (ints l)/\xW w w':=by
 obtain⟨room,its,snd,gts,clo⟩:=x;dsimp only at*;have OK:=xH1 ok;have h6:=ok.2.2.2.2.1.1;rw[xDh,xDf,h2,h3] at h6;have o1:=ok.1.1;have o2:=ok.1.2;have o3:(ni:Int)<=room:=by rw[<-h1];exact ok.2.1
 have HH1:=xH1 h1;have HH2:=xH1 h2;have HH3:=xH1 h3;have F:=((Fr.start w).alloc #[.int .i64 room,.slice ai ni ci,.slice al nl cl,.slice ag ng cg,.bool clo] 87).alloc #[.int .i64 0,.slice none 0 0,.slice none 0 0,.slice none 0 0,.bool false] 87;simp only[xDe] at F;have cs:=F.c5 1 rfl;clear ok h1 h2 h3;have X:Hid (zce ⟨room,its,snd,gts,clo⟩):=OK;clear X
 cases clo
 ·go_enter Tryz.func120,Tryz.ntmps120;go_wp2_with fail;refine(zbs ⟨room,its,snd,gts,false⟩ ai al ag ni ci nl cl ng cg _ HH1.out HH2.out HH3.out (F.rd r1) (F.rd r2) (F.rd r3) OK.out).mono ?_;rintro e w1 ⟨rfl,hb⟩;replace F:=F.call hb;replace cs:=F.c5 1 rfl;clear hb;by_cases hs:nl=0
  ·have hsn:snd=[]:=List.eq_nil_of_length_eq_zero (by rw[HH2.out];exact hs);have HV:Hid (zaS ⟨room,its,snd,gts,false⟩=some (⟨room,its,snd,[],true⟩,gts)):=xH1 (by unfold zaS;rw[if_neg (by simp[hsn])]);clear hsn;subst hs;go_wp2_with fail;refine(zaQ ⟨room,its,snd,gts,false⟩ ai al ag ni ci 0 cl ng cg _ HH1.out HH2.out HH3.out (by omega) (by omega) (by omega) (F.rd r1) (F.rd r2) (F.rd r3)).mono ?_;rintro e w2 ⟨bi,bs,bg,di,ds,dg,rfl,F'⟩;have F2:=F.join F';simp only[List.cons_append,xDq] at F2;replace cs:=F2.c5 4 rfl;have F3:=F2.set5 4 rfl (.int .i64 room) (.slice bi ni di) (.slice bs 0 ds) (.slice bg ng dg) (.bool false);clear F F' F2;go_upto_region 4 with fail;obtain⟨W3,hW,F⟩:=F3.named;rw[<-hW];clear hW F3 cs;have cs:=F.c5 4 rfl;have cr:=F.c5 3 rfl;have F5:=((F.set 4 rfl 3 (.slice none 0 0)).set 4 rfl 4 (.bool true)).set5 3 rfl (.int .i64 room) (.slice bi ni di) (.slice bs 0 ds) (.slice none 0 0) (.bool true);go_wp2
   exact xDd (v:= .tuple #[.agg #[.int .i64 room,.slice bi ni di,.slice bs 0 ds,.slice none 0 0,.bool true],.slice bg ng dg,.bool true]) (by simp[results,Tryz.results120,go_sem,F5.c5 3 rfl]) rfl ⟨⟨room,its,snd,[],true⟩,⟨bi,ni,di⟩,⟨bs,0,ds⟩,nilV,⟨bg,ng,dg⟩,gts,true,HV.out,rfl,by rw[HH1.out];exact F5.sln 2 rfl,by rw[HH2.out];exact F5.sln 1 rfl,SlN.nil _ _,F5.own 0 rfl,F5.bel⟩
  ·have hsn:snd≠[]:=λh=>hs (by rw[<-HH2.out,h];rfl);have HV:Hid (zaS ⟨room,its,snd,gts,false⟩=none):=xH1 (by unfold zaS;rw[if_pos (.inr hsn)]);have h0:(0:Int)<(nl:Int):=(by omega);clear hsn hs;have cr:=F.c5 0 rfl;have F2:=F.set5 0 rfl (.int .i64 0) (.slice none 0 0) (.slice none 0 0) (.slice none 0 0) (.bool false);go_wp2;exact xDd (v:= .tuple #[.agg #[.int .i64 0,.slice none 0 0,.slice none 0 0,.slice none 0 0,.bool false],.slice none 0 0,.bool false]) (by simp[results,Tryz.results120,go_sem,F2.c5 0 rfl]) rfl ⟨zH,nilV,nilV,nilV,nilV,[],false,HV.out,rfl,SlN.nil _ _,SlN.nil _ _,SlN.nil _ _,xDi _ _ _ _,F2.bel⟩
 ·go_enter Tryz.func120,Tryz.ntmps120;go_wp2_with fail;refine(zbs ⟨room,its,snd,gts,true⟩ ai al ag ni ci nl cl ng cg _ HH1.out HH2.out HH3.out (F.rd r1) (F.rd r2) (F.rd r3) OK.out).mono ?_;rintro e w1 ⟨rfl,hb⟩;replace F:=F.call hb;replace cs:=F.c5 1 rfl;clear hb;have HV:Hid (zaS ⟨room,its,snd,gts,true⟩=none):=xH1 (by unfold zaS;rw[if_pos (.inl rfl)]);have cr:=F.c5 0 rfl;have F2:=F.set5 0 rfl (.int .i64 0) (.slice none 0 0) (.slice none 0 0) (.slice none 0 0) (.bool false);go_wp2;exact xDd (v:= .tuple #[.agg #[.int .i64 0,.slice none 0 0,.slice none 0 0,.slice none 0 0,.bool false],.slice none 0 0,.bool false]) (by simp[results,Tryz.results120,go_sem,F2.c5 0 rfl]) rfl ⟨zH,nilV,nilV,nilV,nilV,[],false,HV.out,rfl,SlN.nil _ _,SlN.nil _ _,SlN.nil _ _,xDi _ _ _ _,F2.bel⟩
theorem zkW {a:Option Addr} {n c:Nat} {y:Int×Int} {q:List (Int×Int)} {w0:World} (h0:Rd w0 a (zt (y::q))) (hl:q.length+1=n) (hc:n<=c):
  ∃A:Option Addr,(∀W:World,(Instr.slice 72 (.slice a n c) (some (.int .i64 1)) none none).run Tryz.prog W= .ok (.slice A (n-1) (c-1)) W)/\∀W:World,Rd W a (zt (y::q))->Rd W A (zt q):=by
 rcases h0 with h0|⟨b,o,rfl,h0⟩
 ·cases h0
 refine⟨some (if c=1 then (⟨b,o,none⟩:Addr) else ⟨b,o+2,none⟩),λW=> ?_,λW h=> ?_⟩
 ·have u1:(1:Int)<=(n:Int):=by omega
  have u2:(n:Int)<=(c:Int):=by omega
  have u3:(1:Int)<=(c:Int):=by omega
  go_simp;split<;>rfl
 ·by_cases h1:c=1
  ·have:q=[]:=List.eq_nil_of_length_eq_zero (by omega);subst this;exact .inl rfl
  ·rw[if_neg h1];exact zgQ (h:=pair y) h rfl
theorem zc3 {W:World} {b o:Nat} {y:Int×Int} {q:List (Int×Int)} (h:Rd W (some ⟨b,o,none⟩) (zt (y::q))):W.cell? ⟨b,o,none⟩=some (.int .i64 y.1)/\W.cell? ⟨b,o+1,none⟩=some (.int .i64 y.2):=by
 obtain⟨b',o',e,g⟩:=h.pair (by simp)
 cases e
 simpa using g 0 (by simp)
theorem ziL (w0:World) (l:List It) (b n c:Nat) (f lim:Int) (a:Option Addr) (q:List (Int×Int)) (w:World) (F:Fr w0 w (.blk b #[.int .i64 f,.int .i64 lim,.slice a n c] 74:: .row a n c 167 2 (zt q)::l)) (hl:q.length=n) (hn:n<=6) (hf:0<=f/\f<=9) (hc:∀y∈q,1<=y.2/\y.2<=9):
  Calls Tryz.prog 162 #[.pointer (some ⟨b,0,none⟩)] w λe w'=>∃(a' u:Option Addr) (n' c' m d:Nat),e= .returned (.slice u m d)/\(zP f q).2.1.length=m/\(zP f q).2.2.length=n'/\Fr w0 w' (.row a' n' c' 167 2 (zt (zP f q).2.2):: .row u m d 3 1 (ints (zP f q).2.1):: .blk b #[.int .i64 (zP f q).1,.int .i64 lim,.slice a' n' c'] 74:: .row a n c 167 2 (zt q)::l):=by
 have HL:=xH1 hl;have HC:=xH1 hc;have hcap:=(zbe (F.own 1 rfl)).1;clear hl hc;go_enter Tryz.func162,Tryz.ntmps162;go_wp2
 go_loopw [3] (λth wr=>∃(A u:Option Addr) (nk ck m d:Nat) (fk:Int) (g qk:List _),th= .slice u m d/\g.length=m/\qk.length=nk/\nk<=ck/\m+nk=n/\(0<=fk/\fk<=9)/\Hid (zP f q=((zP fk qk).1,g++(zP fk qk).2.1,(zP fk qk).2.2))/\Hid (∀y∈qk,1<=y.2/\y.2<=9)/\Hid (∀W,Rd W a (zt q)->Rd W A (zt qk))/\
  Fr w0 wr (.row u m d 3 1 (ints g):: .blk b #[.int .i64 fk,.int .i64 lim,.slice A nk ck] 74:: .row a n c 167 2 (zt q)::l)) (λth _=>6-(match th with| .slice _ m _=>m|_=>0))
 case atStart=>exact⟨a,none,n,c,0,0,f,[],q,rfl,rfl,HL.out,hcap,by omega,hf,xH1 (by simp),xH1 HC.out,xH1 (λ_ h=>h),F.nil _ _⟩
 case round=>
  obtain⟨A,u,nk,ck,m,d,fk,g0,qk,rfl,hg,hqk,hcap,hmn,hfk,HS,HC,HA,F⟩:=hrel;have HG:=xH1 hg;have HQ:=xH1 hqk;clear hg hqk;have cs:=F.c3 1 rfl;go_wp2;rcases qk with _|⟨y,qk⟩
  ·obtain rfl:nk=0:=HQ.out.symm;have hx:Hid (zP fk []=(fk,[],[])):=xH1 rfl
   go_quiet (fail)
   replace F:=F.drewN nq;replace cs:=F.c3 1 rfl;go_wp2_with (at_builtin;refine(F.nil _ 2).appW 0 rfl _ _ rfl rfl rfl [] rfl HQ.out (HA.out _ (F.rdRow 2 rfl)) (by omega) ?_;intro a4 c4 W4 F5;simp only[List.set_cons_zero,xDq,Nat.zero_add] at F5;clear cs;have cs:=F5.c3 2 rfl;have F6:=F5.set 2 rfl 2 (.slice a4 0 c4));go_ret;exact⟨a4,u,0,c4,m,d,rfl,by rw[HS.out,hx.out,List.append_nil];exact HG.out,by rw[HS.out,hx.out];exact HQ.out,by rw[HS.out,hx.out,List.append_nil];exact F6⟩
  ·have hnk:0<nk:=by have:=HQ.out;simp only[List.length_cons] at this;omega
   have hnk0:(0:Int)<(nk:Int):=(by omega);have hy:=HC.out y (by simp);have hy1:=hy.1;have hy2:=hy.2;clear hy;obtain⟨bA,oA,rfl,-⟩:=(HA.out _ (F.rdRow 2 rfl)).pair (by simp);have g:=zc3 (HA.out _ (F.rdRow 2 rfl));by_cases hle:y.2<=fk
   ·have HX:Hid (zP fk (y::qk)=((zP (fk-y.2) qk).1,y.1::(zP (fk-y.2) qk).2.1,(zP (fk-y.2) qk).2.2)):=xH1 (by rw[zP,if_pos hle]);obtain⟨A',hsl,hA'⟩:=zkW (HA.out _ (F.rdRow 2 rfl)) (by have:=HQ.out;simpa using this) hcap;have dle:decide (y.2<=fk)=true:=xDk hle;have HA':=xH1 hA';clear hA'
    go_quiet (fail)
    obtain⟨wq,hwq,F1⟩:=(F.drewN nq).named;rw[<-hwq];clear hwq cs F g;have cs:=F1.c3 1 rfl;have g:=zc3 (HA.out _ (F1.rdRow 2 rfl));have e0:=hfk.1;have e1:=hfk.2;go_wp2;go_still_tail 12,(by kernel_rfl)
    have F2:=(F1.set 1 rfl 0 (.int .i64 (fk-y.2))).drew;go_upto_region 4 with fail;obtain⟨w4,hw,F3⟩:=F2.named;rw[<-hw];clear hw cs g F1 F2;have F4:=F3.alloc #[.int .i64 y.1] 3;have cs:=F3.c3 1 rfl;have g:=zc3 (HA.out _ (F3.rdRow 2 rfl));go_wp2_with (at_builtin;refine F4.appI 1 rfl _ _ rfl rfl rfl [y.1] rfl rfl (Rd.of_blk (F4.blk 0 rfl)) (by omega) ?_;intro a4 c4 W4 F5;simp only[List.set_cons_succ,List.set_cons_zero] at F5;clear cs g;have cs:=F5.c3 2 rfl;have F6:=F5.set 2 rfl 2 (.slice A' (nk-1) (ck-1)))
    go_roundw
    case rel=>exact⟨A',a4,nk-1,ck-1,m+1,c4,fk-y.2,g0++[y.1],qk,rfl,by rw[xDh,HG.out];rfl,by have:=HQ.out;simp only[List.length_cons] at this;omega,by omega,by omega,by omega,xH1 (by rw[HS.out,HX.out];simp),xH1 (λz hz=>HC.out z (by simp[hz])),xH1 (λW h=>HA'.out W (HA.out W h)),by rw[zaw];exact F6.sub (.cons _ (.refl _))⟩
    case measure=>show 6-(m+1)<6-m;omega
   ·have hx:Hid (zP fk (y::qk)=(fk,[],y::qk)):=xH1 (by rw[zP,if_neg hle]);have dle:decide (y.2<=fk)=false:=xDj hle
    go_quiet (fail)
    obtain⟨wq,hwq,F1⟩:=(F.drewN nq).named;rw[<-hwq];clear hwq cs F;have F:=F1;have cs:=F.c3 1 rfl;go_wp2_with (at_builtin;refine(F.nil _ 2).appW 0 rfl _ _ rfl rfl rfl (y::qk) rfl HQ.out (HA.out _ (F.rdRow 2 rfl)) (by omega) ?_;intro a4 c4 W4 F5;simp only[List.set_cons_zero,xDq,Nat.zero_add] at F5;clear cs;have cs:=F5.c3 2 rfl;have F6:=F5.set 2 rfl 2 (.slice a4 nk c4));go_ret;exact⟨a4,u,nk,c4,m,d,rfl,by rw[HS.out,hx.out,List.append_nil];exact HG.out,by rw[HS.out,hx.out];exact HQ.out,by rw[HS.out,hx.out,List.append_nil];exact F6⟩
theorem zgU (x:SemD) (a:Option Addr) (n c:Nat) (m:Int) (w:World) (hl:x.queue.length=n) (hr:Rd w a (zt x.queue)) (ok:zdg x) (hm:1<=m/\m<=9):
  Calls Tryz.prog 112 #[.agg #[.int .i64 x.free,.int .i64 x.limit,.slice a n c],.int .i64 m] w λe w'=>∃(y:SemD) (s u:SlV) (l:List Int) (b:Bool),zbd x m=(if b=true then some (y,l) else none)/\e= .returned (.tuple #[semV y s,u.val,.bool b])/\SlN w w' s (zt y.queue) y.queue.length/\w'.ownsRow w.heap.size 3 1 u.val u.n (ints l)/\(zt y.queue=[]\/∀q,ze s.a=some q->ze u.a≠some q)/\xW w w':=by
 have h6:n<=6:=by rw[<-hl];simpa using ok.2.2.2.1.1
 have HL:=xH1 hl;have HR:=xH1 hr;have HOK:=xH1 ok;have f1:=ok.2.1.1;have f2:=ok.2.1.2;have f3:=ok.1.2;have hm1:=hm.1;have hm2:=hm.2;have F:=((Fr.start w).alloc #[.int .i64 x.free,.int .i64 x.limit,.slice a n c] 74).alloc #[.int .i64 0,.int .i64 0,.slice none 0 0] 74;simp only[xDe] at F;have cs:=F.c3 1 rfl;clear hl hr ok hm;go_enter Tryz.func112,Tryz.ntmps112;go_wp2_with fail;refine(zdb x a n c _ HL.out (F.rd HR.out) HOK.out).mono ?_;rintro e w1 ⟨rfl,hb⟩;replace F:=F.call hb;replace cs:=F.c3 1 rfl;clear hb;by_cases hif:m<=x.limit-x.free
 ·have HV:Hid (zbd x m=some (⟨(zP (x.free+m) x.queue).1,x.limit,(zP (x.free+m) x.queue).2.2⟩,(zP (x.free+m) x.queue).2.1)):=xH1 (by unfold zbd;rw[if_pos hif]);go_wp2_with fail;refine(zbO x a n c _ HL.out (by omega) (F.rd HR.out)).mono ?_;rintro e w2 ⟨a2,c2,rfl,ho,hb⟩;have F2:=F.row hb ho;replace cs:=F2.c3 2 rfl;have F3:=((F2.set3 2 rfl (.int .i64 x.free) (.int .i64 x.limit) (.slice a2 n c2)).set 2 rfl 0 (.int .i64 (x.free+m))).pull 2 rfl;clear F hb ho;go_wp2_with fail;refine(ziL w _ w.heap.size n c2 (x.free+m) x.limit a2 x.queue _ (F3.perm (.cons _ (.refl _))) HL.out h6 (by omega) (λy hy=>by have h1:=(HOK.out.2.2.1 y hy);omega)).mono ?_;rintro e w4 ⟨a',u,n',c',k,d,rfl,hk,hn',F4⟩;have HK:=xH1 hk;have HN:=xH1 hn';obtain⟨fr,hfr⟩:∃fr,fr=(zP (x.free+m) x.queue).1:=⟨_,rfl⟩
  rw[<-hfr] at F4 HV;clear hfr hk hn' cs F2 F3;have cs:=F4.c3 2 rfl;have cr:=F4.c3 4 rfl;have F5:=F4.set3 4 rfl (.int .i64 fr) (.int .i64 x.limit) (.slice a' n' c');go_wp2;refine xDd (v:= .tuple #[.agg #[.int .i64 fr,.int .i64 x.limit,.slice a' n' c'],.slice u k d,.bool true]) (by simp[results,Tryz.results112,go_sem,F5.c3 4 rfl]) rfl ⟨_,⟨a',n',c'⟩,⟨u,k,d⟩,_,true,HV.out,rfl,?_,F5.own 1 rfl,.inr λq h1 h2=>F5.apart 0 1 rfl rfl (by decide) q (by simp[It.foot,h1]) (by simp[It.foot,h2]),F5.bel⟩;exact HN.out▸F5.sln 0 rfl
 ·have HV:Hid (zbd x m=none):=xH1 (by unfold zbd;rw[if_neg hif]);have F5:=F.set3 0 rfl (.int .i64 0) (.int .i64 0) (.slice none 0 0);have cr:=F.c3 0 rfl;go_wp2;exact xDd (v:= .tuple #[.agg #[.int .i64 0,.int .i64 0,.slice none 0 0],.slice none 0 0,.bool false]) (by simp[results,Tryz.results112,go_sem,F5.c3 0 rfl]) rfl ⟨zG,nilV,nilV,[],false,HV.out,rfl,SlN.nil _ _,xDi _ _ _ _,.inl rfl,F5.bel⟩
theorem zgN (x:ChnD) (ai al ag:Option Addr) (ni ci nl cl ng cg:Nat) (t:Int) (w:World) (h1:x.items.length=ni) (h2:x.senders.length=nl) (h3:x.getters.length=ng) (r1:Rd w ai (ints x.items)) (r2:Rd w al (zt x.senders)) (r3:Rd w ag (ints x.getters)) (ok:zce x) (ht:0<=t/\t<6) (hns:t∉x.senders.map (·.1)) (hng:t∉x.getters):
  Calls Tryz.prog 119 #[.agg #[.int .i64 x.room,.slice ai ni ci,.slice al nl cl,.slice ag ng cg,.bool x.closed],.int .i64 t] w λe w'=>∃(y:ChnD) (s1 s2 s3 u:SlV) (l:List Int) (val how:Int),zar x t=(y,val,how,l)/\e= .returned (.tuple #[chnV y s1 s2 s3,.int .i64 val,.int .i64 how,u.val,.bool true])/\SlN w w' s1 (ints y.items) y.items.length/\SlN w w' s2 (zt y.senders) y.senders.length/\SlN w w' s3 (ints y.getters) y.getters.length/\w'.ownsRow w.heap.size 3 1 u.val u.n (ints l)/\xW w w':=by
 obtain⟨room,its,snd,gts,clo⟩:=x;dsimp only at*;have T6:=xH1 ht;have HS:=xH1 hns;have HG:=xH1 hng;clear ht hns hng;have OK:=xH1 ok;have h6:=ok.2.2.2.2.1.1;rw[xDh,xDf,h2,h3] at h6;have o1:=ok.1.1;have o2:=ok.1.2;have o3:(ni:Int)<=room:=by rw[<-h1];exact ok.2.1
 have HH1:=xH1 h1;have HH2:=xH1 h2;have HH3:=xH1 h3;have F:=((Fr.start w).alloc #[.int .i64 room,.slice ai ni ci,.slice al nl cl,.slice ag ng cg,.bool clo] 87).alloc #[.int .i64 0,.slice none 0 0,.slice none 0 0,.slice none 0 0,.bool false] 87;simp only[xDe] at F;have cs:=F.c5 1 rfl;clear ok h1 h2 h3;go_enter Tryz.func119,Tryz.ntmps119;go_wp2_with fail;refine(zbs ⟨room,its,snd,gts,clo⟩ ai al ag ni ci nl cl ng cg _ HH1.out HH2.out HH3.out (F.rd r1) (F.rd r2) (F.rd r3) OK.out).mono ?_;rintro e w1 ⟨rfl,hb⟩;replace F:=F.call hb;replace cs:=F.c5 1 rfl;clear hb;go_wp2_with fail;refine(zaF t _ T6.out).mono ?_;rintro e wz ⟨rfl,hw⟩;obtain rfl:=hw;go_wp2_with fail;refine(zcs ⟨room,its,snd,gts,clo⟩ ai al ag ni ci nl cl ng cg _ HH2.out HH3.out (by omega) (by omega) (F.rd r2) (F.rd r3)).mono ?_;rintro e w1 ⟨a3,c3,rfl,ho,hb⟩;have hr3:=Rd.of_owns ho;replace F:=F.call hb;replace cs:=F.c5 1 rfl;clear hb ho;go_wp2_with fail;refine(zaP a3 (nl+ng) c3 (snd.map (·.1)++gts) t _ (by rw[xDh,xDf,HH2.out,HH3.out]) (by unfold maxLen;omega) hr3).mono ?_;rintro e wz ⟨rfl,hw⟩;obtain rfl:=hw;rw[zbI (by rw[List.mem_append,not_or];exact⟨HS.out,HG.out⟩)];clear hr3;go_wp2_with fail
 refine(zaQ ⟨room,its,snd,gts,clo⟩ ai al ag ni ci nl cl ng cg _ HH1.out HH2.out HH3.out (by omega) (by omega) (by omega) (F.rd r1) (F.rd r2) (F.rd r3)).mono ?_;rintro e w2 ⟨bi,bs,bg,di,ds,dg,rfl,F'⟩;have F2:=F.join F';simp only[List.cons_append,xDq] at F2;replace cs:=F2.c5 4 rfl;have F3:=F2.set5 4 rfl (.int .i64 room) (.slice bi ni di) (.slice bs nl ds) (.slice bg ng dg) (.bool clo);clear F F' F2;go_upto_region 4 with fail;obtain⟨W3,hW,F⟩:=F3.named;rw[<-hW];clear hW F3 cs;have cs:=F.c5 4 rfl
 cases snd with
 |cons l ls=>
  have hls:ls.length+1=nl:=HH2.out;have HLS:Hid (ls.length=nl-1):=xH1 (by omega);have hn0:(0:Int)<(nl:Int):=by omega
  obtain⟨y,ys,hys⟩:∃y ys,its++[l.2]=y::ys:=List.exists_cons_of_ne_nil (by simp);have HV:Hid (zar ⟨room,its,l::ls,gts,clo⟩ t=(⟨room,ys,ls,gts,clo⟩,y,1,[l.1])):=xH1 (by
   cases its with
   |nil=>simp only[xDq,List.cons.injEq] at hys;obtain⟨rfl,rfl⟩:=hys;rfl
   |cons x xs=>simp only[List.cons_append,List.cons.injEq] at hys;obtain⟨rfl,rfl⟩:=hys;rfl)
  have hly:ys.length+1=ni+1:=by have:=congrArg List.length hys;rw[xDh,HH1.out] at this;simpa using this.symm
  have HYS:=xH1 hys;have hcapS:=(zbe (F.own 1 rfl)).1;obtain⟨AS,hslS,hAS,-⟩:=zkr (F.rdRow 1 rfl) (by show(zt ls).length+2=nl*2;rw[zbw];omega) hcapS;have HAS:=xH1 hAS;obtain⟨b,o,rfl,-⟩:=(F.rdRow 1 rfl).pair (by simp);have g:=zc3 (F.rdRow 1 rfl);clear hys hAS;go_wp2_with fail;apply zbc 8 [.k _,.k _,.k _,.k _,.k _,.k _,.k _,.r λdz uz wz=>(∃gz:Nat,uz= .slice (some ⟨gz,0,none⟩) 1 1/\wz.ownsRow W3.heap.size 3 1 (.slice (some ⟨gz,0,none⟩) 1 1) 1 (ints [l.2]))] ⟨λ_ _ _ _ hb ⟨g,e,h⟩=>⟨g,e,zf h hb⟩,trivial⟩ ?s1 ?e1
  case s1=>
   repeat' apply And.intro
   all_goals first|trivial|(intro ρ w1 hG hfr hd;obtain⟨fc,ff⟩:=fcff hfr;have f2:=hfr (.tmp 2) rfl;have F1:=F.call hG;have cs:=F1.c5 4 rfl;have g:=zc3 (F1.rdRow 1 rfl);clear F1)
   exact rk0;exact rk1;exact rk0;exact rk1;exact rk1;exact rk1;exact rk1
   ·obtain⟨d0,-⟩:=hd;have d0:ρ (.tmp 38)=_:=d0;refine zh (u:= .slice (some ⟨w1.heap.size,0,none⟩) 1 1) (w':=w1.alloc (.cells #[.int .i64 l.2] 3)) (by go_simp) ⟨xA1,⟨_,rfl,zl (zb5 (cs:= #[.int .i64 l.2]) (m:=1) (Blk.new _ _ _) xL1 rfl (by decide)) hG.size⟩,xN1,hG.alloc hG.size _⟩
  intro w2 hG;refine zao ?_;intro xv7 hv7;obtain⟨gz,rfl,ho⟩:=hv7;have F4:=F.row hG ho;clear cs g hG ho F;have cs:=F4.c5 5 rfl;go_upto_region 7 with (at_builtin;refine F4.appI 3 rfl _ _ rfl rfl rfl [l.2] rfl rfl (F4.rdRow 0 rfl) (by omega) ?_;intro bj dj W5 F5;simp only[List.set_cons_succ,List.set_cons_zero] at F5;rw[<-zaw,HYS.out] at F5;clear cs F4;have cs:=F5.c5 5 rfl;have g:=zc3 (F5.rdRow 2 rfl);have F6:=F5.set 5 rfl 1 (.slice bj (ni+1) dj))
  obtain⟨W7,hW,F7⟩:=F6.named;rw[<-hW];clear hW F5 F6 cs g;have cs:=F7.c5 5 rfl;have g:=zc3 (F7.rdRow 2 rfl);have F8:=F7.alloc #[.int .i64 l.1] 3;have cs8:=F8.c5 6 rfl;have F9:=F8.set 6 rfl 2 (.slice AS (nl-1) (ds-1));clear F7;go_upto_region 9 with fail;obtain⟨W9,hW,F⟩:=F9.named;rw[<-hW];clear hW F9 cs g cs8;have cs:=F.c5 6 rfl;have hcapI:=(zbe (F.own 4 rfl)).1;obtain⟨AI,hslI,hAI,-⟩:=zfr (F.rdRow 4 rfl) (by rw[xDf];exact hly) hcapI;obtain⟨bI,oI,rfl,g'⟩:=(F.rdRow 4 rfl).int (by simp);have gI:=g' 0 (by simp);rw[Nat.add_zero,List.getD_cons_zero] at gI;have HAI:=xH1 hAI;have F6:=F.set 6 rfl 1 (.slice AI ni (dj-1));clear g' hAI;go_wp2_with fail;refine(zaQ ⟨room,ys,ls,gts,clo⟩ AI AS bg ni (dj-1) (nl-1) (ds-1) ng dg _ (by show ys.length=ni;omega) HLS.out HH3.out (by omega) (by omega) (by omega) (HAI.out _ (F6.rdRow 4 rfl)) (HAS.out _ (F6.rdRow 3 rfl)) (F6.rdRow 2 rfl)).mono ?_;rintro e w8 ⟨ei,es,eg,ki,ks,kg,rfl,F'⟩;have F7:=F6.join F';simp only[List.cons_append,xDq] at F7;have cr:=F7.c5 8 rfl;have F8:=F7.set5 8 rfl (.int .i64 room) (.slice ei ni ki) (.slice es (nl-1) ks) (.slice eg ng kg) (.bool clo);clear F' F6 F;go_wp2
  exact xDd (v:= .tuple #[.agg #[.int .i64 room,.slice ei ni ki,.slice es (nl-1) ks,.slice eg ng kg,.bool clo],.int .i64 y,.int .i64 1,.slice (some ⟨W7.heap.size,0,none⟩) 1 1,.bool true]) (by simp[results,Tryz.results119,go_sem,F8.c5 8 rfl]) rfl ⟨⟨room,ys,ls,gts,clo⟩,⟨ei,ni,ki⟩,⟨es,(nl-1),ks⟩,⟨eg,ng,kg⟩,(⟨some ⟨W7.heap.size,0,none⟩,1,1⟩:SlV),[l.1],y,1,HV.out,rfl,by rw[show ys.length=ni by omega];exact F8.sln 2 rfl,by rw[HLS.out];exact F8.sln 1 rfl,by rw[HH3.out];exact F8.sln 0 rfl,zh8 F8 3 rfl,F8.bel⟩
 |nil=>
  obtain rfl:nl=0:=HH2.out.symm
  cases its with
  |cons y ys=>
   have hly:ys.length+1=ni:=HH1.out;have hi0:(0:Int)<(ni:Int):=(by omega);have HLS:Hid (([]:List (Int×Int)).length=0):=xH1 rfl;have HV:Hid (zar ⟨room,y::ys,[],gts,clo⟩ t=(⟨room,ys,[],gts,clo⟩,y,1,[])):=xH1 rfl;have hcapI:=(zbe (F.own 2 rfl)).1;obtain⟨AI,hslI,hAI,-⟩:=zfr (F.rdRow 2 rfl) (by rw[xDf];exact hly) hcapI;obtain⟨bI,oI,rfl,g'⟩:=(F.rdRow 2 rfl).int (by simp);have gI:=g' 0 (by simp);rw[Nat.add_zero,List.getD_cons_zero] at gI;have HAI:=xH1 hAI;have F6:=F.set 4 rfl 1 (.slice AI (ni-1) (di-1));clear g' hAI;go_wp2_with fail;refine(zaQ ⟨room,ys,[],gts,clo⟩ AI bs bg (ni-1) (di-1) 0 ds ng dg _ (by show ys.length=ni-1;omega) HLS.out HH3.out (by omega) (by omega) (by omega) (HAI.out _ (F6.rdRow 2 rfl)) (F6.rdRow 1 rfl) (F6.rdRow 0 rfl)).mono ?_;rintro e w8 ⟨ei,es,eg,ki,ks,kg,rfl,F'⟩;have F7:=F6.join F';simp only[List.cons_append,xDq] at F7;have cr:=F7.c5 6 rfl;have F8:=F7.set5 6 rfl (.int .i64 room) (.slice ei (ni-1) ki) (.slice es 0 ks) (.slice eg ng kg) (.bool clo);clear F' F6 F;go_wp2
   exact xDd (v:= .tuple #[.agg #[.int .i64 room,.slice ei (ni-1) ki,.slice es 0 ks,.slice eg ng kg,.bool clo],.int .i64 y,.int .i64 1,.slice none 0 0,.bool true]) (by simp[results,Tryz.results119,go_sem,F8.c5 6 rfl]) rfl ⟨⟨room,ys,[],gts,clo⟩,⟨ei,ni-1,ki⟩,⟨es,0,ks⟩,⟨eg,ng,kg⟩,nilV,[],y,1,HV.out,rfl,by rw[show ys.length=ni-1 by omega];exact F8.sln 2 rfl,by rw[HLS.out];exact F8.sln 1 rfl,by rw[HH3.out];exact F8.sln 0 rfl,xDi _ _ _ _,F8.bel⟩
  |nil=>
   obtain rfl:ni=0:=HH1.out.symm
   cases clo
   ·have HV:Hid (zar ⟨room,[],[],gts,false⟩ t=(⟨room,[],[],gts++[t],false⟩,0,0,[])):=xH1 rfl;have HL1:Hid ((gts++[t]).length=ng+1):=xH1 (by rw[xDh,HH3.out];rfl);have F4:=F.alloc #[.int .i64 t] 3;go_wp2_with (at_builtin;refine F4.appI 1 rfl _ _ rfl rfl rfl [t] rfl rfl (Rd.of_blk (F4.blk 0 rfl)) (by omega) ?_;intro a4 c4 W4 F5;simp only[List.set_cons_succ,List.set_cons_zero] at F5;rw[<-zaw] at F5;clear cs;have cs:=F5.c5 5 rfl;have F6:=F5.set 5 rfl 3 (.slice a4 (ng+1) c4));refine(zaQ ⟨room,[],[],gts++[t],false⟩ bi bs a4 0 di 0 ds (ng+1) c4 _ rfl rfl HL1.out (by omega) (by omega) (by omega) (F6.rdRow 3 rfl) (F6.rdRow 2 rfl) (F6.rdRow 1 rfl)).mono ?_;rintro e w8 ⟨ei,es,eg,ki,ks,kg,rfl,F'⟩;have F7:=F6.join F';simp only[List.cons_append,xDq] at F7;have cr:=F7.c5 7 rfl;have F8:=F7.set5 7 rfl (.int .i64 room) (.slice ei 0 ki) (.slice es 0 ks) (.slice eg (ng+1) kg) (.bool false);clear F' F6;go_wp2
    exact xDd (v:= .tuple #[.agg #[.int .i64 room,.slice ei 0 ki,.slice es 0 ks,.slice eg (ng+1) kg,.bool false],.int .i64 0,.int .i64 0,.slice none 0 0,.bool true]) (by simp[results,Tryz.results119,go_sem,F8.c5 7 rfl]) rfl ⟨⟨room,[],[],gts++[t],false⟩,⟨ei,0,ki⟩,⟨es,0,ks⟩,⟨eg,ng+1,kg⟩,nilV,[],0,0,HV.out,rfl,F8.sln 2 rfl,F8.sln 1 rfl,by rw[HL1.out];exact F8.sln 0 rfl,xDi _ _ _ _,F8.bel⟩
   ·have HV:Hid (zar ⟨room,[],[],gts,true⟩ t=(⟨room,[],[],gts,true⟩,0,2,[])):=xH1 rfl;have cr:=F.c5 3 rfl;have F8:=F.set5 3 rfl (.int .i64 room) (.slice bi 0 di) (.slice bs 0 ds) (.slice bg ng dg) (.bool true);go_wp2;exact xDd (v:= .tuple #[.agg #[.int .i64 room,.slice bi 0 di,.slice bs 0 ds,.slice bg ng dg,.bool true],.int .i64 0,.int .i64 2,.slice none 0 0,.bool true]) (by simp[results,Tryz.results119,go_sem,F8.c5 3 rfl]) rfl ⟨⟨room,[],[],gts,true⟩,⟨bi,0,di⟩,⟨bs,0,ds⟩,⟨bg,ng,dg⟩,nilV,[],0,2,HV.out,rfl,F8.sln 2 rfl,F8.sln 1 rfl,by rw[HH3.out];exact F8.sln 0 rfl,xDi _ _ _ _,F8.bel⟩
end Go.Proofs.YtnlijgjpgdjpiaaGreat
