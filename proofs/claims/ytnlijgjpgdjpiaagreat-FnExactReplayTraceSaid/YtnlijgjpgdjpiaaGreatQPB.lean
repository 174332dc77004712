/- Part of a proof: Maps BaseB BaseC BaseD. -/
import Derived.Maps.OwnOps
import Derived.Maps.OwnSet
import Derived.Maps.RangeWalk
import Derived.Test.YtnlijgjpgdjpiaaGreatQBaseA
import Derived.Shelf.Abstract
import Derived.StillTailTactics
import Derived.Deep.Cut
import Derived.Lib.SliceRun
import Derived.ArgAppend
import Derived.Deep.RegionLaw
set_option maxRecDepth 100000
set_option maxHeartbeats 16000000
namespace Go.Proofs.YtnlijgjpgdjpiaaGreat
open Go.RowKit
def MapI (w:World) (B:Nat) (L:List (Int×Value)):Prop:=
 ∃es clock,w.heap[B]? =some (.map es clock)/\es.toList.map (λe=>(e.key,e.val))=L.map (λp=>(Value.int .i64 p.1,p.2))/\(L.map Prod.fst).Nodup/\
  (es.toList.map (·.born)).Nodup/\∀e∈es.toList,e.born<clock
def mget:List (Int×Value)->Int->Option Value
 |[],_=>none
 |(a,v)::r,k=>if k=a then some v else mget r k
def mput:List (Int×Value)->Int->Value->List (Int×Value)
 |[],k,v=>[(k,v)]
 |(a,u)::r,k,v=>if k=a then (k,v)::r else (a,u)::mput r k v
def zbg:List (Int×Value)->Int->Nat->Option (Nat×Value)
 |[],_,_=>none
 |(a,v)::r,k,i=>if k=a then some (i,v) else zbg r k (i+1)
def mdel:List (Int×Value)->Int->List (Int×Value)
 |[],_=>[]
 |(a,u)::r,k=>if k=a then r else (a,u)::mdel r k
theorem zhl:∀(L:List (Int×Value)) (k:Int) (i:Nat),(zbg L k i).map (·.2)=mget L k
 |[],_,_=>rfl
 |(a,v)::r,k,i=>by
  by_cases h:k=a
  ·simp[zbg,mget,h]
  ·simp[zbg,mget,h,zhl r k (i+1)]
theorem zfi:∀(L:List (Int×Value)) (k j:Int) (v:Value),j∈(mput L k v).map Prod.fst↔j=k\/j∈L.map Prod.fst
 |[],k,j,v=>by simp[mput]
 |(a,u)::r,k,j,v=>by
  by_cases h:k=a
  ·subst h;simp[mput]
  ·simp only[mput,h,if_false,List.map_cons,List.mem_cons,zfi r k j v];constructor
   ·rintro(e|e|e)<;>simp[e]
   ·rintro(e|e|e)<;>simp[e]
theorem zfp:∀(L:List (Int×Value)) (k:Int) (v:Value),(L.map Prod.fst).Nodup->((mput L k v).map Prod.fst).Nodup
 |[],k,v,_=>by simp[mput]
 |(a,u)::r,k,v,h=>by
  simp only[List.map_cons,List.nodup_cons] at h;by_cases e:k=a
  ·subst e;simp only[mput,if_true,List.map_cons,List.nodup_cons];exact h
  ·simp only[mput,e,if_false,List.map_cons,List.nodup_cons,zfi];exact⟨by rintro(e'|e');exact e e'.symm;exact h.1 e',zfp r k v h.2⟩
theorem zfc:∀(L:List (Int×Value)) (k:Int),mget L k=none↔k∉L.map Prod.fst
 |[],k=>by simp[mget]
 |(a,u)::r,k=>by
  by_cases h:k=a
  ·simp[mget,h]
  ·simp[mget,h,zfc r k]
theorem zd1 (q:IntKind) (k:Int):∀(es:List MapEntry) (L:List (Int×Value)) (i:Nat),es.map (λe=>(e.key,e.val))=L.map (λp=>(Value.int .i64 p.1,p.2))->
  Instr.findNow (.int q) (.int .i64 k) es i=some (zbg L k i)
 |[],[],i,_=>rfl
 |[],_::_,i,h=>by simp at h
 |_::_,[],i,h=>by simp at h
 |e::es,(a,v)::L,i,h=>by
  simp only[List.map_cons,List.cons.injEq,Prod.mk.injEq] at h;obtain⟨⟨h1,h2⟩,h3⟩:=h;simp only[Instr.findNow,h1,Instr.sameNow,if_true,zbg];by_cases hk:k=a
  ·simp[hk,h2]
  ·have hb:(k==a)=false:=(by simp[hk]);simp[hb,hk,zd1 q k es L (i+1) h3]
section
variable {P:Program} {w:World} {B:Nat} {L:List (Int×Value)}
theorem MapI.lt (h:MapI w B L):B<w.heap.size:=by
 obtain⟨es,clock,hb,_⟩:=h;exact(Array.getElem?_eq_some_iff.1 hb).1
theorem MapI.keep {w':World} (h:MapI w B L) (hb:w'.heap[B]? =w.heap[B]?):MapI w' B L:=by
 obtain⟨es,clock,h1,h2⟩:=h;exact⟨es,clock,hb.trans h1,h2⟩
theorem MapI.below {w':World} (h:MapI w B L) (hb:xW w w'):MapI w' B L:=h.keep (hb.block B h.lt)
theorem MapI.grown {w':World} {row:Option Nat} (h:MapI w B L) (hg:w.grownBy w' row) (hne:row≠some B):MapI w' B L:=h.keep (hg.block B h.lt (λe=>hne e.symm))
theorem MapI.made (w:World):MapI (w.alloc (.map #[] 0)) w.heap.size []:=
 ⟨#[],0,heap_alloc_new w _,rfl,by simp,by simp,by simp⟩
theorem MapI.nodup (h:MapI w B L):(L.map Prod.fst).Nodup:=by
 obtain⟨_,_,_,_,h,_⟩:=h;exact h
theorem zbr (e:Bool) (n:Nat) (K:TypeId) (q:IntKind) (hK:P.underlying K=some (.int q)) (k:Int) (w:World):(Instr.checkKey e (n+1) K (.int .i64 k)).run P w= .ok () w:=by
 simp[Instr.checkKey,run_underlying hK]
theorem zbZ {T K E:TypeId} {q:IntKind} {z:Value} (hT:P.underlying T=some (.map K E)) (hK:P.underlying K=some (.int q)) (hz:∀w,(zeroValue E).run P w= .ok z w) (h:MapI w B L) (k:Int):
  (Instr.lookup T (.map (some B)) (.int .i64 k) false).run P w= .ok ((mget L k).getD z) w:=by
 obtain⟨es,clock,hb,he,_⟩:=h;have hf:=zd1 q k es.toList L 0 he;have hg:=zhl L k 0;simp only[Instr.lookup,Sem.run_bind,run_underlying hT,Result.andThen_ok]
 cases hm:zbg L k 0 with
 |none=>
  rw[hm] at hf hg;simp only[Option.map_none] at hg;simp[getObj,Sem.run,hb,zbr _ 9999 K q hK,Instr.findKey,run_underlying hK,hf,hz,<-hg]
 |some p=>
  rw[hm] at hf hg;simp only[Option.map_some] at hg;simp[getObj,Sem.run,hb,zbr _ 9999 K q hK,Instr.findKey,run_underlying hK,hf,<-hg]
end
theorem zgm:∀(L:List (Int×Value)) (k:Int) (i j:Nat) (v:Value),zbg L k i=some (j,v)->i<=j/\L[j-i]? =some (k,v)/\∀u,mput L k u=L.set (j-i) (k,u)
 |[],k,i,j,v,h=>by simp[zbg] at h
 |(a,u)::r,k,i,j,v,h=>by
  by_cases e:k=a
  ·simp only[zbg,e,if_true,xDn,Prod.mk.injEq] at h;obtain⟨rfl,rfl⟩:=h;refine⟨Nat.le_refl _,by simp[e],λu'=>by simp[mput,e]⟩
  ·simp only[zbg,e,if_false] at h;obtain⟨h1,h2,h3⟩:=zgm r k (i+1) j v h;have hj:j-i=(j-(i+1))+1:=(by omega);refine⟨by omega,by rw[hj];simpa using h2,λu'=>by rw[hj];simp[mput,e,h3 u']⟩
theorem zf6:∀(L:List (Int×Value)) (k:Int) (i:Nat),zbg L k i=none->∀u,mput L k u=L++[(k,u)]
 |[],k,i,_,u=>rfl
 |(a,v)::r,k,i,h,u=>by
  by_cases e:k=a
  ·simp[zbg,e] at h
  ·simp only[zbg,e,if_false] at h;simp[mput,e,zf6 r k (i+1) h u]
section
variable {P:Program} {w:World} {B:Nat} {L:List (Int×Value)}
def World.setMap (w:World) (B:Nat) (o:Obj):World:={w with heap:=w.heap.setIfInBounds B o}
theorem zdl (w:World) (B:Nat) (o:Obj):w.grownBy (World.setMap w B o) (some B):=
 ⟨rfl,rfl,rfl,by simp[World.setMap],λk _ hk=>by
  show(w.heap.setIfInBounds B o)[k]? =_;rw[Array.getElem?_setIfInBounds_ne (λe=>hk (by rw[e]))]⟩
theorem zdA (w:World) (B:Nat) (o:Obj):(World.setMap w B o).heap.size=w.heap.size:=by simp[World.setMap]
theorem zeu (w:World) (B:Nat) (o:Obj) (h:B<w.heap.size):(World.setMap w B o).heap[B]? =some o:=by
 show(w.heap.setIfInBounds B o)[B]? =_;simp[h]
theorem zkl (a b:Int) (h:a=b) (w:World):(Instr.keyThatStays (.int .i64 a) (.int .i64 b)).run P w= .ok (.int .i64 b) w:=by
 subst h;simp[Instr.keyThatStays,Instr.sameBits]
theorem zgf {T K E:TypeId} {q:IntKind} (hT:P.underlying T=some (.map K E)) (hK:P.underlying K=some (.int q)) (h:MapI w B L) (k:Int) (v:Value):
  ∃w',(Instr.mapUpdate T (.map (some B)) (.int .i64 k) v).run P w= .ok () w'/\MapI w' B (mput L k v)/\w.grownBy w' (some B)/\w'.heap.size=w.heap.size:=by
 have hlt:=h.lt;obtain⟨es,clock,hb,he,hnd,hbn,hcl⟩:=h;have hf:=zd1 q k es.toList L 0 he
 cases hm:zbg L k 0 with
 |none=>
  rw[hm] at hf;refine⟨World.setMap w B (.map (es.push {key:= .int .i64 k,val:=v,born:=clock}) (clock+1)),?_,?_,zdl _ _ _,zdA _ _ _⟩
  ·simp[Instr.mapUpdate,Sem.run_bind,run_underlying hT,getObj,setObj,Sem.run,hb,zbr _ 9999 K q hK,Instr.findKey,run_underlying hK,hf,World.setMap]
  ·refine⟨_,_,zeu _ _ _ hlt,?_,zfp _ _ _ hnd,?_,?_⟩
   ·rw[zf6 L k 0 hm v];simp[he]
   ·simp only[Array.toList_push,xDr,List.map_cons,List.map_nil];rw[List.nodup_append];refine⟨hbn,by simp,λa ha b hb' e=> ?_⟩;obtain⟨x,hx,rfl⟩:=xDl.1 ha;have:=hcl x hx;simp only[List.mem_singleton] at hb';omega
   ·intro e he';simp only[Array.toList_push,List.mem_append,List.mem_singleton] at he';rcases he' with he'|rfl
    ·have:=hcl e he';omega
    ·simp
 |some p=>
  obtain⟨j,u⟩:=p;rw[hm] at hf;obtain⟨_,h2,h3⟩:=zgm L k 0 j u hm;simp only[Nat.sub_zero] at h2 h3;have hkj:(es[j]?).map (·.key)=some (.int .i64 k):=by
   have:=congrArg (λl=>l[j]?) he;simp only[List.getElem?_map,h2,Option.map_some] at this
   cases hj:es.toList[j]? with
   |none=>simp[hj] at this
   |some x=>
    simp only[hj,Option.map_some,xDn,Prod.mk.injEq] at this;have:es[j]? =some x:=(by simpa using hj);rw[this];simp_all
  refine⟨World.setMap w B (.map (es.modify j λe=>{e with key:= .int .i64 k,val:=v}) clock),?_,?_,zdl _ _ _,zdA _ _ _⟩
  ·simp[Instr.mapUpdate,Sem.run_bind,run_underlying hT,getObj,setObj,Sem.run,hb,zbr _ 9999 K q hK,Instr.findKey,run_underlying hK,hf,hkj,zkl _ _ rfl,World.setMap]
  ·refine⟨_,_,zeu _ _ _ hlt,?_,zfp _ _ _ hnd,?_,?_⟩
   ·rw[h3 v,Array.toList_modify];refine List.ext_getElem? λi=> ?_;have hi:=congrArg (λl=>l[i]?) he;simp only[List.getElem?_map] at hi⊢;rw[List.getElem?_modify,List.getElem?_set];by_cases e:j=i
    ·subst e;have hjl:j<L.length:=(xDs.1 h2).1;simp only[if_true,hjl]
     cases hx:es.toList[j]? with
     |none=>rw[hx] at hi;simp[h2] at hi
     |some x=>simp
    ·simpa[e] using hi
   ·rw[Array.toList_modify];have:(es.toList.modify j λe=>{e with key:= .int .i64 k,val:=v}).map (·.born)=es.toList.map (·.born):=by
     refine List.ext_getElem? λi=> ?_;simp only[List.getElem?_map,List.getElem?_modify];split
     ·cases es.toList[i]? <;>simp
     ·simp
    rw[this];exact hbn
   ·rw[Array.toList_modify];intro e he';obtain⟨i,hi⟩:=List.mem_iff_getElem?.1 he';rw[List.getElem?_modify] at hi
    cases hx:es.toList[i]? with
    |none=>simp[hx] at hi
    |some x=>
     have hc:=hcl x (xDo hx);rw[hx] at hi;simp only[Option.map_eq_map,Option.map_some,xDn] at hi;subst hi;split<;>exact hc
theorem zhX (h:MapI w B L) (t:TypeId) {T K E:TypeId} (hT:P.underlying T=some (.map K E)):(Builtin.len_ #[T] t #[.map (some B)]).run P w= .ok (.int .i64 L.length) w:=by
 obtain⟨es,clock,hb,he,_⟩:=h;have hl:es.size=L.length:=by simpa using congrArg List.length he
 simp[Builtin.len_,getObj,Sem.run,hb,hl,goInt,run_underlying hT]
end
section
variable {P:Program} {w:World} {B r:Nat} {L:List (Int×Value)} {seen:List Int}
theorem ze7 {α β:Type} {f:α->β}:∀{l:List α},(l.map f).Nodup->∀{x y:α},x∈l->y∈l->f x=f y->x=y
 |[],_,_,_,h,_,_=>by simp at h
 |a::l,hn,x,y,hx,hy,e=>by
  simp only[List.map_cons,List.nodup_cons] at hn;rcases List.mem_cons.1 hx with hx'|hx'<;>rcases List.mem_cons.1 hy with hy'|hy'
  ·rw[hx',hy']
  ·exact absurd (by rw[<-hx',e];exact List.mem_map_of_mem (f:=f) hy') hn.1
  ·exact absurd (by rw[<-hy',<-e];exact List.mem_map_of_mem (f:=f) hx') hn.1
  ·exact ze7 hn.2 hx' hy' e
theorem zfA:∀{L:List (Int×Value)} {k:Int} {v:Value},(L.map Prod.fst).Nodup->(k,v)∈L->mget L k=some v
 |[],_,_,_,h=>by simp at h
 |(a,u)::r,k,v,hn,h=>by
  simp only[List.map_cons,List.nodup_cons] at hn;rcases List.mem_cons.1 h with e|h
  ·cases e;simp[mget]
  ·have:k≠a:=λe=>hn.1 (e▸List.mem_map_of_mem (f:=Prod.fst) h);simp[mget,this,zfA hn.2 h]
end
section
variable {P:Program} {w:World} {ops:Array Oper} {rest:List Oper} {o:Oper} {a:Act} {Q:Exit->Act->World->Prop} {B r:Nat} {L:List (Int×Value)} {T K E:TypeId} {q:IntKind}
theorem zcv (hg:o.guard=none) (m x y:Operand) (hop:o.op=Op.mapUpdate T m x y) (hT:P.underlying T=some (.map K E)) (hK:P.underlying K=some (.int q))
  (hm:a.eval m= .map (some B)) (hown:MapI w B L) {k:Int} (hx:a.eval x= .int .i64 k) {v:Value} (hy:a.eval y=v)
  (h:∀w',MapI w' B (mput L k v)->w.grownBy w' (some B)->w'.heap.size=w.heap.size->wpList P ops Q rest (a.put o.dst (.tuple #[])) w'):wpList P ops Q (o::rest) a w:=by
 subst hy;refine wpList_plain hg λK' hK''=> ?_;obtain⟨w',hrun,h1,h2,h3⟩:=zgf (P:=P) hT hK hown k (a.eval y);unfold Oper.wp;simp[execOp,hop,hm,hx,hrun,Result.andThen];exact hK'' _ _ (h w' h1 h2 h3)
end

theorem zgC {l:List Int} {lo hi:Int} {k:Nat} (hk:k<l.length) (h:¬(lo<=l.getD k 0/\l.getD k 0<=hi)):zai l lo hi=false:=by
 unfold zai;have:l.all (λn=>decide (lo<=n)&&decide (n<=hi))=false:=by
  rw[List.all_eq_false];refine⟨l[k],List.getElem_mem hk,?_⟩;have e:l.getD k 0=l[k]:=by simp[List.getD,hk]
  rw[e] at h;simp only[Bool.and_eq_true,decide_eq_true_eq];exact h
 rw[this];simp
theorem ziV {l:List Int} {lo hi:Int} (h:∀j,j<l.length->lo<=l.getD j 0/\l.getD j 0<=hi):zai l lo hi=decide (l.length<=3):=by
 unfold zai;have:l.all (λn=>decide (lo<=n)&&decide (n<=hi))=true:=by
  rw[List.all_eq_true];intro x hx;obtain⟨k,hk,rfl⟩:=List.getElem_of_mem hx;have e:l.getD k 0=l[k]:=by simp[List.getD,hk]
  have:=h k hk;rw[e] at this;simp[this.1,this.2]
 rw[this];simp
theorem zfM {l:List Int} {lo hi:Int} (h:3<l.length):zai l lo hi=false:=by
 unfold zai;rw[show decide (l.length<=3)=false by simp;omega];simp
theorem zY (a:Option Addr) (n c:Nat) (l:List Int) (lo hi:Int) (w:World) (hl:l.length=n) (hn:n<=maxLen) (hr:Rd w a (ints l)):
  Calls Tryz.prog 81 #[.slice a n c,.int .i64 lo,.int .i64 hi] w λe w'=>e= .returned (.bool (zai l lo hi))/\w'=w:=by
 unfold maxLen at hn;have HL:=xH1 hl;clear hl;go_enter Tryz.func81,Tryz.ntmps81;go_wp2
 go_loopw [7] (λi wr=>∃k:Nat,k<=n/\k<=4/\i= .int .i64 k/\Hid (∀j,j<k->lo<=l.getD j 0/\l.getD j 0<=hi)/\wr=w) (λi _=>n-(intOf i).toNat)
 case atStart=>exact⟨0,by omega,by omega,rfl,xH1 (by omega),rfl⟩
 case round=>
  obtain⟨k,hk,hk4,rfl,hall,rfl⟩:=hrel;by_cases hlt:k<n
  ·by_cases h3:k<=3
   ·obtain⟨b,q,rfl,hc⟩:=hr.int (by have:=HL.out;omega);have g:=hc k (by have:=HL.out;omega);obtain⟨x,hx⟩:∃x,x=l.getD k 0:=⟨_,rfl⟩
    rw[<-hx] at g;have HX:=xH1 hx;clear hc hx;by_cases t1:x<lo
    ·have HB:Hid (zai l lo hi=false):=xH1 (zgC (k:=k) (by have:=HL.out;omega) (by rw[<-HX.out];omega));go_wp2;go_ret;exact⟨zy (by rw[HB.out]),rfl⟩
    ·by_cases t2:hi<x
     ·have HB:Hid (zai l lo hi=false):=xH1 (zgC (k:=k) (by have:=HL.out;omega) (by rw[<-HX.out];omega));have d1:decide (x<lo)=false:=(by simpa using t1);go_wp2;go_ret;exact⟨zy (by rw[HB.out]),rfl⟩
     ·have d1:decide (x<lo)=false:=(by simpa using t1);have d2:decide (hi<x)=false:=(by simpa using t2);go_wp2
      go_roundw
      case rel=>exact⟨k+1,by omega,by omega,by go_num,xH1 (λj hj=>by
       rcases Nat.lt_or_ge j k with h|h
       ·exact hall.out j h
       ·have:j=k:=(by omega);subst this;rw[<-HX.out];omega),trivial⟩
      case measure=>simp[intOf];omega
   ·have hk':k=4:=(by omega);subst hk';have HB:Hid (zai l lo hi=false):=xH1 (zfM (by have:=HL.out;omega));clear h3;have hd:decide ((n:Int)<=3)=false:=by simp;omega
    go_wp2;go_ret;exact⟨zy (by rw[HB.out]),rfl⟩
  ·have hkm:k=n:=(by omega);subst hkm;have HB:Hid (zai l lo hi=decide ((k:Int)<=3)):=xH1 (by
    rw[ziV (by rw[HL.out];exact hall.out),HL.out];exact decide_eq_decide.2 (by omega))
   go_wp2;go_ret;exact⟨zy (by rw[HB.out]),rfl⟩
end Go.Proofs.YtnlijgjpgdjpiaaGreat
namespace Go.Proofs.YtnlijgjpgdjpiaaGreat
open Go.RowKit Go.Sort
theorem zeV {p:Pg} {i k:Nat} (hi:i<p.threads.length) (hk:k<(p.threads.getD i []).length) (h:zF p ((p.threads.getD i []).getD k noOp)=false):zu p=false:=by
 have:p.threads.all (λt=>decide (t.length<=8)&&t.all (zF p))=false:=by
  rw[List.all_eq_false];have e:p.threads.getD i []=p.threads[i]:=by simp[List.getD,hi]
  rw[e] at hk h;refine⟨p.threads[i],List.getElem_mem hi,?_⟩;have e2:(p.threads[i]).getD k noOp=(p.threads[i])[k]:=by simp[List.getD,hk]
  rw[e2] at h;have:(p.threads[i]).all (zF p)=false:=by
   rw[List.all_eq_false];exact⟨_,List.getElem_mem hk,by rw[h];simp⟩
  rw[this];simp
 unfold zu;rw[this];simp
theorem zez {p:Pg} {i:Nat} (hi:i<p.threads.length) (h:8<(p.threads.getD i []).length):zu p=false:=by
 have:p.threads.all (λt=>decide (t.length<=8)&&t.all (zF p))=false:=by
  rw[List.all_eq_false];have e:p.threads.getD i []=p.threads[i]:=by simp[List.getD,hi]
  rw[e] at h;exact⟨p.threads[i],List.getElem_mem hi,by rw[show decide ((p.threads[i]).length<=8)=false by simp;omega];simp⟩
 unfold zu;rw[this];simp
theorem zfh {p:Pg} (h1:zai p.sems 1 9=true) (h2:zai p.groups 0 9=true) (h3:zai p.barriers 1 6=true) (h4:zai p.rooms 0 4=true) (h5:1<=p.threads.length) (h6:p.threads.length<=4)
  (h:∀i,i<p.threads.length->(p.threads.getD i []).length<=8/\∀k,k<(p.threads.getD i []).length->zF p ((p.threads.getD i []).getD k noOp)=true):zu p=true:=by
 have:p.threads.all (λt=>decide (t.length<=8)&&t.all (zF p))=true:=by
  rw[List.all_eq_true];intro t ht;obtain⟨i,hi,rfl⟩:=List.getElem_of_mem ht;have e:p.threads.getD i []=p.threads[i]:=by simp[List.getD,hi]
  have:=h i hi;rw[e] at this;have h2:(p.threads[i]).all (zF p)=true:=by
   rw[List.all_eq_true];intro o ho;obtain⟨k,hk,rfl⟩:=List.getElem_of_mem ho;have e2:(p.threads[i]).getD k noOp=(p.threads[i])[k]:=(by simp[List.getD,hk]);rw[<-e2];exact this.2 k hk
  rw[h2];simp[this.1]
 unfold zu;rw[h1,h2,h3,h4,this];simp;omega
theorem zcM (v:PV) (p:Pg) (w:World) (hr:RdP w v p) (hz:zbB v p):
  Calls Tryz.prog 48 #[.agg #[.slice v.s v.ns v.cs,.slice v.g v.ng v.cg,.slice v.b v.nb v.cb,.slice v.r v.nr v.cr,.slice v.t v.nt v.ct]] w λe w'=>e= .returned (.bool (zu p))/\Below w.heap.size w w':=by
 have hs:v.ns<=maxLen/\v.ng<=maxLen/\v.nb<=maxLen/\v.nr<=maxLen:=by
  obtain⟨z1,z2,z3,z4,z5,z6⟩:=hz;unfold maxLen;omega
 have zz:Hid (v.ns<=maxLen/\v.ng<=maxLen/\v.nb<=maxLen/\v.nr<=maxLen):=xH1 hs;have z5:v.nt<=1048576:=hz.lt;have Z6:=xH1 hz.inn;have ls:=xH1 hr.ls;have lg:=xH1 hr.lg;have lb:=xH1 hr.lb;have lr:=xH1 hr.lr;have lt:=xH1 hr.lt;clear hz;have b0:Below w.heap.size w (w.alloc (.cells #[.slice v.s v.ns v.cs,.slice v.g v.ng v.cg,.slice v.b v.nb v.cb,.slice v.r v.nr v.cr,.slice v.t v.nt v.ct] 40)):=xA1;rcases Bool.eq_false_or_eq_true (zai p.sems 1 9) with h1|h1
 rotate_left
 ·have HB:Hid (zu p=false):=xH1 (by unfold zu;rw[h1];simp);replace h1:=xH1 h1;go_enter Tryz.func48,Tryz.ntmps48;go_wp2_with fail;refine(zY v.s v.ns v.cs p.sems 1 9 _ ls.out (by have:=zz.out;omega) (hr.rs.below b0)).mono ?_;rintro e w1 ⟨rfl,rfl⟩;rw[h1.out];go_wp2;go_ret;exact⟨zy (by rw[HB.out]),b0⟩
 replace h1:=xH1 h1;rcases Bool.eq_false_or_eq_true (zai p.groups 0 9) with h2|h2
 rotate_left
 ·have HB:Hid (zu p=false):=xH1 (by unfold zu;rw[h2];simp);replace h2:=xH1 h2;go_enter Tryz.func48,Tryz.ntmps48;go_wp2_with fail;refine(zY v.s v.ns v.cs p.sems 1 9 _ ls.out (by have:=zz.out;omega) (hr.rs.below b0)).mono ?_;rintro e w1 ⟨rfl,rfl⟩;rw[h1.out];go_wp2_with fail;refine(zY v.g v.ng v.cg p.groups 0 9 _ lg.out (by have:=zz.out;omega) (hr.rg.below b0)).mono ?_;rintro e w2 ⟨rfl,rfl⟩;rw[h2.out];go_wp2;go_ret;exact⟨zy (by rw[HB.out]),b0⟩
 replace h2:=xH1 h2;rcases Bool.eq_false_or_eq_true (zai p.barriers 1 6) with h3|h3
 rotate_left
 ·have HB:Hid (zu p=false):=xH1 (by unfold zu;rw[h3];simp);replace h3:=xH1 h3;go_enter Tryz.func48,Tryz.ntmps48;go_wp2_with fail;refine(zY v.s v.ns v.cs p.sems 1 9 _ ls.out (by have:=zz.out;omega) (hr.rs.below b0)).mono ?_;rintro e w1 ⟨rfl,rfl⟩;rw[h1.out];go_wp2_with fail;refine(zY v.g v.ng v.cg p.groups 0 9 _ lg.out (by have:=zz.out;omega) (hr.rg.below b0)).mono ?_;rintro e w2 ⟨rfl,rfl⟩;rw[h2.out];go_wp2_with fail;refine(zY v.b v.nb v.cb p.barriers 1 6 _ lb.out (by have:=zz.out;omega) (hr.rb.below b0)).mono ?_;rintro e w3 ⟨rfl,rfl⟩;rw[h3.out];go_wp2;go_ret;exact⟨zy (by rw[HB.out]),b0⟩
 replace h3:=xH1 h3;rcases Bool.eq_false_or_eq_true (zai p.rooms 0 4) with h4|h4
 rotate_left
 ·have HB:Hid (zu p=false):=xH1 (by unfold zu;rw[h4];simp);replace h4:=xH1 h4;go_enter Tryz.func48,Tryz.ntmps48;go_wp2_with fail;refine(zY v.s v.ns v.cs p.sems 1 9 _ ls.out (by have:=zz.out;omega) (hr.rs.below b0)).mono ?_;rintro e w1 ⟨rfl,rfl⟩;rw[h1.out];go_wp2_with fail;refine(zY v.g v.ng v.cg p.groups 0 9 _ lg.out (by have:=zz.out;omega) (hr.rg.below b0)).mono ?_;rintro e w2 ⟨rfl,rfl⟩;rw[h2.out];go_wp2_with fail;refine(zY v.b v.nb v.cb p.barriers 1 6 _ lb.out (by have:=zz.out;omega) (hr.rb.below b0)).mono ?_;rintro e w3 ⟨rfl,rfl⟩;rw[h3.out];go_wp2_with fail;refine(zY v.r v.nr v.cr p.rooms 0 4 _ lr.out (by have:=zz.out;omega) (hr.rr.below b0)).mono ?_;rintro e w4 ⟨rfl,rfl⟩;rw[h4.out];go_wp2;go_ret;exact⟨zy (by rw[HB.out]),b0⟩
 replace h4:=xH1 h4;by_cases h5:v.nt<1
 ·have HB:Hid (zu p=false):=xH1 (by
   have:=lt.out;unfold zu;rw[show decide (1<=p.threads.length)=false from decide_eq_false (by omega)];simp)
  have t5:decide ((v.nt:Int)<1)=true:=by simp;omega
  go_enter Tryz.func48,Tryz.ntmps48;go_wp2_with fail;refine(zY v.s v.ns v.cs p.sems 1 9 _ ls.out (by have:=zz.out;omega) (hr.rs.below b0)).mono ?_;rintro e w1 ⟨rfl,rfl⟩;rw[h1.out];go_wp2_with fail;refine(zY v.g v.ng v.cg p.groups 0 9 _ lg.out (by have:=zz.out;omega) (hr.rg.below b0)).mono ?_;rintro e w2 ⟨rfl,rfl⟩;rw[h2.out];go_wp2_with fail;refine(zY v.b v.nb v.cb p.barriers 1 6 _ lb.out (by have:=zz.out;omega) (hr.rb.below b0)).mono ?_;rintro e w3 ⟨rfl,rfl⟩;rw[h3.out];go_wp2_with fail;refine(zY v.r v.nr v.cr p.rooms 0 4 _ lr.out (by have:=zz.out;omega) (hr.rr.below b0)).mono ?_;rintro e w4 ⟨rfl,rfl⟩;rw[h4.out];go_wp2;go_ret;exact⟨zy (by rw[HB.out]),b0⟩
 have t5:decide ((v.nt:Int)<1)=false:=by simp;omega
 by_cases h6:4<v.nt
 ·have HB:Hid (zu p=false):=xH1 (by
   have:=lt.out;unfold zu;rw[show decide (p.threads.length<=4)=false from decide_eq_false (by omega)];simp)
  have t6:decide ((4:Int)<v.nt)=true:=by simp;omega
  go_enter Tryz.func48,Tryz.ntmps48;go_wp2_with fail;refine(zY v.s v.ns v.cs p.sems 1 9 _ ls.out (by have:=zz.out;omega) (hr.rs.below b0)).mono ?_;rintro e w1 ⟨rfl,rfl⟩;rw[h1.out];go_wp2_with fail;refine(zY v.g v.ng v.cg p.groups 0 9 _ lg.out (by have:=zz.out;omega) (hr.rg.below b0)).mono ?_;rintro e w2 ⟨rfl,rfl⟩;rw[h2.out];go_wp2_with fail;refine(zY v.b v.nb v.cb p.barriers 1 6 _ lb.out (by have:=zz.out;omega) (hr.rb.below b0)).mono ?_;rintro e w3 ⟨rfl,rfl⟩;rw[h3.out];go_wp2_with fail;refine(zY v.r v.nr v.cr p.rooms 0 4 _ lr.out (by have:=zz.out;omega) (hr.rr.below b0)).mono ?_;rintro e w4 ⟨rfl,rfl⟩;rw[h4.out];go_wp2;go_ret;exact⟨zy (by rw[HB.out]),b0⟩
 have t6:decide ((4:Int)<v.nt)=false:=by simp;omega
 obtain⟨vs,hT⟩:=hr.rt;have kP:Blk (w.alloc (.cells #[.slice v.s v.ns v.cs,.slice v.g v.ng v.cg,.slice v.b v.nb v.cb,.slice v.r v.nr v.cr,.slice v.t v.nt v.ct] 40)) w.heap.size #[.slice v.s v.ns v.cs,.slice v.g v.ng v.cg,.slice v.b v.nb v.cb,.slice v.r v.nr v.cr,.slice v.t v.nt v.ct] 40:=Blk.new _ _ _;go_enter Tryz.func48,Tryz.ntmps48;go_wp2_with fail;refine(zY v.s v.ns v.cs p.sems 1 9 _ ls.out (by have:=zz.out;omega) (hr.rs.below b0)).mono ?_;rintro e w1 ⟨rfl,rfl⟩;rw[h1.out];go_wp2_with fail;refine(zY v.g v.ng v.cg p.groups 0 9 _ lg.out (by have:=zz.out;omega) (hr.rg.below b0)).mono ?_;rintro e w2 ⟨rfl,rfl⟩;rw[h2.out];go_wp2_with fail;refine(zY v.b v.nb v.cb p.barriers 1 6 _ lb.out (by have:=zz.out;omega) (hr.rb.below b0)).mono ?_;rintro e w3 ⟨rfl,rfl⟩;rw[h3.out];go_wp2_with fail;refine(zY v.r v.nr v.cr p.rooms 0 4 _ lr.out (by have:=zz.out;omega) (hr.rr.below b0)).mono ?_;rintro e w4 ⟨rfl,rfl⟩;rw[h4.out];go_wp2;obtain⟨W,hW⟩:∃W:World,W=(w.alloc (.cells #[.slice v.s v.ns v.cs,.slice v.g v.ng v.cg,.slice v.b v.nb v.cb,.slice v.r v.nr v.cr,.slice v.t v.nt v.ct] 40)):=⟨_,rfl⟩
 have hsz:w.heap.size<W.heap.size:=by rw[hW];simp
 rw[<-hW] at kP b0⊢;clear hW
 go_loopw [3] (λi wr=>∃i':Nat,i'<=v.nt/\i= .int .i64 i'/\Hid (∀j,j<i'->(p.threads.getD j []).length<=8/\∀k,k<(p.threads.getD j []).length->zF p ((p.threads.getD j []).getD k noOp)=true)/\Below W.heap.size W wr) (λi _=>v.nt-(intOf i).toNat)
 case atStart=>exact⟨0,by omega,rfl,xH1 (by omega),Below.refl _ _⟩
 case round=>
  obtain⟨i,hi,rfl,hall,hb0⟩:=hrel;have k1:=kP.below hb0;have c0:=k1.cell 0 rfl;have c1:=k1.cell 1 rfl;have c2:=k1.cell 2 rfl;have c3:=k1.cell 3 rfl;have c4:=k1.cell 4 rfl;have B0:Below w.heap.size w wr:=b0.trans (hb0.mono (Nat.le_of_lt hsz));by_cases hlt:i<v.nt
  ·obtain⟨wo,hwo⟩:∃wo:World,wo=wr:=⟨_,rfl⟩
   rw[<-hwo] at hb0 k1 c0 c1 c2 c3 c4 B0⊢;clear hwo wr;obtain⟨b1,o1,ea,g1'⟩:=(hT.below B0).thread (by have:=lt.out;omega);obtain⟨a2,x2,g1,r2⟩:=g1' i (by have:=lt.out;omega);obtain⟨m,hm⟩:∃m,m=(p.threads.getD i []).length:=⟨_,rfl⟩
   rw[<-hm] at g1;have hmm:=Z6.out i;rw[<-hm] at hmm;have HM:=xH1 hm;rw[ea] at c4;have HRP:Hid (∀w',RdP w' v p->RdP w' ⟨v.s,v.ns,v.cs,v.g,v.ng,v.cg,v.b,v.nb,v.cb,v.r,v.nr,v.cr,some ⟨b1,o1,none⟩,v.nt,v.ct⟩ p):=xH1 (by rw[<-ea];exact λ_ h=>h);clear g1' hm ea;go_wp2
   go_loopw [4] (λj wk=>∃k:Nat,k<=m/\k<=9/\j= .int .i64 k/\Hid (∀j,j<k->zF p ((p.threads.getD i []).getD j noOp)=true)/\Below wo.heap.size wo wk) (λj _=>m-(intOf j).toNat)
   case atStart=>exact⟨0,by omega,by omega,rfl,xH1 (by omega),Below.refl _ _⟩
   case round=>
    obtain⟨k,hk,hk9,rfl,hok,hbk⟩:=hrel;have d0:=zd hbk c0;have d1:=zd hbk c1;have d2:=zd hbk c2;have d3:=zd hbk c3;have d4:=zd hbk c4;have f1:=zd hbk g1;have B1:Below w.heap.size w wr:=B0.trans (hbk.mono B0.size);have BW:Below W.heap.size W wr:=hb0.trans (hbk.mono hb0.size);by_cases hkl:k<m
    ·by_cases hk8:k<=8
     ·obtain⟨b2,o2,ea2,g2'⟩:=r2.op (by have:=HM.out;omega);obtain⟨g2a,g2b,g2c⟩:=g2' k (by have:=HM.out;omega);obtain⟨o,ho⟩:∃o,o=(p.threads.getD i []).getD k noOp:=⟨_,rfl⟩
      rw[<-ho] at g2a g2b g2c;replace g2a:=zd hbk g2a;replace g2b:=zd hbk g2b;replace g2c:=zd hbk g2c;have HO:=xH1 ho;rw[ea2] at f1;clear g2' ho ea2;have kd0:=cell_regrown d0;have kd1:=cell_regrown d1;have kd2:=cell_regrown d2;have kd3:=cell_regrown d3;have kd4:=cell_regrown d4;have kf1:=cell_regrown f1;have kg2a:=cell_regrown g2a;have kg2b:=cell_regrown g2b;have kg2c:=cell_regrown g2c;have e8:decide ((k:Int)<=8)=true:=by simp;omega
      rcases Bool.eq_false_or_eq_true (zF p o) with hv|hv
      ·have HV:=xH1 hv;have cV:Hid (∀d os,Calls Tryz.prog 82 #[.agg #[.slice v.s v.ns v.cs,.slice v.g v.ng v.cg,.slice v.b v.nb v.cb,.slice v.r v.nr v.cr,.slice (some ⟨b1,o1,none⟩) v.nt v.ct],.agg #[.int .i64 o.kind,.int .i64 o.on,.int .i64 o.arg]] (grow (redrawn wr d) os) λe w''=>e= .returned (.bool true)/\∃p:Regrown,w''=grow (redrawn wr p.d) p.os):=xH1 (λd os=>Calls.regrown_of (by
        have:=zel ⟨v.s,v.ns,v.cs,v.g,v.ng,v.cg,v.b,v.nb,v.cb,v.r,v.nr,v.cr,some ⟨b1,o1,none⟩,v.nt,v.ct⟩ p o (grow (redrawn wr d) os) (HRP.out _ ((hr.below B1).below (below_regrown wr d os))) zz.out;rw[hv] at this;exact this))
       clear hv;go_wp2;refine wp_region_quiet_below (by kernel_rfl) (by kernel_rfl) ?_
       repeat (go_big_quiet_step (exact cV.out _ _))
       refine wpQuiet_nil ?_;intro w6 hw6;have hbw:Below wr.heap.size wr w6:=by
        obtain⟨pq,rfl⟩:=hw6;exact below_regrown _ _ _
       clear hw6;go_wp2
       go_roundw
       case rel=>exact⟨k+1,by omega,by omega,by go_num,xH1 (λj hj=>by
        rcases Nat.lt_or_ge j k with h|h
        ·exact hok.out j h
        ·have:j=k:=(by omega);subst this;rw[<-HO.out];exact HV.out),hbk.trans (hbw.mono hbk.size)⟩
       case measure=>simp[intOf];omega
      ·have HV:=xH1 hv;have cV:Hid (∀d os,Calls Tryz.prog 82 #[.agg #[.slice v.s v.ns v.cs,.slice v.g v.ng v.cg,.slice v.b v.nb v.cb,.slice v.r v.nr v.cr,.slice (some ⟨b1,o1,none⟩) v.nt v.ct],.agg #[.int .i64 o.kind,.int .i64 o.on,.int .i64 o.arg]] (grow (redrawn wr d) os) λe w''=>e= .returned (.bool false)/\∃p:Regrown,w''=grow (redrawn wr p.d) p.os):=xH1 (λd os=>Calls.regrown_of (by
        have:=zel ⟨v.s,v.ns,v.cs,v.g,v.ng,v.cg,v.b,v.nb,v.cb,v.r,v.nr,v.cr,some ⟨b1,o1,none⟩,v.nt,v.ct⟩ p o (grow (redrawn wr d) os) (HRP.out _ ((hr.below B1).below (below_regrown wr d os))) zz.out;rw[hv] at this;exact this))
       clear hv;have HB:Hid (zu p=false):=xH1 (zeV (i:=i) (k:=k) (by have:=lt.out;omega) (by have:=HM.out;omega) (by rw[<-HO.out];exact HV.out));go_wp2;refine wp_region_quiet_below (by kernel_rfl) (by kernel_rfl) ?_
       repeat (go_big_quiet_step (exact cV.out _ _))
       refine wpQuiet_nil ?_;intro w6 hw6;have hbw:Below wr.heap.size wr w6:=by
        obtain⟨pq,rfl⟩:=hw6;exact below_regrown _ _ _
       clear hw6;go_wp2;go_ret;exact⟨zy (by rw[HB.out]),B1.trans (hbw.mono B1.size)⟩
     ·have e8:decide ((k:Int)<=8)=false:=by simp;omega
      have e9:decide ((8:Int)<m)=true:=by simp;omega
      have HB:Hid (zu p=false):=xH1 (zez (i:=i) (by have:=lt.out;omega) (by have:=HM.out;omega));go_wp2;go_ret;exact⟨zy (by rw[HB.out]),B1⟩
    ·have hkm:k=m:=(by omega);subst hkm;by_cases hm8:8<k
     ·have e9:decide ((8:Int)<k)=true:=by simp;omega
      have HB:Hid (zu p=false):=xH1 (zez (i:=i) (by have:=lt.out;omega) (by have:=HM.out;omega));go_wp2;go_ret;exact⟨zy (by rw[HB.out]),B1⟩
     ·have e9:decide ((8:Int)<k)=false:=by simp;omega
      go_wp2
      go_roundw
      case rel=>exact⟨i+1,by omega,by go_num,xH1 (λj hj=>by
       rcases Nat.lt_or_ge j i with h|h
       ·exact hall.out j h
       ·have:j=i:=(by omega);subst this;exact⟨by rw[<-HM.out];omega,by rw[<-HM.out];exact hok.out⟩),BW⟩
      case measure=>simp[intOf];omega
  ·have hkm:i=v.nt:=(by omega);subst hkm;have HB:Hid (zu p=true):=xH1 (zfh h1.out h2.out h3.out h4.out (by have:=lt.out;omega) (by have:=lt.out;omega) (by rw[lt.out];exact hall.out));go_wp2;go_ret;exact⟨zy (by rw[HB.out]),B0⟩
end Go.Proofs.YtnlijgjpgdjpiaaGreat
namespace Go.Proofs.YtnlijgjpgdjpiaaGreat
open Go.RowKit
theorem zcS (n:Int) (w:World):
  Calls Tryz.prog 157 #[.int .i64 n] w λe w'=>e= .returned (.bool (zbS n))/\w'=w:=by
 by_cases h:0<=n
 ·have h':zbS n=decide (n<=99):=by simp[zbS,h]
  rw[h'];go_enter Tryz.func157,Tryz.ntmps157;go_wp2;go_ret;exact⟨rfl,rfl⟩
 ·have h':zbS n=false:=by simp[zbS,h]
  have hd:decide (0<=n)=false:=by simpa using h
  rw[h'];go_enter Tryz.func157,Tryz.ntmps157;go_wp2;go_ret;exact⟨rfl,rfl⟩
theorem zkb {l:List Int} {q:Int->Bool} (k:Nat) (hk:k<l.length) (h:q (l.getD k 0)=true):l.any q=true:=by
 rw[List.any_eq_true];exact⟨l[k],List.getElem_mem hk,by simpa[List.getD,hk] using h⟩
theorem zj6 {l:List Int} {q:Int->Bool} (h:∀k,k<l.length->q (l.getD k 0)=false):l.any q=false:=by
 rw[List.any_eq_false];intro x hx;obtain⟨k,hk,rfl⟩:=List.getElem_of_mem hx;have:=h k hk;simpa[List.getD,hk] using this
theorem zhP (g:Nat) (lb:Array Value) (q:Int->Bool) (a:Option Addr) (n c:Nat) (l:List Int) (w:World) (eg:∀args w,(callFunc g args).run Tryz.prog w= .ok (.enter g args) w)
  (hl:l.length=n) (hn:n<=maxLen) (hr:Rd w a (ints l)) (hp:∀x,Calls Tryz.prog g (#[.int .i64 x]++lb) w λe w'=>e= .returned (.bool (q x))/\w'=w):
  Calls Tryz.prog 44 #[.slice a n c,.func (.func g) #[] lb] w λe w'=>∃r:Int,e= .returned (.int .i64 r)/\decide (0<=r)=l.any q/\w'=w:=by
 unfold maxLen at hn;have HL:=xH1 hl;clear hl;go_enter Tryz.func44,Tryz.ntmps44;go_wp2
 go_loopw [8] (λi wr=>∃k:Nat,k<=n/\i= .int .i64 k/\Hid (∀j,j<k->q (l.getD j 0)=false)/\wr=w) (λi _=>n-(intOf i).toNat)
 case atStart=>exact⟨0,by omega,rfl,xH1 (by omega),rfl⟩
 case round=>
  obtain⟨k,hk,rfl,hall,rfl⟩:=hrel;by_cases hlt:k<n
  ·obtain⟨b,o,rfl,hc⟩:=hr.int (by have:=HL.out;omega);have g1:=hc k (by have:=HL.out;omega);obtain⟨x,hx⟩:∃x,x=l.getD k 0:=⟨_,rfl⟩
   rw[<-hx] at g1;have HX:=xH1 hx;clear hc hx;rcases Bool.eq_false_or_eq_true (q x) with hq|hq
   ·have HQ:=xH1 hq;clear hq;go_wp2_with (go_at_fn g;refine(hp x).mono ?_;rintro e w' ⟨rfl,rfl⟩;rw[HQ.out]);go_ret;exact⟨k,rfl,by rw[zkb (q:=q) k (by have:=HL.out;omega) (by rw[<-HX.out];exact HQ.out)];simp,rfl⟩
   ·have HQ:=xH1 hq;clear hq;go_wp2_with (go_at_fn g;refine(hp x).mono ?_;rintro e w' ⟨rfl,rfl⟩;rw[HQ.out])
    go_roundw
    case rel=>exact⟨k+1,by omega,by go_num,xH1 (λj hj=>by
     rcases Nat.lt_or_ge j k with h|h
     ·exact hall.out j h
     ·have:j=k:=(by omega);subst this;rw[<-HX.out];exact HQ.out),trivial⟩
    case measure=>simp[intOf];omega
  ·have hkm:k=n:=(by omega);subst hkm;go_wp2;go_ret;exact⟨-1,rfl,by rw[zj6 (q:=q) (by rw[HL.out];exact hall.out)];simp,rfl⟩
theorem zf8 (g:Nat) (lb:Array Value) (q:Int->Bool) (a:Option Addr) (n c:Nat) (l:List Int) (w:World) (eg:∀args w,(callFunc g args).run Tryz.prog w= .ok (.enter g args) w)
  (hl:l.length=n) (hn:n<=maxLen) (hr:Rd w a (ints l)) (hp:∀x,Calls Tryz.prog g (#[.int .i64 x]++lb) w λe w'=>e= .returned (.bool (q x))/\w'=w):
  Calls Tryz.prog 31 #[.slice a n c,.func (.func g) #[] lb] w λe w'=>e= .returned (.bool (l.any q))/\w'=w:=by
 go_enter Tryz.func31,Tryz.ntmps31;go_wp2_with fail;refine(zhP g lb q a n c l w eg hl hn hr hp).mono ?_;rintro e w1 ⟨r,rfl,hd,rfl⟩;have HD:=xH1 hd;clear hd;go_wp2;go_ret;exact⟨zy HD.out,rfl⟩
theorem ziz (x lo hi:Int) (b1 b2:Nat) (w:World) (h1:w.cell? ⟨b1,0,none⟩=some (.int .i64 lo)) (h2:w.cell? ⟨b2,0,none⟩=some (.int .i64 hi)):
  Calls Tryz.prog 168 (#[.int .i64 x]++ #[.pointer (some ⟨b1,0,none⟩),.pointer (some ⟨b2,0,none⟩)]) w λe w'=>e= .returned (.bool (!(decide (lo<=x)&&decide (x<=hi))))/\w'=w:=by
 by_cases h:x<lo
 ·have hd:decide (x<lo)=true:=by simpa using h
  have HR:Hid ((!(decide (lo<=x)&&decide (x<=hi)))=true):=xH1 (by rw[xDj (by omega:¬lo<=x)];rfl);go_enter Tryz.func168,Tryz.ntmps168;go_wp2;go_ret;exact⟨zy (by rw[HR.out]),rfl⟩
 ·have hd:decide (x<lo)=false:=by simpa using h
  have HR:Hid ((!(decide (lo<=x)&&decide (x<=hi)))=decide (hi<x)):=xH1 (by
   rw[xDk (by omega:lo<=x),Bool.true_and];by_cases hx:x<=hi
   ·rw[xDk hx,xDj (by omega:¬hi<x)];rfl
   ·rw[xDj hx,xDk (by omega:hi<x)];rfl)
  have hle:decide (lo<=x)=true:=xDk (by omega);go_enter Tryz.func168,Tryz.ntmps168;go_wp2;go_ret;exact⟨zy (by rw[<-HR.out,hle];rfl),rfl⟩
theorem zi2 {l:List Int} (q:Int->Bool):l.any (λx=> !(q x))= !(l.all q):=by
 induction l with
 |nil=>rfl
 |cons a t ih=>simp[ih]
theorem zT (a:Option Addr) (n c:Nat) (l:List Int) (lo hi:Int) (w:World) (hl:l.length=n) (hn:n<=maxLen) (hr:Rd w a (ints l)):
  Calls Tryz.prog 150 #[.slice a n c,.int .i64 lo,.int .i64 hi] w λe w'=>e= .returned (.bool (zai l lo hi))/\xW w w':=by
 have hmf:∀(fn:Fn) (first cap:Array Value) (w:World),(Instr.makeFunc fn first cap).run Tryz.prog w= .ok (.func fn first cap) w:=λ_ _ _ _=>rfl;have b0:xW w ((w.alloc (.cells #[.int .i64 lo] 3)).alloc (.cells #[.int .i64 hi] 3)):=(xA1).alloc (by simp) _;have k1:Blk ((w.alloc (.cells #[.int .i64 lo] 3)).alloc (.cells #[.int .i64 hi] 3)) w.heap.size #[.int .i64 lo] 3:=(Blk.new _ _ _).alloc _;have k2:Blk ((w.alloc (.cells #[.int .i64 lo] 3)).alloc (.cells #[.int .i64 hi] 3)) (w.heap.size+1) #[.int .i64 hi] 3:=by simpa using Blk.new (w.alloc (.cells #[.int .i64 lo] 3)) #[.int .i64 hi] 3
 by_cases h3:n<=3
 ·have hd:decide ((n:Int)<=3)=true:=by simp;omega
  have HR:Hid (zai l lo hi=l.all (λx=>decide (lo<=x)&&decide (x<=hi))):=xH1 (by unfold zai;rw[hl,show decide (n<=3)=true by simpa using h3];simp);go_enter Tryz.func150,Tryz.ntmps150;go_wp2_with fail;refine(zf8 168 #[.pointer (some ⟨w.heap.size,0,none⟩),.pointer (some ⟨w.heap.size+1,0,none⟩)] (λx=> !(decide (lo<=x)&&decide (x<=hi))) a n c l _ (enters_of Tryz.func168 (by kernel_rfl) rfl) hl hn (hr.below b0) (λx=>ziz x lo hi _ _ _ (k1.cell 0 rfl) (k2.cell 0 rfl))).mono ?_;rintro e w1 ⟨rfl,rfl⟩;rw[zi2];go_wp2;go_ret;exact⟨zy (by rw[HR.out]),b0⟩
 ·have hd:decide ((n:Int)<=3)=false:=by simp;omega
  have HR:Hid (zai l lo hi=false):=xH1 (zfM (by omega));go_enter Tryz.func150,Tryz.ntmps150;go_wp2_with fail;go_ret;exact⟨zy (by rw[HR.out]),b0⟩
end Go.Proofs.YtnlijgjpgdjpiaaGreat
namespace Go.Proofs.YtnlijgjpgdjpiaaGreat
open Go.RowKit Go.Sort
theorem zaT (a:Option Addr) (n c:Nat) (on:Int) (b:Nat) (w:World) (_hn:n<=maxLen) (h1:w.cell? ⟨b,1,none⟩=some (.int .i64 on)):
  Calls Tryz.prog 169 #[.slice a n c,.pointer (some ⟨b,0,none⟩)] w λe w'=>e= .returned (.bool (decide (0<=on)&&decide (on<n)))/\w'=w:=by
 unfold maxLen at _hn;by_cases h:0<=on
 ·have hd:decide (0<=on)=true:=xDk h;rw[hd,Bool.true_and];go_enter Tryz.func169,Tryz.ntmps169;go_wp2;go_ret;exact⟨rfl,rfl⟩
 ·have hd:decide (0<=on)=false:=xDj h;rw[hd,Bool.false_and];go_enter Tryz.func169,Tryz.ntmps169;go_wp2;go_ret;exact⟨rfl,rfl⟩
theorem zjy {p:Pg} {o:OpD} (h:¬(1<=o.kind/\o.kind<=10)):zF p o=false:=by
 unfold zF;rw[<-Bool.decide_and,xDj h];simp
theorem za6 {p:Pg} {o:OpD} (h:¬(0<=o.on/\o.on<zw p o.kind)):zF p o=false:=by
 unfold zF;by_cases h0:0<=o.on
 ·rw[xDj (λh1:o.on<zw p o.kind=>h ⟨h0,h1⟩)];simp
 ·rw[xDj h0];simp
theorem zbu {p:Pg} {o:OpD} (hk:1<=o.kind/\o.kind<=10) (h:0<=o.on/\o.on<zw p o.kind):zF p o=zaR p o:=by
 unfold zF;rw[xDk hk.1,xDk hk.2,xDk h.1,xDk h.2];simp
theorem zep (v:PV) (p:Pg) (o:OpD) (w:World) (hr:RdP w v p) (hs:v.ns<=maxLen/\v.ng<=maxLen/\v.nb<=maxLen/\v.nr<=maxLen):
  Calls Tryz.prog 151 #[.agg #[.slice v.s v.ns v.cs,.slice v.g v.ng v.cg,.slice v.b v.nb v.cb,.slice v.r v.nr v.cr,.slice v.t v.nt v.ct],.agg #[.int .i64 o.kind,.int .i64 o.on,.int .i64 o.arg]] w λe w'=>e= .returned (.bool (zF p o))/\Below w.heap.size w w':=by
 have hmf:∀(fn:Fn) (first cap:Array Value) (w:World),(Instr.makeFunc fn first cap).run Tryz.prog w= .ok (.func fn first cap) w:=λ_ _ _ _=>rfl;have kP:Blk ((w.alloc (.cells #[.slice v.s v.ns v.cs,.slice v.g v.ng v.cg,.slice v.b v.nb v.cb,.slice v.r v.nr v.cr,.slice v.t v.nt v.ct] 40)).alloc (.cells #[.int .i64 o.kind,.int .i64 o.on,.int .i64 o.arg] 113)) w.heap.size #[.slice v.s v.ns v.cs,.slice v.g v.ng v.cg,.slice v.b v.nb v.cb,.slice v.r v.nr v.cr,.slice v.t v.nt v.ct] 40:=(Blk.new _ _ _).alloc _;have kO:Blk ((w.alloc (.cells #[.slice v.s v.ns v.cs,.slice v.g v.ng v.cg,.slice v.b v.nb v.cb,.slice v.r v.nr v.cr,.slice v.t v.nt v.ct] 40)).alloc (.cells #[.int .i64 o.kind,.int .i64 o.on,.int .i64 o.arg] 113)) (w.heap.size+1) #[.int .i64 o.kind,.int .i64 o.on,.int .i64 o.arg] 113:=by simpa using Blk.new (w.alloc (.cells #[.slice v.s v.ns v.cs,.slice v.g v.ng v.cg,.slice v.b v.nb v.cb,.slice v.r v.nr v.cr,.slice v.t v.nt v.ct] 40)) #[.int .i64 o.kind,.int .i64 o.on,.int .i64 o.arg] 113
 have b0:Below w.heap.size w ((w.alloc (.cells #[.slice v.s v.ns v.cs,.slice v.g v.ng v.cg,.slice v.b v.nb v.cb,.slice v.r v.nr v.cr,.slice v.t v.nt v.ct] 40)).alloc (.cells #[.int .i64 o.kind,.int .i64 o.on,.int .i64 o.arg] 113)):=(xA1).alloc (by simp) _;have k0:((w.alloc (.cells #[.slice v.s v.ns v.cs,.slice v.g v.ng v.cg,.slice v.b v.nb v.cb,.slice v.r v.nr v.cr,.slice v.t v.nt v.ct] 40)).alloc (.cells #[.int .i64 o.kind,.int .i64 o.on,.int .i64 o.arg] 113)).cell? ⟨w.heap.size+1,1,none⟩=some (.int .i64 o.on):=kO.cell 1 rfl;have ls:=xH1 hr.ls;have lg:=xH1 hr.lg;have lb:=xH1 hr.lb;have lr:=xH1 hr.lr;obtain⟨zs,zg,zb,zr⟩:=hs;obtain⟨kd,on,ar⟩:=o;simp only at k0 b0 kP kO;by_cases hk:1<=kd/\kd<=10
 rotate_left
 ·have HB:Hid (zF p ⟨kd,on,ar⟩=false):=xH1 (zjy hk);have e1:(kd==1)=false:=by simp;omega
  have e2:(kd==2)=false:=by simp;omega
  have e3:(kd==3)=false:=by simp;omega
  have e4:(kd==4)=false:=by simp;omega
  have e5:(kd==5)=false:=by simp;omega
  have e6:(kd==6)=false:=by simp;omega
  have e7:(kd==7)=false:=by simp;omega
  have e8:(kd==8)=false:=by simp;omega
  have e9:(kd==9)=false:=by simp;omega
  have e10:(kd==10)=false:=by simp;omega
  clear kP kO k0;go_enter Tryz.func151,Tryz.ntmps151;go_wp2_with fail;go_ret;exact⟨zy (by rw[HB.out]),b0⟩
 have hk':kd=1\/kd=2\/kd=3\/kd=4\/kd=5\/kd=6\/kd=7\/kd=8\/kd=9\/kd=10:=by omega
 clear hk;rcases hk' with rfl|rfl|rfl|rfl|rfl|rfl|rfl|rfl|rfl|rfl
 --kind 1
 ·by_cases h:on=0
  ·subst h;have HB:Hid (zF p ⟨1,0,ar⟩=zbS ar):=xH1 (zbu (by show(1:Int)<=1/\(1:Int)<=10;decide) (by show(0:Int)<=0/\(0:Int)<((1:Nat):Int);decide));clear kP kO k0;go_enter Tryz.func151,Tryz.ntmps151;go_wp2_with fail;refine(zcS ar _).mono ?_;rintro e w1 ⟨rfl,rfl⟩;go_wp2;go_ret;exact⟨zy (by rw[HB.out]),b0⟩
  ·have HB:Hid (zF p ⟨1,on,ar⟩=false):=xH1 (za6 (by show¬(0<=on/\on<((1:Nat):Int));omega));have e0:(on==0)=false:=(by simpa using h);clear kP kO k0;go_enter Tryz.func151,Tryz.ntmps151;go_wp2_with fail;go_ret;exact⟨zy (by rw[HB.out]),b0⟩
 --kind 2
 ·by_cases h:0<=on/\on<v.ns
  ·have HC:Hid ((decide (0<=on)&&decide (on<v.ns))=true):=xH1 (by rw[decide_eq_true h.1,decide_eq_true h.2];rfl);have HO:Hid (zF p ⟨2,on,ar⟩=zaR p ⟨2,on,ar⟩):=xH1 (zbu (by show(1:Int)<=2/\(2:Int)<=10;decide) (by show 0<=on/\on<(zw p 2:Int);rw[show zw p 2=v.ns from ls.out];exact h));obtain⟨W0,hW0⟩:∃W0:World,W0=((w.alloc (.cells #[.slice v.s v.ns v.cs,.slice v.g v.ng v.cg,.slice v.b v.nb v.cb,.slice v.r v.nr v.cr,.slice v.t v.nt v.ct] 40)).alloc (.cells #[.int .i64 2,.int .i64 on,.int .i64 ar] 113)):=⟨_,rfl⟩
   rw[<-hW0] at kP kO b0 k0;have HW0:=xH1 hW0;clear hW0;have c1:W0.cell? ⟨w.heap.size,0,none⟩=some (.slice v.s v.ns v.cs):=kP.cell 0 rfl;have c6:W0.cell? ⟨w.heap.size+1,0,none⟩=some (.int .i64 2):=kO.cell 0 rfl;have c8:W0.cell? ⟨w.heap.size+1,2,none⟩=some (.int .i64 ar):=kO.cell 2 rfl;have k1:=cell_regrown c1;have k6:=cell_regrown c6;have k7:=cell_regrown k0;have k8:=cell_regrown c8;clear kP kO;have cF:Hid (∀d os,Calls Tryz.prog 169 #[.slice v.s v.ns v.cs,.pointer (some ⟨w.heap.size+1,0,none⟩)] (grow (redrawn W0 d) os) λe w''=>e= .returned (.bool true)/\∃p:Regrown,w''=grow (redrawn W0 p.d) p.os):=xH1 (λd os=>zb8 (by
    have:=zaT v.s v.ns v.cs on (w.heap.size+1) (grow (redrawn W0 d) os) zs (k7 d os);rw[HC.out] at this;exact this))
   obtain⟨b,q,hsa,hc⟩:=hr.rs.int (by rw[hr.ls];omega);have hcell:=hc on.toNat (by rw[hr.ls];omega)
   obtain⟨x,hx⟩:∃x,x=p.sems.getD on.toNat 0:=⟨_,rfl⟩
   rw[<-hx] at hcell;have HA:Hid (zaR p ⟨2,on,ar⟩=(decide (1<=ar)&&decide (ar<=x))):=xH1 (by rw[hx];rfl);obtain⟨on0,on1⟩:=h;have k9:=cell_regrown (zd b0 hcell);rw[hsa] at k1 cF HW0;clear k0 hc hx hr ls lg lb lr hcell;by_cases h1:1<=ar
   ·have d1:decide (1<=ar)=true:=decide_eq_true h1;go_enter Tryz.func151,Tryz.ntmps151;go_wp2_with fail;rw[<-HW0.out];refine wp_region_quiet_below (by kernel_rfl) (by kernel_rfl) ?_
    repeat (go_big_quiet_step (exact cF.out _ _))
    refine wpQuiet_nil ?_;intro w6 hw6;have hbq:Below W0.heap.size W0 w6:=by
     obtain⟨pq,rfl⟩:=hw6;exact below_regrown _ _ _
    clear hw6;go_wp2;go_ret;exact⟨zy (by rw[HO.out,HA.out,d1];rfl),b0.trans (hbq.mono b0.size)⟩
   ·have d1:decide (1<=ar)=false:=decide_eq_false h1;go_enter Tryz.func151,Tryz.ntmps151;go_wp2_with fail;rw[<-HW0.out];refine wp_region_quiet_below (by kernel_rfl) (by kernel_rfl) ?_
    repeat (go_big_quiet_step (exact cF.out _ _))
    refine wpQuiet_nil ?_;intro w6 hw6;have hbq:Below W0.heap.size W0 w6:=by
     obtain⟨pq,rfl⟩:=hw6;exact below_regrown _ _ _
    clear hw6;go_wp2;go_ret;exact⟨zy (by rw[HO.out,HA.out,d1];rfl),b0.trans (hbq.mono b0.size)⟩
  ·have HC:Hid ((decide (0<=on)&&decide (on<v.ns))=false):=xH1 (by rw[<-Bool.decide_and];exact decide_eq_false h);have HB:Hid (zF p ⟨2,on,ar⟩=false):=xH1 (za6 (by show¬(0<=on/\on<(zw p 2:Int));rw[show zw p 2=v.ns from ls.out];exact h));obtain⟨W0,hW0⟩:∃W0:World,W0=((w.alloc (.cells #[.slice v.s v.ns v.cs,.slice v.g v.ng v.cg,.slice v.b v.nb v.cb,.slice v.r v.nr v.cr,.slice v.t v.nt v.ct] 40)).alloc (.cells #[.int .i64 2,.int .i64 on,.int .i64 ar] 113)):=⟨_,rfl⟩
   rw[<-hW0] at kP kO b0 k0;have HW0:=xH1 hW0;clear hW0;have c1:W0.cell? ⟨w.heap.size,0,none⟩=some (.slice v.s v.ns v.cs):=kP.cell 0 rfl;have c6:W0.cell? ⟨w.heap.size+1,0,none⟩=some (.int .i64 2):=kO.cell 0 rfl;have c8:W0.cell? ⟨w.heap.size+1,2,none⟩=some (.int .i64 ar):=kO.cell 2 rfl;have k1:=cell_regrown c1;have k6:=cell_regrown c6;have k7:=cell_regrown k0;have k8:=cell_regrown c8;clear kP kO;have cF:Hid (∀d os,Calls Tryz.prog 169 #[.slice v.s v.ns v.cs,.pointer (some ⟨w.heap.size+1,0,none⟩)] (grow (redrawn W0 d) os) λe w''=>e= .returned (.bool false)/\∃p:Regrown,w''=grow (redrawn W0 p.d) p.os):=xH1 (λd os=>zb8 (by
    have:=zaT v.s v.ns v.cs on (w.heap.size+1) (grow (redrawn W0 d) os) zs (k7 d os);rw[HC.out] at this;exact this))
   clear k0;go_enter Tryz.func151,Tryz.ntmps151;go_wp2_with fail;rw[<-HW0.out];refine wp_region_quiet_below (by kernel_rfl) (by kernel_rfl) ?_
   repeat (go_big_quiet_step (exact cF.out _ _))
   refine wpQuiet_nil ?_;intro w6 hw6;have hbq:Below W0.heap.size W0 w6:=by
    obtain⟨pq,rfl⟩:=hw6;exact below_regrown _ _ _
   clear hw6;go_wp2;go_ret;exact⟨zy (by rw[HB.out]),b0.trans (hbq.mono b0.size)⟩
 --kind 3
 ·by_cases h:0<=on/\on<v.ns
  ·have HC:Hid ((decide (0<=on)&&decide (on<v.ns))=true):=xH1 (by rw[decide_eq_true h.1,decide_eq_true h.2];rfl);have HO:Hid (zF p ⟨3,on,ar⟩=zaR p ⟨3,on,ar⟩):=xH1 (zbu (by show(1:Int)<=3/\(3:Int)<=10;decide) (by show 0<=on/\on<(zw p 3:Int);rw[show zw p 3=v.ns from ls.out];exact h));obtain⟨W0,hW0⟩:∃W0:World,W0=((w.alloc (.cells #[.slice v.s v.ns v.cs,.slice v.g v.ng v.cg,.slice v.b v.nb v.cb,.slice v.r v.nr v.cr,.slice v.t v.nt v.ct] 40)).alloc (.cells #[.int .i64 3,.int .i64 on,.int .i64 ar] 113)):=⟨_,rfl⟩
   rw[<-hW0] at kP kO b0 k0;have HW0:=xH1 hW0;clear hW0;have c1:W0.cell? ⟨w.heap.size,0,none⟩=some (.slice v.s v.ns v.cs):=kP.cell 0 rfl;have c6:W0.cell? ⟨w.heap.size+1,0,none⟩=some (.int .i64 3):=kO.cell 0 rfl;have c8:W0.cell? ⟨w.heap.size+1,2,none⟩=some (.int .i64 ar):=kO.cell 2 rfl;have k1:=cell_regrown c1;have k6:=cell_regrown c6;have k7:=cell_regrown k0;have k8:=cell_regrown c8;clear kP kO;have cF:Hid (∀d os,Calls Tryz.prog 169 #[.slice v.s v.ns v.cs,.pointer (some ⟨w.heap.size+1,0,none⟩)] (grow (redrawn W0 d) os) λe w''=>e= .returned (.bool true)/\∃p:Regrown,w''=grow (redrawn W0 p.d) p.os):=xH1 (λd os=>zb8 (by
    have:=zaT v.s v.ns v.cs on (w.heap.size+1) (grow (redrawn W0 d) os) zs (k7 d os);rw[HC.out] at this;exact this))
   obtain⟨b,q,hsa,hc⟩:=hr.rs.int (by rw[hr.ls];omega);have hcell:=hc on.toNat (by rw[hr.ls];omega)
   obtain⟨x,hx⟩:∃x,x=p.sems.getD on.toNat 0:=⟨_,rfl⟩
   rw[<-hx] at hcell;have HA:Hid (zaR p ⟨3,on,ar⟩=(decide (1<=ar)&&decide (ar<=x))):=xH1 (by rw[hx];rfl);obtain⟨on0,on1⟩:=h;have k9:=cell_regrown (zd b0 hcell);rw[hsa] at k1 cF HW0;clear k0 hc hx hr ls lg lb lr hcell;by_cases h1:1<=ar
   ·have d1:decide (1<=ar)=true:=decide_eq_true h1;go_enter Tryz.func151,Tryz.ntmps151;go_wp2_with fail;rw[<-HW0.out];refine wp_region_quiet_below (by kernel_rfl) (by kernel_rfl) ?_
    repeat (go_big_quiet_step (exact cF.out _ _))
    refine wpQuiet_nil ?_;intro w6 hw6;have hbq:Below W0.heap.size W0 w6:=by
     obtain⟨pq,rfl⟩:=hw6;exact below_regrown _ _ _
    clear hw6;go_wp2;go_ret;exact⟨zy (by rw[HO.out,HA.out,d1];rfl),b0.trans (hbq.mono b0.size)⟩
   ·have d1:decide (1<=ar)=false:=decide_eq_false h1;go_enter Tryz.func151,Tryz.ntmps151;go_wp2_with fail;rw[<-HW0.out];refine wp_region_quiet_below (by kernel_rfl) (by kernel_rfl) ?_
    repeat (go_big_quiet_step (exact cF.out _ _))
    refine wpQuiet_nil ?_;intro w6 hw6;have hbq:Below W0.heap.size W0 w6:=by
     obtain⟨pq,rfl⟩:=hw6;exact below_regrown _ _ _
    clear hw6;go_wp2;go_ret;exact⟨zy (by rw[HO.out,HA.out,d1];rfl),b0.trans (hbq.mono b0.size)⟩
  ·have HC:Hid ((decide (0<=on)&&decide (on<v.ns))=false):=xH1 (by rw[<-Bool.decide_and];exact decide_eq_false h);have HB:Hid (zF p ⟨3,on,ar⟩=false):=xH1 (za6 (by show¬(0<=on/\on<(zw p 3:Int));rw[show zw p 3=v.ns from ls.out];exact h));obtain⟨W0,hW0⟩:∃W0:World,W0=((w.alloc (.cells #[.slice v.s v.ns v.cs,.slice v.g v.ng v.cg,.slice v.b v.nb v.cb,.slice v.r v.nr v.cr,.slice v.t v.nt v.ct] 40)).alloc (.cells #[.int .i64 3,.int .i64 on,.int .i64 ar] 113)):=⟨_,rfl⟩
   rw[<-hW0] at kP kO b0 k0;have HW0:=xH1 hW0;clear hW0;have c1:W0.cell? ⟨w.heap.size,0,none⟩=some (.slice v.s v.ns v.cs):=kP.cell 0 rfl;have c6:W0.cell? ⟨w.heap.size+1,0,none⟩=some (.int .i64 3):=kO.cell 0 rfl;have c8:W0.cell? ⟨w.heap.size+1,2,none⟩=some (.int .i64 ar):=kO.cell 2 rfl;have k1:=cell_regrown c1;have k6:=cell_regrown c6;have k7:=cell_regrown k0;have k8:=cell_regrown c8;clear kP kO;have cF:Hid (∀d os,Calls Tryz.prog 169 #[.slice v.s v.ns v.cs,.pointer (some ⟨w.heap.size+1,0,none⟩)] (grow (redrawn W0 d) os) λe w''=>e= .returned (.bool false)/\∃p:Regrown,w''=grow (redrawn W0 p.d) p.os):=xH1 (λd os=>zb8 (by
    have:=zaT v.s v.ns v.cs on (w.heap.size+1) (grow (redrawn W0 d) os) zs (k7 d os);rw[HC.out] at this;exact this))
   clear k0;go_enter Tryz.func151,Tryz.ntmps151;go_wp2_with fail;rw[<-HW0.out];refine wp_region_quiet_below (by kernel_rfl) (by kernel_rfl) ?_
   repeat (go_big_quiet_step (exact cF.out _ _))
   refine wpQuiet_nil ?_;intro w6 hw6;have hbq:Below W0.heap.size W0 w6:=by
    obtain⟨pq,rfl⟩:=hw6;exact below_regrown _ _ _
   clear hw6;go_wp2;go_ret;exact⟨zy (by rw[HB.out]),b0.trans (hbq.mono b0.size)⟩
 --kind 4
 ·by_cases h1:0<=on
  ·have d1:decide (0<=on)=true:=decide_eq_true h1;by_cases h2:on<=2
   ·have d2:decide (on<=2)=true:=decide_eq_true h2;have HB:Hid (zF p ⟨4,on,ar⟩=zbS ar):=xH1 (zbu (by show(1:Int)<=4/\(4:Int)<=10;decide) (by show 0<=on/\on<((3:Nat):Int);omega));clear kP kO k0;go_enter Tryz.func151,Tryz.ntmps151;go_wp2_with fail;refine(zcS ar _).mono ?_;rintro e w1 ⟨rfl,rfl⟩;go_wp2;go_ret;exact⟨zy (by rw[HB.out]),b0⟩
   ·have d2:decide (on<=2)=false:=decide_eq_false h2;have HB:Hid (zF p ⟨4,on,ar⟩=false):=xH1 (za6 (by show¬(0<=on/\on<((3:Nat):Int));omega));clear kP kO k0;go_enter Tryz.func151,Tryz.ntmps151;go_wp2_with fail;go_ret;exact⟨zy (by rw[HB.out]),b0⟩
  ·have d1:decide (0<=on)=false:=decide_eq_false h1;have HB:Hid (zF p ⟨4,on,ar⟩=false):=xH1 (za6 (by show¬(0<=on/\on<((3:Nat):Int));omega));clear kP kO k0;go_enter Tryz.func151,Tryz.ntmps151;go_wp2_with fail;go_ret;exact⟨zy (by rw[HB.out]),b0⟩
 --kind 5
 ·by_cases h:0<=on/\on<v.ng
  ·have HC:Hid ((decide (0<=on)&&decide (on<v.ng))=true):=xH1 (by rw[decide_eq_true h.1,decide_eq_true h.2];rfl);have HO:Hid (zF p ⟨5,on,ar⟩=zaR p ⟨5,on,ar⟩):=xH1 (zbu (by show(1:Int)<=5/\(5:Int)<=10;decide) (by show 0<=on/\on<(zw p 5:Int);rw[show zw p 5=v.ng from lg.out];exact h));clear kP kO h;by_cases h9: -9<=ar
   ·have d9:decide (-9<=ar)=true:=decide_eq_true h9;have HB:Hid (zaR p ⟨5,on,ar⟩=decide (ar<=9)):=xH1 (by show(decide (-9<=ar)&&decide (ar<=9))=_;rw[d9];rfl);go_enter Tryz.func151,Tryz.ntmps151;go_wp2_with fail;refine(zaT v.g v.ng v.cg on _ _ zg k0).mono ?_;rintro e w1 ⟨rfl,rfl⟩;rw[HC.out];go_wp2;go_ret;exact⟨zy (by rw[HO.out,HB.out]),b0⟩
   ·have d9:decide (-9<=ar)=false:=decide_eq_false h9;have HB:Hid (zaR p ⟨5,on,ar⟩=false):=xH1 (by show(decide (-9<=ar)&&decide (ar<=9))=_;rw[d9];rfl);go_enter Tryz.func151,Tryz.ntmps151;go_wp2_with fail;refine(zaT v.g v.ng v.cg on _ _ zg k0).mono ?_;rintro e w1 ⟨rfl,rfl⟩;rw[HC.out];go_wp2;go_ret;exact⟨zy (by rw[HO.out,HB.out]),b0⟩
  ·have HC:Hid ((decide (0<=on)&&decide (on<v.ng))=false):=xH1 (by rw[<-Bool.decide_and];exact decide_eq_false h);have HB:Hid (zF p ⟨5,on,ar⟩=false):=xH1 (za6 (by show¬(0<=on/\on<(zw p 5:Int));rw[show zw p 5=v.ng from lg.out];exact h));clear kP kO h;go_enter Tryz.func151,Tryz.ntmps151;go_wp2_with fail;refine(zaT v.g v.ng v.cg on _ _ zg k0).mono ?_;rintro e w1 ⟨rfl,rfl⟩;rw[HC.out];go_wp2;go_ret;exact⟨zy (by rw[HB.out]),b0⟩
 --kind 6
 ·by_cases h:0<=on/\on<v.ng
  ·have HC:Hid ((decide (0<=on)&&decide (on<v.ng))=true):=xH1 (by rw[decide_eq_true h.1,decide_eq_true h.2];rfl);have HO:Hid (zF p ⟨6,on,ar⟩=zaR p ⟨6,on,ar⟩):=xH1 (zbu (by show(1:Int)<=6/\(6:Int)<=10;decide) (by show 0<=on/\on<(zw p 6:Int);rw[show zw p 6=v.ng from lg.out];exact h));clear kP kO h;go_enter Tryz.func151,Tryz.ntmps151;go_wp2_with fail;refine(zaT v.g v.ng v.cg on _ _ zg k0).mono ?_;rintro e w1 ⟨rfl,rfl⟩;rw[HC.out];go_wp2;go_ret;exact⟨zy (by rw[HO.out];rfl),b0⟩
  ·have HC:Hid ((decide (0<=on)&&decide (on<v.ng))=false):=xH1 (by rw[<-Bool.decide_and];exact decide_eq_false h);have HB:Hid (zF p ⟨6,on,ar⟩=false):=xH1 (za6 (by show¬(0<=on/\on<(zw p 6:Int));rw[show zw p 6=v.ng from lg.out];exact h));clear kP kO h;go_enter Tryz.func151,Tryz.ntmps151;go_wp2_with fail;refine(zaT v.g v.ng v.cg on _ _ zg k0).mono ?_;rintro e w1 ⟨rfl,rfl⟩;rw[HC.out];go_wp2;go_ret;exact⟨zy (by rw[HB.out]),b0⟩
 --kind 7
 ·by_cases h:0<=on/\on<v.nb
  ·have HC:Hid ((decide (0<=on)&&decide (on<v.nb))=true):=xH1 (by rw[decide_eq_true h.1,decide_eq_true h.2];rfl);have HO:Hid (zF p ⟨7,on,ar⟩=zaR p ⟨7,on,ar⟩):=xH1 (zbu (by show(1:Int)<=7/\(7:Int)<=10;decide) (by show 0<=on/\on<(zw p 7:Int);rw[show zw p 7=v.nb from lb.out];exact h));clear kP kO h;go_enter Tryz.func151,Tryz.ntmps151;go_wp2_with fail;refine(zaT v.b v.nb v.cb on _ _ zb k0).mono ?_;rintro e w1 ⟨rfl,rfl⟩;rw[HC.out];go_wp2;go_ret;exact⟨zy (by rw[HO.out];rfl),b0⟩
  ·have HC:Hid ((decide (0<=on)&&decide (on<v.nb))=false):=xH1 (by rw[<-Bool.decide_and];exact decide_eq_false h);have HB:Hid (zF p ⟨7,on,ar⟩=false):=xH1 (za6 (by show¬(0<=on/\on<(zw p 7:Int));rw[show zw p 7=v.nb from lb.out];exact h));clear kP kO h;go_enter Tryz.func151,Tryz.ntmps151;go_wp2_with fail;refine(zaT v.b v.nb v.cb on _ _ zb k0).mono ?_;rintro e w1 ⟨rfl,rfl⟩;rw[HC.out];go_wp2;go_ret;exact⟨zy (by rw[HB.out]),b0⟩
 --kind 8
 ·by_cases h:0<=on/\on<v.nr
  ·have HC:Hid ((decide (0<=on)&&decide (on<v.nr))=true):=xH1 (by rw[decide_eq_true h.1,decide_eq_true h.2];rfl);have HO:Hid (zF p ⟨8,on,ar⟩=zaR p ⟨8,on,ar⟩):=xH1 (zbu (by show(1:Int)<=8/\(8:Int)<=10;decide) (by show 0<=on/\on<(zw p 8:Int);rw[show zw p 8=v.nr from lr.out];exact h));clear kP kO h;go_enter Tryz.func151,Tryz.ntmps151;go_wp2_with fail;refine(zaT v.r v.nr v.cr on _ _ zr k0).mono ?_;rintro e w1 ⟨rfl,rfl⟩;rw[HC.out];go_wp2_with fail;refine(zcS ar _).mono ?_;rintro e w1 ⟨rfl,rfl⟩;go_wp2;go_ret;exact⟨zy (by rw[HO.out];rfl),b0⟩
  ·have HC:Hid ((decide (0<=on)&&decide (on<v.nr))=false):=xH1 (by rw[<-Bool.decide_and];exact decide_eq_false h);have HB:Hid (zF p ⟨8,on,ar⟩=false):=xH1 (za6 (by show¬(0<=on/\on<(zw p 8:Int));rw[show zw p 8=v.nr from lr.out];exact h));clear kP kO h;go_enter Tryz.func151,Tryz.ntmps151;go_wp2_with fail;refine(zaT v.r v.nr v.cr on _ _ zr k0).mono ?_;rintro e w1 ⟨rfl,rfl⟩;rw[HC.out];go_wp2;go_ret;exact⟨zy (by rw[HB.out]),b0⟩
 --kind 9
 ·by_cases h:0<=on/\on<v.nr
  ·have HC:Hid ((decide (0<=on)&&decide (on<v.nr))=true):=xH1 (by rw[decide_eq_true h.1,decide_eq_true h.2];rfl);have HO:Hid (zF p ⟨9,on,ar⟩=zaR p ⟨9,on,ar⟩):=xH1 (zbu (by show(1:Int)<=9/\(9:Int)<=10;decide) (by show 0<=on/\on<(zw p 9:Int);rw[show zw p 9=v.nr from lr.out];exact h));clear kP kO h;go_enter Tryz.func151,Tryz.ntmps151;go_wp2_with fail;refine(zaT v.r v.nr v.cr on _ _ zr k0).mono ?_;rintro e w1 ⟨rfl,rfl⟩;rw[HC.out];go_wp2;go_ret;exact⟨zy (by rw[HO.out];rfl),b0⟩
  ·have HC:Hid ((decide (0<=on)&&decide (on<v.nr))=false):=xH1 (by rw[<-Bool.decide_and];exact decide_eq_false h);have HB:Hid (zF p ⟨9,on,ar⟩=false):=xH1 (za6 (by show¬(0<=on/\on<(zw p 9:Int));rw[show zw p 9=v.nr from lr.out];exact h));clear kP kO h;go_enter Tryz.func151,Tryz.ntmps151;go_wp2_with fail;refine(zaT v.r v.nr v.cr on _ _ zr k0).mono ?_;rintro e w1 ⟨rfl,rfl⟩;rw[HC.out];go_wp2;go_ret;exact⟨zy (by rw[HB.out]),b0⟩
 --kind 10
 ·by_cases h:0<=on/\on<v.nr
  ·have HC:Hid ((decide (0<=on)&&decide (on<v.nr))=true):=xH1 (by rw[decide_eq_true h.1,decide_eq_true h.2];rfl);have HO:Hid (zF p ⟨10,on,ar⟩=zaR p ⟨10,on,ar⟩):=xH1 (zbu (by show(1:Int)<=10/\(10:Int)<=10;decide) (by show 0<=on/\on<(zw p 10:Int);rw[show zw p 10=v.nr from lr.out];exact h));clear kP kO h;go_enter Tryz.func151,Tryz.ntmps151;go_wp2_with fail;refine(zaT v.r v.nr v.cr on _ _ zr k0).mono ?_;rintro e w1 ⟨rfl,rfl⟩;rw[HC.out];go_wp2;go_ret;exact⟨zy (by rw[HO.out];rfl),b0⟩
  ·have HC:Hid ((decide (0<=on)&&decide (on<v.nr))=false):=xH1 (by rw[<-Bool.decide_and];exact decide_eq_false h);have HB:Hid (zF p ⟨10,on,ar⟩=false):=xH1 (za6 (by show¬(0<=on/\on<(zw p 10:Int));rw[show zw p 10=v.nr from lr.out];exact h));clear kP kO h;go_enter Tryz.func151,Tryz.ntmps151;go_wp2_with fail;refine(zaT v.r v.nr v.cr on _ _ zr k0).mono ?_;rintro e w1 ⟨rfl,rfl⟩;rw[HC.out];go_wp2;go_ret;exact⟨zy (by rw[HB.out]),b0⟩
end Go.Proofs.YtnlijgjpgdjpiaaGreat
namespace Go.Proofs.YtnlijgjpgdjpiaaGreat
open Go.RowKit
theorem zcN (v:PV) (p:Pg) (w:World) (hr:RdP w v p) (hz:zbB v p):
  Calls Tryz.prog 101 #[.agg (pvC v)] w λe w'=>e= .returned (.bool (zu p))/\xW w w':=by
 have hs:v.ns<=maxLen/\v.ng<=maxLen/\v.nb<=maxLen/\v.nr<=maxLen:=by
  obtain⟨z1,z2,z3,z4,z5,z6⟩:=hz;unfold maxLen;omega
 have zz:Hid (v.ns<=maxLen/\v.ng<=maxLen/\v.nb<=maxLen/\v.nr<=maxLen):=xH1 hs;have z5:v.nt<=1048576:=hz.lt;have Z6:=xH1 hz.inn;have ls:=xH1 hr.ls;have lg:=xH1 hr.lg;have lb:=xH1 hr.lb;have lr:=xH1 hr.lr;have lt:=xH1 hr.lt;clear hz;have B0:xW w (w.alloc (.cells (pvC v) 40)):=xA1;have k0:Blk (w.alloc (.cells (pvC v) 40)) w.heap.size (pvC v) 40:=Blk.new _ _ _;rcases Bool.eq_false_or_eq_true (zai p.sems 1 9) with h1|h1
 rotate_left
 ·have HB:Hid (zu p=false):=xH1 (by unfold zu;rw[h1];simp);replace h1:=xH1 h1;go_enter Tryz.func101,Tryz.ntmps101;go_wp2_with fail;refine(zT v.s v.ns v.cs p.sems 1 9 _ ls.out (by have:=zz.out;omega) (hr.rs.below B0)).mono ?_;rintro e w1 ⟨rfl,hb⟩;rw[h1.out];have B1:=B0.trans (hb.mono B0.size);have k1:=k0.below hb;clear hb;have q0:w1.cell? ⟨w.heap.size,0,none⟩=some (.slice v.s v.ns v.cs):=k1.cell 0 rfl;have q1:w1.cell? ⟨w.heap.size,1,none⟩=some (.slice v.g v.ng v.cg):=k1.cell 1 rfl;have q2:w1.cell? ⟨w.heap.size,2,none⟩=some (.slice v.b v.nb v.cb):=k1.cell 2 rfl;have q3:w1.cell? ⟨w.heap.size,3,none⟩=some (.slice v.r v.nr v.cr):=k1.cell 3 rfl;have q4:w1.cell? ⟨w.heap.size,4,none⟩=some (.slice v.t v.nt v.ct):=k1.cell 4 rfl;go_wp2;go_ret;exact⟨zy (by rw[HB.out]),B1⟩
 replace h1:=xH1 h1;rcases Bool.eq_false_or_eq_true (zai p.groups 0 9) with h2|h2
 rotate_left
 ·have HB:Hid (zu p=false):=xH1 (by unfold zu;rw[h2];simp);replace h2:=xH1 h2;go_enter Tryz.func101,Tryz.ntmps101;go_wp2_with fail;refine(zT v.s v.ns v.cs p.sems 1 9 _ ls.out (by have:=zz.out;omega) (hr.rs.below B0)).mono ?_;rintro e w1 ⟨rfl,hb⟩;rw[h1.out];have B1:=B0.trans (hb.mono B0.size);have k1:=k0.below hb;clear hb;have q0:w1.cell? ⟨w.heap.size,0,none⟩=some (.slice v.s v.ns v.cs):=k1.cell 0 rfl;have q1:w1.cell? ⟨w.heap.size,1,none⟩=some (.slice v.g v.ng v.cg):=k1.cell 1 rfl;have q2:w1.cell? ⟨w.heap.size,2,none⟩=some (.slice v.b v.nb v.cb):=k1.cell 2 rfl;have q3:w1.cell? ⟨w.heap.size,3,none⟩=some (.slice v.r v.nr v.cr):=k1.cell 3 rfl;have q4:w1.cell? ⟨w.heap.size,4,none⟩=some (.slice v.t v.nt v.ct):=k1.cell 4 rfl;go_wp2_with fail;refine(zT v.g v.ng v.cg p.groups 0 9 _ lg.out (by have:=zz.out;omega) (hr.rg.below B1)).mono ?_;rintro e w2 ⟨rfl,hb⟩;rw[h2.out];have B2:=B1.trans (hb.mono B1.size);have k2:=k1.below hb;clear hb;replace q0:w2.cell? ⟨w.heap.size,0,none⟩=some (.slice v.s v.ns v.cs):=k2.cell 0 rfl;replace q1:w2.cell? ⟨w.heap.size,1,none⟩=some (.slice v.g v.ng v.cg):=k2.cell 1 rfl;replace q2:w2.cell? ⟨w.heap.size,2,none⟩=some (.slice v.b v.nb v.cb):=k2.cell 2 rfl
  replace q3:w2.cell? ⟨w.heap.size,3,none⟩=some (.slice v.r v.nr v.cr):=k2.cell 3 rfl;replace q4:w2.cell? ⟨w.heap.size,4,none⟩=some (.slice v.t v.nt v.ct):=k2.cell 4 rfl;go_wp2;go_ret;exact⟨zy (by rw[HB.out]),B2⟩
 replace h2:=xH1 h2;rcases Bool.eq_false_or_eq_true (zai p.barriers 1 6) with h3|h3
 rotate_left
 ·have HB:Hid (zu p=false):=xH1 (by unfold zu;rw[h3];simp);replace h3:=xH1 h3;go_enter Tryz.func101,Tryz.ntmps101;go_wp2_with fail;refine(zT v.s v.ns v.cs p.sems 1 9 _ ls.out (by have:=zz.out;omega) (hr.rs.below B0)).mono ?_;rintro e w1 ⟨rfl,hb⟩;rw[h1.out];have B1:=B0.trans (hb.mono B0.size);have k1:=k0.below hb;clear hb;have q0:w1.cell? ⟨w.heap.size,0,none⟩=some (.slice v.s v.ns v.cs):=k1.cell 0 rfl;have q1:w1.cell? ⟨w.heap.size,1,none⟩=some (.slice v.g v.ng v.cg):=k1.cell 1 rfl;have q2:w1.cell? ⟨w.heap.size,2,none⟩=some (.slice v.b v.nb v.cb):=k1.cell 2 rfl;have q3:w1.cell? ⟨w.heap.size,3,none⟩=some (.slice v.r v.nr v.cr):=k1.cell 3 rfl;have q4:w1.cell? ⟨w.heap.size,4,none⟩=some (.slice v.t v.nt v.ct):=k1.cell 4 rfl;go_wp2_with fail;refine(zT v.g v.ng v.cg p.groups 0 9 _ lg.out (by have:=zz.out;omega) (hr.rg.below B1)).mono ?_;rintro e w2 ⟨rfl,hb⟩;rw[h2.out];have B2:=B1.trans (hb.mono B1.size);have k2:=k1.below hb;clear hb;replace q0:w2.cell? ⟨w.heap.size,0,none⟩=some (.slice v.s v.ns v.cs):=k2.cell 0 rfl;replace q1:w2.cell? ⟨w.heap.size,1,none⟩=some (.slice v.g v.ng v.cg):=k2.cell 1 rfl;replace q2:w2.cell? ⟨w.heap.size,2,none⟩=some (.slice v.b v.nb v.cb):=k2.cell 2 rfl
  replace q3:w2.cell? ⟨w.heap.size,3,none⟩=some (.slice v.r v.nr v.cr):=k2.cell 3 rfl;replace q4:w2.cell? ⟨w.heap.size,4,none⟩=some (.slice v.t v.nt v.ct):=k2.cell 4 rfl;go_wp2_with fail;refine(zT v.b v.nb v.cb p.barriers 1 6 _ lb.out (by have:=zz.out;omega) (hr.rb.below B2)).mono ?_;rintro e w3 ⟨rfl,hb⟩;rw[h3.out];have B3:=B2.trans (hb.mono B2.size);have k3:=k2.below hb;clear hb;replace q0:w3.cell? ⟨w.heap.size,0,none⟩=some (.slice v.s v.ns v.cs):=k3.cell 0 rfl;replace q1:w3.cell? ⟨w.heap.size,1,none⟩=some (.slice v.g v.ng v.cg):=k3.cell 1 rfl;replace q2:w3.cell? ⟨w.heap.size,2,none⟩=some (.slice v.b v.nb v.cb):=k3.cell 2 rfl;replace q3:w3.cell? ⟨w.heap.size,3,none⟩=some (.slice v.r v.nr v.cr):=k3.cell 3 rfl;replace q4:w3.cell? ⟨w.heap.size,4,none⟩=some (.slice v.t v.nt v.ct):=k3.cell 4 rfl;go_wp2;go_ret;exact⟨zy (by rw[HB.out]),B3⟩
 replace h3:=xH1 h3;rcases Bool.eq_false_or_eq_true (zai p.rooms 0 4) with h4|h4
 rotate_left
 ·have HB:Hid (zu p=false):=xH1 (by unfold zu;rw[h4];simp);replace h4:=xH1 h4;go_enter Tryz.func101,Tryz.ntmps101;go_wp2_with fail;refine(zT v.s v.ns v.cs p.sems 1 9 _ ls.out (by have:=zz.out;omega) (hr.rs.below B0)).mono ?_;rintro e w1 ⟨rfl,hb⟩;rw[h1.out];have B1:=B0.trans (hb.mono B0.size);have k1:=k0.below hb;clear hb;have q0:w1.cell? ⟨w.heap.size,0,none⟩=some (.slice v.s v.ns v.cs):=k1.cell 0 rfl;have q1:w1.cell? ⟨w.heap.size,1,none⟩=some (.slice v.g v.ng v.cg):=k1.cell 1 rfl;have q2:w1.cell? ⟨w.heap.size,2,none⟩=some (.slice v.b v.nb v.cb):=k1.cell 2 rfl;have q3:w1.cell? ⟨w.heap.size,3,none⟩=some (.slice v.r v.nr v.cr):=k1.cell 3 rfl;have q4:w1.cell? ⟨w.heap.size,4,none⟩=some (.slice v.t v.nt v.ct):=k1.cell 4 rfl;go_wp2_with fail;refine(zT v.g v.ng v.cg p.groups 0 9 _ lg.out (by have:=zz.out;omega) (hr.rg.below B1)).mono ?_;rintro e w2 ⟨rfl,hb⟩;rw[h2.out];have B2:=B1.trans (hb.mono B1.size);have k2:=k1.below hb;clear hb;replace q0:w2.cell? ⟨w.heap.size,0,none⟩=some (.slice v.s v.ns v.cs):=k2.cell 0 rfl;replace q1:w2.cell? ⟨w.heap.size,1,none⟩=some (.slice v.g v.ng v.cg):=k2.cell 1 rfl;replace q2:w2.cell? ⟨w.heap.size,2,none⟩=some (.slice v.b v.nb v.cb):=k2.cell 2 rfl
  replace q3:w2.cell? ⟨w.heap.size,3,none⟩=some (.slice v.r v.nr v.cr):=k2.cell 3 rfl;replace q4:w2.cell? ⟨w.heap.size,4,none⟩=some (.slice v.t v.nt v.ct):=k2.cell 4 rfl;go_wp2_with fail;refine(zT v.b v.nb v.cb p.barriers 1 6 _ lb.out (by have:=zz.out;omega) (hr.rb.below B2)).mono ?_;rintro e w3 ⟨rfl,hb⟩;rw[h3.out];have B3:=B2.trans (hb.mono B2.size);have k3:=k2.below hb;clear hb;replace q0:w3.cell? ⟨w.heap.size,0,none⟩=some (.slice v.s v.ns v.cs):=k3.cell 0 rfl;replace q1:w3.cell? ⟨w.heap.size,1,none⟩=some (.slice v.g v.ng v.cg):=k3.cell 1 rfl;replace q2:w3.cell? ⟨w.heap.size,2,none⟩=some (.slice v.b v.nb v.cb):=k3.cell 2 rfl;replace q3:w3.cell? ⟨w.heap.size,3,none⟩=some (.slice v.r v.nr v.cr):=k3.cell 3 rfl;replace q4:w3.cell? ⟨w.heap.size,4,none⟩=some (.slice v.t v.nt v.ct):=k3.cell 4 rfl;go_wp2_with fail;refine(zT v.r v.nr v.cr p.rooms 0 4 _ lr.out (by have:=zz.out;omega) (hr.rr.below B3)).mono ?_;rintro e w4 ⟨rfl,hb⟩;rw[h4.out];have B4:=B3.trans (hb.mono B3.size);have k4:=k3.below hb;clear hb;replace q0:w4.cell? ⟨w.heap.size,0,none⟩=some (.slice v.s v.ns v.cs):=k4.cell 0 rfl;replace q1:w4.cell? ⟨w.heap.size,1,none⟩=some (.slice v.g v.ng v.cg):=k4.cell 1 rfl
  replace q2:w4.cell? ⟨w.heap.size,2,none⟩=some (.slice v.b v.nb v.cb):=k4.cell 2 rfl;replace q3:w4.cell? ⟨w.heap.size,3,none⟩=some (.slice v.r v.nr v.cr):=k4.cell 3 rfl;replace q4:w4.cell? ⟨w.heap.size,4,none⟩=some (.slice v.t v.nt v.ct):=k4.cell 4 rfl;go_wp2;go_ret;exact⟨zy (by rw[HB.out]),B4⟩
 replace h4:=xH1 h4;by_cases h5:v.nt<1
 ·have HB:Hid (zu p=false):=xH1 (by
   have:=lt.out;unfold zu;rw[show decide (1<=p.threads.length)=false from xDj (by omega)];simp)
  have t5:decide ((v.nt:Int)<1)=true:=by simp;omega
  go_enter Tryz.func101,Tryz.ntmps101;go_wp2_with fail;refine(zT v.s v.ns v.cs p.sems 1 9 _ ls.out (by have:=zz.out;omega) (hr.rs.below B0)).mono ?_;rintro e w1 ⟨rfl,hb⟩;rw[h1.out];have B1:=B0.trans (hb.mono B0.size);have k1:=k0.below hb;clear hb;have q0:w1.cell? ⟨w.heap.size,0,none⟩=some (.slice v.s v.ns v.cs):=k1.cell 0 rfl;have q1:w1.cell? ⟨w.heap.size,1,none⟩=some (.slice v.g v.ng v.cg):=k1.cell 1 rfl;have q2:w1.cell? ⟨w.heap.size,2,none⟩=some (.slice v.b v.nb v.cb):=k1.cell 2 rfl;have q3:w1.cell? ⟨w.heap.size,3,none⟩=some (.slice v.r v.nr v.cr):=k1.cell 3 rfl;have q4:w1.cell? ⟨w.heap.size,4,none⟩=some (.slice v.t v.nt v.ct):=k1.cell 4 rfl;go_wp2_with fail;refine(zT v.g v.ng v.cg p.groups 0 9 _ lg.out (by have:=zz.out;omega) (hr.rg.below B1)).mono ?_;rintro e w2 ⟨rfl,hb⟩;rw[h2.out];have B2:=B1.trans (hb.mono B1.size);have k2:=k1.below hb;clear hb;replace q0:w2.cell? ⟨w.heap.size,0,none⟩=some (.slice v.s v.ns v.cs):=k2.cell 0 rfl;replace q1:w2.cell? ⟨w.heap.size,1,none⟩=some (.slice v.g v.ng v.cg):=k2.cell 1 rfl;replace q2:w2.cell? ⟨w.heap.size,2,none⟩=some (.slice v.b v.nb v.cb):=k2.cell 2 rfl;replace q3:w2.cell? ⟨w.heap.size,3,none⟩=some (.slice v.r v.nr v.cr):=k2.cell 3 rfl
  replace q4:w2.cell? ⟨w.heap.size,4,none⟩=some (.slice v.t v.nt v.ct):=k2.cell 4 rfl;go_wp2_with fail;refine(zT v.b v.nb v.cb p.barriers 1 6 _ lb.out (by have:=zz.out;omega) (hr.rb.below B2)).mono ?_;rintro e w3 ⟨rfl,hb⟩;rw[h3.out];have B3:=B2.trans (hb.mono B2.size);have k3:=k2.below hb;clear hb;replace q0:w3.cell? ⟨w.heap.size,0,none⟩=some (.slice v.s v.ns v.cs):=k3.cell 0 rfl;replace q1:w3.cell? ⟨w.heap.size,1,none⟩=some (.slice v.g v.ng v.cg):=k3.cell 1 rfl;replace q2:w3.cell? ⟨w.heap.size,2,none⟩=some (.slice v.b v.nb v.cb):=k3.cell 2 rfl;replace q3:w3.cell? ⟨w.heap.size,3,none⟩=some (.slice v.r v.nr v.cr):=k3.cell 3 rfl;replace q4:w3.cell? ⟨w.heap.size,4,none⟩=some (.slice v.t v.nt v.ct):=k3.cell 4 rfl;go_wp2_with fail;refine(zT v.r v.nr v.cr p.rooms 0 4 _ lr.out (by have:=zz.out;omega) (hr.rr.below B3)).mono ?_;rintro e w4 ⟨rfl,hb⟩;rw[h4.out];have B4:=B3.trans (hb.mono B3.size);have k4:=k3.below hb;clear hb;replace q0:w4.cell? ⟨w.heap.size,0,none⟩=some (.slice v.s v.ns v.cs):=k4.cell 0 rfl;replace q1:w4.cell? ⟨w.heap.size,1,none⟩=some (.slice v.g v.ng v.cg):=k4.cell 1 rfl;replace q2:w4.cell? ⟨w.heap.size,2,none⟩=some (.slice v.b v.nb v.cb):=k4.cell 2 rfl
  replace q3:w4.cell? ⟨w.heap.size,3,none⟩=some (.slice v.r v.nr v.cr):=k4.cell 3 rfl;replace q4:w4.cell? ⟨w.heap.size,4,none⟩=some (.slice v.t v.nt v.ct):=k4.cell 4 rfl;go_wp2;go_ret;exact⟨zy (by rw[HB.out]),B4⟩
 have t5:decide ((v.nt:Int)<1)=false:=by simp;omega
 by_cases h6:4<v.nt
 ·have HB:Hid (zu p=false):=xH1 (by
   have:=lt.out;unfold zu;rw[show decide (p.threads.length<=4)=false from xDj (by omega)];simp)
  have t6:decide ((4:Int)<v.nt)=true:=by simp;omega
  go_enter Tryz.func101,Tryz.ntmps101;go_wp2_with fail;refine(zT v.s v.ns v.cs p.sems 1 9 _ ls.out (by have:=zz.out;omega) (hr.rs.below B0)).mono ?_;rintro e w1 ⟨rfl,hb⟩;rw[h1.out];have B1:=B0.trans (hb.mono B0.size);have k1:=k0.below hb;clear hb;have q0:w1.cell? ⟨w.heap.size,0,none⟩=some (.slice v.s v.ns v.cs):=k1.cell 0 rfl;have q1:w1.cell? ⟨w.heap.size,1,none⟩=some (.slice v.g v.ng v.cg):=k1.cell 1 rfl;have q2:w1.cell? ⟨w.heap.size,2,none⟩=some (.slice v.b v.nb v.cb):=k1.cell 2 rfl;have q3:w1.cell? ⟨w.heap.size,3,none⟩=some (.slice v.r v.nr v.cr):=k1.cell 3 rfl;have q4:w1.cell? ⟨w.heap.size,4,none⟩=some (.slice v.t v.nt v.ct):=k1.cell 4 rfl;go_wp2_with fail;refine(zT v.g v.ng v.cg p.groups 0 9 _ lg.out (by have:=zz.out;omega) (hr.rg.below B1)).mono ?_;rintro e w2 ⟨rfl,hb⟩;rw[h2.out];have B2:=B1.trans (hb.mono B1.size);have k2:=k1.below hb;clear hb;replace q0:w2.cell? ⟨w.heap.size,0,none⟩=some (.slice v.s v.ns v.cs):=k2.cell 0 rfl;replace q1:w2.cell? ⟨w.heap.size,1,none⟩=some (.slice v.g v.ng v.cg):=k2.cell 1 rfl;replace q2:w2.cell? ⟨w.heap.size,2,none⟩=some (.slice v.b v.nb v.cb):=k2.cell 2 rfl;replace q3:w2.cell? ⟨w.heap.size,3,none⟩=some (.slice v.r v.nr v.cr):=k2.cell 3 rfl
  replace q4:w2.cell? ⟨w.heap.size,4,none⟩=some (.slice v.t v.nt v.ct):=k2.cell 4 rfl;go_wp2_with fail;refine(zT v.b v.nb v.cb p.barriers 1 6 _ lb.out (by have:=zz.out;omega) (hr.rb.below B2)).mono ?_;rintro e w3 ⟨rfl,hb⟩;rw[h3.out];have B3:=B2.trans (hb.mono B2.size);have k3:=k2.below hb;clear hb;replace q0:w3.cell? ⟨w.heap.size,0,none⟩=some (.slice v.s v.ns v.cs):=k3.cell 0 rfl;replace q1:w3.cell? ⟨w.heap.size,1,none⟩=some (.slice v.g v.ng v.cg):=k3.cell 1 rfl;replace q2:w3.cell? ⟨w.heap.size,2,none⟩=some (.slice v.b v.nb v.cb):=k3.cell 2 rfl;replace q3:w3.cell? ⟨w.heap.size,3,none⟩=some (.slice v.r v.nr v.cr):=k3.cell 3 rfl;replace q4:w3.cell? ⟨w.heap.size,4,none⟩=some (.slice v.t v.nt v.ct):=k3.cell 4 rfl;go_wp2_with fail;refine(zT v.r v.nr v.cr p.rooms 0 4 _ lr.out (by have:=zz.out;omega) (hr.rr.below B3)).mono ?_;rintro e w4 ⟨rfl,hb⟩;rw[h4.out];have B4:=B3.trans (hb.mono B3.size);have k4:=k3.below hb;clear hb;replace q0:w4.cell? ⟨w.heap.size,0,none⟩=some (.slice v.s v.ns v.cs):=k4.cell 0 rfl;replace q1:w4.cell? ⟨w.heap.size,1,none⟩=some (.slice v.g v.ng v.cg):=k4.cell 1 rfl;replace q2:w4.cell? ⟨w.heap.size,2,none⟩=some (.slice v.b v.nb v.cb):=k4.cell 2 rfl
  replace q3:w4.cell? ⟨w.heap.size,3,none⟩=some (.slice v.r v.nr v.cr):=k4.cell 3 rfl;replace q4:w4.cell? ⟨w.heap.size,4,none⟩=some (.slice v.t v.nt v.ct):=k4.cell 4 rfl;go_wp2;go_ret;exact⟨zy (by rw[HB.out]),B4⟩
 have t6:decide ((4:Int)<v.nt)=false:=by simp;omega
 obtain⟨vs,hT⟩:=hr.rt;go_enter Tryz.func101,Tryz.ntmps101;go_wp2_with fail;refine(zT v.s v.ns v.cs p.sems 1 9 _ ls.out (by have:=zz.out;omega) (hr.rs.below B0)).mono ?_;rintro e w1 ⟨rfl,hb⟩;rw[h1.out];have B1:=B0.trans (hb.mono B0.size);have k1:=k0.below hb;clear hb;have q0:w1.cell? ⟨w.heap.size,0,none⟩=some (.slice v.s v.ns v.cs):=k1.cell 0 rfl;have q1:w1.cell? ⟨w.heap.size,1,none⟩=some (.slice v.g v.ng v.cg):=k1.cell 1 rfl;have q2:w1.cell? ⟨w.heap.size,2,none⟩=some (.slice v.b v.nb v.cb):=k1.cell 2 rfl;have q3:w1.cell? ⟨w.heap.size,3,none⟩=some (.slice v.r v.nr v.cr):=k1.cell 3 rfl;have q4:w1.cell? ⟨w.heap.size,4,none⟩=some (.slice v.t v.nt v.ct):=k1.cell 4 rfl;go_wp2_with fail;refine(zT v.g v.ng v.cg p.groups 0 9 _ lg.out (by have:=zz.out;omega) (hr.rg.below B1)).mono ?_;rintro e w2 ⟨rfl,hb⟩;rw[h2.out];have B2:=B1.trans (hb.mono B1.size);have k2:=k1.below hb;clear hb;replace q0:w2.cell? ⟨w.heap.size,0,none⟩=some (.slice v.s v.ns v.cs):=k2.cell 0 rfl;replace q1:w2.cell? ⟨w.heap.size,1,none⟩=some (.slice v.g v.ng v.cg):=k2.cell 1 rfl;replace q2:w2.cell? ⟨w.heap.size,2,none⟩=some (.slice v.b v.nb v.cb):=k2.cell 2 rfl
 replace q3:w2.cell? ⟨w.heap.size,3,none⟩=some (.slice v.r v.nr v.cr):=k2.cell 3 rfl;replace q4:w2.cell? ⟨w.heap.size,4,none⟩=some (.slice v.t v.nt v.ct):=k2.cell 4 rfl;go_wp2_with fail;refine(zT v.b v.nb v.cb p.barriers 1 6 _ lb.out (by have:=zz.out;omega) (hr.rb.below B2)).mono ?_;rintro e w3 ⟨rfl,hb⟩;rw[h3.out];have B3:=B2.trans (hb.mono B2.size);have k3:=k2.below hb;clear hb;replace q0:w3.cell? ⟨w.heap.size,0,none⟩=some (.slice v.s v.ns v.cs):=k3.cell 0 rfl;replace q1:w3.cell? ⟨w.heap.size,1,none⟩=some (.slice v.g v.ng v.cg):=k3.cell 1 rfl;replace q2:w3.cell? ⟨w.heap.size,2,none⟩=some (.slice v.b v.nb v.cb):=k3.cell 2 rfl;replace q3:w3.cell? ⟨w.heap.size,3,none⟩=some (.slice v.r v.nr v.cr):=k3.cell 3 rfl;replace q4:w3.cell? ⟨w.heap.size,4,none⟩=some (.slice v.t v.nt v.ct):=k3.cell 4 rfl;go_wp2_with fail;refine(zT v.r v.nr v.cr p.rooms 0 4 _ lr.out (by have:=zz.out;omega) (hr.rr.below B3)).mono ?_;rintro e w4 ⟨rfl,hb⟩;rw[h4.out];have B4:=B3.trans (hb.mono B3.size);have k4:=k3.below hb;clear hb;replace q0:w4.cell? ⟨w.heap.size,0,none⟩=some (.slice v.s v.ns v.cs):=k4.cell 0 rfl;replace q1:w4.cell? ⟨w.heap.size,1,none⟩=some (.slice v.g v.ng v.cg):=k4.cell 1 rfl
 replace q2:w4.cell? ⟨w.heap.size,2,none⟩=some (.slice v.b v.nb v.cb):=k4.cell 2 rfl;replace q3:w4.cell? ⟨w.heap.size,3,none⟩=some (.slice v.r v.nr v.cr):=k4.cell 3 rfl;replace q4:w4.cell? ⟨w.heap.size,4,none⟩=some (.slice v.t v.nt v.ct):=k4.cell 4 rfl;go_wp2;clear k0 k1 k2 k3 B0 B1 B2 B3;obtain⟨b1,o1,ea,g1'⟩:=(hT.below B4).thread (by have:=lt.out;omega);rw[ea] at q4;have HRP:Hid (∀w',RdP w' v p->RdP w' ⟨v.s,v.ns,v.cs,v.g,v.ng,v.cg,v.b,v.nb,v.cb,v.r,v.nr,v.cr,some ⟨b1,o1,none⟩,v.nt,v.ct⟩ p):=xH1 (by rw[<-ea];exact λ_ h=>h);have G1:=xH1 g1';rw[ea];clear g1' ea hT w1 w2 w3
 go_loopw [44] (λi wr=>∃i':Nat,i'<=v.nt/\i= .int .i64 i'/\Hid (∀j,j<i'->(p.threads.getD j []).length<=8/\∀k,k<(p.threads.getD j []).length->zF p ((p.threads.getD j []).getD k noOp)=true)/\xW w4 wr) (λi _=>v.nt-(intOf i).toNat)
 case atStart=>exact⟨0,by omega,rfl,xH1 (by omega),Below.refl _ _⟩
 case round=>
  obtain⟨i,hi,rfl,hall,hb0⟩:=hrel;have c0:=zd hb0 q0;have c1:=zd hb0 q1;have c2:=zd hb0 q2;have c3:=zd hb0 q3;have c4:=zd hb0 q4;have B0:xW w wr:=B4.trans (hb0.mono B4.size);by_cases hlt:i<v.nt
  ·obtain⟨wo,hwo⟩:∃wo:World,wo=wr:=⟨_,rfl⟩
   rw[<-hwo] at hb0 c0 c1 c2 c3 c4 B0⊢;clear hwo wr;obtain⟨a2,x2,g1,r2⟩:=G1.out i (by have:=lt.out;omega);obtain⟨m,hm⟩:∃m,m=(p.threads.getD i []).length:=⟨_,rfl⟩
   rw[<-hm] at g1;replace g1:=zd hb0 g1;replace r2:=r2.below hb0;have hmm:=Z6.out i;rw[<-hm] at hmm;have HM:=xH1 hm;clear hm;by_cases hm8:8<m
   ·have e9:decide ((8:Int)<m)=true:=by simp;omega
    have HB:Hid (zu p=false):=xH1 (zez (i:=i) (by have:=lt.out;omega) (by have:=HM.out;omega));go_wp2;go_ret;exact⟨zy (by rw[HB.out]),B0⟩
   have e9:decide ((8:Int)<m)=false:=by simp;omega
   go_wp2
   go_loopw [53] (λj wk=>∃k:Nat,k<=m/\j= .int .i64 k/\Hid (∀j,j<k->zF p ((p.threads.getD i []).getD j noOp)=true)/\xW wo wk) (λj _=>m-(intOf j).toNat)
   case atStart=>exact⟨0,by omega,rfl,xH1 (by omega),Below.refl _ _⟩
   case round=>
    obtain⟨k,hk,rfl,hok,hbk⟩:=hrel;have d0:=zd hbk c0;have d1:=zd hbk c1;have d2:=zd hbk c2;have d3:=zd hbk c3;have d4:=zd hbk c4;have B1:xW w wr:=B0.trans (hbk.mono B0.size);have BW:xW w4 wr:=hb0.trans (hbk.mono hb0.size);by_cases hkl:k<m
    ·obtain⟨b2,o2,ea2,g2'⟩:=r2.op (by have:=HM.out;omega);obtain⟨g2a,g2b,g2c⟩:=g2' k (by have:=HM.out;omega);obtain⟨o,ho⟩:∃o,o=(p.threads.getD i []).getD k noOp:=⟨_,rfl⟩
     rw[<-ho] at g2a g2b g2c;replace g2a:=zd hbk g2a;replace g2b:=zd hbk g2b;replace g2c:=zd hbk g2c;have HO:=xH1 ho;subst ea2;clear g2' ho;have bA:xW wr (wr.alloc (.cells #[.int .i64 o.kind,.int .i64 o.on,.int .i64 o.arg] 113)):=xA1;have e0:=zd bA d0;have e1:=zd bA d1;have e2:=zd bA d2;have e3:=zd bA d3;have e4:=zd bA d4;have HR2:Hid (RdP (wr.alloc (.cells #[.int .i64 o.kind,.int .i64 o.on,.int .i64 o.arg] 113)) ⟨v.s,v.ns,v.cs,v.g,v.ng,v.cg,v.b,v.nb,v.cb,v.r,v.nr,v.cr,some ⟨b1,o1,none⟩,v.nt,v.ct⟩ p):=xH1 (HRP.out _ ((hr.below B1).below bA));rcases Bool.eq_false_or_eq_true (zF p o) with hv|hv
     ·have HV:=xH1 hv;clear hv;go_wp2_with fail;refine(zep ⟨v.s,v.ns,v.cs,v.g,v.ng,v.cg,v.b,v.nb,v.cb,v.r,v.nr,v.cr,some ⟨b1,o1,none⟩,v.nt,v.ct⟩ p o _ HR2.out zz.out).mono ?_;rintro e w2 ⟨rfl,hb3⟩;rw[HV.out];have hbw:xW wr w2:=bA.trans (hb3.mono bA.size);clear bA hb3;go_wp2
      go_roundw
      case rel=>exact⟨k+1,by omega,by go_num,xH1 (λj hj=>by
       rcases Nat.lt_or_ge j k with h|h
       ·exact hok.out j h
       ·have:j=k:=(by omega);subst this;rw[<-HO.out];exact HV.out),hbk.trans (hbw.mono hbk.size)⟩
      case measure=>simp[intOf];omega
     ·have HV:=xH1 hv;clear hv;have HB:Hid (zu p=false):=xH1 (zeV (i:=i) (k:=k) (by have:=lt.out;omega) (by have:=HM.out;omega) (by rw[<-HO.out];exact HV.out));go_wp2_with fail;refine(zep ⟨v.s,v.ns,v.cs,v.g,v.ng,v.cg,v.b,v.nb,v.cb,v.r,v.nr,v.cr,some ⟨b1,o1,none⟩,v.nt,v.ct⟩ p o _ HR2.out zz.out).mono ?_;rintro e w2 ⟨rfl,hb3⟩;rw[HV.out];have hbw:xW wr w2:=bA.trans (hb3.mono bA.size);clear bA hb3;go_wp2;go_ret;exact⟨zy (by rw[HB.out]),B1.trans (hbw.mono B1.size)⟩
    ·have hkm:k=m:=(by omega);subst hkm;go_wp2
     go_roundw
     case rel=>exact⟨i+1,by omega,by go_num,xH1 (λj hj=>by
      rcases Nat.lt_or_ge j i with h|h
      ·exact hall.out j h
      ·have:j=i:=(by omega);subst this;exact⟨by rw[<-HM.out];omega,by rw[<-HM.out];exact hok.out⟩),BW⟩
     case measure=>simp[intOf];omega
  ·have hkm:i=v.nt:=(by omega);subst hkm;have HB:Hid (zu p=true):=xH1 (zfh h1.out h2.out h3.out h4.out (by have:=lt.out;omega) (by have:=lt.out;omega) (by rw[lt.out];exact hall.out));go_wp2;go_ret;exact⟨zy (by rw[HB.out]),B0⟩
theorem zkd {p:Pg} (h:zu p=true) {i k:Nat} (hi:i<p.threads.length) (hk:k<(p.threads.getD i []).length):zF p ((p.threads.getD i []).getD k noOp)=true:=by
 cases hc:zF p ((p.threads.getD i []).getD k noOp) with
 |true=>rfl
 |false=>rw[zeV hi hk hc] at h;cases h
theorem zcn {p:Pg} (h:zu p=true):1<=p.threads.length/\p.threads.length<=4:=by
 unfold zu at h;simp only[Bool.and_eq_true,decide_eq_true_eq] at h;omega
theorem zcm {p:Pg} {o:OpD} (h:zF p o=true):(1<=o.kind/\o.kind<=10)/\(0<=o.on/\o.on<zw p o.kind)/\zaR p o=true:=by
 unfold zF at h;simp only[Bool.and_eq_true,decide_eq_true_eq] at h;exact⟨⟨h.1.1.1.1,h.1.1.1.2⟩,⟨h.1.1.2,h.1.2⟩,h.2⟩

theorem z9 (a:Option Addr) (n c:Nat) (xs:List Int) (w:World) (hl:xs.length=n) (hn:n<=1099511627776) (hr:Rd w a (ints xs)):
  Calls Tryz.prog 62 #[.slice a n c] w λe w'=>∃a' c',e= .returned (.slice a' n c')/\w'.ownsRow w.heap.size 3 1 (.slice a' n c') n (ints xs)/\xW w w':=by
 have H1:Hid ((ints xs).length=n*1):=xH1 (by simp[hl]);clear hl;go_enter Tryz.func62,Tryz.ntmps62;go_wp2_with (at_builtin;refine zax rfl _ _ 22 rfl Tryz.underlying22 zM rfl (by decide) rfl (zjO _ w.heap.size _ _) rfl H1.out hr (zaa xs) (by omega) (by decide) xL1 ?_;intro a1 c1 w1 hown1 hgr1);go_wp2;go_ret;exact⟨a1,c1,by simp,by simpa using hown1,zA hgr1 xL1 (by simp[ze])⟩
theorem zdd {l:List Int} {lo hi:Int} (h:zai l lo hi=true):l.length<=3/\∀j,j<l.length->lo<=l.getD j 0/\l.getD j 0<=hi:=by
 unfold zai at h;simp only[Bool.and_eq_true,decide_eq_true_eq,List.all_eq_true] at h;refine⟨h.1,λj hj=> ?_⟩;have e:l.getD j 0=l[j]:=by simp[List.getD,hj]
 rw[e];exact h.2 _ (List.getElem_mem hj)
theorem zdD {p:Pg} (h:zu p=true):zai p.sems 1 9=true/\zai p.groups 0 9=true/\zai p.barriers 1 6=true/\zai p.rooms 0 4=true:=by
 unfold zu at h;simp only[Bool.and_eq_true] at h;exact⟨h.1.1.1.1.1.1,h.1.1.1.1.1.2,h.1.1.1.1.2,h.1.1.1.2⟩





theorem zab {w:World} {G:Nat} {cs:Array Value} {t:TypeId} (h:Blk w G cs t) {B:Nat} {e:TypeId} {sz n c:Nat} {a:Option Addr} {xs:List Value} (ho:w.ownsRow B e sz (.slice a n c) n xs) (hne:t≠e):ze a≠some G:=by
 intro hk;rcases ho.2 with ⟨h',h0⟩|⟨g,cap,cur,h',hb,hg,hnc,hcm,hcs,htake⟩
 ·simp only[Value.slice.injEq] at h';rw[h'.1] at hk;cases hk
 ·simp only[Value.slice.injEq,true_and] at h';obtain⟨rfl,rfl⟩:=h';obtain rfl:g=G:=by simpa[ze] using hk
  unfold Blk at h;rw[h] at hg;simp only[xDn,Obj.cells.injEq] at hg;exact hne hg.2.1
theorem zm {w:World} {B B':Nat} {e e':TypeId} {sz sz' n n' c c':Nat} {a a':Option Addr} {xs xs':List Value} (h:w.ownsRow B e sz (.slice a n c) n xs) (h':w.ownsRow B' e' sz' (.slice a' n' c') n' xs') (hne:e≠e'):∀k,ze a=some k->ze a'=some k->False:=by
 intro k hk hk';rcases h.2 with ⟨h1,h0⟩|⟨g,cap,cur,h1,hb,hg,_⟩
 ·simp only[Value.slice.injEq] at h1;rw[h1.1] at hk;cases hk
 ·simp only[Value.slice.injEq,true_and] at h1;obtain⟨rfl,rfl⟩:=h1;obtain rfl:g=k:=by simpa[ze] using hk
  exact zab hg h' hne hk'
theorem RdP.thr {w:World} {v:PV} {p:Pg} (h:RdP w v p) (hne:0<p.threads.length):∃b o,v.t=some ⟨b,o,none⟩/\∀i,i<p.threads.length->∃a' c',w.cell? ⟨b,o+i,none⟩=some (.slice a' (p.threads.getD i []).length c')/\Rd w a' (opsV (p.threads.getD i [])):=by
 obtain⟨vs,hT⟩:=h.rt;exact hT.thread hne







theorem zb5 {w:World} {g B:Nat} {cs:Array Value} {e:TypeId} (h:Blk w g cs e) (hB:B<=g) {sz m:Nat} (hm:cs.size=m*sz) (hle:m<=maxLen):w.ownsRow B e sz (.slice (some ⟨g,0,none⟩) m m) m cs.toList:=
 ⟨by simpa using hm,.inr ⟨g,m,cs,rfl,hB,h,Nat.le_refl _,hle,hm,by rw[<-hm,<-Array.length_toList,List.take_length]⟩⟩
def over (o:Nat) (us cs:List Value):List Value:=cs.take o++us++cs.drop (o+us.length)
theorem zj3 (o:Nat) (u:Value) (us cs:List Value) (h:o+us.length+1<=cs.length):over (o+1) us (cs.set o u)=over o (u::us) cs:=by
 unfold over;have e1:(cs.set o u).take (o+1)=cs.take o++[u]:=by
  rw[List.take_add_one,List.take_set_of_le (Nat.le_refl o)];simp[show o<cs.length by omega]
 have e2:(cs.set o u).drop (o+1+us.length)=cs.drop (o+(us.length+1)):=by
  rw[List.drop_set_of_lt (by omega)];congr 1;omega
 rw[e1,e2];simp
theorem zco {B:Nat} {e:TypeId} {sz n c g:Nat}:∀(us:List Value) (o:Nat) (w:World) (cs:List Value),w.ownsRow B e sz (.slice (some ⟨g,0,none⟩) n c) n cs->o+us.length<=cs.length->
  (w.setCells g o us).ownsRow B e sz (.slice (some ⟨g,0,none⟩) n c) n (over o us cs)/\w.grownBy (w.setCells g o us) (some g)
 |[],o,w,cs,h,_=>by
  have:over o [] cs=cs:=by simp[over]
  rw[this];exact⟨h,World.grownBy.refl _ _⟩
 |u::us,o,w,cs,h,hl=>by
  simp only[List.length_cons] at hl;have h1:=zak h o u rfl;have h2:=zco us (o+1) (w.setCell ⟨g,o,none⟩ u) (cs.set o u) h1.1 (by simp;omega);rw[zj3 o u us cs (by omega)] at h2;exact⟨h2.1,za5 h1.2 h2.2⟩
theorem zeq {w:World} {B:Nat} {e:TypeId} {sz n c g:Nat} {cs:List Value} (h:w.ownsRow B e sz (.slice (some ⟨g,0,none⟩) n c) n cs):
  ∃cur:List Value,w.ownsRow B e sz (.slice (some ⟨g,0,none⟩) c c) c cur/\cur.take (n*sz)=cs/\n<=c/\c<=maxLen/\cur.length=c*sz:=by
 obtain⟨hl,⟨h',_⟩|⟨g',cap',cur,h',hb,hg,h1,h2,h3,h4⟩⟩:=h
 ·cases h'
 ·cases h'
  refine⟨cur.toList,⟨by simpa using h3,.inr ⟨g,c,cur,rfl,hb,hg,Nat.le_refl _,h2,h3,?_⟩⟩,h4,h1,h2,by simpa using h3⟩;rw[xDt (by simp;omega)]
theorem zf4 {w:World} {B:Nat} {e:TypeId} {sz m c g:Nat} {cur:List Value} (h:w.ownsRow B e sz (.slice (some ⟨g,0,none⟩) c c) c cur) (hm:m<=c):
  w.ownsRow B e sz (.slice (some ⟨g,0,none⟩) m c) m (cur.take (m*sz)):=by
 obtain⟨hl,⟨h',_⟩|⟨g',cap',cc,h',hb,hg,h1,h2,h3,h4⟩⟩:=h
 ·cases h'
 ·cases h'
  have hmc:m*sz<=c*sz:=Nat.mul_le_mul_right sz hm;have e1:cc.toList=cur:=by rw[<-h4,xDt (by simp;omega)]
  refine⟨by rw[xDp];omega,.inr ⟨g,c,cc,rfl,hb,hg,hm,h2,h3,by rw[e1]⟩⟩
def zcy (e:TypeId) (size n:Nat) (w w':World):Prop:=∀(B':Nat) (az:Option Addr) (k cz:Nat) (ys:List Value),k<=n->w.ownsRow B' e size (.slice az k cz) k ys->w'.ownsRow B' e size (.slice az k cz) k ys
theorem ze5 {e:TypeId} {size n:Nat} {w w':World} (h:w.grownBy w' none):zcy e size n w w':=λ_ _ _ _ _ _ ho=>zo ho h (λ_ _ h2=>by cases h2)
theorem zjf {w:World} {B:Nat} {e:TypeId} {sz n c g:Nat} {cs:List Value} (h:w.ownsRow B e sz (.slice (some ⟨g,0,none⟩) n c) n cs):∃cur:Array Value,w.heap[g]? =some (.cells cur e)/\cur.size=c*sz:=by
 rcases h.2 with ⟨h',_⟩|⟨g',cap',cur,h',hb,hg,h1,h2,h3,h4⟩
 ·cases h'
 ·cases h'
  exact⟨cur,hg,h3⟩
theorem zjw {w:World} {B:Nat} {e:TypeId} {sz n c g:Nat} {cs news:List Value} (h:w.ownsRow B e sz (.slice (some ⟨g,0,none⟩) n c) n cs) (hl:n*sz+news.length<=c*sz):zcy e sz n w (w.setCells g (n*sz) news):=by
 intro B' az k cz ys hk ho;obtain⟨cur,hf,-,-,-,hcl⟩:=zeq h;have hg:=(zco news (n*sz) w cur hf (by omega)).2;by_cases hb:ze az=some g
 ·rcases ho.2 with ⟨h',h0⟩|⟨g',cap',cur',h',hb',hg',h1,h2,h3,h4⟩
  ·cases h';cases hb
  ·simp only[Value.slice.injEq,true_and] at h';obtain⟨rfl,rfl⟩:=h';obtain rfl:g'=g:=by simpa[ze] using hb
   obtain⟨cz',e1,e2⟩:=zjf h;rw[hg'] at e1;have e3:cur'=cz':=(by simpa using e1);rw[<-e3,h3] at e2;obtain⟨cur2,hf2,ht2,-,-,hcl2⟩:=zeq ho;have R:=zco news (n*sz) w cur2 hf2 (by omega);have R2:=zf4 R.1 h1;have hks:k*sz<=n*sz:=Nat.mul_le_mul_right sz hk;have e5:(over (n*sz) news cur2).take (k*sz)=ys:=by
    unfold over;rw[xDg,List.take_append_of_le_length (by rw[xDp];omega),List.take_take,Nat.min_eq_left hks,ht2]
   rw[e5] at R2;exact R2
 ·exact zo ho hg (λq h1 h2=>hb (h1.trans h2.symm))
theorem zgq {P:Program} {w:World} (t ty:TypeId) {B:Nat} {e:TypeId} {z:Value} {size bytes:Nat} (ht:P.underlying t=some (.slice e)) (hinfo:(P.info? e).map (λi=>(i.zero,i.size,i.bytes))=some (some z,size,bytes))
  (hzs:z.cells.size=size) (hsz:0<size) {a:Option Addr} {n c:Nat} {xs:List Value} (hown:w.ownsRow B e size (.slice a n c) n xs)
  {a2:Option Addr} {m c2:Nat} {news:List Value} (hl:news.length=m*size) (hsrc:Rd w a2 news) (h1:∀u∈news,u.oneCell'=true) (hbytes:(n+m)*bytes<=140737488355328) (hby:0<bytes) (hbase:B<=w.heap.size):
  ∃a' c' w',(Builtin.append_ #[t,t] ty #[.slice a n c,.slice a2 m c2]).run P w= .ok (.slice a' (n+m) c') w'/\w'.ownsRow B e size (.slice a' (n+m) c') (n+m) (xs++news)/\w.grownBy w' (ze a)/\zcy e size n w w':=by
 obtain⟨i,hi,hz0,hz1,hz2⟩:=info_parts hinfo;have h63:n+m<=maxLen:=by
  have:=Nat.le_trans (Nat.le_mul_of_pos_right (n+m) hby) hbytes;simp only[maxLen];omega
 cases a2 with
 |none=>
  have hn0:news=[]:=by
   rcases hsrc with h|⟨b,o,e',_⟩
   ·exact h
   ·cases e'
  subst hn0;have hm:m=0:=by
   simp only[List.length_nil] at hl;rcases Nat.mul_eq_zero.1 hl.symm with h|h
   ·exact h
   ·omega
  subst hm;refine⟨a,c,w,za4 (P:=P) (w:=w) B t ty e i size ht hi _ n xs hown c2,by simpa using hown,World.grownBy.refl _ _,ze5 (World.grownBy.refl _ _)⟩
 |some ad=>
  have hnews:∀j u,news[j]? =some u->w.cell? (ad.add j)=some u:=by
   intro j u hj;have hjl:j<news.length:=(xDs.1 hj).1;obtain⟨b,o',e',hc⟩:=hsrc.at (by omega)
   cases e'
   rw[Addr.add_lit,hc j hjl];rw[xDa,hj];rfl
  have grew:∀v' w',(Builtin.append_ #[t,t] ty #[.slice a n c,.slice (some ad) m c2]).run P w= .ok v' w'->w'.ownsRow w.heap.size e size v' (n+m) (xs++news)->w.grownBy w' none->∃a' c' w',(Builtin.append_ #[t,t] ty #[.slice a n c,.slice (some ad) m c2]).run P w= .ok (.slice a' (n+m) c') w'/\w'.ownsRow B e size (.slice a' (n+m) c') (n+m) (xs++news)/\w.grownBy w' (ze a)/\zcy e size n w w':=by
   intro v' w' hrun r1 r2;obtain⟨a',c',rfl⟩:=zdr r1;exact⟨a',c',w',hrun,zl r1 hbase,⟨r2.os,r2.tape,r2.output,r2.size,λk hk _=>r2.block k hk (by simp)⟩,ze5 r2⟩
  rcases hown.2 with ⟨h',h0⟩|⟨g,cap,cur,h',hb,hg,hnc,hcm,hcs,htake⟩
  ·simp only[Value.slice.injEq] at h';obtain⟨rfl,rfl,rfl⟩:=h';obtain⟨v',w',hrun,r1,r2,_⟩:=run_append_own (P:=P) w w.heap.size t ty e i z size bytes ht hi hz0 hz1 hz2 hzs hsz (.slice none 0 0) 0 xs (by have:=hown.1;simp only[Nat.zero_mul] at this;rw[List.eq_nil_of_length_eq_zero this];exact xDi w _ e size) ad m c2 news hl hnews h1 h63 hbytes xL1;exact grew v' w' hrun r1 r2
  ·simp only[Value.slice.injEq,true_and] at h';obtain⟨rfl,rfl⟩:=h';by_cases hroom:n+m<=c
   ·obtain⟨curL,hfull,htk,-,-,hcl⟩:=zeq hown;have hmul:n*size+news.length<=c*size:=by
     rw[hl,<-Nat.add_mul];exact Nat.mul_le_mul_right size hroom
    have hrun:=run_append_room_cells (P:=P) (w:=w) t ty e i ht hi g 0 n c ad m c2 news (by rw[hz1];exact hl) hnews h1 hroom
     (λj hj=>by rw[hz1,Nat.zero_add,hfull.cellAt _ (by omega),xDb (by omega)];rfl) (λj _=>hfull.frozenAt _)
    rw[hz1,Nat.zero_add] at hrun;have R:=zco news (n*size) w curL hfull (by omega);have R2:=zf4 R.1 hroom;have e5:(over (n*size) news curL).take ((n+m)*size)=xs++news:=by
     unfold over;have hx:xs.length=n*size:=hown.1;rw[htk,Nat.add_mul,<-hl,<-hx,<-xDh,List.take_left' rfl]
    rw[e5] at R2;exact⟨_,_,_,hrun,R2,R.2,zjw hown hmul⟩
   ·obtain⟨v',w',hrun,r1,r2⟩:=run_append_arg_grows (P:=P) w t ty e i z size bytes ht hi hz0 hz1 hz2 hzs hsz ⟨g,0,none⟩ n c xs hown.1 (λj u hj=>by
     have hjl:j<xs.length:=(xDs.1 hj).1;rw[Addr.add_lit,Nat.zero_add,hown.cellAt j (by have:=hown.1;omega)];exact hj) ad m c2 news hl hnews (by omega) h63 hbytes
    exact grew v' w' hrun r1 r2
theorem zcK {P:Program} {o:Oper} {ρ:Operand->Value} {w:World} {post:Value->World->Prop} (s x:Operand) (t:TypeId)
  (ho:o.op= .call {callee:= .builtin .append,args:= #[s,x],argTypes:= #[t,t]}) {B:Nat} {e:TypeId} {z:Value} {size bytes:Nat} (ht:P.underlying t=some (.slice e)) (hinfo:(P.info? e).map (λi=>(i.zero,i.size,i.bytes))=some (some z,size,bytes))
  (hzs:z.cells.size=size) (hsz:0<size) {a:Option Addr} {n c:Nat} {xs:List Value} (hs:ρ s= .slice a n c) (hown:w.ownsRow B e size (.slice a n c) n xs)
  {a2:Option Addr} {m c2:Nat} {news:List Value} (hx:ρ x= .slice a2 m c2) (hl:news.length=m*size) (hsrc:Rd w a2 news) (h1:∀u∈news,u.oneCell'=true) (hbytes:(n+m)*bytes<=140737488355328) (hby:0<bytes) (hbase:B<=w.heap.size)
  (h:∀a' c' w',w'.ownsRow B e size (.slice a' (n+m) c') (n+m) (xs++news)->w.grownBy w' (ze a)->zcy e size n w w'->post (.slice a' (n+m) c') w'):zau P o ρ w post:=by
 obtain⟨a',c',w',hr,h2,h3,h4⟩:=zgq (P:=P) (c2:=c2) t o.type ht hinfo hzs hsz hown hl hsrc h1 hbytes hby hbase;refine zh (u:= .slice a' (n+m) c') (w':=w') ?_ (h a' c' w' h2 h3 h4);unfold execOp;simp only[ho,resolve,invoke,builtin,Sem.run_bind,Sem.run_pure,Result.andThen_ok,List.map_toArray,List.map_cons,List.map_nil,hs,hx,hr]
theorem zi.blk {S:List Nat} {w w':World} {b:Nat} {cs:Array Value} {t:TypeId} (h:zi S w w') (hb:Blk w b cs t) (hn:b∉S):Blk w' b cs t:=(h.block b hb.lt hn).trans hb




end Go.Proofs.YtnlijgjpgdjpiaaGreat
