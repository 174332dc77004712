/- Part of a proof: Maps. -/
import Derived.Maps.OwnOps
import Derived.Maps.OwnSet
import Derived.Maps.RangeWalk
import Derived.Test.YtjmpejaifmopnaaGreatQBaseA
set_option maxRecDepth 100000
set_option maxHeartbeats 16000000
namespace Go.Proofs.YtjmpejaifmopnaaGreat
open Go.RowKit
def MapI (w:World) (B:Nat) (L:List (Int×Value)):Prop:=
 ∃es clock,w.heap[B]? =some (.map es clock)∧es.toList.map (fun e=>(e.key,e.val))=L.map (fun p=>(Value.int .i64 p.1,p.2))∧(L.map Prod.fst).Nodup∧
  (es.toList.map (·.born)).Nodup∧∀e∈es.toList,e.born<clock
def mget:List (Int×Value)→Int→Option Value
 |[],_=>none
 |(a,v)::r,k=>if k=a then some v else mget r k
def mput:List (Int×Value)→Int→Value→List (Int×Value)
 |[],k,v=>[(k,v)]
 |(a,u)::r,k,v=>if k=a then (k,v)::r else (a,u)::mput r k v
def mfind:List (Int×Value)→Int→Nat→Option (Nat×Value)
 |[],_,_=>none
 |(a,v)::r,k,i=>if k=a then some (i,v) else mfind r k (i+1)
def mdel:List (Int×Value)→Int→List (Int×Value)
 |[],_=>[]
 |(a,u)::r,k=>if k=a then r else (a,u)::mdel r k
theorem mfind_get:∀(L:List (Int×Value)) (k:Int) (i:Nat),(mfind L k i).map (·.2)=mget L k
 |[],_,_=>rfl
 |(a,v)::r,k,i=>by
  by_cases h:k=a
  ·simp[mfind,mget,h]
  ·simp[mfind,mget,h,mfind_get r k (i+1)]
theorem mem_keys_put:∀(L:List (Int×Value)) (k j:Int) (v:Value),j∈(mput L k v).map Prod.fst↔j=k∨j∈L.map Prod.fst
 |[],k,j,v=>by simp[mput]
 |(a,u)::r,k,j,v=>by
  by_cases h:k=a
  ·subst h;simp[mput]
  ·simp only[mput,h,if_false,List.map_cons,List.mem_cons,mem_keys_put r k j v]
   constructor
   ·rintro(e|e|e)<;>simp[e]
   ·rintro(e|e|e)<;>simp[e]
theorem nodup_put:∀(L:List (Int×Value)) (k:Int) (v:Value),(L.map Prod.fst).Nodup→((mput L k v).map Prod.fst).Nodup
 |[],k,v,_=>by simp[mput]
 |(a,u)::r,k,v,h=>by
  simp only[List.map_cons,List.nodup_cons] at h
  by_cases e:k=a
  ·subst e;simp only[mput,if_true,List.map_cons,List.nodup_cons];exact h
  ·simp only[mput,e,if_false,List.map_cons,List.nodup_cons,mem_keys_put]
   exact⟨by rintro(e'|e');exact e e'.symm;exact h.1 e',nodup_put r k v h.2⟩
theorem mget_none:∀(L:List (Int×Value)) (k:Int),mget L k=none↔k∉L.map Prod.fst
 |[],k=>by simp[mget]
 |(a,u)::r,k=>by
  by_cases h:k=a
  ·simp[mget,h]
  ·simp[mget,h,mget_none r k]
theorem findNow_eq (q:IntKind) (k:Int):∀(es:List MapEntry) (L:List (Int×Value)) (i:Nat),es.map (fun e=>(e.key,e.val))=L.map (fun p=>(Value.int .i64 p.1,p.2))→
  Instr.findNow (.int q) (.int .i64 k) es i=some (mfind L k i)
 |[],[],i,_=>rfl
 |[],_::_,i,h=>by simp at h
 |_::_,[],i,h=>by simp at h
 |e::es,(a,v)::L,i,h=>by
  simp only[List.map_cons,List.cons.injEq,Prod.mk.injEq] at h
  obtain⟨⟨h1,h2⟩,h3⟩:=h
  simp only[Instr.findNow,h1,Instr.sameNow,if_true,mfind]
  by_cases hk:k=a
  ·simp[hk,h2]
  ·have hb:(k==a)=false:=by simp[hk]
   simp[hb,hk,findNow_eq q k es L (i+1) h3]
section
variable {P:Program} {w:World} {B:Nat} {L:List (Int×Value)}
theorem MapI.lt (h:MapI w B L):B<w.heap.size:=by
 obtain⟨es,clock,hb,_⟩:=h
 exact(Array.getElem?_eq_some_iff.1 hb).1
theorem MapI.keep {w':World} (h:MapI w B L) (hb:w'.heap[B]? =w.heap[B]?):MapI w' B L:=by
 obtain⟨es,clock,h1,h2⟩:=h
 exact⟨es,clock,hb.trans h1,h2⟩
theorem MapI.below {w':World} (h:MapI w B L) (hb:Below w.heap.size w w'):MapI w' B L:=h.keep (hb.block B h.lt)
theorem MapI.grown {w':World} {row:Option Nat} (h:MapI w B L) (hg:w.grownBy w' row) (hne:row≠some B):MapI w' B L:=h.keep (hg.block B h.lt (fun e=>hne e.symm))
theorem MapI.made (w:World):MapI (w.alloc (.map #[] 0)) w.heap.size []:=
 ⟨#[],0,heap_alloc_new w _,rfl,by simp,by simp,by simp⟩
theorem MapI.nodup (h:MapI w B L):(L.map Prod.fst).Nodup:=by
 obtain⟨_,_,_,_,h,_⟩:=h;exact h
theorem run_checkKey_int (e:Bool) (n:Nat) (K:TypeId) (q:IntKind) (hK:P.underlying K=some (.int q)) (k:Int) (w:World):(Instr.checkKey e (n+1) K (.int .i64 k)).run P w= .ok () w:=by
 simp[Instr.checkKey,run_underlying hK]
theorem run_lookup_mapI {T K E:TypeId} {q:IntKind} {z:Value} (hT:P.underlying T=some (.map K E)) (hK:P.underlying K=some (.int q)) (hz:∀w,(zeroValue E).run P w= .ok z w) (h:MapI w B L) (k:Int):
  (Instr.lookup T (.map (some B)) (.int .i64 k) false).run P w= .ok ((mget L k).getD z) w:=by
 obtain⟨es,clock,hb,he,_⟩:=h
 have hf:=findNow_eq q k es.toList L 0 he
 have hg:=mfind_get L k 0
 simp only[Instr.lookup,Sem.run_bind,run_underlying hT,Result.andThen_ok]
 cases hm:mfind L k 0 with
 |none=>
  rw[hm] at hf hg
  simp only[Option.map_none] at hg
  simp[getObj,Sem.run,hb,run_checkKey_int _ 9999 K q hK,Instr.findKey,run_underlying hK,hf,hz,←hg]
 |some p=>
  rw[hm] at hf hg
  simp only[Option.map_some] at hg
  simp[getObj,Sem.run,hb,run_checkKey_int _ 9999 K q hK,Instr.findKey,run_underlying hK,hf,←hg]
end
theorem mfind_some:∀(L:List (Int×Value)) (k:Int) (i j:Nat) (v:Value),mfind L k i=some (j,v)→i≤j∧L[j-i]? =some (k,v)∧∀u,mput L k u=L.set (j-i) (k,u)
 |[],k,i,j,v,h=>by simp[mfind] at h
 |(a,u)::r,k,i,j,v,h=>by
  by_cases e:k=a
  ·simp only[mfind,e,if_true,Option.some.injEq,Prod.mk.injEq] at h
   obtain⟨rfl,rfl⟩:=h
   refine⟨Nat.le_refl _,by simp[e],fun u'=>by simp[mput,e]⟩
  ·simp only[mfind,e,if_false] at h
   obtain⟨h1,h2,h3⟩:=mfind_some r k (i+1) j v h
   have hj:j-i=(j-(i+1))+1:=by omega
   refine⟨by omega,by rw[hj];simpa using h2,fun u'=>by rw[hj];simp[mput,e,h3 u']⟩
theorem mfind_none:∀(L:List (Int×Value)) (k:Int) (i:Nat),mfind L k i=none→∀u,mput L k u=L++[(k,u)]
 |[],k,i,_,u=>rfl
 |(a,v)::r,k,i,h,u=>by
  by_cases e:k=a
  ·simp[mfind,e] at h
  ·simp only[mfind,e,if_false] at h
   simp[mput,e,mfind_none r k (i+1) h u]
section
variable {P:Program} {w:World} {B:Nat} {L:List (Int×Value)}
def World.setMap (w:World) (B:Nat) (o:Obj):World:={w with heap:=w.heap.setIfInBounds B o}
theorem grown_setMap (w:World) (B:Nat) (o:Obj):w.grownBy (World.setMap w B o) (some B):=
 ⟨rfl,rfl,rfl,by simp[World.setMap],fun k _ hk=>by
  show(w.heap.setIfInBounds B o)[k]? =_
  rw[Array.getElem?_setIfInBounds_ne (fun e=>hk (by rw[e]))]⟩
theorem size_setMap (w:World) (B:Nat) (o:Obj):(World.setMap w B o).heap.size=w.heap.size:=by simp[World.setMap]
theorem at_setMap (w:World) (B:Nat) (o:Obj) (h:B<w.heap.size):(World.setMap w B o).heap[B]? =some o:=by
 show(w.heap.setIfInBounds B o)[B]? =_
 simp[h]
theorem keyStays (a b:Int) (h:a=b) (w:World):(Instr.keyThatStays (.int .i64 a) (.int .i64 b)).run P w= .ok (.int .i64 b) w:=by
 subst h
 simp[Instr.keyThatStays,Instr.sameBits]
theorem run_update_mapI {T K E:TypeId} {q:IntKind} (hT:P.underlying T=some (.map K E)) (hK:P.underlying K=some (.int q)) (h:MapI w B L) (k:Int) (v:Value):
  ∃w',(Instr.mapUpdate T (.map (some B)) (.int .i64 k) v).run P w= .ok () w'∧MapI w' B (mput L k v)∧w.grownBy w' (some B)∧w'.heap.size=w.heap.size:=by
 have hlt:=h.lt
 obtain⟨es,clock,hb,he,hnd,hbn,hcl⟩:=h
 have hf:=findNow_eq q k es.toList L 0 he
 cases hm:mfind L k 0 with
 |none=>
  rw[hm] at hf
  refine⟨World.setMap w B (.map (es.push {key:= .int .i64 k,val:=v,born:=clock}) (clock+1)),?_,?_,grown_setMap _ _ _,size_setMap _ _ _⟩
  ·simp[Instr.mapUpdate,Sem.run_bind,run_underlying hT,getObj,setObj,Sem.run,hb,run_checkKey_int _ 9999 K q hK,Instr.findKey,run_underlying hK,hf,World.setMap]
  ·refine⟨_,_,at_setMap _ _ _ hlt,?_,nodup_put _ _ _ hnd,?_,?_⟩
   ·rw[mfind_none L k 0 hm v];simp[he]
   ·simp only[Array.toList_push,List.map_append,List.map_cons,List.map_nil]
    rw[List.nodup_append]
    refine⟨hbn,by simp,fun a ha b hb' e=> ?_⟩
    obtain⟨x,hx,rfl⟩:=List.mem_map.1 ha
    have:=hcl x hx
    simp only[List.mem_singleton] at hb'
    omega
   ·intro e he'
    simp only[Array.toList_push,List.mem_append,List.mem_singleton] at he'
    rcases he' with he'|rfl
    ·have:=hcl e he';omega
    ·simp
 |some p=>
  obtain⟨j,u⟩:=p
  rw[hm] at hf
  obtain⟨_,h2,h3⟩:=mfind_some L k 0 j u hm
  simp only[Nat.sub_zero] at h2 h3
  have hkj:(es[j]?).map (·.key)=some (.int .i64 k):=by
   have:=congrArg (fun l=>l[j]?) he
   simp only[List.getElem?_map,h2,Option.map_some] at this
   cases hj:es.toList[j]? with
   |none=>simp[hj] at this
   |some x=>
    simp only[hj,Option.map_some,Option.some.injEq,Prod.mk.injEq] at this
    have:es[j]? =some x:=by simpa using hj
    rw[this];simp_all
  refine⟨World.setMap w B (.map (es.modify j fun e=>{e with key:= .int .i64 k,val:=v}) clock),?_,?_,grown_setMap _ _ _,size_setMap _ _ _⟩
  ·simp[Instr.mapUpdate,Sem.run_bind,run_underlying hT,getObj,setObj,Sem.run,hb,run_checkKey_int _ 9999 K q hK,Instr.findKey,run_underlying hK,hf,hkj,keyStays _ _ rfl,World.setMap]
  ·refine⟨_,_,at_setMap _ _ _ hlt,?_,nodup_put _ _ _ hnd,?_,?_⟩
   ·rw[h3 v,Array.toList_modify]
    refine List.ext_getElem? fun i=> ?_
    have hi:=congrArg (fun l=>l[i]?) he
    simp only[List.getElem?_map] at hi⊢
    rw[List.getElem?_modify,List.getElem?_set]
    by_cases e:j=i
    ·subst e
     have hjl:j<L.length:=(List.getElem?_eq_some_iff.1 h2).1
     simp only[if_true,hjl]
     cases hx:es.toList[j]? with
     |none=>rw[hx] at hi;simp[h2] at hi
     |some x=>simp
    ·simpa[e] using hi
   ·rw[Array.toList_modify]
    have:(es.toList.modify j fun e=>{e with key:= .int .i64 k,val:=v}).map (·.born)=es.toList.map (·.born):=by
     refine List.ext_getElem? fun i=> ?_
     simp only[List.getElem?_map,List.getElem?_modify]
     split
     ·cases es.toList[i]? <;>simp
     ·simp
    rw[this];exact hbn
   ·rw[Array.toList_modify]
    intro e he'
    obtain⟨i,hi⟩:=List.mem_iff_getElem?.1 he'
    rw[List.getElem?_modify] at hi
    cases hx:es.toList[i]? with
    |none=>simp[hx] at hi
    |some x=>
     have hc:=hcl x (List.mem_of_getElem? hx)
     rw[hx] at hi
     simp only[Option.map_eq_map,Option.map_some,Option.some.injEq] at hi
     subst hi
     split<;>exact hc
theorem run_len_mapI (h:MapI w B L) (t:TypeId) {T K E:TypeId} (hT:P.underlying T=some (.map K E)):(Builtin.len_ #[T] t #[.map (some B)]).run P w= .ok (.int .i64 L.length) w:=by
 obtain⟨es,clock,hb,he,_⟩:=h
 have hl:es.size=L.length:=by simpa using congrArg List.length he
 simp[Builtin.len_,getObj,Sem.run,hb,hl,goInt,run_underlying hT]
end
section
variable {P:Program} {w:World} {B r:Nat} {L:List (Int×Value)} {seen:List Int}
theorem nodup_map_inj {α β:Type} {f:α→β}:∀{l:List α},(l.map f).Nodup→∀{x y:α},x∈l→y∈l→f x=f y→x=y
 |[],_,_,_,h,_,_=>by simp at h
 |a::l,hn,x,y,hx,hy,e=>by
  simp only[List.map_cons,List.nodup_cons] at hn
  rcases List.mem_cons.1 hx with hx'|hx'<;>rcases List.mem_cons.1 hy with hy'|hy'
  ·rw[hx',hy']
  ·exact absurd (by rw[←hx',e];exact List.mem_map_of_mem (f:=f) hy') hn.1
  ·exact absurd (by rw[←hy',←e];exact List.mem_map_of_mem (f:=f) hx') hn.1
  ·exact nodup_map_inj hn.2 hx' hy' e
theorem mget_of_mem:∀{L:List (Int×Value)} {k:Int} {v:Value},(L.map Prod.fst).Nodup→(k,v)∈L→mget L k=some v
 |[],_,_,_,h=>by simp at h
 |(a,u)::r,k,v,hn,h=>by
  simp only[List.map_cons,List.nodup_cons] at hn
  rcases List.mem_cons.1 h with e|h
  ·cases e;simp[mget]
  ·have:k≠a:=fun e=>hn.1 (e▸List.mem_map_of_mem (f:=Prod.fst) h)
   simp[mget,this,mget_of_mem hn.2 h]
end
section
variable {P:Program} {w:World} {ops:Array Oper} {rest:List Oper} {o:Oper} {a:Act} {Q:Exit→Act→World→Prop} {B r:Nat} {L:List (Int×Value)} {T K E:TypeId} {q:IntKind}
theorem wpList_update_mapI (hg:o.guard=none) (m x y:Operand) (hop:o.op=Op.mapUpdate T m x y) (hT:P.underlying T=some (.map K E)) (hK:P.underlying K=some (.int q))
  (hm:a.eval m= .map (some B)) (hown:MapI w B L) {k:Int} (hx:a.eval x= .int .i64 k) {v:Value} (hy:a.eval y=v)
  (h:∀w',MapI w' B (mput L k v)→w.grownBy w' (some B)→w'.heap.size=w.heap.size→wpList P ops Q rest (a.put o.dst (.tuple #[])) w'):wpList P ops Q (o::rest) a w:=by
 subst hy
 refine wpList_plain hg fun K' hK''=> ?_
 obtain⟨w',hrun,h1,h2,h3⟩:=run_update_mapI (P:=P) hT hK hown k (a.eval y)
 unfold Oper.wp
 simp[execOp,hop,hm,hx,hrun,Result.andThen]
 exact hK'' _ _ (h w' h1 h2 h3)
end
end Go.Proofs.YtjmpejaifmopnaaGreat
