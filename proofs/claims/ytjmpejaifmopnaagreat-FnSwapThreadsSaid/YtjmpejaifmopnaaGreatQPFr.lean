/- Part of a proof: MSemS Fr MPart Sf NewB MRegT Rc. -/
import Derived.Deep.Cut
import Derived.BigQuiet
import Derived.Lib.QuietBelow
import Derived.Test.YtjmpejaifmopnaaGreatQPState
set_option maxRecDepth 100000
set_option maxHeartbeats 16000000
namespace Go.Proofs.YtjmpejaifmopnaaGreat
open Go.RowKit
def findI:List Int→Int→Int
 |[],_=> -1
 |x::l,t=>if x=t then 0 else if findI l t<0 then-1 else findI l t+1
theorem findI_at {t:Int}:∀{l:List Int} {k:Nat},k<l.length→l.getD k 0=t→(∀j,j<k→l.getD j 0≠t)→findI l t=k
 |[],_,h,_,_=>by simp at h
 |x::l,0,_,h,_=>by
  have h':x=t:=by simpa using h
  unfold findI
  rw[if_pos h'];rfl
 |x::l,k+1,hk,h,hj=>by
  have h0:x≠t:=by simpa using hj 0 (by omega)
  have:=findI_at (l:=l) (k:=k) (by simpa using hk) (by simpa using h) (fun j hjk=>by simpa using hj (j+1) (by omega))
  unfold findI
  rw[if_neg h0,this,if_neg (by omega)];omega
theorem findI_no {t:Int}:∀{l:List Int},(∀j,j<l.length→l.getD j 0≠t)→findI l t= -1
 |[],_=>rfl
 |x::l,h=>by
  have h0:x≠t:=by simpa using h 0 (by simp)
  have:=findI_no (l:=l) (fun j hj=>by simpa using h (j+1) (by simpa using hj))
  unfold findI
  rw[if_neg h0,this,if_pos (by omega)]
theorem findI_not {l:List Int} {t:Int} (h:t∉l):findI l t= -1:=
 findI_no fun j hj e=>h (by rw[←e,List.getD_eq_getElem?_getD,List.getElem?_eq_getElem hj];exact List.getElem_mem hj)
theorem findI_mem:∀{l:List Int} {t:Int},t∈l→0≤findI l t∧l.getD (findI l t).toNat 0=t
 |[],_,h=>by simp at h
 |x::l,t,h=>by
  unfold findI
  by_cases hx:x=t
  ·rw[if_pos hx];simp[hx]
  ·have h':t∈l:=by
    rcases List.mem_cons.1 h with e|e
    ·exact absurd e.symm hx
    ·exact e
   have⟨h0,h1⟩:=findI_mem h'
   rw[if_neg hx,if_neg (by omega)]
   refine⟨by omega,?_⟩
   rw[show(findI l t+1).toNat=(findI l t).toNat+1 by omega]
   simpa using h1
theorem getD_memp {α:Type} {l:List α} {j:Nat} {d:α} (h:j<l.length):l.getD j d∈l:=by
 rw[List.getD_eq_getElem?_getD,List.getElem?_eq_getElem h];exact List.getElem_mem h
theorem nodup_getD {l:List Int} (h:l.Nodup) {i k:Nat} (hi:i<l.length) (hk:k<i):l.getD k 0≠l.getD i 0:=by
 intro e
 rw[List.getD_eq_getElem?_getD,List.getD_eq_getElem?_getD,List.getElem?_eq_getElem hi,List.getElem?_eq_getElem (by omega)] at e
 have:=(List.getElem_inj h).1 (by simpa using e)
 omega
theorem pairs_one (l:List (Int×Int)):∀u∈pairs l,u.oneCell'=true:=by
 intro u hu
 obtain⟨x,_,hx⟩:=List.mem_flatMap.1 hu
 simp only[pair,List.mem_cons,List.not_mem_nil,or_false] at hx
 rcases hx with rfl|rfl<;>rfl
theorem pairs_len (l:List (Int×Int)):(pairs l).length=l.length*2:=flat_len pair_len l
theorem info_way:(Tryz.prog.info? 146).map (fun i=>(i.zero,i.size,i.bytes))=some (some (.agg #[.int .i64 0,.int .i64 0]),2,16):=by kernel_rfl
theorem ret_i64' {a b:Int} (h:a=b):Ending.returned (.int .i64 a)= .returned (.int .i64 b):=by rw[h]
theorem wpList_append_new {P:Program} {w:World} {ops:Array Oper} {rest:List Oper} {o:Oper} {ac:Act} {Q:Exit→Act→World→Prop} (hgd:o.guard=none) (s x:Operand) (t:TypeId)
  (ho:o.op= .call {callee:= .builtin .append,args:= #[s,x],argTypes:= #[t,t]}) {B:Nat} {e:TypeId} {z:Value} {size bytes:Nat} (ht:P.underlying t=some (.slice e)) (hinfo:(P.info? e).map (fun i=>(i.zero,i.size,i.bytes))=some (some z,size,bytes))
  (hzs:z.cells.size=size) (hsz:0<size) {a:Option Addr} (hs:ac.eval s= .slice a 0 0) (hown:w.ownsRow B e size (.slice a 0 0) 0 [])
  {a2:Option Addr} {m c2:Nat} {news:List Value} (hx:ac.eval x= .slice a2 m c2) (hl:news.length=m*size) (hsrc:Rd w a2 news) (h1:∀u∈news,u.oneCell'=true) (hbytes:m*bytes≤140737488355328) (hby:0<bytes) (hbase:B≤w.heap.size)
  (h:∀a' c' w',w'.ownsRow B e size (.slice a' m c') m news→Below w.heap.size w w'→(m=0→c'=0)→wpList P ops Q rest (ac.put o.dst (.slice a' m c')) w'):wpList P ops Q (o::rest) ac w:=by
 obtain⟨a',c',w',hrun,k1,k2,_,k4⟩:=run_append_new (P:=P) (c2:=c2) t o.type ht hinfo hzs hsz hown hl hsrc h1 hbytes hby hbase
 refine wpList_plain hgd fun K hK'=> ?_
 unfold Oper.wp
 simp[execOp,ho,resolve,invoke,builtin,hs,hx,hrun,Result.andThen]
 exact hK' _ _ (h a' c' w' k1 k2 k4)
inductive It where
 |blk (b:Nat) (cs:Array Value) (T:TypeId)
 |row (a:Option Addr) (n c:Nat) (E:TypeId) (sz:Nat) (cs:List Value)
def It.has (B:Nat) (W:World):It→Prop
 | .blk b cs T=>B≤b∧Blk W b cs T
 | .row a n c E sz cs=>W.ownsRow B E sz (.slice a n c) n cs
def It.foot:It→List Nat
 | .blk b _ _=>[b]
 | .row a _ _ _ _ _=>(rowOf a).toList
theorem It.inside {B:Nat} {W:World}:∀{i:It},i.has B W→∀k∈i.foot,B≤k∧k<W.heap.size
 | .blk b cs T,h,k,hk=>by obtain rfl:=xS1 hk;exact⟨h.1,h.2.lt⟩
 | .row a n c E sz cs,h,k,hk=>owns_row h k (by simpa[It.foot] using hk)
theorem It.keep {B:Nat} {W W':World}:∀{i:It},i.has B W→(∀k∈i.foot,W'.heap[k]? =W.heap[k]?)→i.has B W'
 | .blk b cs T,h,hk=>⟨h.1,(hk b (List.mem_singleton.2 rfl)).trans h.2⟩
 | .row a n c E sz cs,h,hk=>owns_keep h fun k hk' _=>hk k (by rw[ownBlock_slice] at hk';simpa[It.foot] using hk')
theorem It.foot_nodup:∀i:It,i.foot.Nodup
 | .blk _ _ _=>by simp[It.foot]
 | .row a _ _ _ _ _=>by cases h:rowOf a<;>simp[It.foot,h]
def foots (l:List It):List Nat:=l.flatMap It.foot
structure Fr (w W:World) (l:List It):Prop where
 bel:Below w.heap.size w W
 has:∀i∈l,i.has w.heap.size W
 ap:(foots l).Nodup
theorem ints_app (a b:List Int):ints (a++b)=ints a++ints b:=List.map_append
theorem pairs_app (a b:List (Int×Int)):pairs (a++b)=pairs a++pairs b:=List.flatMap_append
namespace Fr
variable {w W W':World} {l:List It}
theorem named (F:Fr w W l):∃x,x=W∧Fr w x l:=⟨W,rfl,F⟩
theorem start (w:World):Fr w w []:=⟨Below.refl _ _,by simp,by simp[foots]⟩
theorem inside (F:Fr w W l):∀k∈foots l,w.heap.size≤k∧k<W.heap.size:=by
 intro k hk
 obtain⟨i,hi,hki⟩:=List.mem_flatMap.1 hk
 exact It.inside (F.has i hi) k hki
theorem call (F:Fr w W l) (hb:Below W.heap.size W W'):Fr w W' l:=
 ⟨F.bel.trans (hb.mono F.bel.size),fun i hi=>It.keep (F.has i hi) fun k hk=>hb.block k (It.inside (F.has i hi) k hk).2,F.ap⟩
theorem more (F:Fr w W l) (hb:Below W.heap.size W W') {i:It} (hi:i.has W.heap.size W'):Fr w W' (i::l):=by
 have F':=F.call hb
 refine⟨F'.bel,fun j hj=> ?_,?_⟩
 ·rcases List.mem_cons.1 hj with rfl|hj
  ·cases j with
   |blk b cs T=>exact⟨Nat.le_trans F.bel.size hi.1,hi.2⟩
   |row a n c E sz cs=>exact owns_mono hi F.bel.size
  ·exact F'.has j hj
 ·show(i.foot++foots l).Nodup
  refine List.nodup_append.2 ⟨i.foot_nodup,F.ap,fun a ha b hb' e=> ?_⟩
  have h1:=(It.inside hi a ha).1
  have h2:=(F.inside b hb').2
  omega
theorem alloc (F:Fr w W l) (cs:Array Value) (T:TypeId):Fr w (W.alloc (.cells cs T)) (.blk W.heap.size cs T::l):=
 F.more (xA1) ⟨Nat.le_refl _,Blk.new _ _ _⟩
theorem join {w0:World} {l':List It} (F:Fr w0 w l') (F':Fr w W l):Fr w0 W (l++l'):=by
 refine⟨F.bel.trans (F'.bel.mono F.bel.size),fun i hi=> ?_,?_⟩
 ·rcases xP1 hi with hi|hi
  ·have h:=F'.has i hi
   cases i with
   |blk b cs T=>exact⟨Nat.le_trans F.bel.size h.1,h.2⟩
   |row a n c E sz cs=>exact owns_mono h F.bel.size
  ·exact(F.call F'.bel).has i hi
 ·unfold foots
  rw[List.flatMap_append]
  refine List.nodup_append.2 ⟨F'.ap,F.ap,fun a ha b hb e=> ?_⟩
  have h1:=(F'.inside a ha).1
  have h2:=(F.inside b hb).2
  omega
theorem row (F:Fr w W l) (hb:Below W.heap.size W W') {a:Option Addr} {n c sz:Nat} {E:TypeId} {cs:List Value} (h:W'.ownsRow W.heap.size E sz (.slice a n c) n cs):Fr w W' (.row a n c E sz cs::l):=F.more hb h
theorem nil (F:Fr w W l) (E:TypeId) (sz:Nat):Fr w W (.row none 0 0 E sz []::l):=F.more xB1 (World.ownsRow_nil _ _ _ _)
theorem drewN (F:Fr w W l) (n:Nat):Fr w (W.drewN n) l:=F.call (below_drewN' _ _)
theorem perm (F:Fr w W l) {l':List It} (h:l.Perm l'):Fr w W l':=⟨F.bel,fun i hi=>F.has i (h.mem_iff.2 hi),(h.flatMap_right _).nodup_iff.1 F.ap⟩
theorem pull (F:Fr w W l) (k:Nat) {i:It} (hi:l[k]? =some i):Fr w W (i::l.eraseIdx k):=by
 obtain⟨hk,hik⟩:=List.getElem?_eq_some_iff.1 hi
 refine F.perm ?_
 have e0:l=l.take k++i::l.drop (k+1):=by rw[←hik,List.getElem_cons_drop,List.take_append_drop]
 rw[List.eraseIdx_eq_take_drop_succ]
 conv=>lhs;rw[e0]
 exact List.perm_middle
theorem drew (F:Fr w W l):Fr w W.drew l:=F.call xB1.drew
theorem step (F:Fr w W l) (k:Nat) {i:It} (hi:l[k]? =some i) (T:Touch i.foot W W') {i':It} (h':i'.has w.heap.size W') (hf:∀q∈i'.foot,q∈i.foot∨W.heap.size≤q):Fr w W' (l.set k i'):=by
 obtain⟨hk,hik⟩:=List.getElem?_eq_some_iff.1 hi
 have e0:l=l.take k++i::l.drop (k+1):=by rw[←hik,List.getElem_cons_drop,List.take_append_drop]
 have e1:l.set k i'=l.take k++i'::l.drop (k+1):=List.set_eq_take_append_cons_drop.trans (by rw[if_pos hk])
 have ha:=F.ap
 rw[e0] at ha
 rw[e1]
 obtain⟨l1,h1⟩:∃x,x=l.take k:=⟨_,rfl⟩
 obtain⟨l2,h2⟩:∃x,x=l.drop (k+1):=⟨_,rfl⟩
 rw[←h1,←h2] at e0 ha⊢
 have hin:=F.inside
 have hhas:=F.has
 rw[e0] at hin hhas
 simp only[foots,List.flatMap_append,List.flatMap_cons,List.nodup_append,List.mem_append,List.mem_flatMap] at ha hin
 obtain⟨a1,⟨ai,a2,a3⟩,a4⟩:=ha
 refine⟨F.bel.trans (T.below F.bel.size fun q hq=>(It.inside (F.has i (List.mem_of_getElem? hi)) q hq).1),?_,?_⟩
 ·intro j hj
  rcases xP1 hj with hj|hj
  ·exact It.keep (hhas j (by simp[hj])) fun q hq=>T.block q (It.inside (hhas j (by simp[hj])) q hq).2 fun hm=>a4 q ⟨j,hj,hq⟩ q (.inl hm) rfl
  ·rcases List.mem_cons.1 hj with rfl|hj
   ·exact h'
   ·exact It.keep (hhas j (by simp[hj])) fun q hq=>T.block q (It.inside (hhas j (by simp[hj])) q hq).2 fun hm=>a3 q hm q ⟨j,hj,hq⟩ rfl
 ·simp only[foots,List.flatMap_append,List.flatMap_cons,List.nodup_append,List.mem_append,List.mem_flatMap]
  refine⟨a1,⟨i'.foot_nodup,a2,fun q hq r hr e=> ?_⟩,fun q hq r hr e=> ?_⟩
  ·subst e
   rcases hf q hq with h|h
   ·exact a3 q h q hr rfl
   ·have:=(hin q (.inr (.inr hr))).2;omega
  ·subst e
   rcases hr with hr|hr
   ·rcases hf q hr with h|h
    ·exact a4 q hq q (.inl h) rfl
    ·have:=(hin q (.inl hq)).2;omega
   ·exact a4 q hq q (.inr hr) rfl
theorem set (F:Fr w W l) (k:Nat) {b:Nat} {cs:Array Value} {T:TypeId} (hi:l[k]? =some (.blk b cs T)) (j:Nat) (v:Value):Fr w (W.setCell ⟨b,j,none⟩ v) (l.set k (.blk b (cs.setIfInBounds j v) T)):=by
 have h:=F.has _ (List.mem_of_getElem? hi)
 exact F.step k hi ((Touch.refl _ _).set (List.mem_singleton.2 rfl)) ⟨h.1,h.2.set j v⟩ fun q hq=> .inl hq
theorem app (F:Fr w W l) (k:Nat) {a a':Option Addr} {n c n' c' sz:Nat} {E:TypeId} {cs cs':List Value} (hi:l[k]? =some (.row a n c E sz cs)) (hg:W.grownBy W' (rowOf a)) (h':W'.ownsRow w.heap.size E sz (.slice a' n' c') n' cs') (hn:∀q,rowOf a'=some q→rowOf a=some q∨W.heap.size≤q):Fr w W' (l.set k (.row a' n' c' E sz cs')):=
 F.step k hi (Touch.of_grown hg fun q hq=>by simp[It.foot,hq]) h' fun q hq=>(hn q (by simpa[It.foot] using hq)).imp (fun h=>by simp[It.foot,h]) id
theorem blk (F:Fr w W l) (k:Nat) {b:Nat} {cs:Array Value} {T:TypeId} (hi:l[k]? =some (.blk b cs T)):Blk W b cs T:=(F.has _ (List.mem_of_getElem? hi)).2
theorem cell (F:Fr w W l) (k j:Nat) {b:Nat} {cs:Array Value} {T:TypeId} {v:Value} (hi:l[k]? =some (.blk b cs T)) (hv:cs[j]? =some v):W.cell? ⟨b,j,none⟩=some v:=(F.blk k hi).cell j hv
theorem fz (F:Fr w W l) (k j:Nat) {b:Nat} {cs:Array Value} {T:TypeId} (hi:l[k]? =some (.blk b cs T)):W.frozen? ⟨b,j,none⟩=false:=(F.blk k hi).fz j
theorem own (F:Fr w W l) (k:Nat) {a:Option Addr} {n c sz:Nat} {E:TypeId} {cs:List Value} (hi:l[k]? =some (.row a n c E sz cs)):W.ownsRow w.heap.size E sz (.slice a n c) n cs:=F.has _ (List.mem_of_getElem? hi)
theorem foots_sub:∀{l' l:List It},List.Sublist l' l→List.Sublist (foots l') (foots l)
 |_,_,.slnil=> .slnil
 |_,_,.cons i h=>(foots_sub h).trans (List.sublist_append_right _ _)
 |_,_,.cons_cons i h=>(List.Sublist.refl _).append (foots_sub h)
theorem sub (F:Fr w W l) {l':List It} (h:List.Sublist l' l):Fr w W l':=⟨F.bel,fun i hi=>F.has i (h.subset hi),F.ap.sublist (foots_sub h)⟩
theorem c1 (F:Fr w W l) (k:Nat) {b:Nat} {v0:Value} {T:TypeId} (hi:l[k]? =some (.blk b #[v0] T)):W.cell? ⟨b,0,none⟩=some v0∧W.frozen? ⟨b,0,none⟩=false:=⟨F.cell k 0 hi rfl,F.fz k 0 hi⟩
theorem c2 (F:Fr w W l) (k:Nat) {b:Nat} {v0 v1:Value} {T:TypeId} (hi:l[k]? =some (.blk b #[v0,v1] T)):W.cell? ⟨b,0,none⟩=some v0∧W.frozen? ⟨b,0,none⟩=false∧W.cell? ⟨b,1,none⟩=some v1∧W.frozen? ⟨b,1,none⟩=false:=⟨F.cell k 0 hi rfl,F.fz k 0 hi,F.cell k 1 hi rfl,F.fz k 1 hi⟩
theorem c3 (F:Fr w W l) (k:Nat) {b:Nat} {v0 v1 v2:Value} {T:TypeId} (hi:l[k]? =some (.blk b #[v0,v1,v2] T)):W.cell? ⟨b,0,none⟩=some v0∧W.frozen? ⟨b,0,none⟩=false∧W.cell? ⟨b,1,none⟩=some v1∧W.frozen? ⟨b,1,none⟩=false∧W.cell? ⟨b,2,none⟩=some v2∧W.frozen? ⟨b,2,none⟩=false:=⟨F.cell k 0 hi rfl,F.fz k 0 hi,F.cell k 1 hi rfl,F.fz k 1 hi,F.cell k 2 hi rfl,F.fz k 2 hi⟩
theorem c4 (F:Fr w W l) (k:Nat) {b:Nat} {v0 v1 v2 v3:Value} {T:TypeId} (hi:l[k]? =some (.blk b #[v0,v1,v2,v3] T)):W.cell? ⟨b,0,none⟩=some v0∧W.frozen? ⟨b,0,none⟩=false∧W.cell? ⟨b,1,none⟩=some v1∧W.frozen? ⟨b,1,none⟩=false∧W.cell? ⟨b,2,none⟩=some v2∧W.frozen? ⟨b,2,none⟩=false∧W.cell? ⟨b,3,none⟩=some v3∧W.frozen? ⟨b,3,none⟩=false:=⟨F.cell k 0 hi rfl,F.fz k 0 hi,F.cell k 1 hi rfl,F.fz k 1 hi,F.cell k 2 hi rfl,F.fz k 2 hi,F.cell k 3 hi rfl,F.fz k 3 hi⟩
theorem c5 (F:Fr w W l) (k:Nat) {b:Nat} {v0 v1 v2 v3 v4:Value} {T:TypeId} (hi:l[k]? =some (.blk b #[v0,v1,v2,v3,v4] T)):W.cell? ⟨b,0,none⟩=some v0∧W.frozen? ⟨b,0,none⟩=false∧W.cell? ⟨b,1,none⟩=some v1∧W.frozen? ⟨b,1,none⟩=false∧W.cell? ⟨b,2,none⟩=some v2∧W.frozen? ⟨b,2,none⟩=false∧W.cell? ⟨b,3,none⟩=some v3∧W.frozen? ⟨b,3,none⟩=false∧W.cell? ⟨b,4,none⟩=some v4∧W.frozen? ⟨b,4,none⟩=false:=⟨F.cell k 0 hi rfl,F.fz k 0 hi,F.cell k 1 hi rfl,F.fz k 1 hi,F.cell k 2 hi rfl,F.fz k 2 hi,F.cell k 3 hi rfl,F.fz k 3 hi,F.cell k 4 hi rfl,F.fz k 4 hi⟩
theorem c9 (F:Fr w W l) (k:Nat) {b:Nat} {v0 v1 v2 v3 v4 v5 v6 v7 v8:Value} {T:TypeId} (hi:l[k]? =some (.blk b #[v0,v1,v2,v3,v4,v5,v6,v7,v8] T)):W.cell? ⟨b,0,none⟩=some v0∧W.frozen? ⟨b,0,none⟩=false∧W.cell? ⟨b,1,none⟩=some v1∧W.frozen? ⟨b,1,none⟩=false∧W.cell? ⟨b,2,none⟩=some v2∧W.frozen? ⟨b,2,none⟩=false∧W.cell? ⟨b,3,none⟩=some v3∧W.frozen? ⟨b,3,none⟩=false∧W.cell? ⟨b,4,none⟩=some v4∧W.frozen? ⟨b,4,none⟩=false∧W.cell? ⟨b,5,none⟩=some v5∧W.frozen? ⟨b,5,none⟩=false∧W.cell? ⟨b,6,none⟩=some v6∧W.frozen? ⟨b,6,none⟩=false∧W.cell? ⟨b,7,none⟩=some v7∧W.frozen? ⟨b,7,none⟩=false∧W.cell? ⟨b,8,none⟩=some v8∧W.frozen? ⟨b,8,none⟩=false:=⟨F.cell k 0 hi rfl,F.fz k 0 hi,F.cell k 1 hi rfl,F.fz k 1 hi,F.cell k 2 hi rfl,F.fz k 2 hi,F.cell k 3 hi rfl,F.fz k 3 hi,F.cell k 4 hi rfl,F.fz k 4 hi,F.cell k 5 hi rfl,F.fz k 5 hi,F.cell k 6 hi rfl,F.fz k 6 hi,F.cell k 7 hi rfl,F.fz k 7 hi,F.cell k 8 hi rfl,F.fz k 8 hi⟩
theorem set2 (F:Fr w W l) (k:Nat) {b:Nat} {u0 u1:Value} {T:TypeId} (hi:l[k]? =some (.blk b #[u0,u1] T)) (v0 v1:Value):Fr w ((W.setCell ⟨b,0,none⟩ v0).setCell ⟨b,1,none⟩ v1) (l.set k (.blk b #[v0,v1] T)):=by
 have h:=F.has _ (List.mem_of_getElem? hi)
 exact F.step k hi (((Touch.refl _ _).set (List.mem_singleton.2 rfl)).set (List.mem_singleton.2 rfl)) ⟨h.1,((h.2.set 0 v0).set 1 v1)⟩ fun q hq=> .inl hq
theorem set3 (F:Fr w W l) (k:Nat) {b:Nat} {u0 u1 u2:Value} {T:TypeId} (hi:l[k]? =some (.blk b #[u0,u1,u2] T)) (v0 v1 v2:Value):Fr w (((W.setCell ⟨b,0,none⟩ v0).setCell ⟨b,1,none⟩ v1).setCell ⟨b,2,none⟩ v2) (l.set k (.blk b #[v0,v1,v2] T)):=by
 have h:=F.has _ (List.mem_of_getElem? hi)
 exact F.step k hi ((((Touch.refl _ _).set (List.mem_singleton.2 rfl)).set (List.mem_singleton.2 rfl)).set (List.mem_singleton.2 rfl)) ⟨h.1,(((h.2.set 0 v0).set 1 v1).set 2 v2)⟩ fun q hq=> .inl hq
theorem set4 (F:Fr w W l) (k:Nat) {b:Nat} {u0 u1 u2 u3:Value} {T:TypeId} (hi:l[k]? =some (.blk b #[u0,u1,u2,u3] T)) (v0 v1 v2 v3:Value):Fr w ((((W.setCell ⟨b,0,none⟩ v0).setCell ⟨b,1,none⟩ v1).setCell ⟨b,2,none⟩ v2).setCell ⟨b,3,none⟩ v3) (l.set k (.blk b #[v0,v1,v2,v3] T)):=by
 have h:=F.has _ (List.mem_of_getElem? hi)
 exact F.step k hi (((((Touch.refl _ _).set (List.mem_singleton.2 rfl)).set (List.mem_singleton.2 rfl)).set (List.mem_singleton.2 rfl)).set (List.mem_singleton.2 rfl)) ⟨h.1,((((h.2.set 0 v0).set 1 v1).set 2 v2).set 3 v3)⟩ fun q hq=> .inl hq
theorem set5 (F:Fr w W l) (k:Nat) {b:Nat} {u0 u1 u2 u3 u4:Value} {T:TypeId} (hi:l[k]? =some (.blk b #[u0,u1,u2,u3,u4] T)) (v0 v1 v2 v3 v4:Value):Fr w (((((W.setCell ⟨b,0,none⟩ v0).setCell ⟨b,1,none⟩ v1).setCell ⟨b,2,none⟩ v2).setCell ⟨b,3,none⟩ v3).setCell ⟨b,4,none⟩ v4) (l.set k (.blk b #[v0,v1,v2,v3,v4] T)):=by
 have h:=F.has _ (List.mem_of_getElem? hi)
 exact F.step k hi ((((((Touch.refl _ _).set (List.mem_singleton.2 rfl)).set (List.mem_singleton.2 rfl)).set (List.mem_singleton.2 rfl)).set (List.mem_singleton.2 rfl)).set (List.mem_singleton.2 rfl)) ⟨h.1,(((((h.2.set 0 v0).set 1 v1).set 2 v2).set 3 v3).set 4 v4)⟩ fun q hq=> .inl hq
theorem set9 (F:Fr w W l) (k:Nat) {b:Nat} {u0 u1 u2 u3 u4 u5 u6 u7 u8:Value} {T:TypeId} (hi:l[k]? =some (.blk b #[u0,u1,u2,u3,u4,u5,u6,u7,u8] T)) (v0 v1 v2 v3 v4 v5 v6 v7 v8:Value):Fr w (((((((((W.setCell ⟨b,0,none⟩ v0).setCell ⟨b,1,none⟩ v1).setCell ⟨b,2,none⟩ v2).setCell ⟨b,3,none⟩ v3).setCell ⟨b,4,none⟩ v4).setCell ⟨b,5,none⟩ v5).setCell ⟨b,6,none⟩ v6).setCell ⟨b,7,none⟩ v7).setCell ⟨b,8,none⟩ v8) (l.set k (.blk b #[v0,v1,v2,v3,v4,v5,v6,v7,v8] T)):=by
 have h:=F.has _ (List.mem_of_getElem? hi)
 exact F.step k hi ((((((((((Touch.refl _ _).set (List.mem_singleton.2 rfl)).set (List.mem_singleton.2 rfl)).set (List.mem_singleton.2 rfl)).set (List.mem_singleton.2 rfl)).set (List.mem_singleton.2 rfl)).set (List.mem_singleton.2 rfl)).set (List.mem_singleton.2 rfl)).set (List.mem_singleton.2 rfl)).set (List.mem_singleton.2 rfl)) ⟨h.1,by have h9:=(((((((((h.2.set 0 v0).set 1 v1).set 2 v2).set 3 v3).set 4 v4).set 5 v5).set 6 v6).set 7 v7).set 8 v8);simpa using h9⟩ fun q hq=> .inl hq
theorem apart (F:Fr w W l) (k k':Nat) {i i':It} (hi:l[k]? =some i) (hi':l[k']? =some i') (hk:k<k'):∀q∈i.foot,q∉i'.foot:=by
 intro q h1 h2
 have ha:=F.ap
 rw[←List.take_append_drop k' l] at ha
 simp only[foots,List.flatMap_append,List.nodup_append,List.mem_flatMap] at ha
 refine ha.2.2 q ⟨i,?_,h1⟩ q ⟨i',?_,h2⟩ rfl
 ·exact List.mem_of_getElem? (i:=k) (by rw[List.getElem?_take];simp[hk,hi])
 ·exact List.mem_of_getElem? (i:=0) (by rw[List.getElem?_drop];simpa using hi')
theorem rd (F:Fr w W l) {a:Option Addr} {cs:List Value} (h:Rd w a cs):Rd W a cs:=h.below F.bel
theorem rdRow (F:Fr w W l) (k:Nat) {a:Option Addr} {n c sz:Nat} {E:TypeId} {cs:List Value} (hi:l[k]? =some (.row a n c E sz cs)):Rd W a cs:=Rd.of_owns (F.own k hi)
theorem sln (F:Fr w W l) (k:Nat) {a:Option Addr} {n c sz:Nat} {E:TypeId} {cs:List Value} (hi:l[k]? =some (.row a n c E sz cs)) (he:E∉structT:=by decide):SlN w W ⟨a,n,c⟩ cs n:=SlN.of_owns (F.own k hi) xL1 he
section
variable {P:Program} {ops:Array Oper} {rest:List Oper} {o:Oper} {ac:Act} {Q:Exit→Act→World→Prop}
theorem wpApp (F:Fr w W l) (k:Nat) (hgd:o.guard=none) (s x:Operand) (t:TypeId) (ho:o.op= .call {callee:= .builtin .append,args:= #[s,x],argTypes:= #[t,t]})
  {e:TypeId} {z:Value} {size bytes:Nat} (ht:P.underlying t=some (.slice e)) (hinfo:(P.info? e).map (fun i=>(i.zero,i.size,i.bytes))=some (some z,size,bytes)) (hzs:z.cells.size=size) (hsz:0<size)
  {a:Option Addr} {n c:Nat} {xs:List Value} (hi:l[k]? =some (.row a n c e size xs)) (hs:ac.eval s= .slice a n c)
  {a2:Option Addr} {m c2:Nat} {news:List Value} (hx:ac.eval x= .slice a2 m c2) (hl:news.length=m*size) (hsrc:Rd W a2 news) (h1:∀u∈news,u.oneCell'=true) (hbytes:(n+m)*bytes≤140737488355328) (hby:0<bytes)
  (h:∀a' c' W',Fr w W' (l.set k (.row a' (n+m) c' e size (xs++news)))→wpList P ops Q rest (ac.put o.dst (.slice a' (n+m) c')) W'):wpList P ops Q (o::rest) ac W:=
 wpList_append_hn hgd s x t ho ht hinfo hzs hsz hs (F.own k hi) hx hl hsrc h1 hbytes hby F.bel.size fun a' c' W' ho' hg hn=>h a' c' W' (F.app k hi hg ho' hn)
end
end Fr
section
variable {w W:World} {l:List It} {ops:Array Oper} {rest:List Oper} {o:Oper} {ac:Act} {Q:Exit→Act→World→Prop}
theorem Fr.appI (F:Fr w W l) (k:Nat) (hgd:o.guard=none) (s x:Operand) (ho:o.op= .call {callee:= .builtin .append,args:= #[s,x],argTypes:= #[23,23]})
  {a:Option Addr} {n c:Nat} {xs:List Value} (hi:l[k]? =some (.row a n c 3 1 xs)) (hs:ac.eval s= .slice a n c) {a2:Option Addr} {m c2:Nat} (ys:List Int) (hx:ac.eval x= .slice a2 m c2) (hl:ys.length=m) (hsrc:Rd W a2 (ints ys)) (hb:n+m≤1048576)
  (h:∀a' c' W',Fr w W' (l.set k (.row a' (n+m) c' 3 1 (xs++ints ys)))→wpList Tryz.prog ops Q rest (ac.put o.dst (.slice a' (n+m) c')) W'):wpList Tryz.prog ops Q (o::rest) ac W:=
 F.wpApp k hgd s x _ ho Tryz.underlying23 info_int rfl (by decide) hi hs hx (by rw[List.length_map,hl,Nat.mul_one]) hsrc (ints_one ys) (by omega) (by decide) h
theorem Fr.appW (F:Fr w W l) (k:Nat) (hgd:o.guard=none) (s x:Operand) (ho:o.op= .call {callee:= .builtin .append,args:= #[s,x],argTypes:= #[81,81]})
  {a:Option Addr} {n c:Nat} {xs:List Value} (hi:l[k]? =some (.row a n c 146 2 xs)) (hs:ac.eval s= .slice a n c) {a2:Option Addr} {m c2:Nat} (ys:List (Int×Int)) (hx:ac.eval x= .slice a2 m c2) (hl:ys.length=m) (hsrc:Rd W a2 (pairs ys)) (hb:n+m≤1048576)
  (h:∀a' c' W',Fr w W' (l.set k (.row a' (n+m) c' 146 2 (xs++pairs ys)))→wpList Tryz.prog ops Q rest (ac.put o.dst (.slice a' (n+m) c')) W'):wpList Tryz.prog ops Q (o::rest) ac W:=
 F.wpApp k hgd s x _ ho Tryz.underlying81 info_way rfl (by decide) hi hs hx (by rw[pairs_len,hl]) hsrc (pairs_one ys) (by omega) (by decide) h
theorem info_let':(Tryz.prog.info? 148).map (fun i=>(i.zero,i.size,i.bytes))=some (some (.agg #[.int .i64 0,.int .i64 0]),2,16):=by kernel_rfl
theorem Fr.appL (F:Fr w W l) (k:Nat) (hgd:o.guard=none) (s x:Operand) (ho:o.op= .call {callee:= .builtin .append,args:= #[s,x],argTypes:= #[91,91]})
  {a:Option Addr} {n c:Nat} {xs:List Value} (hi:l[k]? =some (.row a n c 148 2 xs)) (hs:ac.eval s= .slice a n c) {a2:Option Addr} {m c2:Nat} (ys:List (Int×Int)) (hx:ac.eval x= .slice a2 m c2) (hl:ys.length=m) (hsrc:Rd W a2 (pairs ys)) (hb:n+m≤1048576)
  (h:∀a' c' W',Fr w W' (l.set k (.row a' (n+m) c' 148 2 (xs++pairs ys)))→wpList Tryz.prog ops Q rest (ac.put o.dst (.slice a' (n+m) c')) W'):wpList Tryz.prog ops Q (o::rest) ac W:=
 F.wpApp k hgd s x _ ho Tryz.underlying91 info_let' rfl (by decide) hi hs hx (by rw[pairs_len,hl]) hsrc (pairs_one ys) (by omega) (by decide) h
end
structure SmS (s:StD):Prop where
 pl:0<s.places.length∧s.places.length≤1048576
 st:0<s.status.length∧s.status.length≤1048576
 sa:s.said.length≤1048576
 se:s.sems.length≤1048576
 on:s.onces.length≤1048576
 gr:s.groups.length≤1048576
 ba:s.bars.length≤1048576
 ch:s.chans.length≤1048576
 qse:∀i,(s.sems.getD i noSem).queue.length≤1048576
 qon:∀i,(s.onces.getD i noOnce).waits.length≤1048576
 qgr:∀i,(s.groups.getD i noGrp).waits.length≤1048576
 qba:∀i,(s.bars.getD i noBar).waits.length≤1048576
 qch:∀i,(s.chans.getD i noChn).items.length≤1048576∧(s.chans.getD i noChn).senders.length≤1048576∧(s.chans.getD i noChn).getters.length≤1048576
def part (s:StD) (a b c d e:Nat):StD:=⟨s.places,s.status,s.sems.take a,s.onces.take b,s.groups.take c,s.bars.take d,s.chans.take e,s.said,s.fault⟩
theorem take_snoc {α:Type} (l:List α) (d:α) {j:Nat} (hj:j<l.length):l.take j++[l.getD j d]=l.take (j+1):=by
 rw[List.take_add_one,List.getElem?_eq_getElem hj,List.getD_eq_getElem?_getD,List.getElem?_eq_getElem hj]
 rfl
theorem part_all (s:StD):part s s.sems.length s.onces.length s.groups.length s.bars.length s.chans.length=s:=by
 simp only[part,List.take_length]
theorem info_sem:(Tryz.prog.info? 83).map (fun i=>(i.zero,i.size,i.bytes))=some (some (.agg #[.int .i64 0,.int .i64 0,.slice none 0 0]),3,40):=by kernel_rfl
theorem info_once:(Tryz.prog.info? 96).map (fun i=>(i.zero,i.size,i.bytes))=some (some (.agg #[.int .i64 0,.int .i64 0,.int .i64 0,.slice none 0 0]),4,48):=by kernel_rfl
theorem info_grp:(Tryz.prog.info? 86).map (fun i=>(i.zero,i.size,i.bytes))=some (some (.agg #[.int .i64 0,.slice none 0 0]),2,32):=by kernel_rfl
theorem info_bar:(Tryz.prog.info? 89).map (fun i=>(i.zero,i.size,i.bytes))=some (some (.agg #[.int .i64 0,.int .i64 0,.slice none 0 0]),3,40):=by kernel_rfl
theorem info_chn:(Tryz.prog.info? 93).map (fun i=>(i.zero,i.size,i.bytes))=some (some (.agg #[.int .i64 0,.slice none 0 0,.slice none 0 0,.slice none 0 0,.bool false]),5,88):=by kernel_rfl
theorem foots_set:∀{l:List It} {k:Nat} {i i':It},l[k]? =some i→i'.foot=i.foot→foots (l.set k i')=foots l
 |[],k,_,_,h,_=>by simp at h
 |j::l,0,i,i',h,e=>by
  obtain rfl:j=i:=by simpa using h
  show i'.foot++foots l=j.foot++foots l
  rw[e]
 |j::l,k+1,i,i',h,e=>by
  show j.foot++foots (l.set k i')=j.foot++foots l
  rw[foots_set (by simpa using h) e]
theorem foot_in {l:List It} {k:Nat} {i:It} (h:l[k]? =some i):∀q∈i.foot,q∈foots l:=fun _ hq=>List.mem_flatMap.2 ⟨i,List.mem_of_getElem? h,hq⟩
theorem Fr.other {w W W':World} {l:List It} {S:List Nat} (F:Fr w W l) (T:Touch S W W') (hS:∀k∈S,w.heap.size≤k∧k∉foots l):Fr w W' l:=
 ⟨F.bel.trans (T.below F.bel.size fun q hq=>(hS q hq).1),fun i hi=>It.keep (F.has i hi) fun q hq=>T.block q (It.inside (F.has i hi) q hq).2 fun hm=>(hS q hm).2 (List.mem_flatMap.2 ⟨i,hi,hq⟩),F.ap⟩
structure Sf (w W:World) (l:List It) (v:StV) (L:StL) (s:StD):Prop where
 fr:Fr w W l
 st:StO (foots l) w.heap.size W v L s
namespace Sf
variable {w W W':World} {l:List It} {v v':StV} {L L':StL} {s s':StD}
theorem named (h:Sf w W l v L s):∃x,x=W∧Sf w x l v L s:=⟨W,rfl,h⟩
theorem call (h:Sf w W l v L s) (hb:Below W.heap.size W W'):Sf w W' l v L s:=⟨h.fr.call hb,h.st.below hb⟩
theorem drewN (h:Sf w W l v L s) (n:Nat):Sf w (W.drewN n) l v L s:=h.call (below_drewN' _ _)
theorem drew (h:Sf w W l v L s):Sf w W.drew l v L s:=h.call xB1.drew
theorem more (h:Sf w W l v L s) (hb:Below W.heap.size W W') {i:It} (hi:i.has W.heap.size W'):Sf w W' (i::l) v L s:=⟨h.fr.more hb hi,h.st.boxAll hb (It.inside hi)⟩
theorem alloc (h:Sf w W l v L s) (cs:Array Value) (T:TypeId):Sf w (W.alloc (.cells cs T)) (.blk W.heap.size cs T::l) v L s:=h.more (xA1) ⟨Nat.le_refl _,Blk.new _ _ _⟩
theorem nil (h:Sf w W l v L s) (E:TypeId) (sz:Nat):Sf w W (.row none 0 0 E sz []::l) v L s:=h.more xB1 (World.ownsRow_nil _ _ _ _)
theorem sub (h:Sf w W l v L s) {l':List It} (hs:List.Sublist l' l):Sf w W l' v L s:=⟨h.fr.sub hs,h.st.sub fun _ hk=>(Fr.foots_sub hs).subset hk⟩
theorem pull (h:Sf w W l v L s) (k:Nat) {i:It} (hi:l[k]? =some i):Sf w W (i::l.eraseIdx k) v L s:=⟨h.fr.pull k hi,h.st.sub fun q hq=>by
 obtain⟨j,hj,hqj⟩:=List.mem_flatMap.1 hq
 rcases List.mem_cons.1 hj with rfl|hj
 ·exact foot_in hi q hqj
 ·exact List.mem_flatMap.2 ⟨j,List.mem_of_mem_eraseIdx hj,hqj⟩⟩
theorem step (h:Sf w W l v L s) (k:Nat) {i:It} (hi:l[k]? =some i) (T:Touch i.foot W W') {i':It} (h':i'.has w.heap.size W') (hf:i'.foot=i.foot):Sf w W' (l.set k i') v L s:=
 ⟨h.fr.step k hi T h' fun q hq=> .inl (hf▸hq),by rw[foots_set hi hf];exact h.st.other (T.mono (foot_in hi))⟩
theorem set (h:Sf w W l v L s) (k:Nat) {b:Nat} {cs:Array Value} {T:TypeId} (hi:l[k]? =some (.blk b cs T)) (j:Nat) (x:Value):Sf w (W.setCell ⟨b,j,none⟩ x) (l.set k (.blk b (cs.setIfInBounds j x) T)) v L s:=by
 have hh:=h.fr.has _ (List.mem_of_getElem? hi)
 exact h.step k hi ((Touch.refl _ _).set (List.mem_singleton.2 rfl)) ⟨hh.1,hh.2.set j x⟩ rfl
theorem blks (h:Sf w W l v L s):∀k∈v.blks,w.heap.size≤k∧k∉foots l:=fun k hk=>⟨(h.st.from k hk).1,fun hm=>(h.st.xs k hm).2 hk⟩
theorem upd (h:Sf w W l v L s) (T:Touch v.blks W W') (hs:StO (foots l) w.heap.size W' v' L' s'):Sf w W' l v' L' s':=⟨h.fr.other T h.blks,hs⟩
theorem bel (h:Sf w W l v L s):Below w.heap.size w W:=h.fr.bel
theorem rd (h:Sf w W l v L s):StR W v L s:=h.st.rd
theorem c2 (h:Sf w W l v L s) (k:Nat) {b:Nat} {v0 v1:Value} {T:TypeId} (hi:l[k]? =some (.blk b #[v0,v1] T)):W.cell? ⟨b,0,none⟩=some v0∧W.frozen? ⟨b,0,none⟩=false∧W.cell? ⟨b,1,none⟩=some v1∧W.frozen? ⟨b,1,none⟩=false:=h.fr.c2 k hi
theorem c3 (h:Sf w W l v L s) (k:Nat) {b:Nat} {v0 v1 v2:Value} {T:TypeId} (hi:l[k]? =some (.blk b #[v0,v1,v2] T)):W.cell? ⟨b,0,none⟩=some v0∧W.frozen? ⟨b,0,none⟩=false∧W.cell? ⟨b,1,none⟩=some v1∧W.frozen? ⟨b,1,none⟩=false∧W.cell? ⟨b,2,none⟩=some v2∧W.frozen? ⟨b,2,none⟩=false:=h.fr.c3 k hi
theorem c4 (h:Sf w W l v L s) (k:Nat) {b:Nat} {v0 v1 v2 v3:Value} {T:TypeId} (hi:l[k]? =some (.blk b #[v0,v1,v2,v3] T)):W.cell? ⟨b,0,none⟩=some v0∧W.frozen? ⟨b,0,none⟩=false∧W.cell? ⟨b,1,none⟩=some v1∧W.frozen? ⟨b,1,none⟩=false∧W.cell? ⟨b,2,none⟩=some v2∧W.frozen? ⟨b,2,none⟩=false∧W.cell? ⟨b,3,none⟩=some v3∧W.frozen? ⟨b,3,none⟩=false:=h.fr.c4 k hi
theorem c5 (h:Sf w W l v L s) (k:Nat) {b:Nat} {v0 v1 v2 v3 v4:Value} {T:TypeId} (hi:l[k]? =some (.blk b #[v0,v1,v2,v3,v4] T)):W.cell? ⟨b,0,none⟩=some v0∧W.frozen? ⟨b,0,none⟩=false∧W.cell? ⟨b,1,none⟩=some v1∧W.frozen? ⟨b,1,none⟩=false∧W.cell? ⟨b,2,none⟩=some v2∧W.frozen? ⟨b,2,none⟩=false∧W.cell? ⟨b,3,none⟩=some v3∧W.frozen? ⟨b,3,none⟩=false∧W.cell? ⟨b,4,none⟩=some v4∧W.frozen? ⟨b,4,none⟩=false:=h.fr.c5 k hi
theorem c9 (h:Sf w W l v L s) (k:Nat) {b:Nat} {v0 v1 v2 v3 v4 v5 v6 v7 v8:Value} {T:TypeId} (hi:l[k]? =some (.blk b #[v0,v1,v2,v3,v4,v5,v6,v7,v8] T)):W.cell? ⟨b,0,none⟩=some v0∧W.frozen? ⟨b,0,none⟩=false∧W.cell? ⟨b,1,none⟩=some v1∧W.frozen? ⟨b,1,none⟩=false∧W.cell? ⟨b,2,none⟩=some v2∧W.frozen? ⟨b,2,none⟩=false∧W.cell? ⟨b,3,none⟩=some v3∧W.frozen? ⟨b,3,none⟩=false∧W.cell? ⟨b,4,none⟩=some v4∧W.frozen? ⟨b,4,none⟩=false∧W.cell? ⟨b,5,none⟩=some v5∧W.frozen? ⟨b,5,none⟩=false∧W.cell? ⟨b,6,none⟩=some v6∧W.frozen? ⟨b,6,none⟩=false∧W.cell? ⟨b,7,none⟩=some v7∧W.frozen? ⟨b,7,none⟩=false∧W.cell? ⟨b,8,none⟩=some v8∧W.frozen? ⟨b,8,none⟩=false:=h.fr.c9 k hi
theorem set3 (h:Sf w W l v L s) (k:Nat) {b:Nat} {u0 u1 u2:Value} {T:TypeId} (hi:l[k]? =some (.blk b #[u0,u1,u2] T)) (v0 v1 v2:Value):Sf w (((W.setCell ⟨b,0,none⟩ v0).setCell ⟨b,1,none⟩ v1).setCell ⟨b,2,none⟩ v2) (l.set k (.blk b #[v0,v1,v2] T)) v L s:=by
 have hh:=h.fr.has _ (List.mem_of_getElem? hi)
 exact h.step k hi ((((Touch.refl _ _).set (List.mem_singleton.2 rfl)).set (List.mem_singleton.2 rfl)).set (List.mem_singleton.2 rfl)) ⟨hh.1,by have h9:=(((hh.2.set 0 v0).set 1 v1).set 2 v2);simpa using h9⟩ rfl
theorem set9 (h:Sf w W l v L s) (k:Nat) {b:Nat} {u0 u1 u2 u3 u4 u5 u6 u7 u8:Value} {T:TypeId} (hi:l[k]? =some (.blk b #[u0,u1,u2,u3,u4,u5,u6,u7,u8] T)) (v0 v1 v2 v3 v4 v5 v6 v7 v8:Value):Sf w (((((((((W.setCell ⟨b,0,none⟩ v0).setCell ⟨b,1,none⟩ v1).setCell ⟨b,2,none⟩ v2).setCell ⟨b,3,none⟩ v3).setCell ⟨b,4,none⟩ v4).setCell ⟨b,5,none⟩ v5).setCell ⟨b,6,none⟩ v6).setCell ⟨b,7,none⟩ v7).setCell ⟨b,8,none⟩ v8) (l.set k (.blk b #[v0,v1,v2,v3,v4,v5,v6,v7,v8] T)) v L s:=by
 have hh:=h.fr.has _ (List.mem_of_getElem? hi)
 exact h.step k hi ((((((((((Touch.refl _ _).set (List.mem_singleton.2 rfl)).set (List.mem_singleton.2 rfl)).set (List.mem_singleton.2 rfl)).set (List.mem_singleton.2 rfl)).set (List.mem_singleton.2 rfl)).set (List.mem_singleton.2 rfl)).set (List.mem_singleton.2 rfl)).set (List.mem_singleton.2 rfl)).set (List.mem_singleton.2 rfl)) ⟨hh.1,by have h9:=(((((((((hh.2.set 0 v0).set 1 v1).set 2 v2).set 3 v3).set 4 v4).set 5 v5).set 6 v6).set 7 v7).set 8 v8);simpa using h9⟩ rfl
theorem setPl (h:Sf w W l v L s) {g:Nat} (hg:v.pl.a=some ⟨g,0,none⟩) (t x:Int):Sf w (W.setCell ⟨g,t.toNat,none⟩ (.int .i64 x)) l v L {s with places:=s.places.set t.toNat x}:=by
 have T:Touch [g] W (W.setCell ⟨g,t.toNat,none⟩ (.int .i64 x)):=(Touch.refl [g] W).set (by simp)
 have own:=h.st.pl
 rw[show v.pl.val= .slice (some ⟨g,0,none⟩) v.pl.n v.pl.c by rw[←hg]] at own
 have R:=(owns_store own t.toNat (.int .i64 x) (cs':=ints (s.places.set t.toNat x)) (by simp[ints,List.map_set])).1
 rw[show(.slice (some ⟨g,0,none⟩) v.pl.n v.pl.c:Value)=v.pl.val by rw[←hg]] at R
 exact h.upd (T.mono fun k hk=>by obtain rfl:=xS1 hk;exact StV.mem_pl (by rw[hg];rfl)) (h.st.set_pl (by rw[hg];rfl) T (by rw[List.length_set];exact h.st.npl) R)
theorem setSt (h:Sf w W l v L s) {g:Nat} (hg:v.st.a=some ⟨g,0,none⟩) (t x:Int):Sf w (W.setCell ⟨g,t.toNat,none⟩ (.int .i64 x)) l v L (setStat s t x):=
 h.upd ((h.st.stat hg t x).2.mono fun k hk=>by obtain rfl:=xS1 hk;exact StV.mem_st (by rw[hg];rfl)) (h.st.stat hg t x).1
theorem plAt (h:Sf w W l v L s) {g:Nat} (hg:v.pl.a=some ⟨g,0,none⟩) (t:Int) (ht:t.toNat<s.places.length):W.cell? ⟨g,t.toNat,none⟩=some (.int .i64 (s.places.getD t.toNat 0))∧W.frozen? ⟨g,t.toNat,none⟩=false:=by
 have own:=h.st.pl
 rw[show v.pl.val= .slice (some ⟨g,0,none⟩) v.pl.n v.pl.c by rw[←hg]] at own
 refine⟨?_,own.frozenAt t.toNat⟩
 rw[own.cellAt t.toNat (by rw[h.st.npl];omega)]
 simp[ints,ht,List.getD]
theorem stAt (h:Sf w W l v L s) {g:Nat} (hg:v.st.a=some ⟨g,0,none⟩) (t:Int) (ht:t.toNat<s.status.length):W.cell? ⟨g,t.toNat,none⟩=some (.int .i64 (s.status.getD t.toNat 0))∧W.frozen? ⟨g,t.toNat,none⟩=false:=by
 have own:=h.st.st
 rw[show v.st.val= .slice (some ⟨g,0,none⟩) v.st.n v.st.c by rw[←hg]] at own
 refine⟨?_,own.frozenAt t.toNat⟩
 rw[own.cellAt t.toNat (by rw[h.st.nst];omega)]
 simp[ints,ht,List.getD]
theorem apart (h:Sf w W l v L s) {W1:World} {q:SlV} {cs:List Value} {n:Nat} (hs:SlN W W1 q cs n):SlR (foots l++v.blks) W1 q cs n:=hs.r fun b hb=>by
 rcases xP1 hb with hb|hb
 ·exact(h.fr.inside b hb).2
 ·exact(h.st.from b hb).2
end Sf
section
variable {w W:World} {l:List It} {v:StV} {L:StL} {s:StD} {ops:Array Oper} {rest:List Oper} {o:Oper} {ac:Act} {Q:Exit→Act→World→Prop}
theorem Sf.app_se (h:Sf w W l v L s) (hgd:o.guard=none) (y z:Operand) (ho:o.op= .call {callee:= .builtin .append,args:= #[y,z],argTypes:= #[32,32]}) (hs:ac.eval y=v.se.val) {a2:Option Addr} {c2:Nat} {x:SemD} {q:SlV} (hx:ac.eval z= .slice a2 1 c2) (hr:Rd W a2 (semC (x,q))) (hq:semR (foots l++v.blks) W x q) (hn:v.se.n+1≤1048576)
  (K:∀(r:SlV) W',Sf w W' l {v with se:=r} {L with se:=L.se++[(x,q)]} {s with sems:=s.sems++[x]}→wpList Tryz.prog ops Q rest (ac.put o.dst r.val) W'):wpList Tryz.prog ops Q (o::rest) ac W:=
 wpList_append_hn hgd y z _ ho Tryz.underlying32 info_sem rfl (by decide) hs h.st.se hx rfl hr (by intro u hu;simp only[semC,List.mem_cons,List.not_mem_nil,or_false] at hu;(rcases hu with rfl|rfl|rfl)<;>rfl) (by omega) (by decide) h.fr.bel.size fun a' c' W' ho' hg hn'=>
  K ⟨a',v.se.n+1,c'⟩ W' (h.upd (Touch.of_grown hg fun k hk=>StV.mem_se hk) (h.st.push_se hg hn' hq (by show v.se.n+1=_;rw[h.st.nse]) (by rw[List.flatMap_append];simpa using ho')))
theorem Sf.app_on (h:Sf w W l v L s) (hgd:o.guard=none) (y z:Operand) (ho:o.op= .call {callee:= .builtin .append,args:= #[y,z],argTypes:= #[33,33]}) (hs:ac.eval y=v.on.val) {a2:Option Addr} {c2:Nat} {x:OnceD} {q:SlV} (hx:ac.eval z= .slice a2 1 c2) (hr:Rd W a2 (onceC (x,q))) (hq:onceR (foots l++v.blks) W x q) (hn:v.on.n+1≤1048576)
  (K:∀(r:SlV) W',Sf w W' l {v with on:=r} {L with on:=L.on++[(x,q)]} {s with onces:=s.onces++[x]}→wpList Tryz.prog ops Q rest (ac.put o.dst r.val) W'):wpList Tryz.prog ops Q (o::rest) ac W:=
 wpList_append_hn hgd y z _ ho Tryz.underlying33 info_once rfl (by decide) hs h.st.on hx rfl hr (by intro u hu;simp only[onceC,List.mem_cons,List.not_mem_nil,or_false] at hu;(rcases hu with rfl|rfl|rfl|rfl)<;>rfl) (by omega) (by decide) h.fr.bel.size fun a' c' W' ho' hg hn'=>
  K ⟨a',v.on.n+1,c'⟩ W' (h.upd (Touch.of_grown hg fun k hk=>StV.mem_on hk) (h.st.push_on hg hn' hq (by show v.on.n+1=_;rw[h.st.non]) (by rw[List.flatMap_append];simpa using ho')))
theorem Sf.app_gr (h:Sf w W l v L s) (hgd:o.guard=none) (y z:Operand) (ho:o.op= .call {callee:= .builtin .append,args:= #[y,z],argTypes:= #[34,34]}) (hs:ac.eval y=v.gr.val) {a2:Option Addr} {c2:Nat} {x:GrpD} {q:SlV} (hx:ac.eval z= .slice a2 1 c2) (hr:Rd W a2 (grpC (x,q))) (hq:grpR (foots l++v.blks) W x q) (hn:v.gr.n+1≤1048576)
  (K:∀(r:SlV) W',Sf w W' l {v with gr:=r} {L with gr:=L.gr++[(x,q)]} {s with groups:=s.groups++[x]}→wpList Tryz.prog ops Q rest (ac.put o.dst r.val) W'):wpList Tryz.prog ops Q (o::rest) ac W:=
 wpList_append_hn hgd y z _ ho Tryz.underlying34 info_grp rfl (by decide) hs h.st.gr hx rfl hr (by intro u hu;simp only[grpC,List.mem_cons,List.not_mem_nil,or_false] at hu;(rcases hu with rfl|rfl)<;>rfl) (by omega) (by decide) h.fr.bel.size fun a' c' W' ho' hg hn'=>
  K ⟨a',v.gr.n+1,c'⟩ W' (h.upd (Touch.of_grown hg fun k hk=>StV.mem_gr hk) (h.st.push_gr hg hn' hq (by show v.gr.n+1=_;rw[h.st.ngr]) (by rw[List.flatMap_append];simpa using ho')))
theorem Sf.app_ba (h:Sf w W l v L s) (hgd:o.guard=none) (y z:Operand) (ho:o.op= .call {callee:= .builtin .append,args:= #[y,z],argTypes:= #[35,35]}) (hs:ac.eval y=v.ba.val) {a2:Option Addr} {c2:Nat} {x:BarD} {q:SlV} (hx:ac.eval z= .slice a2 1 c2) (hr:Rd W a2 (barC (x,q))) (hq:barR (foots l++v.blks) W x q) (hn:v.ba.n+1≤1048576)
  (K:∀(r:SlV) W',Sf w W' l {v with ba:=r} {L with ba:=L.ba++[(x,q)]} {s with bars:=s.bars++[x]}→wpList Tryz.prog ops Q rest (ac.put o.dst r.val) W'):wpList Tryz.prog ops Q (o::rest) ac W:=
 wpList_append_hn hgd y z _ ho Tryz.underlying35 info_bar rfl (by decide) hs h.st.ba hx rfl hr (by intro u hu;simp only[barC,List.mem_cons,List.not_mem_nil,or_false] at hu;(rcases hu with rfl|rfl|rfl)<;>rfl) (by omega) (by decide) h.fr.bel.size fun a' c' W' ho' hg hn'=>
  K ⟨a',v.ba.n+1,c'⟩ W' (h.upd (Touch.of_grown hg fun k hk=>StV.mem_ba hk) (h.st.push_ba hg hn' hq (by show v.ba.n+1=_;rw[h.st.nba]) (by rw[List.flatMap_append];simpa using ho')))
theorem Sf.app_ch (h:Sf w W l v L s) (hgd:o.guard=none) (y z:Operand) (ho:o.op= .call {callee:= .builtin .append,args:= #[y,z],argTypes:= #[36,36]}) (hs:ac.eval y=v.ch.val) {a2:Option Addr} {c2:Nat} {x:ChnD} {q:SlV×SlV×SlV} (hx:ac.eval z= .slice a2 1 c2) (hr:Rd W a2 (chnC (x,q))) (hq:chnR (foots l++v.blks) W x q) (hn:v.ch.n+1≤1048576)
  (K:∀(r:SlV) W',Sf w W' l {v with ch:=r} {L with ch:=L.ch++[(x,q)]} {s with chans:=s.chans++[x]}→wpList Tryz.prog ops Q rest (ac.put o.dst r.val) W'):wpList Tryz.prog ops Q (o::rest) ac W:=
 wpList_append_hn hgd y z _ ho Tryz.underlying36 info_chn rfl (by decide) hs h.st.ch hx rfl hr (by intro u hu;simp only[chnC,List.mem_cons,List.not_mem_nil,or_false] at hu;(rcases hu with rfl|rfl|rfl|rfl|rfl)<;>rfl) (by omega) (by decide) h.fr.bel.size fun a' c' W' ho' hg hn'=>
  K ⟨a',v.ch.n+1,c'⟩ W' (h.upd (Touch.of_grown hg fun k hk=>StV.mem_ch hk) (h.st.push_ch hg hn' hq (by show v.ch.n+1=_;rw[h.st.nch]) (by rw[List.flatMap_append];simpa using ho')))
end
def newS (B:Nat) (cs:List Value) (q:SlV):Prop:=cs=[]∨∀b,rowOf q.a=some b→B≤b
structure NewB (B:Nat) (L:StL):Prop where
 se:∀z∈L.se,newS B (pairs z.1.queue) z.2
 on:∀z∈L.on,newS B (ints z.1.waits) z.2
 gr:∀z∈L.gr,newS B (ints z.1.waits) z.2
 ba:∀z∈L.ba,newS B (ints z.1.waits) z.2
 ch:∀z∈L.ch,newS B (ints z.1.items) z.2.1∧newS B (pairs z.1.senders) z.2.2.1∧newS B (ints z.1.getters) z.2.2.2
theorem NewB.nil (B:Nat):NewB B ⟨[],[],[],[],[]⟩:=⟨by simp,by simp,by simp,by simp,by simp⟩
theorem newS.lower {B B':Nat} {cs:List Value} {q:SlV} (h:newS B cs q) (hb:B'≤B):newS B' cs q:=h.imp id fun h b e=>Nat.le_trans hb (h b e)
theorem mem_one {α:Type} {l:List α} {x:α} {P:α→Prop} (h:∀z∈l,P z) (hx:P x):∀z∈l++[x],P z:=fun z hz=>by
 rcases xP1 hz with hz|hz
 ·exact h z hz
 ·obtain rfl:=xS1 hz;exact hx
theorem NewB.se1 {B:Nat} {L:StL} (h:NewB B L) {x:SemD} {q:SlV} (hq:newS B (pairs x.queue) q):NewB B {L with se:=L.se++[(x,q)]}:=⟨mem_one h.se hq,h.on,h.gr,h.ba,h.ch⟩
theorem NewB.on1 {B:Nat} {L:StL} (h:NewB B L) {x:OnceD} {q:SlV} (hq:newS B (ints x.waits) q):NewB B {L with on:=L.on++[(x,q)]}:=⟨h.se,mem_one h.on hq,h.gr,h.ba,h.ch⟩
theorem NewB.gr1 {B:Nat} {L:StL} (h:NewB B L) {x:GrpD} {q:SlV} (hq:newS B (ints x.waits) q):NewB B {L with gr:=L.gr++[(x,q)]}:=⟨h.se,h.on,mem_one h.gr hq,h.ba,h.ch⟩
theorem NewB.ba1 {B:Nat} {L:StL} (h:NewB B L) {x:BarD} {q:SlV} (hq:newS B (ints x.waits) q):NewB B {L with ba:=L.ba++[(x,q)]}:=⟨h.se,h.on,h.gr,mem_one h.ba hq,h.ch⟩
theorem NewB.ch1 {B:Nat} {L:StL} (h:NewB B L) {x:ChnD} {q:SlV×SlV×SlV} (hq:newS B (ints x.items) q.1∧newS B (pairs x.senders) q.2.1∧newS B (ints x.getters) q.2.2):NewB B {L with ch:=L.ch++[(x,q)]}:=⟨h.se,h.on,h.gr,h.ba,mem_one h.ch hq⟩
theorem SlR.aside {X S:List Nat} {B:Nat} {w:World} {q:SlV} {cs:List Value} {k:Nat} (h:SlR S w q cs k) (hn:newS B cs q) (hX:∀k∈X,k<B):SlR (X++S) w q cs k:=by
 refine⟨h.len,h.rd,?_,h.cap⟩
 rcases hn with hn|hn
 ·exact .inl hn
 rcases h.far with hf|hf
 ·exact .inl hf
 refine .inr fun b hb hm=> ?_
 rcases xP1 hm with hm|hm
 ·have:=hn b hb;have:=hX b hm;omega
 ·exact hf b hb hm
theorem StO.aside {X:List Nat} {B:Nat} {w:World} {v:StV} {L:StL} {s:StD} (h:StO [] B w v L s) (hn:NewB B L) (hX:∀k∈X,k<B∧k<w.heap.size):StO X B w v L s:=
 have hB:∀k∈X,k<B:=fun k hk=>(hX k hk).1
 ⟨h.pl,h.npl,h.st,h.nst,h.se,h.nse,h.on,h.non,h.gr,h.ngr,h.ba,h.nba,h.ch,h.nch,h.sa,h.nsa,h.fl,h.dps,h.dpa,h.dsa,fun k hk=>⟨(hX k hk).2,fun hm=>by have:=(h.from k hm).1;have:=hB k hk;omega⟩,
  ⟨⟨h.inn.se.e,fun x hx=>(h.inn.se.r x hx).aside (hn.se x hx) hB⟩,⟨h.inn.on.e,fun x hx=>(h.inn.on.r x hx).aside (hn.on x hx) hB⟩,⟨h.inn.gr.e,fun x hx=>(h.inn.gr.r x hx).aside (hn.gr x hx) hB⟩,⟨h.inn.ba.e,fun x hx=>(h.inn.ba.r x hx).aside (hn.ba x hx) hB⟩,⟨h.inn.ch.e,fun x hx=>⟨(h.inn.ch.r x hx).1.aside (hn.ch x hx).1 hB,(h.inn.ch.r x hx).2.1.aside (hn.ch x hx).2.1 hB,(h.inn.ch.r x hx).2.2.aside (hn.ch x hx).2.2 hB⟩⟩⟩⟩
theorem Sf.gain {w W W':World} {l:List It} {v:StV} {L:StL} {s:StD} (F:Fr w W l) (ho:StO [] W.heap.size W' v L s) (hn:NewB W.heap.size L) (hb:Below W.heap.size W W'):Sf w W' l v L s:=
 ⟨F.call hb,(ho.aside hn fun k hk=>⟨(F.inside k hk).2,Nat.lt_of_lt_of_le (F.inside k hk).2 hb.size⟩).lower F.bel.size⟩
structure TS (T:TypeId) (B:Nat) (w w':World):Prop where
 bel:Below B w w'
 oth:∀(k:Nat) (cs:Array Value) (e:TypeId) (fr:Nat×Nat),w.heap[k]? =some (Obj.cells cs e fr)→e≠T→w'.heap[k]? =w.heap[k]?
 prg:∀(k:Nat) (cs:Array Value),Blk w k cs T→∃ds:Array Value,ds.size=cs.size∧Blk w' k ds T
theorem SlN.ts {T:TypeId} {B:Nat} {w0 w w':World} {s:SlV} {cs:List Value} {k:Nat} (h:SlN w0 w s cs k) (t:TS T B w w') (hT:T∈structT):SlN w0 w' s cs k:=by
 rcases h.ty with h0|hty
 ·exact⟨h.len,.inl h0,h.new,h.cap,.inl h0⟩
 ·refine⟨h.len,?_,h.new,h.cap,.inr fun b hb=> ?_⟩
  ·rcases h.rd with h0|⟨b,o,e,hc⟩
   ·exact .inl h0
   ·refine .inr ⟨b,o,e,fun j hj=> ?_⟩
    obtain⟨cur,e',fr,h1,h2⟩:=hty b (by rw[e];rfl)
    have h3:=t.oth b cur e' fr h1 (fun hh=>h2 (hh▸hT))
    have h4:=hc j hj
    unfold World.cell? at h4⊢
    rw[h3];exact h4
  ·obtain⟨cur,e',fr,h1,h2⟩:=hty b hb
   exact⟨cur,e',fr,(t.oth b cur e' fr h1 (fun hh=>h2 (hh▸hT))).trans h1,h2⟩
theorem owns_ts {T:TypeId} {B B':Nat} {w w':World} {e:TypeId} {sz n c:Nat} {a:Option Addr} {cs:List Value} (h:w.ownsRow B' e sz (.slice a n c) n cs) (t:TS T B w w') (he:e≠T):w'.ownsRow B' e sz (.slice a n c) n cs:=
 owns_keep h fun k hk _=>by
  rw[ownBlock_slice] at hk
  obtain⟨cur,fr,h1⟩:=owns_typed h k hk
  exact t.oth k cur e fr h1 he
def tupGet:Value→Nat→Value
 | .tuple vs,i=>vs.getD i undef
 |_,_=>undef
theorem fcff {l:List Oper} {ρ:Operand→Value} {a:Act} (h:∀x,outer l x=true→ρ x=a.eval x):(∀z,ρ (.const z)=z)∧(∀z,ρ (.func z)= .func (.func z) #[] #[]):=⟨fun _=>h _ rfl,fun _=>h _ rfl⟩
def isV (V:Value) (_:List Value) (u:Value) (_:World):Prop:=u=V
theorem pS {V:Value} {S:World→World→Prop}:∀ds u w w',S w w'→isV V ds u w→isV V ds u w':=fun _ _ _ _ _ h=>h
theorem gvF {P:Program} {o:Oper} {ρ:Operand→Value} {W w1:World} {R:Value→World→Prop} {B:Value→Option Nat} {u:Value} (hG:Below W.heap.size W w1) (h:(execOp ρ o).run P w1= .ok (.value u) w1) (hR:R u w1) (hB:∀k,B u=some k→False):gives P o ρ w1 (fun u w'=>Below w1.heap.size w1 w'∧R u w'∧(∀k,B u=some k→w1.heap.size≤k∧k<w'.heap.size)∧Below W.heap.size W w'):=
 gives_val h ⟨Below.refl _ _,hR,fun k hk=>(hB k hk).elim,hG⟩
theorem gvT {P:Program} {o:Oper} {ρ:Operand→Value} {W w1:World} {R:Value→World→Prop} {B:Value→Option Nat} {T:World→World→Prop} {i i0:Nat} {u:Value} (hG:Below W.heap.size W w1) (h:(execOp ρ o).run P w1= .ok (.value u) w1) (hR:R u w1) (hB:∀k,B u=some k→False) (hi:i≠i0:=by decide):gives P o ρ w1 (fun u w'=>St1 i0 T i w1 w'∧R u w'∧(∀k,B u=some k→w1.heap.size≤k∧k<w'.heap.size)∧Below W.heap.size W w'):=
 gives_val h ⟨st1_below hi xB1,hR,fun k hk=>(hB k hk).elim,hG⟩
theorem wp_region_ts {P:Program} {id:Nat} {l:List Oper} (n:Nat) (T:TypeId) (i0:Nat) {a0:Act} {w:World} {Q:Exit→Act→World→Prop} (hm:P.follows .mixedOrders=true) (hf:fits l n a0.tmps.size=true) (Rs:List (List Value→Value→World→Prop)) (h1:StabAll Rs) (h2:StabAllBy i0 (TS T w.heap.size) 0 Rs) (hsteps:Steps P (l.take n) Rs (St1 i0 (TS T w.heap.size)) (fun _ _=>none) (fun _ w'=>Below w.heap.size w w') a0.eval (l.take n) 0) (hend:∀(vs:List Value) w',Below w.heap.size w w'→vs.length=n→All Rs vs w' (l.take n) 0→wpList P l.toArray Q (l.drop n) (putAll (l.take n) a0 vs) w'):(Code.region id l.toArray true).wp P Q a0 w:=
 wp_region_steps n hm hf Rs _ _ _ (fun _ _=>xB1.drew) (st1_size fun _ _ h=>h.bel.size) (stab1_of h1 h2) hsteps (fun vs w' _ hG hl ha _ _=>hend vs w' hG hl ha)
theorem wp_region_fr {P:Program} {id:Nat} {l:List Oper} (n:Nat) {a0:Act} {w:World} {Q:Exit→Act→World→Prop} (hm:P.follows .mixedOrders=true) (hf:fits l n a0.tmps.size=true) (Rs:List (List Value→Value→World→Prop)) (h1:StabAll Rs) (hsteps:StepsF P (l.take n) Rs (fun _ _=>none) (fun w'=>Below w.heap.size w w') a0.eval (l.take n) 0) (hend:∀(vs:List Value) w',Below w.heap.size w w'→vs.length=n→All Rs vs w' (l.take n) 0→wpList P l.toArray Q (l.drop n) (putAll (l.take n) a0 vs) w'):(Code.region id l.toArray true).wp P Q a0 w:=
 wp_region_fresh n hm hf Rs _ _ xB1.drew (stab_of h1) hsteps (fun vs w' hG hl ha _ _=>hend vs w' hG hl ha)
theorem len0 {vs:List Value} (h:vs.length=0):vs=[]:=List.eq_nil_of_length_eq_zero h
theorem len1 {vs:List Value} (h:vs.length=1):∃x0,vs=[x0]:=by
 obtain⟨x0,t,rfl,g⟩:=len_cons h
 obtain rfl:=len0 g
 exact⟨x0,rfl⟩
theorem len2 {vs:List Value} (h:vs.length=2):∃x0 x1,vs=[x0,x1]:=by
 obtain⟨x0,t,rfl,g⟩:=len_cons h
 obtain⟨x1,rfl⟩:=len1 g
 exact⟨x0,x1,rfl⟩
theorem len3 {vs:List Value} (h:vs.length=3):∃x0 x1 x2,vs=[x0,x1,x2]:=by
 obtain⟨x0,t,rfl,g⟩:=len_cons h
 obtain⟨x1,x2,rfl⟩:=len2 g
 exact⟨x0,x1,x2,rfl⟩
theorem len4 {vs:List Value} (h:vs.length=4):∃x0 x1 x2 x3,vs=[x0,x1,x2,x3]:=by
 obtain⟨x0,t,rfl,g⟩:=len_cons h
 obtain⟨x1,x2,x3,rfl⟩:=len3 g
 exact⟨x0,x1,x2,x3,rfl⟩
theorem len5 {vs:List Value} (h:vs.length=5):∃x0 x1 x2 x3 x4,vs=[x0,x1,x2,x3,x4]:=by
 obtain⟨x0,t,rfl,g⟩:=len_cons h
 obtain⟨x1,x2,x3,x4,rfl⟩:=len4 g
 exact⟨x0,x1,x2,x3,x4,rfl⟩
theorem len6 {vs:List Value} (h:vs.length=6):∃x0 x1 x2 x3 x4 x5,vs=[x0,x1,x2,x3,x4,x5]:=by
 obtain⟨x0,t,rfl,g⟩:=len_cons h
 obtain⟨x1,x2,x3,x4,x5,rfl⟩:=len5 g
 exact⟨x0,x1,x2,x3,x4,x5,rfl⟩
theorem len7 {vs:List Value} (h:vs.length=7):∃x0 x1 x2 x3 x4 x5 x6,vs=[x0,x1,x2,x3,x4,x5,x6]:=by
 obtain⟨x0,t,rfl,g⟩:=len_cons h
 obtain⟨x1,x2,x3,x4,x5,x6,rfl⟩:=len6 g
 exact⟨x0,x1,x2,x3,x4,x5,x6,rfl⟩
theorem len8 {vs:List Value} (h:vs.length=8):∃x0 x1 x2 x3 x4 x5 x6 x7,vs=[x0,x1,x2,x3,x4,x5,x6,x7]:=by
 obtain⟨x0,t,rfl,g⟩:=len_cons h
 obtain⟨x1,x2,x3,x4,x5,x6,x7,rfl⟩:=len7 g
 exact⟨x0,x1,x2,x3,x4,x5,x6,x7,rfl⟩
theorem len9 {vs:List Value} (h:vs.length=9):∃x0 x1 x2 x3 x4 x5 x6 x7 x8,vs=[x0,x1,x2,x3,x4,x5,x6,x7,x8]:=by
 obtain⟨x0,t,rfl,g⟩:=len_cons h
 obtain⟨x1,x2,x3,x4,x5,x6,x7,x8,rfl⟩:=len8 g
 exact⟨x0,x1,x2,x3,x4,x5,x6,x7,x8,rfl⟩
theorem len10 {vs:List Value} (h:vs.length=10):∃x0 x1 x2 x3 x4 x5 x6 x7 x8 x9,vs=[x0,x1,x2,x3,x4,x5,x6,x7,x8,x9]:=by
 obtain⟨x0,t,rfl,g⟩:=len_cons h
 obtain⟨x1,x2,x3,x4,x5,x6,x7,x8,x9,rfl⟩:=len9 g
 exact⟨x0,x1,x2,x3,x4,x5,x6,x7,x8,x9,rfl⟩
theorem len11 {vs:List Value} (h:vs.length=11):∃x0 x1 x2 x3 x4 x5 x6 x7 x8 x9 x10,vs=[x0,x1,x2,x3,x4,x5,x6,x7,x8,x9,x10]:=by
 obtain⟨x0,t,rfl,g⟩:=len_cons h
 obtain⟨x1,x2,x3,x4,x5,x6,x7,x8,x9,x10,rfl⟩:=len10 g
 exact⟨x0,x1,x2,x3,x4,x5,x6,x7,x8,x9,x10,rfl⟩
theorem len12 {vs:List Value} (h:vs.length=12):∃x0 x1 x2 x3 x4 x5 x6 x7 x8 x9 x10 x11,vs=[x0,x1,x2,x3,x4,x5,x6,x7,x8,x9,x10,x11]:=by
 obtain⟨x0,t,rfl,g⟩:=len_cons h
 obtain⟨x1,x2,x3,x4,x5,x6,x7,x8,x9,x10,x11,rfl⟩:=len11 g
 exact⟨x0,x1,x2,x3,x4,x5,x6,x7,x8,x9,x10,x11,rfl⟩
theorem len13 {vs:List Value} (h:vs.length=13):∃x0 x1 x2 x3 x4 x5 x6 x7 x8 x9 x10 x11 x12,vs=[x0,x1,x2,x3,x4,x5,x6,x7,x8,x9,x10,x11,x12]:=by
 obtain⟨x0,t,rfl,g⟩:=len_cons h
 obtain⟨x1,x2,x3,x4,x5,x6,x7,x8,x9,x10,x11,x12,rfl⟩:=len12 g
 exact⟨x0,x1,x2,x3,x4,x5,x6,x7,x8,x9,x10,x11,x12,rfl⟩
end Go.Proofs.YtjmpejaifmopnaaGreat
