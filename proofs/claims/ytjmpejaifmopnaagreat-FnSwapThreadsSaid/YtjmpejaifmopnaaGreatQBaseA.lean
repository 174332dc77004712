/- Part of a proof: BaseA. -/
import Derived.Test.YtjmpejaifmopnaaGreatRows
import Derived.WalkKit
import Derived.WalkSmall
import Derived.Lib.Hide
import Derived.WalkSpells
import Derived.WalkLawsBesides
import Derived.BigQuiet
import Derived.Deep.QuietTactic
import Derived.Maps.AppendAt
import Derived.Laws.IdiomStrings
import Derived.StillTailTactics
import Derived.Deep.RegionHeld3
import Derived.Lib.QuietBelow
import Derived.StillTail
import Derived.ArgAppend
import Derived.Deep.Slices
import Derived.ProofKit
namespace Go.Proofs.YtjmpejaifmopnaaGreat
open Go.RowKit
theorem xH1 {p:Prop} (h:p):Hid p:=Lib.hid h
theorem xN1 {α:Type} {P:α→Prop}:∀k:α,(none:Option α)=some k→P k:=fun _ h=>by cases h
theorem xB1 {B:Nat} {w:World}:Below B w w:=Below.refl _ _
theorem xL1 {n:Nat}:n≤n:=Nat.le_refl _
theorem xS1 {α:Type} {a b:α} (h:a∈[b]):a=b:=List.mem_singleton.1 h
theorem xP1 {α:Type} {a:α} {s t:List α} (h:a∈s++t):a∈s∨a∈t:=List.mem_append.1 h
theorem xQ1 {α:Type} {a:α} {s t:List α} (h:a∈s∨a∈t):a∈s++t:=List.mem_append.2 h
theorem xA1 {w:World} {o:Obj}:Below w.heap.size w (w.alloc o):=(Below.refl _ _).alloc (Nat.le_refl _) _
end Go.Proofs.YtjmpejaifmopnaaGreat
set_option maxRecDepth 100000
set_option maxHeartbeats 16000000
namespace Go.Proofs.YtjmpejaifmopnaaGreat
open Go.RowKit
def Rd (w:World) (a:Option Addr) (cs:List Value):Prop:=
 cs=[]∨∃b o,a=some ⟨b,o,none⟩∧∀j,j<cs.length→w.cell? ⟨b,o+j,none⟩=some (cs.getD j undef)
theorem Rd.at {w:World} {a:Option Addr} {cs:List Value} (h:Rd w a cs) (hne:0<cs.length):
  ∃b o,a=some ⟨b,o,none⟩∧∀j,j<cs.length→w.cell? ⟨b,o+j,none⟩=some (cs.getD j undef):=by
 rcases h with rfl|h
 ·simp at hne
 ·exact h
theorem Rd.keep {w w':World} {a:Option Addr} {cs:List Value} (h:Rd w a cs) (hb:∀b o,a=some ⟨b,o,none⟩→b<w.heap.size→w'.heap[b]? =w.heap[b]?):Rd w' a cs:=by
 rcases h with rfl|⟨b,o,rfl,hc⟩
 ·exact .inl rfl
 ·by_cases hne:cs=[]
  ·exact .inl hne
  ·refine .inr ⟨b,o,rfl,fun j hj=> ?_⟩
   have h0:=hc j hj
   have hlt:=World.block_lt_of_cell? w _ h0
   rw[World.cell?_of_block (w:=w) (w':=w') (a:=⟨b,o+j,none⟩) (hb b o rfl hlt)]
   exact h0
theorem Rd.below {w w':World} {a:Option Addr} {cs:List Value} (h:Rd w a cs) (hb:Below w.heap.size w w'):Rd w' a cs:=
 h.keep fun b _ _ hlt=>hb.block b hlt
def rowOf:Option Addr→Option Nat
 |some a=>some a.block
 |none=>none
theorem Rd.grown {w w':World} {a:Option Addr} {cs:List Value} {row:Option Nat} (h:Rd w a cs) (hg:w.grownBy w' row) (hne:rowOf a=none∨rowOf a≠row):Rd w' a cs:=by
 refine h.keep fun b o e hlt=>hg.block b hlt ?_
 subst e
 rcases hne with h|h
 ·cases h
 ·exact h
theorem Rd.of_owns {w:World} {B:Nat} {e:TypeId} {sz n c:Nat} {a:Option Addr} {cs:List Value} (h:w.ownsRow B e sz (.slice a n c) n cs):Rd w a cs:=by
 rcases h.2 with ⟨h',h0⟩|⟨g,cap,cur,h',hb,hg,hnc,hcm,hcs,htake⟩
 ·left
  refine List.eq_nil_of_length_eq_zero ?_
  rw[h.1,h0];simp
 ·right
  simp only[Value.slice.injEq,true_and] at h'
  obtain⟨rfl,rfl⟩:=h'
  refine⟨g,0,rfl,fun j hj=> ?_⟩
  rw[Nat.zero_add,h.cellAt j (by rw[←h.1];exact hj)]
  simp[List.getD,hj]
abbrev ints (xs:List Int):List Value:=xs.map (Value.int .i64)
theorem ints_getD (xs:List Int) (j:Nat) (hj:j<xs.length):(ints xs).getD j undef= .int .i64 (xs.getD j 0):=by
 simp[ints,List.getD,hj]
theorem Rd.int {w:World} {a:Option Addr} {xs:List Int} (h:Rd w a (ints xs)) (hne:0<xs.length):
  ∃b o,a=some ⟨b,o,none⟩∧∀j,j<xs.length→w.cell? ⟨b,o+j,none⟩=some (.int .i64 (xs.getD j 0)):=by
 obtain⟨b,o,e,hc⟩:=h.at (by simpa using hne)
 exact⟨b,o,e,fun j hj=>by rw[hc j (by simpa using hj),ints_getD xs j hj]⟩
theorem flat_len {α:Type} {f:α→List Value} {sz:Nat} (hf:∀x,(f x).length=sz) (l:List α):(l.flatMap f).length=l.length*sz:=by
 induction l with
 |nil=>simp
 |cons x l ih=>simp[ih,hf,Nat.add_mul];omega
theorem flat_get {α:Type} {f:α→List Value} {sz:Nat} (hf:∀x,(f x).length=sz) (d:α):∀(l:List α) (j i:Nat),j<l.length→i<sz→(l.flatMap f).getD (j*sz+i) undef=(f (l.getD j d)).getD i undef
 |[],j,_,h,_=>by simp at h
 |x::l,0,i,_,hi=>by
  simp only[List.flatMap_cons,Nat.zero_mul,Nat.zero_add,List.getD_cons_zero]
  rw[List.getD_eq_getElem?_getD,List.getElem?_append_left (by rw[hf];exact hi),←List.getD_eq_getElem?_getD]
 |x::l,j+1,i,h,hi=>by
  have:=flat_get hf d l j i (by simpa using h) hi
  simp only[List.flatMap_cons,List.getD_cons_succ]
  rw[←this,List.getD_eq_getElem?_getD,List.getElem?_append_right (by rw[hf,Nat.add_mul];omega),List.getD_eq_getElem?_getD]
  congr 2
  rw[hf,Nat.add_mul];omega
theorem Rd.flat {α:Type} {f:α→List Value} {sz:Nat} (hf:∀x,(f x).length=sz) (d:α) {w:World} {a:Option Addr} {l:List α} (h:Rd w a (l.flatMap f)) (hne:0<l.length) (hsz:0<sz):
  ∃b o,a=some ⟨b,o,none⟩∧∀j,j<l.length→∀i,i<sz→w.cell? ⟨b,o+j*sz+i,none⟩=some ((f (l.getD j d)).getD i undef):=by
 obtain⟨b,o,e,hc⟩:=h.at (by rw[flat_len hf];exact Nat.mul_pos hne hsz)
 refine⟨b,o,e,fun j hj i hi=> ?_⟩
 rw[Nat.add_assoc,hc (j*sz+i) (by rw[flat_len hf];have:=Nat.mul_le_mul_right sz (show j+1≤l.length from hj);rw[Nat.add_mul] at this;omega),flat_get hf d l j i hj hi]
theorem below_of_grown {w w':World} {row:Option Nat} {B:Nat} (hg:w.grownBy w' row) (hB:B≤w.heap.size) (hr:∀k,row=some k→B≤k):Below B w w':=(Below.refl B w).grown hg hB hr
theorem grown_trans {a b c:World} {row:Option Nat} (h:a.grownBy b row) (k:b.grownBy c row):a.grownBy c row:=
 ⟨k.os.trans h.os,k.tape.trans h.tape,k.output.trans h.output,Nat.le_trans h.size k.size,fun i hi hne=>(k.block i (Nat.lt_of_lt_of_le hi h.size) hne).trans (h.block i hi hne)⟩
theorem grown_below {w w':World} {row:Option Nat} (h:Below w.heap.size w w'):w.grownBy w' row:=
 ⟨h.os,h.tape,h.output,h.size,fun k hk _=>h.block k hk⟩
theorem below_drewN' {B:Nat} (w:World) (n:Nat):Below B w (w.drewN n):=below_drewN xB1 n
theorem owns_keep {w w':World} {B:Nat} {e:TypeId} {sz n:Nat} {v:Value} {cs:List Value} (h:w.ownsRow B e sz v n cs) (hb:∀k,v.ownBlock=some k→k<w.heap.size→w'.heap[k]? =w.heap[k]?):w'.ownsRow B e sz v n cs:=by
 refine⟨h.1,?_⟩
 rcases h.2 with hn|⟨g,cap,cur,rfl,hb',hgg,rest⟩
 ·exact .inl hn
 ·refine .inr ⟨g,cap,cur,rfl,hb',?_,rest⟩
  rw[hb g rfl (Array.getElem?_eq_some_iff.1 hgg).1]
  exact hgg
theorem owns_below {w w':World} {B:Nat} {e:TypeId} {sz n:Nat} {v:Value} {cs:List Value} (h:w.ownsRow B e sz v n cs) (hb:Below w.heap.size w w'):w'.ownsRow B e sz v n cs:=
 owns_keep h fun k _ hk=>hb.block k hk
theorem owns_mono {w:World} {B B':Nat} {e:TypeId} {sz n:Nat} {v:Value} {cs:List Value} (h:w.ownsRow B e sz v n cs) (hb:B'≤B):w.ownsRow B' e sz v n cs:=by
 refine⟨h.1,?_⟩
 rcases h.2 with hn|⟨g,cap,cur,rfl,hb',rest⟩
 ·exact .inl hn
 ·exact .inr ⟨g,cap,cur,rfl,by omega,rest⟩
theorem owns_at {w:World} {B:Nat} {e:TypeId} {sz n c:Nat} {a:Option Addr} {cs:List Value} (h:w.ownsRow B e sz (.slice a n c) n cs) (hn:0<n):∃g,a=some ⟨g,0,none⟩∧B≤g∧g<w.heap.size:=by
 rcases h.2 with ⟨h',h0⟩|⟨g,cap,cur,h',hb,hg,hnc,hcm,hcs,htake⟩
 ·omega
 ·simp only[Value.slice.injEq,true_and] at h'
  obtain⟨rfl,rfl⟩:=h'
  exact⟨g,rfl,hb,(Array.getElem?_eq_some_iff.1 hg).1⟩
theorem ownBlock_slice (a:Option Addr) (n c:Nat):(Value.slice a n c).ownBlock=rowOf a:=by cases a<;>rfl
theorem owns_row {w:World} {B:Nat} {e:TypeId} {sz n c:Nat} {a:Option Addr} {cs:List Value} (h:w.ownsRow B e sz (.slice a n c) n cs):∀k,rowOf a=some k→B≤k∧k<w.heap.size:=by
 intro k hk
 exact h.lt k (by rw[ownBlock_slice];exact hk)
theorem owns_store {w:World} {B:Nat} {e:TypeId} {sz n c g:Nat} {cs:List Value} (h:w.ownsRow B e sz (.slice (some ⟨g,0,none⟩) n c) n cs) (j:Nat) (u:Value) {cs':List Value} (e':cs.set j u=cs'):
  (w.setCell ⟨g,j,none⟩ u).ownsRow B e sz (.slice (some ⟨g,0,none⟩) n c) n cs'∧w.grownBy (w.setCell ⟨g,j,none⟩ u) (some g):=by
 subst e'
 exact h.stored j u
theorem owns_slice {w:World} {B:Nat} {e:TypeId} {sz n:Nat} {v:Value} {cs:List Value} (h:w.ownsRow B e sz v n cs):∃a c,v= .slice a n c:=by
 rcases h.2 with ⟨rfl,rfl⟩|⟨g,cap,cur,rfl,_⟩
 ·exact⟨none,0,rfl⟩
 ·exact⟨_,_,rfl⟩
theorem wpList_append_sl {P:Program} {wr:World} {o':Obj} {ops:Array Oper} {rest:List Oper} {o:Oper} {ac:Act} {Q:Exit→Act→World→Prop} (hgd:o.guard=none) (s x:Operand) (t:TypeId)
  (ho:o.op= .call {callee:= .builtin .append,args:= #[s,x],argTypes:= #[t,t]})
  {B:Nat} {e:TypeId} {z:Value} {size bytes:Nat} (ht:P.underlying t=some (.slice e)) (hinfo:(P.info? e).map (fun i=>(i.zero,i.size,i.bytes))=some (some z,size,bytes))
  (hzs:z.cells.size=size) (hsz:0<size)
  {a:Option Addr} {n c:Nat} {xs:List Value} (hs:ac.eval s= .slice a n c) (hown:wr.ownsRow B e size (.slice a n c) n xs)
  {m cm:Nat} {news:List Value} (hx:ac.eval x= .slice (some ⟨wr.heap.size,0,none⟩) m cm) (hl:news.length=m*size) (hnews:o'= .cells news.toArray e) (h1:∀u∈news,u.oneCell'=true)
  (hbytes:(n+m)*bytes≤140737488355328) (hby:0<bytes) (hbase:B≤wr.heap.size)
  (h:∀a' c' w',w'.ownsRow B e size (.slice a' (n+m) c') (n+m) (xs++news)→wr.grownBy w' (rowOf a)→wpList P ops Q rest (ac.put o.dst (.slice a' (n+m) c')) w'):wpList P ops Q (o::rest) ac (wr.alloc o'):=by
 obtain⟨i,hi,hz0,hz1,hz2⟩:=info_parts hinfo
 have h63:n+m≤maxLen:=by
  have:=Nat.le_trans (Nat.le_mul_of_pos_right (n+m) hby) hbytes
  simp only[maxLen];omega
 refine wpList_append_own (wr.alloc o') hgd s x t ho B e i z size bytes ht hi hz0 hz1 hz2 hzs hsz _ n xs hs (hown.alloc _) ⟨wr.heap.size,0,none⟩ m cm news hx hl ?_ h1 h63 hbytes (by simp;omega) ?_
 ·intro j u hj
  subst hnews
  rw[Addr.add_lit,World.cell?_alloc_at _ _ _ _ rfl]
  simpa using hj
 ·intro v' w' hown' hgr _
  obtain⟨a',c',rfl⟩:=owns_slice hown'
  rw[ownBlock_slice] at hgr
  exact h a' c' w' hown' (grown_trans (World.grownBy_alloc _ _ _) hgr)
theorem owns_grown {w w':World} {B:Nat} {e:TypeId} {sz n c:Nat} {a:Option Addr} {cs:List Value} {row:Option Nat} (h:w.ownsRow B e sz (.slice a n c) n cs) (hg:w.grownBy w' row)
  (hne:∀k,rowOf a=some k→row=some k→False):w'.ownsRow B e sz (.slice a n c) n cs:=
 owns_keep h fun k hk hlt=>hg.block k hlt fun e=>by
  rw[ownBlock_slice] at hk
  exact hne k hk e.symm
theorem below_of_drewN {w w':World} {B:Nat} (e:∃n,w'=w.drewN n):Below B w w':=by
 obtain⟨n,rfl⟩:=e;exact below_drewN' _ _
def puts (cs:List Value):Nat→List Value→List Value
 |_,[]=>cs
 |i,v::vs=>puts (cs.set i v) (i+1) vs
theorem puts_mid:∀(V A B C:List Value),B.length=V.length→puts (A++B++C) A.length V=A++V++C
 |[],A,B,C,h=>by
  obtain rfl:B=[]:=List.eq_nil_of_length_eq_zero (by simpa using h)
  rfl
 |v::V,A,b::B,C,h=>by
  have e:(A++b::B++C).set A.length v=(A++[v])++B++C:=by
   simp
  rw[puts,e]
  have:=puts_mid V (A++[v]) B C (by simpa using h)
  simp only[List.length_append,List.length_cons,List.length_nil] at this
  rw[this];simp
 |v::V,A,[],C,h=>by simp at h
theorem owns_empty (w:World) (e:TypeId) (sz:Nat):(w.alloc (.cells #[] e)).ownsRow w.heap.size e sz (.slice (some ⟨w.heap.size,0,none⟩) 0 0) 0 []:=
 World.ownsRow_lit w #[] 0 xL1 (Nat.zero_le _) (by simp)
theorem ints_one (xs:List Int):∀u∈ints xs,u.oneCell'=true:=ints_oneCell .i64 xs
theorem owns_cap {w:World} {B:Nat} {e:TypeId} {sz n c:Nat} {a:Option Addr} {cs:List Value} (h:w.ownsRow B e sz (.slice a n c) n cs):n≤c∧c≤maxLen:=by
 rcases h.2 with ⟨h',h0⟩|⟨g,cap,cur,h',hb,hg,hnc,hcm,hcs,htake⟩
 ·simp only[Value.slice.injEq] at h';exact⟨by omega,by rw[h'.2.2];exact Nat.zero_le _⟩
 ·simp only[Value.slice.injEq,true_and] at h'
  obtain⟨rfl,rfl⟩:=h'
  exact⟨hnc,hcm⟩
theorem grown_new {a b c:World} {row row':Option Nat} (h:a.grownBy b row) (k:b.grownBy c row') (hr:∀i,row'=some i→a.heap.size≤i):a.grownBy c row:=
 ⟨k.os.trans h.os,k.tape.trans h.tape,k.output.trans h.output,Nat.le_trans h.size k.size,fun i hi hne=>
  (k.block i (Nat.lt_of_lt_of_le hi h.size) (fun e=>by have:=hr i e.symm;omega)).trans (h.block i hi hne)⟩
def Blk (w:World) (b:Nat) (cs:Array Value) (t:TypeId):Prop:=w.heap[b]? =some (.cells cs t (0,0))
theorem Blk.lt {w:World} {b:Nat} {cs:Array Value} {t:TypeId} (h:Blk w b cs t):b<w.heap.size:=(Array.getElem?_eq_some_iff.1 h).1
theorem Blk.below {w w':World} {b:Nat} {cs:Array Value} {t:TypeId} (h:Blk w b cs t) (hb:Below w.heap.size w w'):Blk w' b cs t:=(hb.block b h.lt).trans h
theorem Blk.cell {w:World} {b:Nat} {cs:Array Value} {t:TypeId} (h:Blk w b cs t) (j:Nat) {v:Value} (hv:cs[j]? =some v):w.cell? ⟨b,j,none⟩=some v:=by
 unfold Blk at h;simp[World.cell?,h,hv]
theorem Blk.fz {w:World} {b:Nat} {cs:Array Value} {t:TypeId} (h:Blk w b cs t) (j:Nat):w.frozen? ⟨b,j,none⟩=false:=by
 unfold Blk at h;simp[World.frozen?,h]
theorem Blk.set {w:World} {b:Nat} {cs:Array Value} {t:TypeId} (h:Blk w b cs t) (j:Nat) (v:Value):Blk (w.setCell ⟨b,j,none⟩ v) b (cs.setIfInBounds j v) t:=heap_setCell_same w b j cs t v h
theorem Blk.other {w:World} {b:Nat} {cs:Array Value} {t:TypeId} (h:Blk w b cs t) (a:Addr) (v:Value) (hne:b≠a.block):Blk (w.setCell a v) b cs t:=(Below.heap_setCell _ _ _ _ hne).trans h
theorem Blk.alloc {w:World} {b:Nat} {cs:Array Value} {t:TypeId} (h:Blk w b cs t) (o:Obj):Blk (w.alloc o) b cs t:=(heap_alloc_old w o h.lt).trans h
theorem Blk.new (w:World) (cs:Array Value) (t:TypeId):Blk (w.alloc (.cells cs t)) w.heap.size cs t:=heap_alloc_new w _
theorem Blk.grown {w w':World} {b:Nat} {cs:Array Value} {t:TypeId} {row:Option Nat} (h:Blk w b cs t) (hg:w.grownBy w' row) (hne:row≠some b):Blk w' b cs t:=(hg.block b h.lt (fun e=>hne e.symm)).trans h
theorem take_succ_int (zs:List Int) (k:Nat) (hk:k<zs.length):zs.take (k+1)=zs.take k++[zs.getD k 0]:=by
 rw[List.take_add_one,List.getElem?_eq_getElem hk];simp[List.getD,hk]
theorem info_int:(Tryz.prog.info? 3).map (fun i=>(i.zero,i.size,i.bytes))=some (some (.int .i64 0),1,8):=by kernel_rfl
theorem ret_bool {a b:Bool} (h:a=b):Ending.returned (.bool a)= .returned (.bool b):=by rw[h]
theorem ret_int {a b:Int} (h:a=b):Ending.returned (.int .i64 a)= .returned (.int .i64 b):=by rw[h]
abbrev bytesV (bs:List Int):List Value:=bs.map (Value.int .u8)
structure Rdr (w:World) (R:Nat) (a:Option Addr) (n c:Nat) (bs:List Int) (p:Int):Prop where
 at_:w.heap[R]? =some (.cells #[.slice a n c,.int .i64 p] 107 (0,0))
 rd:Rd w a (bytesV bs)
 len:bs.length=n
 few:n≤2000
 pos:0≤p
 byte:∀b∈bs,0≤b∧b≤255
 apart:n=0∨∃k,rowOf a=some k∧k<R
section
variable {w w':World} {R:Nat} {a:Option Addr} {n c:Nat} {bs:List Int} {p:Int}
theorem Rdr.lt (h:Rdr w R a n c bs p):R<w.heap.size:=(Array.getElem?_eq_some_iff.1 h.at_).1
theorem rd_grown_or {cs:List Value} {row:Option Nat} (h:Rd w a cs) (hg:w.grownBy w' row) (h2:cs.length=0∨rowOf a≠row):Rd w' a cs:=by
 rcases h2 with h2|h2
 ·exact .inl (List.eq_nil_of_length_eq_zero h2)
 ·exact h.grown hg (.inr h2)
theorem Rdr.grown {row:Option Nat} (h:Rdr w R a n c bs p) (hg:w.grownBy w' row) (h1:row≠some R) (h2:n=0∨rowOf a≠row):Rdr w' R a n c bs p:=
 ⟨by rw[hg.block R h.lt (fun e=>h1 e.symm)];exact h.at_,rd_grown_or h.rd hg (by rw[List.length_map,h.len];exact h2),h.len,h.few,h.pos,h.byte,h.apart⟩
theorem Rdr.below (h:Rdr w R a n c bs p) (hb:Below w.heap.size w w'):Rdr w' R a n c bs p:=
 ⟨by rw[hb.block R h.lt];exact h.at_,h.rd.below hb,h.len,h.few,h.pos,h.byte,h.apart⟩
theorem Rdr.cell0 (h:Rdr w R a n c bs p):w.cell? ⟨R,0,none⟩=some (.slice a n c):=by simp[World.cell?,h.at_]
theorem Rdr.cell1 (h:Rdr w R a n c bs p):w.cell? ⟨R,1,none⟩=some (.int .i64 p):=by simp[World.cell?,h.at_]
theorem Rdr.fz (h:Rdr w R a n c bs p) (j:Nat):w.frozen? ⟨R,j,none⟩=false:=by
 simp[World.frozen?,h.at_]
theorem Rdr.move (h:Rdr w R a n c bs p) (d:Nat):Rdr ((w.setCell ⟨R,1,none⟩ (.int .i64 (p+1))).drewN d) R a n c bs (p+1)∧w.grownBy ((w.setCell ⟨R,1,none⟩ (.int .i64 (p+1))).drewN d) (some R):=by
 have hg:w.grownBy ((w.setCell ⟨R,1,none⟩ (.int .i64 (p+1))).drewN d) (some R):=
  ⟨rfl,rfl,rfl,by show _≤(w.setCell _ _).heap.size;simp,fun k _ hk=>Below.heap_setCell _ _ _ _ (fun e=>hk (by rw[e]))⟩
 refine⟨⟨?_,?_,h.len,h.few,by have:=h.pos;omega,h.byte,h.apart⟩,hg⟩
 ·show((w.setCell ⟨R,1,none⟩ (.int .i64 (p+1))).heap)[R]? =_
  rw[heap_setCell_same w R 1 _ _ _ h.at_];rfl
 ·exact rd_grown_or h.rd hg (by
   rw[List.length_map,h.len]
   rcases h.apart with h0|⟨k,h1,h2⟩
   ·exact .inl h0
   ·exact .inr (fun e=>by rw[h1] at e;cases e;omega))
theorem Rdr.gr {row:Option Nat} (h:Rdr w R a n c bs p) (hg:w.grownBy w' row) (hr:∀k,row=some k→R<k):Rdr w' R a n c bs p:=
 h.grown hg (fun e=>by have:=hr _ e;omega) (by
  rcases h.apart with h0|⟨k,h1,h2⟩
  ·exact .inl h0
  ·exact .inr (fun e=>by rw[h1] at e;have:=hr k e.symm;omega))
end
theorem xor_i64 (x y:Int) (h1:0≤x) (h2:x<4611686018427387904) (h3:0≤y) (h4:y<4611686018427387904):0≤bits .xor .i64 x y∧bits .xor .i64 x y<4611686018427387904:=by
 obtain⟨X,rfl⟩:=Int.eq_ofNat_of_zero_le h1
 obtain⟨Y,rfl⟩:=Int.eq_ofNat_of_zero_le h3
 have hx:X^^^ Y<2^ 62:=Nat.xor_lt_two_pow (by omega) (by omega)
 have e1:(BitVec.ofInt 64 (X:Int)).toNat=X:=by
  rw[BitVec.ofInt_natCast,BitVec.toNat_ofNat];exact Nat.mod_eq_of_lt (by omega)
 have e2:(BitVec.ofInt 64 (Y:Int)).toNat=Y:=by
  rw[BitVec.ofInt_natCast,BitVec.toNat_ofNat];exact Nat.mod_eq_of_lt (by omega)
 have e:bits .xor .i64 (X:Int) (Y:Int)=((X^^^ Y:Nat):Int):=by
  show IntKind.i64.wrap ((BitVec.ofInt 64 (X:Int)^^^ BitVec.ofInt 64 (Y:Int)).toNat:Int)=_
  rw[BitVec.toNat_xor,e1,e2,IntKind.wrap_i64]
  omega
 rw[e];omega
def Picked (w:World) (R:Nat) (p m:Int) (e:Ending) (w':World):Prop:=
 ∃v:Int,e= .returned (.int .i64 v)∧0≤v∧(1≤m→v<m)∧(m<1→v=0)∧∃d,w'=(w.setCell ⟨R,1,none⟩ (.int .i64 (p+1))).drewN d
theorem pick_any (R:Nat) (a:Option Addr) (n c:Nat) (bs:List Int) (p m:Int) (w:World) (h:Rdr w R a n c bs p) (hp:p≤1099511627776):
  Calls Tryz.prog 55 #[.pointer (some ⟨R,0,none⟩),.int .i64 m] w (Picked w R p m):=by
 have c0:=h.cell0
 have c1:=h.cell1
 have f1:=h.fz 1
 have hlen:=xH1 h.len
 have hfew:=h.few
 have hpos:=h.pos
 have hby:=xH1 h.byte
 have h2:=(h.move 0).1
 have c0':=h2.cell0
 have c1':=h2.cell1
 have hrd':=h2.rd
 have hrd'':Rd (w.setCell ⟨R,1,none⟩ (.int .i64 (p+1))) a (bytesV bs):=hrd'
 change (w.setCell ⟨R,1,none⟩ (.int .i64 (p+1))).cell? ⟨R,0,none⟩=_ at c0'
 change (w.setCell ⟨R,1,none⟩ (.int .i64 (p+1))).cell? ⟨R,1,none⟩=_ at c1'
 clear h2 hrd' h
 by_cases hm:m<1
 ·go_enter Tryz.func55,Tryz.ntmps55
  go_wp2
  go_ret
  exact⟨0,rfl,by omega,by omega,by omega,0,rfl⟩
 ·by_cases hn:n=0
  ·subst hn
   have hmd:decide (m<1)=false:=by simpa using hm
   go_enter Tryz.func55,Tryz.ntmps55
   go_wp2
   go_ret
   exact⟨0,rfl,by omega,by omega,by omega,0,rfl⟩
  ·have hn0:((n:Int)==0)=false:=by simp;omega
   obtain⟨b,o,rfl,hc⟩:=hrd''.at (by have:=hlen.out;simp;omega)
   have byteAt:∀j,j<n→∃x:Int,0≤x∧x≤255∧(w.setCell ⟨R,1,none⟩ (.int .i64 (p+1))).cell? ⟨b,o+j,none⟩=some (.int .u8 x):=fun j hj=>by
    have hl:=hlen.out
    refine⟨bs.getD j 0,?_⟩
    have hm:bs.getD j 0∈bs:=by rw[List.getD_eq_getElem?_getD,List.getElem?_eq_getElem (by omega)];simp
    have:=hby.out _ hm
    refine⟨this.1,this.2,?_⟩
    rw[hc j (by simp;omega)]
    simp[bytesV,List.getD,show j<bs.length by omega]
   have HB:=xH1 byteAt
   obtain⟨k,hk⟩:=Int.eq_ofNat_of_zero_le hpos
   subst hk
   clear byteAt hc hrd''
   by_cases hlt:k<n
   ·obtain⟨x,hx0,hx1,hxc⟩:=HB.out k hlt
    go_enter Tryz.func55,Tryz.ntmps55
    go_wp2
    go_ret
    exact⟨x% m,rfl,Int.emod_nonneg _ (by omega),fun _=>Int.emod_lt_of_pos _ (by omega),by omega,0,rfl⟩
   ·obtain⟨x,hx0,hx1,hxc⟩:=HB.out (k% n) (Nat.mod_lt _ (by omega))
    obtain⟨y,hy0,hy1,hyc⟩:=HB.out ((k*7+3)% n) (Nat.mod_lt _ (by omega))
    have hq1:k/n≤k:=Nat.div_le_self _ _
    have i1:0≤(k:Int)%(n:Int):=Int.emod_nonneg _ (by omega)
    have i2:(k:Int)%(n:Int)<n:=Int.emod_lt_of_pos _ (by omega)
    have i3:((k:Int)%(n:Int)).toNat=k% n:=by rw[←Int.natCast_emod];rfl
    have j1:0≤((k:Int)*7+3)%(n:Int):=Int.emod_nonneg _ (by omega)
    have j2:((k:Int)*7+3)%(n:Int)<n:=Int.emod_lt_of_pos _ (by omega)
    have j3:(((k:Int)*7+3)%(n:Int)).toNat=(k*7+3)% n:=by
     rw[show((k:Int)*7+3)=((k*7+3:Nat):Int) from by simp,←Int.natCast_emod];rfl
    have q1:0≤(k:Int)/(n:Int):=Int.ediv_nonneg (by omega) (by omega)
    have q2:(k:Int)/(n:Int)≤k:=by rw[←Int.natCast_ediv];omega
    go_enter Tryz.func55,Tryz.ntmps55
    go_wp2
    go_quiet (fail)
    go_wp2
    go_ret
    obtain⟨x1,_⟩:=xor_i64 (x*131+y*1117+k*29+k/n*53) ((x*131+y*1117+k*29+k/n*53)/64) (by omega) (by omega) (by omega) (by omega)
    exact⟨_,rfl,Int.tmod_nonneg _ x1,fun _=>Int.tmod_lt_of_pos _ (by omega),by omega,nq,rfl⟩
theorem Picked.out {w w':World} {R:Nat} {a:Option Addr} {n c:Nat} {bs:List Int} {p m:Int} {e:Ending} (h:Rdr w R a n c bs p) (k:Picked w R p m e w'):
  ∃v:Int,e= .returned (.int .i64 v)∧0≤v∧(1≤m→v<m)∧(m<1→v=0)∧Rdr w' R a n c bs (p+1)∧w.grownBy w' (some R)∧w'.heap.size=w.heap.size:=by
 obtain⟨v,rfl,h1,h2,h3,d,rfl⟩:=k
 refine⟨v,rfl,h1,h2,h3,(h.move d).1,(h.move d).2,?_⟩
 show(w.setCell _ _).heap.size=_
 simp
theorem pick_some (R:Nat) (a:Option Addr) (n c:Nat) (bs:List Int) (p m:Int) (w:World) (h:Rdr w R a n c bs p) (hp:p≤1099511627776) (hm:1≤m):
  Calls Tryz.prog 55 #[.pointer (some ⟨R,0,none⟩),.int .i64 m] w fun e w'=>
   ∃v:Nat,e= .returned (.int .i64 v)∧(v:Int)<m∧Rdr w' R a n c bs (p+1)∧w.grownBy w' (some R)∧Hid (w'.heap.size=w.heap.size):=by
 refine(pick_any R a n c bs p m w h hp).mono fun e w' hk=> ?_
 obtain⟨v,rfl,h1,h2,_,h3,h4,h5⟩:=hk.out h
 obtain⟨V,rfl⟩:=Int.eq_ofNat_of_zero_le h1
 exact⟨V,rfl,h2 hm,h3,h4,xH1 h5⟩
theorem num_any (R:Nat) (a:Option Addr) (n c:Nat) (bs:List Int) (p:Int) (g m cm:Nat) (xs:List Int) (w:World) (h:Rdr w R a n c bs p) (hp:p≤1099511627776)
  (hl:xs.length=m) (hm:1≤m) (hm2:m≤1000) (hx:Rd w (some ⟨g,0,none⟩) (ints xs)) (hg:g≠R):
  Calls Tryz.prog 36 #[.pointer (some ⟨R,0,none⟩),.slice (some ⟨g,0,none⟩) m cm] w fun e w'=>
   ∃v:Int,e= .returned (.int .i64 v)∧v∈xs∧Rdr w' R a n c bs (p+1)∧w.grownBy w' (some R)∧Hid (w'.heap.size=w.heap.size):=by
 have HL:=xH1 hl
 clear hl
 go_enter Tryz.func36,Tryz.ntmps36
 go_wp2_with fail
 refine(pick_some R a n c bs p m _ h hp (by omega)).mono ?_
 rintro e w1 ⟨v,rfl,hv,hr,hgr,hs⟩
 have hvm:v<m:=by omega
 obtain⟨b',o',e',hc⟩:=(hx.grown hgr (.inr (by simp[rowOf,hg]))).int (by have:=HL.out;omega)
 have hcv:=hc v (by have:=HL.out;omega)
 cases e'
 rw[Nat.zero_add] at hcv
 obtain⟨x,hx'⟩:∃x,x=xs.getD v 0:=⟨_,rfl⟩
 rw[←hx'] at hcv
 have HX:=xH1 hx'
 clear hc hx'
 go_wp2_with fail
 go_ret
 refine⟨x,rfl,?_,hr,hgr,hs⟩
 rw[HX.out,List.getD_eq_getElem?_getD,List.getElem?_eq_getElem (by have:=HL.out;omega)]
 simp
theorem open13_any (a:Option Addr) (n c:Nat) (bs:List Int) (w:World) (hl:bs.length=n) (h1:Rd w a (bytesV bs)) (hcap:n≤c) (hby:∀b∈bs,0≤b∧b≤255) (hn:n≤1048576):
  Calls Tryz.prog 33 #[.slice a n c] w fun e w'=>
   e= .returned (.pointer (some ⟨w.heap.size,0,none⟩))∧∃n' bs',Rdr w' w.heap.size a n' c bs' 0∧Below w.heap.size w w'∧w'.heap.size=w.heap.size+1:=by
 have HL:=xH1 hl
 have HB:=xH1 hby
 have hap:n=0∨∃k,rowOf a=some k∧k<w.heap.size:=by
  rcases h1 with h0|⟨b,o,rfl,hc⟩
  ·left;have:=congrArg List.length h0;simpa[hl] using this
  ·by_cases h0:n=0
   ·exact .inl h0
   ·right
    have:=hc 0 (by simp;omega)
    exact⟨b,rfl,World.block_lt_of_cell? w ⟨b,o+0,none⟩ this⟩
 have HAP:=xH1 hap
 clear hl hby hap
 go_enter Tryz.func33,Tryz.ntmps33
 go_wp2_with fail
 all_goals go_ret
 ·have hlt:(2000:Int)<n:=by assumption
  refine⟨rfl,2000,bs.take 2000,⟨?_,?_,?_,by omega,by omega,?_,?_⟩,xA1,by simp⟩
  ·exact heap_alloc_new w _
  ·refine Rd.below ?_ (xA1)
   rcases h1 with h0|⟨b,o,rfl,hc⟩
   ·exfalso
    have h3:=congrArg List.length h0
    simp only[List.length_map,List.length_nil] at h3
    have:=HL.out
    omega
   ·refine .inr ⟨b,o,rfl,fun j hj=> ?_⟩
    have:=HL.out
    simp only[List.length_map,List.length_take] at hj
    rw[hc j (by simp;omega)]
    simp[bytesV,List.getD,show j<2000 by omega]
  ·have:=HL.out;simp;omega
  ·intro b hb;exact HB.out b (List.mem_of_mem_take hb)
  ·rcases HAP.out with h0|h0
   ·omega
   ·exact .inr h0
 ·have hge:(n:Int)≤2000:=by assumption
  exact⟨rfl,n,bs,⟨heap_alloc_new w _,h1.below (xA1),HL.out,by omega,by omega,HB.out,HAP.out⟩,xA1,by simp⟩
section
variable {P:Program} {w:World}
theorem run_append_owned_none' (base:Nat) (t ty e:TypeId) (i:TypeInfo) (size:Nat) (ht:P.underlying t=some (.slice e)) (hi:P.info? e=some i)
  (v:Value) (n:Nat) (xs:List Value) (hown:w.ownsRow base e size v n xs) (c:Nat):
  (Builtin.append_ #[t,t] ty #[v,.slice none 0 c]).run P w= .ok v w:=by
 rcases hown.2 with ⟨rfl,rfl⟩|⟨g,cap,cur,rfl,_,_,hnc,_⟩
 ·simp[Builtin.append_,run_underlying ht,sizeOf,typeInfo,hi,Builtin.lenOf,Builtin.firstCells]
 ·simp[Builtin.append_,run_underlying ht,sizeOf,typeInfo,hi,Builtin.lenOf,Builtin.firstCells,hnc,storeCells]
end
theorem wpList_append_rd {P:Program} {wr:World} {ops:Array Oper} {rest:List Oper} {o:Oper} {ac:Act} {Q:Exit→Act→World→Prop} (hgd:o.guard=none) (s x:Operand) (t:TypeId)
  (ho:o.op= .call {callee:= .builtin .append,args:= #[s,x],argTypes:= #[t,t]})
  {B:Nat} {e:TypeId} {z:Value} {size bytes:Nat} (ht:P.underlying t=some (.slice e)) (hinfo:(P.info? e).map (fun i=>(i.zero,i.size,i.bytes))=some (some z,size,bytes))
  (hzs:z.cells.size=size) (hsz:0<size)
  {a:Option Addr} {n c:Nat} {xs:List Value} (hs:ac.eval s= .slice a n c) (hown:wr.ownsRow B e size (.slice a n c) n xs)
  {a2:Option Addr} {m c2:Nat} {news:List Value} (hx:ac.eval x= .slice a2 m c2) (hl:news.length=m*size) (hsrc:Rd wr a2 news) (h1:∀u∈news,u.oneCell'=true)
  (hbytes:(n+m)*bytes≤140737488355328) (hby:0<bytes) (hbase:B≤wr.heap.size)
  (h:∀a' c' w',w'.ownsRow B e size (.slice a' (n+m) c') (n+m) (xs++news)→wr.grownBy w' (rowOf a)→wpList P ops Q rest (ac.put o.dst (.slice a' (n+m) c')) w'):wpList P ops Q (o::rest) ac wr:=by
 obtain⟨i,hi,hz0,hz1,hz2⟩:=info_parts hinfo
 have h63:n+m≤maxLen:=by
  have:=Nat.le_trans (Nat.le_mul_of_pos_right (n+m) hby) hbytes
  simp only[maxLen];omega
 cases a2 with
 |none=>
  have hm:m=0:=by
   rcases hsrc with e0|⟨b,o',e0,_⟩
   ·rw[e0] at hl
    rcases Nat.mul_eq_zero.1 hl.symm with h0|h0
    ·exact h0
    ·omega
   ·cases e0
  subst hm
  obtain rfl:news=[]:=List.eq_nil_of_length_eq_zero (by simpa using hl)
  refine wpList_plain hgd fun K hK'=> ?_
  have hrun:=run_append_owned_none' (P:=P) (w:=wr) B t o.type e i size ht hi _ n xs hown c2
  unfold Oper.wp
  simp[execOp,ho,resolve,invoke,builtin,hs,hx,hrun,Result.andThen]
  exact hK' _ _ (by simpa using h a c wr (by simpa using hown) (World.grownBy.refl _ _))
 |some ad=>
  refine wpList_append_own wr hgd s x t ho B e i z size bytes ht hi hz0 hz1 hz2 hzs hsz _ n xs hs hown ad m c2 news hx hl ?_ h1 h63 hbytes hbase ?_
  ·intro j u hj
   have hjl:j<news.length:=(List.getElem?_eq_some_iff.1 hj).1
   obtain⟨b,o',e',hc⟩:=hsrc.at (by omega)
   cases e'
   rw[Addr.add_lit,hc j hjl]
   rw[List.getD_eq_getElem?_getD,hj];rfl
  ·intro v' w' hown' hgr _
   obtain⟨a',c',rfl⟩:=owns_slice hown'
   rw[ownBlock_slice] at hgr
   exact h a' c' w' hown' hgr
theorem keepg {w w':World} {row:Option Nat} {q:Addr} {x:Value} (hg:w.grownBy w' row) (g:w.cell? q=some x) (hne:row≠some q.block):w'.cell? q=some x:=by
 have hlt:=World.block_lt_of_cell? w _ g
 rw[World.cell?_of_block (w:=w) (w':=w') (a:=q) (hg.block q.block hlt (fun e=>hne e.symm))]
 exact g
theorem owns_none (w:World) (B:Nat) (e:TypeId) (sz:Nat):w.ownsRow B e sz (.slice none 0 0) 0 []:=World.ownsRow_nil _ _ _ _
theorem Rd.of_blk {w:World} {b:Nat} {cs:Array Value} {t:TypeId} (h:Blk w b cs t):Rd w (some ⟨b,0,none⟩) cs.toList:=
 .inr ⟨b,0,rfl,fun j hj=>by
  rw[Nat.zero_add]
  exact h.cell j (by simp only[Array.length_toList] at hj;simp[List.getD,hj])⟩
theorem wp_append_rd {P:Program} {wr:World} {o:Oper} {ac:Act} {K:Act→World→Prop} {Q:Exit→Act→World→Prop} (s x:Operand) (t:TypeId)
  (ho:o.op= .call {callee:= .builtin .append,args:= #[s,x],argTypes:= #[t,t]})
  {B:Nat} {e:TypeId} {z:Value} {size bytes:Nat} (ht:P.underlying t=some (.slice e)) (hinfo:(P.info? e).map (fun i=>(i.zero,i.size,i.bytes))=some (some z,size,bytes))
  (hzs:z.cells.size=size) (hsz:0<size)
  {a:Option Addr} {n c:Nat} {xs:List Value} (hs:ac.eval s= .slice a n c) (hown:wr.ownsRow B e size (.slice a n c) n xs)
  {a2:Option Addr} {m c2:Nat} {news:List Value} (hx:ac.eval x= .slice a2 m c2) (hl:news.length=m*size) (hsrc:Rd wr a2 news) (h1:∀u∈news,u.oneCell'=true)
  (hbytes:(n+m)*bytes≤140737488355328) (hby:0<bytes) (hbase:B≤wr.heap.size)
  (h:∀a' c' w',w'.ownsRow B e size (.slice a' (n+m) c') (n+m) (xs++news)→wr.grownBy w' (rowOf a)→K (ac.put o.dst (.slice a' (n+m) c')) w'):o.wp P ac wr K Q:=by
 obtain⟨i,hi,hz0,hz1,hz2⟩:=info_parts hinfo
 have h63:n+m≤maxLen:=by
  have:=Nat.le_trans (Nat.le_mul_of_pos_right (n+m) hby) hbytes
  simp only[maxLen];omega
 have key:∃a' c' w',(Builtin.append_ #[t,t] o.type #[.slice a n c,.slice a2 m c2]).run P wr= .ok (.slice a' (n+m) c') w'∧w'.ownsRow B e size (.slice a' (n+m) c') (n+m) (xs++news)∧wr.grownBy w' (rowOf a):=by
  cases a2 with
  |none=>
   have hm:m=0:=by
    rcases hsrc with e0|⟨b,o',e0,_⟩
    ·rw[e0] at hl
     rcases Nat.mul_eq_zero.1 hl.symm with h0|h0
     ·exact h0
     ·omega
    ·cases e0
   subst hm
   obtain rfl:news=[]:=List.eq_nil_of_length_eq_zero (by simpa using hl)
   exact⟨a,c,wr,run_append_owned_none' (P:=P) (w:=wr) B t o.type e i size ht hi _ n xs hown c2,by simpa using hown,World.grownBy.refl _ _⟩
  |some ad=>
   obtain⟨v',w',hr,h2,h3,_⟩:=run_append_own_at (P:=P) wr B t o.type e i z size bytes ht hi hz0 hz1 hz2 hzs hsz (.slice a n c) n xs hown ad m c2 news hl (by
    intro j u hj
    have hjl:j<news.length:=(List.getElem?_eq_some_iff.1 hj).1
    obtain⟨b,o',e',hc⟩:=hsrc.at (by omega)
    cases e'
    rw[Addr.add_lit,hc j hjl]
    rw[List.getD_eq_getElem?_getD,hj];rfl) h1 h63 hbytes hbase
   obtain⟨a',c',rfl⟩:=owns_slice h2
   rw[ownBlock_slice] at h3
   exact⟨a',c',w',hr,h2,h3⟩
 obtain⟨a',c',w',hr,h2,h3⟩:=key
 unfold Oper.wp execOp
 simp only[ho,resolve,invoke,builtin,Sem.run_bind,Sem.run_pure,Result.andThen_ok,List.map_toArray,List.map_cons,List.map_nil,hs,hx,hr]
 exact h a' c' w' h2 h3
theorem step_append_rd {P:Program} {wr:World} {ops:Array Oper} {o:Oper} {ac:Act} {K:Act→World→Prop} {Q:Exit→Act→World→Prop} {E:Prop} (hgd:o.guard=none) (s x:Operand) (t:TypeId)
  (ho:o.op= .call {callee:= .builtin .append,args:= #[s,x],argTypes:= #[t,t]})
  {B:Nat} {e:TypeId} {z:Value} {size bytes:Nat} (ht:P.underlying t=some (.slice e)) (hinfo:(P.info? e).map (fun i=>(i.zero,i.size,i.bytes))=some (some z,size,bytes))
  (hzs:z.cells.size=size) (hsz:0<size)
  {a:Option Addr} {n c:Nat} {xs:List Value} (hs:ac.eval s= .slice a n c) (hown:wr.ownsRow B e size (.slice a n c) n xs)
  {a2:Option Addr} {m c2:Nat} {news:List Value} (hx:ac.eval x= .slice a2 m c2) (hl:news.length=m*size) (hsrc:Rd wr a2 news) (h1:∀u∈news,u.oneCell'=true)
  (hbytes:(n+m)*bytes≤140737488355328) (hby:0<bytes) (hbase:B≤wr.heap.size)
  (h:∀a' c' w',w'.ownsRow B e size (.slice a' (n+m) c') (n+m) (xs++news)→wr.grownBy w' (rowOf a)→K (ac.put o.dst (.slice a' (n+m) c')) w'):
  if Region.wanted o (yielded ops ac.tmps)=true then Oper.wp P o ac wr K Q else E:=by
 have hw:Region.wanted o (yielded ops ac.tmps)=true:=by simp[Region.wanted,hgd]
 rw[if_pos hw]
 exact wp_append_rd s x t ho ht hinfo hzs hsz hs hown hx hl hsrc h1 hbytes hby hbase h
def digB (n:Nat):ByteArray:=⟨#[UInt8.ofNat (48+n)]⟩
def decNat (n:Nat) (acc:ByteArray):ByteArray:=if 9<n then decNat (n/10) (digB (n% 10)++acc) else digB n++acc
termination_by n
def minText:ByteArray:=⟨#[45,57,50,50,51,51,55,50,48,51,54,56,53,52,55,55,53,56,48,56]⟩
def decI (n:Int):ByteArray:=
 if n< -9223372036854775807 then minText else if n<0 then ⟨#[45]⟩++decNat (-n).toNat ⟨#[]⟩ else decNat n.toNat ⟨#[]⟩
theorem ret_str {a b:ByteArray} (h:a=b):Ending.returned (.string a)= .returned (.string b):=by rw[h]
theorem decNat_more (n:Nat) (acc:ByteArray) (h:9<n):decNat n acc=decNat (n/10) (digB (n% 10)++acc):=by
 rw[decNat,if_pos h]
theorem decNat_last (n:Nat) (acc:ByteArray) (h:¬9<n):decNat n acc=digB n++acc:=by
 rw[decNat,if_neg h]
theorem conv_one (W:World) (b:Nat) (d:UInt8) (h:W.cell? ⟨b,0,none⟩=some (.int .u8 (d.toNat:Int))):(convert 22 9 (.slice (some ⟨b,0,none⟩) 1 1)).run Tryz.prog W= .ok (.string ⟨#[d]⟩) W:=
 run_convert_bytes_back W 22 9 5 ⟨b,0,none⟩ 1 [d] Tryz.underlying22 Tryz.underlying5 Tryz.underlying9 (fun j hj=>by
  have e:j=0:=by simpa using hj
  subst e
  rw[Addr.add_lit]
  exact h)
theorem digB_one (n:Nat) (h:n<10):∃d:UInt8,((d.toNat:Nat):Int)=48+(n:Int)∧digB n=⟨#[d]⟩:=
 ⟨UInt8.ofNat (48+n),by simp only[UInt8.toNat_ofNat'];omega,rfl⟩
theorem l13DecNat_any (n:Nat) (w:World) (hn:n≤9223372036854775807):
  Calls Tryz.prog 103 #[.int .i64 n] w fun e w'=>e= .returned (.string (decNat n ⟨#[]⟩))∧Below w.heap.size w w':=by
 have t0:decide ((n:Int)< -9223372036854775807)=false:=by simp
 have t1:decide ((n:Int)<0)=false:=by simp
 go_enter Tryz.func103,Tryz.ntmps103
 go_wp2
 go_loopw [0,3] (fun vn vo wr=>∃(k:Nat) (acc:ByteArray),vn= .int .i64 k∧vo= .string acc∧k≤9223372036854775807∧2*acc.size+k≤n∧Hid (decNat k acc=decNat n ⟨#[]⟩)∧Below w.heap.size w wr) (fun vn _ _=>(intOf vn).toNat)
 case atStart=>exact⟨n,_,rfl,rfl,hn,by show 2*0+n≤n;omega,xH1 rfl,Below.refl _ _⟩
 case round=>
  obtain⟨k,acc,rfl,rfl,hk,hka,hd,hb⟩:=hrel
  have e1:∀d:UInt8,(⟨#[d]⟩:ByteArray).size=1:=fun _=>rfl
  by_cases hlt:9<k
  ·obtain⟨d,hd1,hd2⟩:=digB_one (k% 10) (Nat.mod_lt _ (by decide))
   have hcv:=conv_one (wr.alloc (.cells #[.int .u8 (48+(k:Int)% 10)] 5)) wr.heap.size d (by rw[hd1,World.cell?_alloc_at _ _ _ _ rfl];simp)
   have HD2:=xH1 hd2
   have hadd:=fun(W:World)=>run_string_add_sum (P:=Tryz.prog) (w:=W) ⟨#[d]⟩ acc (by rw[e1];omega)
   have HE1:=xH1 e1
   clear hd1 hd2 e1
   go_wp2
   go_roundw
   case rel=>exact⟨k/10,_,by go_num,rfl,by omega,by rw[ByteArray.size_append,HE1.out];omega,xH1 (by rw[←hd.out,decNat_more k acc hlt,HD2.out]),hb.alloc hb.size _⟩
   case measure=>simp[intOf];omega
  ·obtain⟨d,hd1,hd2⟩:=digB_one k (by omega)
   have hcv:=conv_one (wr.alloc (.cells #[.int .u8 (48+(k:Int))] 5)) wr.heap.size d (by rw[hd1,World.cell?_alloc_at _ _ _ _ rfl];simp)
   have HD2:=xH1 hd2
   have hk9:k≤9:=by omega
   have hadd:=fun(W:World)=>run_string_add_sum (P:=Tryz.prog) (w:=W) ⟨#[d]⟩ acc (by rw[e1];omega)
   clear hd1 hd2 e1
   go_wp2
   go_ret
   exact⟨ret_str (by rw[←hd.out,decNat_last k acc hlt,HD2.out]),hb.alloc hb.size _⟩
theorem decNat_size:∀(f n:Nat) (acc:ByteArray),n<10^ f→0<f→(decNat n acc).size≤acc.size+f
 |0,_,_,_,h=>by omega
 |f+1,n,acc,hn,_=>by
  by_cases h:9<n
  ·rw[decNat_more n acc h]
   have h1:n/10<10^ f:=by
    rw[Nat.pow_succ] at hn
    omega
   have h0:0<f:=by
    rcases Nat.eq_zero_or_pos f with e|e
    ·subst e;simp at hn;omega
    ·exact e
   have:=decNat_size f (n/10) (digB (n% 10)++acc) h1 h0
   rw[ByteArray.size_append] at this
   have e:(digB (n% 10)).size=1:=rfl
   omega
  ·rw[decNat_last n acc h,ByteArray.size_append]
   have e:(digB n).size=1:=rfl
   omega
theorem decI_size (n:Int) (h0: -9223372036854775808≤n) (h1:n≤9223372036854775807):(decI n).size≤20:=by
 unfold decI
 split
 ·show 20≤20;omega
 ·split
  ·rw[ByteArray.size_append]
   have:=decNat_size 19 (-n).toNat ⟨#[]⟩ (by omega) (by omega)
   have e:(⟨#[45]⟩:ByteArray).size=1:=rfl
   have e2:(⟨#[]⟩:ByteArray).size=0:=rfl
   omega
  ·have:=decNat_size 19 n.toNat ⟨#[]⟩ (by omega) (by omega)
   have e2:(⟨#[]⟩:ByteArray).size=0:=rfl
   omega
theorem l13Dec_any (n:Int) (w:World) (h0: -9223372036854775808≤n) (h1:n≤9223372036854775807):
  Calls Tryz.prog 103 #[.int .i64 n] w fun e w'=>e= .returned (.string (decI n))∧Below w.heap.size w w':=by
 by_cases hm:n< -9223372036854775807
 ·have t0:decide (n< -9223372036854775807)=true:=decide_eq_true hm
  have HD:Hid (decI n=minText):=xH1 (by unfold decI;rw[if_pos hm])
  clear h0 h1 hm
  go_enter Tryz.func103,Tryz.ntmps103
  go_wp2
  go_ret
  exact⟨ret_str (by rw[HD.out];rfl),Below.refl _ _⟩
 by_cases hn:n<0
 ·have t0:decide (n< -9223372036854775807)=false:=decide_eq_false hm
  have t1:decide (n<0)=true:=decide_eq_true hn
  have HD:Hid (decI n=⟨#[45]⟩++decNat (-n).toNat ⟨#[]⟩):=xH1 (by unfold decI;rw[if_neg hm,if_pos hn])
  obtain⟨m,hmn⟩:∃m:Nat,m=(-n).toNat:=⟨_,rfl⟩
  have hneg: -n=(m:Int):=by omega
  have hm63:m≤9223372036854775807:=by omega
  have b1: -9223372036854775807≤n:=by omega
  have HNG:=xH1 hneg
  rw[←hmn] at HD
  clear h0 h1 hm hmn hneg
  go_enter Tryz.func103,Tryz.ntmps103
  go_wp2_with fail
  rw[HNG.out]
  refine(l13DecNat_any m _ hm63).mono ?_
  rintro e w1 ⟨rfl,hb⟩
  have hadd:=fun(W:World)=>run_string_add_sum (P:=Tryz.prog) (w:=W) ⟨#[45]⟩ (decNat m ⟨#[]⟩) (by
   have:=decNat_size 19 m ⟨#[]⟩ (by omega) (by omega)
   have e:(⟨#[45]⟩:ByteArray).size=1:=rfl
   have e2:(⟨#[]⟩:ByteArray).size=0:=rfl
   omega)
  go_wp2
  go_ret
  exact⟨ret_str (by rw[HD.out]),hb⟩
 ·have HD:Hid (decI n=decNat n.toNat ⟨#[]⟩):=xH1 (by unfold decI;rw[if_neg hm,if_neg hn])
  obtain⟨m,rfl⟩:=Int.eq_ofNat_of_zero_le (show 0≤n by omega)
  refine(l13DecNat_any m w (by omega)).mono ?_
  rintro e w1 ⟨rfl,hb⟩
  exact⟨by rw[HD.out];rfl,hb⟩
structure OpD where
 kind:Int
 on:Int
 arg:Int
structure Pg where
 sems:List Int
 groups:List Int
 barriers:List Int
 rooms:List Int
 threads:List (List OpD)
def opv (o:OpD):List Value:=[.int .i64 o.kind,.int .i64 o.on,.int .i64 o.arg]
theorem opv_len (o:OpD):(opv o).length=3:=rfl
abbrev opsV (l:List OpD):List Value:=l.flatMap opv
theorem opsV_len (l:List OpD):(opsV l).length=l.length*3:=flat_len opv_len l
theorem opsV_one (l:List OpD):∀u∈opsV l,u.oneCell'=true:=by
 intro u hu
 obtain⟨e,_,h⟩:=List.mem_flatMap.1 hu
 simp only[opv,List.mem_cons,List.not_mem_nil,or_false] at h
 rcases h with rfl|rfl|rfl<;>rfl
def noOp:OpD:=⟨0,0,0⟩
theorem Rd.op {w:World} {a:Option Addr} {l:List OpD} (h:Rd w a (opsV l)) (hne:0<l.length):
  ∃b o,a=some ⟨b,o,none⟩∧∀j,j<l.length→w.cell? ⟨b,o+j*3,none⟩=some (.int .i64 (l.getD j noOp).kind)∧w.cell? ⟨b,o+j*3+1,none⟩=some (.int .i64 (l.getD j noOp).on)∧w.cell? ⟨b,o+j*3+2,none⟩=some (.int .i64 (l.getD j noOp).arg):=by
 obtain⟨b,o,e,hc⟩:=h.flat opv_len noOp hne (by decide)
 exact⟨b,o,e,fun j hj=>⟨by simpa[opv] using hc j hj 0 (by decide),by simpa[opv] using hc j hj 1 (by decide),by simpa[opv] using hc j hj 2 (by decide)⟩⟩
structure PV where
 s:Option Addr
 ns:Nat
 cs:Nat
 g:Option Addr
 ng:Nat
 cg:Nat
 b:Option Addr
 nb:Nat
 cb:Nat
 r:Option Addr
 nr:Nat
 cr:Nat
 t:Option Addr
 nt:Nat
 ct:Nat
structure RdT (w:World) (a:Option Addr) (ts:List (List OpD)) (vs:List Value):Prop where
 len:vs.length=ts.length
 out:Rd w a vs
 inn:∀i,i<ts.length→∃a' c',vs.getD i undef= .slice a' (ts.getD i []).length c'∧Rd w a' (opsV (ts.getD i []))
theorem RdT.below {w w':World} {a:Option Addr} {ts:List (List OpD)} {vs:List Value} (h:RdT w a ts vs) (hb:Below w.heap.size w w'):RdT w' a ts vs:=
 ⟨h.len,h.out.below hb,fun i hi=>by obtain⟨a',c',e,hr⟩:=h.inn i hi;exact⟨a',c',e,hr.below hb⟩⟩
theorem RdT.thread {w:World} {a:Option Addr} {ts:List (List OpD)} {vs:List Value} (h:RdT w a ts vs) (hne:0<ts.length):
  ∃b o,a=some ⟨b,o,none⟩∧∀i,i<ts.length→∃a' c',w.cell? ⟨b,o+i,none⟩=some (.slice a' (ts.getD i []).length c')∧Rd w a' (opsV (ts.getD i [])):=by
 obtain⟨b,o,e,hc⟩:=h.out.at (by rw[h.len];exact hne)
 refine⟨b,o,e,fun i hi=> ?_⟩
 obtain⟨a',c',e',hr⟩:=h.inn i hi
 exact⟨a',c',by rw[hc i (by rw[h.len];exact hi),e'],hr⟩
structure RdP (w:World) (v:PV) (p:Pg):Prop where
 ls:p.sems.length=v.ns
 lg:p.groups.length=v.ng
 lb:p.barriers.length=v.nb
 lr:p.rooms.length=v.nr
 lt:p.threads.length=v.nt
 rs:Rd w v.s (ints p.sems)
 rg:Rd w v.g (ints p.groups)
 rb:Rd w v.b (ints p.barriers)
 rr:Rd w v.r (ints p.rooms)
 rt:∃vs,RdT w v.t p.threads vs
theorem RdP.below {w w':World} {v:PV} {p:Pg} (h:RdP w v p) (hb:Below w.heap.size w w'):RdP w' v p:=
 ⟨h.ls,h.lg,h.lb,h.lr,h.lt,h.rs.below hb,h.rg.below hb,h.rb.below hb,h.rr.below hb,by obtain⟨vs,hv⟩:=h.rt;exact⟨vs,hv.below hb⟩⟩
structure OwnT (w:World) (a:Option Addr) (n c:Nat) (vs:List Value) (rows:List (List Value)):Prop where
 out:w.ownsRow 0 51 1 (.slice a n c) n vs
 len:rows.length=n
 inn:∀i,i<n→∃a' m c',vs.getD i undef= .slice a' m c'∧w.ownsRow 0 58 3 (.slice a' m c') m (rows.getD i [])
def fpT (a:Option Addr) (vs:List Value):List Nat:=(rowOf a).toList++vs.filterMap Value.ownBlock
theorem OwnT.vlen {w:World} {a:Option Addr} {n c:Nat} {vs:List Value} {rows:List (List Value)} (h:OwnT w a n c vs rows):vs.length=n:=by
 have:=h.out.1;omega
theorem mem_fpT_inn {a:Option Addr} {vs:List Value} {i k:Nat} (hi:i<vs.length) (hk:(vs.getD i undef).ownBlock=some k):k∈fpT a vs:=by
 unfold fpT
 refine xQ1 (.inr (List.mem_filterMap.2 ⟨vs.getD i undef,?_,hk⟩))
 rw[List.getD_eq_getElem?_getD,List.getElem?_eq_getElem hi];simp
theorem mem_fpT_out {a:Option Addr} {vs:List Value} {k:Nat} (hk:rowOf a=some k):k∈fpT a vs:=by
 unfold fpT;simp[hk]
theorem OwnT.keep {w w':World} {a:Option Addr} {n c:Nat} {vs:List Value} {rows:List (List Value)} (h:OwnT w a n c vs rows) (hb:∀k∈fpT a vs,k<w.heap.size→w'.heap[k]? =w.heap[k]?):OwnT w' a n c vs rows:=by
 refine⟨owns_keep h.out fun k hk hl=>hb k (mem_fpT_out (by rwa [ownBlock_slice] at hk)) hl,h.len,fun i hi=> ?_⟩
 obtain⟨a',m,c',e,ho⟩:=h.inn i hi
 exact⟨a',m,c',e,owns_keep ho fun k hk hl=>hb k (mem_fpT_inn (by rw[h.vlen];exact hi) (by rw[e];exact hk)) hl⟩
theorem OwnT.lt {w:World} {a:Option Addr} {n c:Nat} {vs:List Value} {rows:List (List Value)} (h:OwnT w a n c vs rows):∀k∈fpT a vs,k<w.heap.size:=by
 intro k hk
 unfold fpT at hk
 rcases xP1 hk with hk|hk
 ·have:rowOf a=some k:=by simpa using hk
  exact(owns_row h.out k this).2
 ·obtain⟨v,hv,hvk⟩:=List.mem_filterMap.1 hk
  obtain⟨i,hi,e⟩:=List.mem_iff_getElem.1 hv
  obtain⟨a',m,c',e',ho⟩:=h.inn i (by rw[←h.vlen];exact hi)
  have:vs.getD i undef=v:=by rw[List.getD_eq_getElem?_getD,List.getElem?_eq_getElem hi];simp[e]
  rw[this] at e'
  rw[e'] at hvk
  exact(ho.lt k hvk).2
structure Cells where
 s:List Value
 g:List Value
 b:List Value
 r:List Value
 t:List (List Value)
def Pg.cells (p:Pg):Cells:=⟨ints p.sems,ints p.groups,ints p.barriers,ints p.rooms,p.threads.map opsV⟩
structure OwnP (w:World) (v:PV) (vs:List Value) (C:Cells):Prop where
 os:w.ownsRow 0 3 1 (.slice v.s v.ns v.cs) v.ns C.s
 og:w.ownsRow 0 3 1 (.slice v.g v.ng v.cg) v.ng C.g
 ob:w.ownsRow 0 3 1 (.slice v.b v.nb v.cb) v.nb C.b
 orr:w.ownsRow 0 3 1 (.slice v.r v.nr v.cr) v.nr C.r
 ot:OwnT w v.t v.nt v.ct vs C.t
def fpP (v:PV) (vs:List Value):List Nat:=(rowOf v.s).toList++((rowOf v.g).toList++((rowOf v.b).toList++((rowOf v.r).toList++fpT v.t vs)))
theorem OwnP.keep {w w':World} {v:PV} {vs:List Value} {C:Cells} (h:OwnP w v vs C) (hb:∀k∈fpP v vs,k<w.heap.size→w'.heap[k]? =w.heap[k]?):OwnP w' v vs C:=by
 refine⟨owns_keep h.os fun k hk hl=>hb k ?_ hl,owns_keep h.og fun k hk hl=>hb k ?_ hl,owns_keep h.ob fun k hk hl=>hb k ?_ hl,owns_keep h.orr fun k hk hl=>hb k ?_ hl,h.ot.keep fun k hk hl=>hb k ?_ hl⟩
 all_goals first
  |(rw[ownBlock_slice] at hk;unfold fpP;simp[hk];done)
  |(unfold fpP;simp[hk];done)
theorem OwnP.lt {w:World} {v:PV} {vs:List Value} {C:Cells} (h:OwnP w v vs C):∀k∈fpP v vs,k<w.heap.size:=by
 intro k hk
 unfold fpP at hk
 simp only[List.mem_append,Option.mem_toList] at hk
 rcases hk with hk|hk|hk|hk|hk
 ·exact(owns_row h.os k hk).2
 ·exact(owns_row h.og k hk).2
 ·exact(owns_row h.ob k hk).2
 ·exact(owns_row h.orr k hk).2
 ·exact h.ot.lt k hk
theorem OwnP.below {w w':World} {v:PV} {vs:List Value} {C:Cells} (h:OwnP w v vs C) (hb:Below w.heap.size w w'):OwnP w' v vs C:=
 h.keep fun k hk _=>hb.block k (h.lt k hk)
theorem OwnT.rd {w:World} {a:Option Addr} {n c:Nat} {vs:List Value} {ts:List (List OpD)} (h:OwnT w a n c vs (ts.map opsV)):RdT w a ts vs:=by
 have hl:ts.length=n:=by simpa using h.len
 refine⟨by rw[h.vlen,hl],Rd.of_owns h.out,fun i hi=> ?_⟩
 obtain⟨a',m,c',e,ho⟩:=h.inn i (by omega)
 have er:(ts.map opsV).getD i []=opsV (ts.getD i []):=by simp[List.getD,hi]
 rw[er] at ho
 have hm:m=(ts.getD i []).length:=by
  have:=ho.1
  rw[opsV_len] at this;omega
 subst hm
 exact⟨a',c',e,Rd.of_owns ho⟩
theorem OwnP.rd {w:World} {v:PV} {vs:List Value} {p:Pg} (h:OwnP w v vs p.cells):RdP w v p:=
 ⟨by have:=h.os.1;simpa[Pg.cells] using this,by have:=h.og.1;simpa[Pg.cells] using this,by have:=h.ob.1;simpa[Pg.cells] using this,by have:=h.orr.1;simpa[Pg.cells] using this,
 by have:=h.ot.len;simpa[Pg.cells] using this,Rd.of_owns h.os,Rd.of_owns h.og,Rd.of_owns h.ob,Rd.of_owns h.orr,⟨vs,OwnT.rd h.ot⟩⟩
structure Touch (S:List Nat) (w w':World):Prop where
 os:w'.os=w.os
 tape:w'.tape=w.tape
 output:w'.output=w.output
 size:w.heap.size≤w'.heap.size
 block:∀k,k<w.heap.size→k∉S→w'.heap[k]? =w.heap[k]?
theorem Touch.refl (S:List Nat) (w:World):Touch S w w:=⟨rfl,rfl,rfl,Nat.le_refl _,fun _ _ _=>rfl⟩
theorem Touch.trans {S:List Nat} {a b c:World} (h:Touch S a b) (k:Touch S b c):Touch S a c:=
 ⟨k.os.trans h.os,k.tape.trans h.tape,k.output.trans h.output,Nat.le_trans h.size k.size,fun i hi hn=>(k.block i (Nat.lt_of_lt_of_le hi h.size) hn).trans (h.block i hi hn)⟩
theorem Touch.of_grown {S:List Nat} {w w':World} {row:Option Nat} (h:w.grownBy w' row) (hr:∀k,row=some k→k∈S):Touch S w w':=
 ⟨h.os,h.tape,h.output,h.size,fun k hk hn=>h.block k hk (fun e=>hn (hr k e.symm))⟩
theorem Touch.mono {S S':List Nat} {w w':World} (h:Touch S w w') (hs:∀k∈S,k∈S'):Touch S' w w':=
 ⟨h.os,h.tape,h.output,h.size,fun k hk hn=>h.block k hk (fun e=>hn (hs k e))⟩
theorem Touch.below {S:List Nat} {w w':World} {B:Nat} (h:Touch S w w') (hB:B≤w.heap.size) (hS:∀k∈S,B≤k):Below B w w':=
 ⟨h.os,h.tape,h.output,h.size,fun k hk=>h.block k (by omega) (fun e=>by have:=hS k e;omega)⟩
theorem Touch.of_below {S:List Nat} {w w':World} (h:Below w.heap.size w w'):Touch S w w':=
 ⟨h.os,h.tape,h.output,h.size,fun k hk _=>h.block k hk⟩
theorem OwnP.touch {S:List Nat} {w w':World} {v:PV} {vs:List Value} {C:Cells} (h:OwnP w v vs C) (ht:Touch S w w') (hd:∀k∈fpP v vs,k∉S):OwnP w' v vs C:=
 h.keep fun k hk hl=>ht.block k hl (hd k hk)
theorem owns_touch {S:List Nat} {w w':World} {B:Nat} {e:TypeId} {sz n c:Nat} {a:Option Addr} {cs:List Value} (h:w.ownsRow B e sz (.slice a n c) n cs) (ht:Touch S w w') (hd:∀k,rowOf a=some k→k∉S):w'.ownsRow B e sz (.slice a n c) n cs:=
 owns_keep h fun k hk hl=>ht.block k hl (hd k (by rwa [ownBlock_slice] at hk))
structure Inner (w:World) (vs:List Value) (rows:List (List Value)):Prop where
 len:rows.length=vs.length
 inn:∀i,i<vs.length→∃a' m c',vs.getD i undef= .slice a' m c'∧w.ownsRow 0 58 3 (.slice a' m c') m (rows.getD i [])
def fpV (vs:List Value):List Nat:=vs.filterMap Value.ownBlock
theorem Inner.nil (w:World):Inner w [] []:=⟨rfl,by simp⟩
theorem mem_fpV {vs:List Value} {i k:Nat} (hi:i<vs.length) (hk:(vs.getD i undef).ownBlock=some k):k∈fpV vs:=by
 refine List.mem_filterMap.2 ⟨vs.getD i undef,?_,hk⟩
 rw[List.getD_eq_getElem?_getD,List.getElem?_eq_getElem hi];simp
theorem Inner.keep {w w':World} {vs:List Value} {rows:List (List Value)} (h:Inner w vs rows) (hb:∀k∈fpV vs,k<w.heap.size→w'.heap[k]? =w.heap[k]?):Inner w' vs rows:=by
 refine⟨h.len,fun i hi=> ?_⟩
 obtain⟨a',m,c',e,ho⟩:=h.inn i hi
 exact⟨a',m,c',e,owns_keep ho fun k hk hl=>hb k (mem_fpV hi (by rw[e];exact hk)) hl⟩
theorem Inner.lt {w:World} {vs:List Value} {rows:List (List Value)} (h:Inner w vs rows):∀k∈fpV vs,k<w.heap.size:=by
 intro k hk
 obtain⟨v,hv,hvk⟩:=List.mem_filterMap.1 hk
 obtain⟨i,hi,e⟩:=List.mem_iff_getElem.1 hv
 obtain⟨a',m,c',e',ho⟩:=h.inn i hi
 have:vs.getD i undef=v:=by rw[List.getD_eq_getElem?_getD,List.getElem?_eq_getElem hi];simp[e]
 rw[this] at e'
 rw[e'] at hvk
 exact(ho.lt k hvk).2
theorem Inner.below {w w':World} {vs:List Value} {rows:List (List Value)} (h:Inner w vs rows) (hb:Below w.heap.size w w'):Inner w' vs rows:=h.keep fun k hk _=>hb.block k (h.lt k hk)
theorem Inner.grown {w w':World} {vs:List Value} {rows:List (List Value)} {row:Option Nat} (h:Inner w vs rows) (hg:w.grownBy w' row) (hr:∀k,row=some k→k∉fpV vs):Inner w' vs rows:=
 h.keep fun k hk hl=>hg.block k hl (fun e=>hr k e.symm hk)
theorem Inner.snoc {w:World} {vs:List Value} {rows:List (List Value)} (h:Inner w vs rows) {a:Option Addr} {m c:Nat} {row:List Value} (ho:w.ownsRow 0 58 3 (.slice a m c) m row):Inner w (vs++[.slice a m c]) (rows++[row]):=by
 refine⟨by simp[h.len],fun i hi=> ?_⟩
 by_cases hlt:i<vs.length
 ·obtain⟨a',m',c',e,ho'⟩:=h.inn i hlt
  refine⟨a',m',c',?_,?_⟩
  ·rw[←e];simp[List.getD,List.getElem?_append_left hlt]
  ·have:(rows++[row]).getD i []=rows.getD i []:=by simp[List.getD,List.getElem?_append_left (show i<rows.length by rw[h.len];exact hlt)]
   rw[this];exact ho'
 ·have hi':i=vs.length:=by simp at hi;omega
  subst hi'
  refine⟨a,m,c,by simp,?_⟩
  have:(rows++[row]).getD vs.length []=row:=by simp[List.getD,←h.len]
  rw[this];exact ho
theorem fpV_snoc (vs:List Value) (a:Option Addr) (m c:Nat):fpV (vs++[.slice a m c])=fpV vs++(rowOf a).toList:=by
 unfold fpV
 rw[List.filterMap_append]
 congr 1
 cases a<;>rfl
theorem OwnT.inner {w:World} {a:Option Addr} {n c:Nat} {vs:List Value} {rows:List (List Value)} (h:OwnT w a n c vs rows):Inner w vs rows:=
 ⟨by rw[h.len,h.vlen],fun i hi=>h.inn i (by rw[←h.vlen];exact hi)⟩
theorem OwnT.of_inner {w:World} {a:Option Addr} {n c:Nat} {vs:List Value} {rows:List (List Value)} (ho:w.ownsRow 0 51 1 (.slice a n c) n vs) (h:Inner w vs rows):OwnT w a n c vs rows:=by
 have hv:vs.length=n:=by have:=ho.1;omega
 exact⟨ho,by rw[h.len,hv],fun i hi=>h.inn i (by omega)⟩
theorem fpT_eq (a:Option Addr) (vs:List Value):fpT a vs=(rowOf a).toList++fpV vs:=rfl
theorem info_op:(Tryz.prog.info? 58).map (fun i=>(i.zero,i.size,i.bytes))=some (some (.agg #[.int .i64 0,.int .i64 0,.int .i64 0]),3,24):=by kernel_rfl
theorem info_ops:(Tryz.prog.info? 51).map (fun i=>(i.zero,i.size,i.bytes))=some (some (.slice none 0 0),1,24):=by kernel_rfl
theorem rows_take_succ (ts:List (List OpD)) (k:Nat) (hk:k<ts.length):(ts.take (k+1)).map opsV=(ts.take k).map opsV++[opsV (ts.getD k [])]:=by
 rw[List.take_add_one,List.getElem?_eq_getElem hk,List.map_append,List.getD_eq_getElem?_getD,List.getElem?_eq_getElem hk]
 simp only[Option.toList_some,List.map_cons,List.map_nil,Option.getD_some]
theorem nodup_snoc {l:List Nat} {o:Option Nat} (h:l.Nodup) (hk:∀k,o=some k→k∉l):(l++o.toList).Nodup:=by
 cases o with
 |none=>simpa using h
 |some k=>
  rw[List.nodup_append]
  exact⟨h,by simp,fun x hx y hy e=>by
   simp only[Option.toList_some,List.mem_singleton] at hy
   exact hk k rfl (by rw[←hy,←e];exact hx)⟩
def wordB (k:Int):ByteArray:=
 if k=1 then ⟨#[115,97,121]⟩
 else if k=2 then ⟨#[97,99,113,117,105,114,101]⟩
 else if k=3 then ⟨#[114,101,108,101,97,115,101]⟩
 else if k=4 then ⟨#[111,110,99,101]⟩
 else if k=5 then ⟨#[97,100,100]⟩
 else if k=6 then ⟨#[119,97,105,116]⟩
 else if k=7 then ⟨#[97,114,114,105,118,101]⟩
 else if k=8 then ⟨#[115,101,110,100]⟩
 else if k=9 then ⟨#[103,101,116]⟩
 else if k=10 then ⟨#[99,108,111,115,101]⟩
 else ⟨#[]⟩
def isVal (n:Int):Bool:=decide (0≤n)&&decide (n≤99)
def shared (p:Pg) (k:Int):Nat:=
 if k=1 then 1 else if k=2∨k=3 then p.sems.length else if k=4 then 3 else if k=5∨k=6 then p.groups.length else if k=7 then p.barriers.length else p.rooms.length
def argOk (p:Pg) (o:OpD):Bool:=
 if o.kind=2∨o.kind=3 then decide (1≤o.arg)&&decide (o.arg≤p.sems.getD o.on.toNat 0)
 else if o.kind=5 then decide (-9≤o.arg)&&decide (o.arg≤9)
 else if o.kind=1∨o.kind=4∨o.kind=8 then isVal o.arg
 else decide (o.arg=0)
def opValid (p:Pg) (o:OpD):Bool:=
 decide (1≤o.kind)&&decide (o.kind≤10)&&decide (0≤o.on)&&decide (o.on<shared p o.kind)&&argOk p o
def within (l:List Int) (lo hi:Int):Bool:=decide (l.length≤3)&&l.all (fun n=>decide (lo≤n)&&decide (n≤hi))
def progValid (p:Pg):Bool:=
 within p.sems 1 9&&within p.groups 0 9&&within p.barriers 1 6&&within p.rooms 0 4&&decide (1≤p.threads.length)&&decide (p.threads.length≤4)&&
  p.threads.all (fun t=>decide (t.length≤8)&&t.all (opValid p))
theorem l2Value_any (n:Int) (w:World):
  Calls Tryz.prog 99 #[.int .i64 n] w fun e w'=>e= .returned (.bool (isVal n))∧w'=w:=by
 by_cases h:0≤n
 ·have h':isVal n=decide (n≤99):=by simp[isVal,h]
  rw[h']
  go_enter Tryz.func99,Tryz.ntmps99
  go_wp2
  go_ret
  exact⟨rfl,rfl⟩
 ·have h':isVal n=false:=by simp[isVal,h]
  have hd:decide (0≤n)=false:=by simpa using h
  rw[h']
  go_enter Tryz.func99,Tryz.ntmps99
  go_wp2
  go_ret
  exact⟨rfl,rfl⟩
theorem l6Word_any (k:Int) (w:World):
  Calls Tryz.prog 89 #[.int .i64 k] w fun e w'=>e= .returned (.string (wordB k))∧Below w.heap.size w w':=by
 by_cases h1:k<1
 ·have e:wordB k=⟨#[]⟩:=by unfold wordB;repeat (rw[if_neg (by omega)])
  rw[e]
  go_enter Tryz.func89,Tryz.ntmps89
  go_wp2
  go_ret
  exact⟨rfl,xA1⟩
 ·have hd1:decide (k<1)=false:=by simpa using h1
  by_cases h2:10<k
  ·have e:wordB k=⟨#[]⟩:=by unfold wordB;repeat (rw[if_neg (by omega)])
   rw[e]
   go_enter Tryz.func89,Tryz.ntmps89
   go_wp2
   go_ret
   exact⟨rfl,xA1⟩
  ·have hk:k=1∨k=2∨k=3∨k=4∨k=5∨k=6∨k=7∨k=8∨k=9∨k=10:=by omega
   clear h1 h2 hd1
   rcases hk with rfl|rfl|rfl|rfl|rfl|rfl|rfl|rfl|rfl|rfl
   all_goals
    go_enter Tryz.func89,Tryz.ntmps89
    go_wp2
    go_ret
    exact⟨rfl,xA1⟩
theorem l6Shared_any (v:PV) (p:Pg) (k:Int) (w:World) (hr:RdP w v p) (h:v.ns≤maxLen∧v.ng≤maxLen∧v.nb≤maxLen∧v.nr≤maxLen):
  Calls Tryz.prog 90 #[.agg #[.slice v.s v.ns v.cs,.slice v.g v.ng v.cg,.slice v.b v.nb v.cb,.slice v.r v.nr v.cr,.slice v.t v.nt v.ct],.int .i64 k] w fun e w'=>e= .returned (.int .i64 (shared p k))∧Below w.heap.size w w':=by
 unfold maxLen at h
 obtain⟨z1,z2,z3,z4⟩:=h
 have l1:=xH1 hr.ls
 have l2:=xH1 hr.lg
 have l3:=xH1 hr.lb
 have l4:=xH1 hr.lr
 have hk:k=1∨k=2∨k=3∨k=4∨k=5∨k=6∨k=7∨(k≠1∧k≠2∧k≠3∧k≠4∧k≠5∧k≠6∧k≠7):=by omega
 clear hr
 rcases hk with rfl|rfl|rfl|rfl|rfl|rfl|rfl|⟨h1,h2,h3,h4,h5,h6,h7⟩
 rotate_left 7
 ·have t1:(k==1)=false:=by simpa using h1
  have t2:(k==2)=false:=by simpa using h2
  have t3:(k==3)=false:=by simpa using h3
  have t4:(k==4)=false:=by simpa using h4
  have t5:(k==5)=false:=by simpa using h5
  have t6:(k==6)=false:=by simpa using h6
  have t7:(k==7)=false:=by simpa using h7
  have HS:Hid (shared p k=v.nr):=xH1 (by unfold shared;rw[if_neg h1,if_neg (by omega),if_neg h4,if_neg (by omega),if_neg h7];exact l4.out)
  clear h1 h2 h3 h4 h5 h6 h7
  go_enter Tryz.func90,Tryz.ntmps90
  go_wp2
  go_ret
  exact⟨ret_int (by rw[HS.out]),xA1⟩
 all_goals
  go_enter Tryz.func90,Tryz.ntmps90
  go_wp2
  go_ret
  exact⟨ret_int (by simp[shared,l1.out,l2.out,l3.out]),xA1⟩
theorem l6Arg_any (v:PV) (p:Pg) (o:OpD) (w:World) (hr:RdP w v p) (hs:v.ns≤maxLen) (hon:0≤o.on∧o.on<shared p o.kind):
  Calls Tryz.prog 91 #[.agg #[.slice v.s v.ns v.cs,.slice v.g v.ng v.cg,.slice v.b v.nb v.cb,.slice v.r v.nr v.cr,.slice v.t v.nt v.ct],.agg #[.int .i64 o.kind,.int .i64 o.on,.int .i64 o.arg]] w fun e w'=>e= .returned (.bool (argOk p o))∧Below w.heap.size w w':=by
 unfold maxLen at hs
 have b0:Below w.heap.size w ((w.alloc (.cells #[.slice v.s v.ns v.cs,.slice v.g v.ng v.cg,.slice v.b v.nb v.cb,.slice v.r v.nr v.cr,.slice v.t v.nt v.ct] 26)).alloc (.cells #[.int .i64 o.kind,.int .i64 o.on,.int .i64 o.arg] 58)):=(xA1).alloc (by simp) _
 by_cases hk:o.kind=2∨o.kind=3
 ·have hn:shared p o.kind=v.ns:=by
   unfold shared
   rw[if_neg (by omega),if_pos hk];exact hr.ls
  rw[hn] at hon
  obtain⟨on0,on1⟩:=hon
  obtain⟨b,q,hsa,hc⟩:=(hr.rs.below b0).int (by rw[hr.ls];omega)
  have hcell:=hc o.on.toNat (by rw[hr.ls];omega)
  obtain⟨x,hx⟩:∃x,x=p.sems.getD o.on.toNat 0:=⟨_,rfl⟩
  rw[←hx] at hcell
  have HR:Hid (argOk p o=(decide (1≤o.arg)&&decide (o.arg≤x))):=xH1 (by unfold argOk;rw[if_pos hk,hx])
  obtain⟨vs,vns,vcs,vg,vng,vcg,vb,vnb,vcb,vr,vnr,vcr,vt,vnt,vct⟩:=v
  simp only at hsa hs hn hcell on1 b0
  subst hsa
  clear hr hc hx hn
  by_cases ha:1≤o.arg
  ·have hd:decide (1≤o.arg)=true:=by simpa using ha
   rcases hk with h2|h2
   all_goals
    have t2:(o.kind==2)=_:=congrArg (· ==(2:Int)) h2
    have t3:(o.kind==3)=_:=congrArg (· ==(3:Int)) h2
    simp only[Int.reduceBEq] at t2 t3
    clear h2
    go_enter Tryz.func91,Tryz.ntmps91
    go_wp2
    go_quiet (fail)
    go_wp2
    go_ret
    exact⟨ret_bool (by rw[HR.out,hd];rfl),below_drewN b0 _⟩
  ·have hd:decide (1≤o.arg)=false:=by simpa using ha
   rcases hk with h2|h2
   all_goals
    have t2:(o.kind==2)=_:=congrArg (· ==(2:Int)) h2
    have t3:(o.kind==3)=_:=congrArg (· ==(3:Int)) h2
    simp only[Int.reduceBEq] at t2 t3
    clear h2
    go_enter Tryz.func91,Tryz.ntmps91
    go_wp2
    go_quiet (fail)
    go_wp2
    go_ret
    exact⟨ret_bool (by rw[HR.out,hd];rfl),below_drewN b0 _⟩
 ·have t2:(o.kind==2)=false:=by simp;omega
  have t3:(o.kind==3)=false:=by simp;omega
  by_cases h5:o.kind=5
  ·have t5:(o.kind==5)=true:=by simpa using h5
   have HR:Hid (argOk p o=(decide (-9≤o.arg)&&decide (o.arg≤9))):=xH1 (by unfold argOk;rw[if_neg hk,if_pos h5])
   clear h5 hk hr
   by_cases ha: -9≤o.arg
   ·have hd:decide (-9≤o.arg)=true:=by simpa using ha
    go_enter Tryz.func91,Tryz.ntmps91
    go_wp2
    go_ret
    exact⟨ret_bool (by rw[HR.out,hd];rfl),b0⟩
   ·have hd:decide (-9≤o.arg)=false:=by simpa using ha
    go_enter Tryz.func91,Tryz.ntmps91
    go_wp2
    go_ret
    exact⟨ret_bool (by rw[HR.out,hd];rfl),b0⟩
  ·have t5:(o.kind==5)=false:=by simpa using h5
   by_cases h1:o.kind=1∨o.kind=4∨o.kind=8
   ·have HR:Hid (argOk p o=isVal o.arg):=xH1 (by unfold argOk;rw[if_neg hk,if_neg h5,if_pos h1])
    clear h5 hk hr
    rcases h1 with h1|h1|h1
    all_goals
     have t1:(o.kind==1)=_:=congrArg (· ==(1:Int)) h1
     have t4:(o.kind==4)=_:=congrArg (· ==(4:Int)) h1
     have t8:(o.kind==8)=_:=congrArg (· ==(8:Int)) h1
     simp only[Int.reduceBEq] at t1 t4 t8
     clear h1
     go_enter Tryz.func91,Tryz.ntmps91
     go_wp2_with fail
     refine(l2Value_any o.arg _).mono ?_
     rintro e w1 ⟨rfl,rfl⟩
     go_wp2
     go_ret
     exact⟨ret_bool (by rw[HR.out]),b0⟩
   ·have t1:(o.kind==1)=false:=by simp;omega
    have t4:(o.kind==4)=false:=by simp;omega
    have t8:(o.kind==8)=false:=by simp;omega
    have HR:Hid (argOk p o=decide (o.arg=0)):=xH1 (by unfold argOk;rw[if_neg hk,if_neg h5,if_neg h1])
    clear h5 hk hr h1
    go_enter Tryz.func91,Tryz.ntmps91
    go_wp2
    go_ret
    exact⟨ret_bool (by rw[HR.out];rfl),b0⟩
end Go.Proofs.YtjmpejaifmopnaaGreat
namespace Go.Proofs.YtjmpejaifmopnaaGreat
open Go.RowKit Go.Sort
def noneE:ByteArray:=⟨#[]⟩
def someE (c:UInt8) (cs:List UInt8):ByteArray:=⟨(c::cs).toArray⟩
@[simp] theorem noneE_isEmpty:noneE.toList.isEmpty=true:=by
 have:noneE.toList=[]:=by unfold noneE ByteArray.toList ByteArray.toList.loop;simp[ByteArray.size]
 rw[this];rfl
@[simp] theorem someE_isEmpty (c:UInt8) (cs:List UInt8):(someE c cs).toList.isEmpty=false:=by
 have h:(someE c cs).toList≠[]:=by
  intro h
  have:=congrArg List.length h
  simp[someE,ByteArray.toList_eq] at this
 cases h':(someE c cs).toList with
 |nil=>exact absurd h' h
 |cons a l=>rfl
theorem regrown_same {P:Program} {f:FuncId} {args:Array Value} {w:World} {d:Nat} {os:Array Obj} {v:Value}
  (h:Calls P f args (grow (redrawn w d) os) fun e w'=>e= .returned v∧w'=grow (redrawn w d) os):Calls P f args (grow (redrawn w d) os) fun e w''=>e= .returned v∧∃p:Regrown,w''=grow (redrawn w p.d) p.os:=
 h.mono fun _ _ ⟨he,hw⟩=>⟨he,⟨⟨d,os⟩,hw⟩⟩
theorem keepc {w w':World} {q:Addr} {x:Value} (hb:Below w.heap.size w w') (g:w.cell? q=some x):w'.cell? q=some x:=
 (hb.cell (World.block_lt_of_cell? _ _ g)).trans g
theorem specOpValid_any (v:PV) (p:Pg) (o:OpD) (w:World) (hr:RdP w v p) (hs:v.ns≤maxLen∧v.ng≤maxLen∧v.nb≤maxLen∧v.nr≤maxLen):
  Calls Tryz.prog 61 #[.agg #[.slice v.s v.ns v.cs,.slice v.g v.ng v.cg,.slice v.b v.nb v.cb,.slice v.r v.nr v.cr,.slice v.t v.nt v.ct],.agg #[.int .i64 o.kind,.int .i64 o.on,.int .i64 o.arg]] w fun e w'=>e= .returned (.bool (opValid p o))∧Below w.heap.size w w':=by
 have kP:Blk ((w.alloc (.cells #[.slice v.s v.ns v.cs,.slice v.g v.ng v.cg,.slice v.b v.nb v.cb,.slice v.r v.nr v.cr,.slice v.t v.nt v.ct] 26)).alloc (.cells #[.int .i64 o.kind,.int .i64 o.on,.int .i64 o.arg] 58)) w.heap.size #[.slice v.s v.ns v.cs,.slice v.g v.ng v.cg,.slice v.b v.nb v.cb,.slice v.r v.nr v.cr,.slice v.t v.nt v.ct] 26:=(Blk.new _ _ _).alloc _
 have kO:Blk ((w.alloc (.cells #[.slice v.s v.ns v.cs,.slice v.g v.ng v.cg,.slice v.b v.nb v.cb,.slice v.r v.nr v.cr,.slice v.t v.nt v.ct] 26)).alloc (.cells #[.int .i64 o.kind,.int .i64 o.on,.int .i64 o.arg] 58)) (w.heap.size+1) #[.int .i64 o.kind,.int .i64 o.on,.int .i64 o.arg] 58:=by simpa using Blk.new (w.alloc (.cells #[.slice v.s v.ns v.cs,.slice v.g v.ng v.cg,.slice v.b v.nb v.cb,.slice v.r v.nr v.cr,.slice v.t v.nt v.ct] 26)) #[.int .i64 o.kind,.int .i64 o.on,.int .i64 o.arg] 58
 have hB:Below w.heap.size w ((w.alloc (.cells #[.slice v.s v.ns v.cs,.slice v.g v.ng v.cg,.slice v.b v.nb v.cb,.slice v.r v.nr v.cr,.slice v.t v.nt v.ct] 26)).alloc (.cells #[.int .i64 o.kind,.int .i64 o.on,.int .i64 o.arg] 58)):=(xA1).alloc (by simp) _
 obtain⟨W0,hW0⟩:∃W0:World,W0=((w.alloc (.cells #[.slice v.s v.ns v.cs,.slice v.g v.ng v.cg,.slice v.b v.nb v.cb,.slice v.r v.nr v.cr,.slice v.t v.nt v.ct] 26)).alloc (.cells #[.int .i64 o.kind,.int .i64 o.on,.int .i64 o.arg] 58)):=⟨_,rfl⟩
 rw[←hW0] at kP kO hB
 have HW0:=xH1 hW0
 clear hW0
 have c1:W0.cell? ⟨w.heap.size,0,none⟩=some (.slice v.s v.ns v.cs):=kP.cell 0 rfl
 have c2:W0.cell? ⟨w.heap.size,1,none⟩=some (.slice v.g v.ng v.cg):=kP.cell 1 rfl
 have c3:W0.cell? ⟨w.heap.size,2,none⟩=some (.slice v.b v.nb v.cb):=kP.cell 2 rfl
 have c4:W0.cell? ⟨w.heap.size,3,none⟩=some (.slice v.r v.nr v.cr):=kP.cell 3 rfl
 have c5:W0.cell? ⟨w.heap.size,4,none⟩=some (.slice v.t v.nt v.ct):=kP.cell 4 rfl
 have c6:W0.cell? ⟨w.heap.size+1,0,none⟩=some (.int .i64 o.kind):=kO.cell 0 rfl
 have c7:W0.cell? ⟨w.heap.size+1,1,none⟩=some (.int .i64 o.on):=kO.cell 1 rfl
 have c8:W0.cell? ⟨w.heap.size+1,2,none⟩=some (.int .i64 o.arg):=kO.cell 2 rfl
 have k1:=cell_regrown c1
 have k2:=cell_regrown c2
 have k3:=cell_regrown c3
 have k4:=cell_regrown c4
 have k5:=cell_regrown c5
 have k6:=cell_regrown c6
 have k7:=cell_regrown c7
 have k8:=cell_regrown c8
 clear kP kO
 by_cases hk:1≤o.kind∧o.kind≤10
 ·obtain⟨c,cs,hW⟩:∃c cs,wordB o.kind=someE c cs:=by
   have hk:o.kind=1∨o.kind=2∨o.kind=3∨o.kind=4∨o.kind=5∨o.kind=6∨o.kind=7∨o.kind=8∨o.kind=9∨o.kind=10:=by omega
   rcases hk with h|h|h|h|h|h|h|h|h|h<;>rw[h]<;>exact⟨_,_,rfl⟩
  have cW:Hid (∀d os,Calls Tryz.prog 89 #[.int .i64 o.kind] (grow (redrawn W0 d) os) fun e w''=>e= .returned (.string (someE c cs))∧∃p:Regrown,w''=grow (redrawn W0 p.d) p.os):=xH1 (fun d os=>Calls.regrown_of (by
   have:=l6Word_any o.kind (grow (redrawn W0 d) os);rw[hW] at this;exact this))
  have cS:Hid (∀d os,Calls Tryz.prog 90 #[.agg #[.slice v.s v.ns v.cs,.slice v.g v.ng v.cg,.slice v.b v.nb v.cb,.slice v.r v.nr v.cr,.slice v.t v.nt v.ct],.int .i64 o.kind] (grow (redrawn W0 d) os) fun e w''=>e= .returned (.int .i64 (shared p o.kind))∧∃p:Regrown,w''=grow (redrawn W0 p.d) p.os):=xH1 (fun d os=>Calls.regrown_of
   (l6Shared_any v p o.kind _ ((hr.below hB).below (below_regrown W0 d os)) hs))
  have e1:decide (1≤o.kind)=true:=by simpa using hk.1
  have e2:decide (o.kind≤10)=true:=by simpa using hk.2
  clear hW
  by_cases hn:o.on<0
  ·have t1:decide (o.on<0)=true:=by simpa using hn
   have HR:Hid (opValid p o=false):=xH1 (by unfold opValid;rw[show decide (0≤o.on)=false by simpa using hn];simp)
   clear e1 e2
   go_enter Tryz.func61,Tryz.ntmps61
   go_wp2_with fail
   rw[←HW0.out]
   refine wp_region_quiet_below (by kernel_rfl) (by kernel_rfl) ?_
   repeat (go_big_quiet_step (first|exact cW.out _ _|exact cS.out _ _))
   refine wpQuiet_nil ?_
   intro w6 hw6
   have hbq:Below W0.heap.size W0 w6:=by
    obtain⟨pq,rfl⟩:=hw6
    exact below_regrown _ _ _
   clear hw6
   go_wp2
   go_ret
   exact⟨ret_bool (by rw[HR.out]),hB.trans (hbq.mono hB.size)⟩
  ·have t1:decide (o.on<0)=false:=by simpa using hn
   have e3:decide (0≤o.on)=true:=by simpa using hn
   by_cases hn2:(shared p o.kind:Int)≤o.on
   ·have t2:decide ((shared p o.kind:Int)≤o.on)=true:=by simpa using hn2
    have HR:Hid (opValid p o=false):=xH1 (by unfold opValid;rw[show decide (o.on<shared p o.kind)=false by simpa using hn2];simp)
    clear e1 e2 e3
    go_enter Tryz.func61,Tryz.ntmps61
    go_wp2_with fail
    rw[←HW0.out]
    refine wp_region_quiet_below (by kernel_rfl) (by kernel_rfl) ?_
    repeat (go_big_quiet_step (first|exact cW.out _ _|exact cS.out _ _))
    refine wpQuiet_nil ?_
    intro w6 hw6
    have hbq:Below W0.heap.size W0 w6:=by
     obtain⟨pq,rfl⟩:=hw6
     exact below_regrown _ _ _
    clear hw6
    go_wp2
    go_ret
    exact⟨ret_bool (by rw[HR.out]),hB.trans (hbq.mono hB.size)⟩
   ·have t2:decide ((shared p o.kind:Int)≤o.on)=false:=by simpa using hn2
    have hon:0≤o.on∧o.on<shared p o.kind:=by omega
    have HR:Hid (opValid p o=argOk p o):=xH1 (by unfold opValid;rw[e1,e2,e3,show decide (o.on<shared p o.kind)=true by simpa using hn2];simp)
    clear e1 e2 e3
    go_enter Tryz.func61,Tryz.ntmps61
    go_wp2_with fail
    rw[←HW0.out]
    refine wp_region_quiet_below (by kernel_rfl) (by kernel_rfl) ?_
    repeat (go_big_quiet_step (first|exact cW.out _ _|exact cS.out _ _))
    refine wpQuiet_nil ?_
    intro w6 hw6
    have hbq:Below W0.heap.size W0 w6:=by
     obtain⟨pq,rfl⟩:=hw6
     exact below_regrown _ _ _
    clear hw6
    clear k1 k2 k3 k4 k5 k6 k7 k8
    replace c1:=keepc hbq c1
    replace c2:=keepc hbq c2
    replace c3:=keepc hbq c3
    replace c4:=keepc hbq c4
    replace c5:=keepc hbq c5
    replace c6:=keepc hbq c6
    replace c7:=keepc hbq c7
    replace c8:=keepc hbq c8
    have hB2:=hB.trans (hbq.mono hB.size)
    go_wp2_with fail
    refine(l6Arg_any v p o _ (hr.below hB2) hs.1 hon).mono ?_
    rintro e w' ⟨rfl,hb2⟩
    go_wp2
    go_ret
    exact⟨ret_bool (by rw[HR.out]),hB2.trans (hb2.mono hB2.size)⟩
 ·have hW:wordB o.kind=noneE:=by unfold wordB noneE;repeat (rw[if_neg (by omega)])
  have cW:Hid (∀d os,Calls Tryz.prog 89 #[.int .i64 o.kind] (grow (redrawn W0 d) os) fun e w''=>e= .returned (.string noneE)∧∃p:Regrown,w''=grow (redrawn W0 p.d) p.os):=xH1 (fun d os=>Calls.regrown_of (by
   have:=l6Word_any o.kind (grow (redrawn W0 d) os);rw[hW] at this;exact this))
  have HR:Hid (opValid p o=false):=xH1 (by unfold opValid;rw[←Bool.decide_and,show decide (1≤o.kind∧o.kind≤10)=false by simpa using hk];simp)
  clear hW hk
  go_enter Tryz.func61,Tryz.ntmps61
  go_wp2_with fail
  rw[←HW0.out]
  refine wp_region_quiet_below (by kernel_rfl) (by kernel_rfl) ?_
  repeat (go_big_quiet_step (exact cW.out _ _))
  refine wpQuiet_nil ?_
  intro w6 hw6
  have hbq:Below W0.heap.size W0 w6:=by
   obtain⟨pq,rfl⟩:=hw6
   exact below_regrown _ _ _
  clear hw6
  go_wp2
  go_ret
  exact⟨ret_bool (by rw[HR.out]),hB.trans (hbq.mono hB.size)⟩
end Go.Proofs.YtjmpejaifmopnaaGreat
namespace Go.Proofs.YtjmpejaifmopnaaGreat
open Go.RowKit
def gives (P:Program) (o:Oper) (ρ:Operand→Value) (w:World) (post:Value→World→Prop):Prop:=
 match (execOp ρ o).run P w with
 | .ok (.value u) w'=>post u w'
 | .ok .skip w'=>post undef w'
 | .ok (.enter f args) w'=>Calls P f args w' (fun e w''=>∃u,e= .returned u∧post u w'')
 |_=>False
theorem wp_of_gives {P:Program} {o:Oper} {a:Act} {w:World} {post:Value→World→Prop} {Q:Exit→Act→World→Prop} {K:Act→World→Prop} (h:gives P o a.eval w post) (hK:∀u w',post u w'→K (a.put o.dst u) w'):o.wp P a w K Q:=by
 unfold gives at h
 unfold Oper.wp
 generalize (execOp a.eval o).run P w=r at h⊢
 cases r with
 |ok n w'=>
  cases n with
  |value u=>exact hK _ _ h
  |skip=>exact hK _ _ h
  |enter f args=>
   refine Calls.mono h fun e w'' he=> ?_
   obtain⟨u,rfl,hp⟩:=he
   exact hK _ _ hp
  |_=>exact h.elim
 |halt x w'=>exact h.elim
def at' (Rs:List (List Value→Value→World→Prop)) (i:Nat):List Value→Value→World→Prop:=Rs.getD i (fun _ _ _=>True)
def waits (o:Oper):List Nat:=(o.after.toList.filter (Region.binds .any)).map (·.on)
def slotAt (l:List Oper) (ρ:Operand→Value) (j:Nat):Value:=
 match (l[j]?).bind (·.dst) with
 |some d=>ρ (.tmp d)
 |none=>undef
def depVals (l:List Oper) (ρ:Operand→Value) (o:Oper):List Value:=(waits o).map (slotAt l ρ)
def knows (l:List Oper) (Rs:List (List Value→Value→World→Prop)) (ρ:Operand→Value) (w:World) (j:Nat):Prop:=
 match l[j]? with
 |some o=>at' Rs j (depVals l ρ o) (slotAt l ρ j) w
 |none=>True
def knowAll (l:List Oper) (Rs:List (List Value→Value→World→Prop)) (ρ:Operand→Value) (w:World):List Nat→Prop
 |[]=>True
 |j::r=>knows l Rs ρ w j∧knowAll l Rs ρ w r
theorem knowAll_of {l:List Oper} {Rs:List (List Value→Value→World→Prop)} {ρ:Operand→Value} {w:World}:∀{js:List Nat},(∀j∈js,knows l Rs ρ w j)→knowAll l Rs ρ w js
 |[],_=>trivial
 |j::r,h=>⟨h j (by simp),knowAll_of (fun k hk=>h k (by simp[hk]))⟩
def outer (l:List Oper) (x:Operand):Bool:=
 match x with
 | .tmp t=> !(l.any fun o=>o.dst==some t)
 |_=>true
theorem xF1 {l:List Oper} {ρ:Operand→Value} {a:Act} (h:∀x,outer l x=true→ρ x=a.eval x):(∀z,ρ (.const z)=z)∧(∀z,ρ (.func z)= .func (.func z) #[] #[]):=⟨fun _=>h _ rfl,fun _=>h _ rfl⟩
def kept (o:Oper) (u:Value):Value:=match o.dst with|some _=>u|none=>undef
def Steps (P:Program) (l:List Oper) (Rs:List (List Value→Value→World→Prop)) (St:Nat→World→World→Prop) (Bk:Nat→Value→Option Nat) (G:(Nat→Bool)→World→Prop) (ρ0:Operand→Value):List Oper→Nat→Prop
 |[],_=>True
 |o::os,i=>(∀ρ w L,G L w→(∀j p,l[j]? =some p→(j==i||(waits p).contains i)=true→L j=false)→(∀x,outer l x=true→ρ x=ρ0 x)→knowAll l Rs ρ w (waits o)→gives P o ρ w (fun u w'=>St i w w'∧at' Rs i (depVals l ρ o) (kept o u) w'∧(∀k,Bk i (kept o u)=some k→w.heap.size≤k∧k<w'.heap.size)∧G (fun j=>decide (j=i)||L j) w'))∧Steps P l Rs St Bk G ρ0 os (i+1)
theorem Steps.at {P:Program} {l:List Oper} {Rs:List (List Value→Value→World→Prop)} {St:Nat→World→World→Prop} {Bk:Nat→Value→Option Nat} {G:(Nat→Bool)→World→Prop} {ρ0:Operand→Value}:∀{os:List Oper} {k i:Nat} {o:Oper},Steps P l Rs St Bk G ρ0 os k→os[i]? =some o→
  ∀ρ w L,G L w→(∀j p,l[j]? =some p→(j==k+i||(waits p).contains (k+i))=true→L j=false)→(∀x,outer l x=true→ρ x=ρ0 x)→knowAll l Rs ρ w (waits o)→gives P o ρ w (fun u w'=>St (k+i) w w'∧at' Rs (k+i) (depVals l ρ o) (kept o u) w'∧(∀j,Bk (k+i) (kept o u)=some j→w.heap.size≤j∧j<w'.heap.size)∧G (fun j=>decide (j=k+i)||L j) w')
 |[],_,i,o,_,h=>by simp at h
 |p::os,k,0,o,hs,h=>by
  obtain rfl:p=o:=by simpa using h
  simpa using hs.1
 |p::os,k,i+1,o,hs,h=>by
  have:=Steps.at (i:=i) (k:=k+1) hs.2 (by simpa using h)
  rw[show k+1+i=k+(i+1) by omega] at this
  exact this
def StepsF (P:Program) (l:List Oper) (Rs:List (List Value→Value→World→Prop)) (Bk:Nat→Value→Option Nat) (G:World→Prop) (ρ0:Operand→Value):List Oper→Nat→Prop
 |[],_=>True
 |o::os,i=>(∀ρ w,G w→(∀x,outer l x=true→ρ x=ρ0 x)→knowAll l Rs ρ w (waits o)→gives P o ρ w (fun u w'=>Below w.heap.size w w'∧at' Rs i (depVals l ρ o) (kept o u) w'∧(∀k,Bk i (kept o u)=some k→w.heap.size≤k∧k<w'.heap.size)∧G w'))∧StepsF P l Rs Bk G ρ0 os (i+1)
theorem StepsF.to {P:Program} {l:List Oper} {Rs:List (List Value→Value→World→Prop)} {Bk:Nat→Value→Option Nat} {G:World→Prop} {ρ0:Operand→Value}:∀{os:List Oper} {k:Nat},StepsF P l Rs Bk G ρ0 os k→Steps P l Rs (fun _ w w'=>Below w.heap.size w w') Bk (fun _ w=>G w) ρ0 os k
 |[],_,_=>trivial
 |_::_,_,h=>⟨fun ρ w _ hG _=>h.1 ρ w hG,StepsF.to h.2⟩
def putAll:List Oper→Act→List Value→Act
 |[],a,_=>a
 |o::os,a,v::vs=>putAll os (a.put o.dst v) vs
 |o::os,a,[]=>putAll os (a.put o.dst undef) []
def All (Rs:List (List Value→Value→World→Prop)) (vs:List Value) (w:World):List Oper→Nat→Prop
 |[],_=>True
 |o::os,i=>at' Rs i ((waits o).map fun j=>vs.getD j undef) (vs.getD i undef) w∧All Rs vs w os (i+1)
def slotOf (a:Act) (o:Oper):Value:=match o.dst with|some d=>a.tmps.getD d undef|none=>undef
theorem putAll_self (b:Act):∀(l:List Oper) (a:Act),a.tmps.size=b.tmps.size→a.defers=b.defers→(∀t,(∀o∈l,o.dst≠some t)→b.tmps[t]? =a.tmps[t]?)→putAll l a (l.map (slotOf b))=b
 |[],a,hs,hd,h=>by
  rw[List.map_nil,putAll]
  obtain⟨ta,da⟩:=a
  obtain⟨tb,db⟩:=b
  simp only at hs hd h
  rw[hd]
  congr 1
  exact Array.ext_getElem? fun t=>(h t (by simp)).symm
 |o::os,a,hs,hd,h=>by
  rw[List.map_cons,putAll]
  refine putAll_self b os _ ?_ ?_ ?_
  ·cases ho:o.dst<;>simp[Act.put,hs]
  ·cases ho:o.dst<;>simp[Act.put,hd]
  ·intro t ht
   cases ho:o.dst with
   |none=>
    simp only[Act.put]
    refine h t (fun p hp=> ?_)
    rcases List.mem_cons.1 hp with e|e
    ·rw[e,ho];simp
    ·exact ht p e
   |some d=>
    simp only[Act.put]
    by_cases hdt:d=t
    ·subst hdt
     by_cases hlt:d<a.tmps.size
     ·have hlb:d<b.tmps.size:=by rw[←hs];exact hlt
      rw[Array.getElem?_setIfInBounds_self_of_lt hlt]
      simp[slotOf,ho,hlb]
     ·have hlb:b.tmps.size≤d:=by rw[←hs];exact Nat.le_of_not_lt hlt
      rw[Array.getElem?_eq_none hlb,Array.getElem?_eq_none (by simpa using Nat.le_of_not_lt hlt)]
    ·rw[Array.getElem?_setIfInBounds_ne hdt]
     exact h t (fun p hp=>by
      rcases List.mem_cons.1 hp with e|e
      ·rw[e,ho];exact fun hh=>hdt (by simpa using hh)
      ·exact ht p e)
def distinct:List Oper→Bool
 |[]=>true
 |o::os=>(match o.dst with|some d=> !(os.any fun p=>p.dst==some d)|none=>true)&&distinct os
theorem distinct_ne:∀{l:List Oper},distinct l=true→∀{i j:Nat} {o p:Oper} {d:Tmp},l[i]? =some o→l[j]? =some p→i≠j→o.dst=some d→p.dst≠some d
 |[],_,i,_,_,_,_,h,_,_,_=>by simp at h
 |q::os,hd,i,j,o,p,d,hi,hj,hne,ho=>by
  simp only[distinct,Bool.and_eq_true] at hd
  intro hp
  cases i with
  |zero=>
   cases j with
   |zero=>exact hne rfl
   |succ j=>
    obtain rfl:q=o:=by simpa using hi
    rw[ho] at hd
    have hm:p∈os:=List.mem_of_getElem? (by simpa using hj)
    have:(os.any fun x=>x.dst==some d)=true:=List.any_eq_true.2 ⟨p,hm,by simp[hp]⟩
    simp[this] at hd
  |succ i=>
   cases j with
   |zero=>
    obtain rfl:q=p:=by simpa using hj
    rw[hp] at hd
    have hm:o∈os:=List.mem_of_getElem? (by simpa using hi)
    have:(os.any fun x=>x.dst==some d)=true:=List.any_eq_true.2 ⟨o,hm,by simp[ho]⟩
    simp[this] at hd
   |succ j=>exact distinct_ne hd.2 (by simpa using hi) (by simpa using hj) (by omega) ho hp
structure RInv (l h:List Oper) (n:Nat) (Rs:List (List Value→Value→World→Prop)) (Bk:Nat→Value→Option Nat) (G:(Nat→Bool)→World→Prop) (a0:Act) (fuel:Nat) (listed:Array Bool) (a:Act) (w:World):Prop where
 inv:HeadInv .any l.toArray n listed
 left:((listed.toList.take n).filter (· ==false)).length=fuel
 good:G (fun j=>listed.getD j false) w
 frame:a0.tmps.size=a.tmps.size
 defs:a0.defers=a.defers
 same:∀t,(∀j o,h[j]? =some o→listed.getD j false=true→o.dst≠some t)→a.tmps[t]? =a0.tmps[t]?
 know:∀j,j<h.length→listed.getD j false=true→knows h Rs a.eval w j
 bound:∀j o,h[j]? =some o→listed.getD j false=true→∀k,Bk j (slotOf a o)=some k→k<w.heap.size
 apart:∀i j o p,h[i]? =some o→h[j]? =some p→i≠j→listed.getD i false=true→listed.getD j false=true→∀k,Bk i (slotOf a o)=some k→Bk j (slotOf a p)≠some k
theorem filter_set:∀(l:List Bool) (n i:Nat),i<n→l[i]? =some false→(((l.set i true).take n).filter (· ==false)).length+1=((l.take n).filter (· ==false)).length
 |[],_,i,_,h=>by simp at h
 |b::l,0,i,hi,_=>by omega
 |b::l,n+1,0,_,h=>by
  obtain rfl:b=false:=by simpa using h
  simp
 |b::l,n+1,i+1,hi,h=>by
  have:=filter_set l n i (by omega) (by simpa using h)
  simp only[List.set_cons_succ,List.take_succ_cons]
  cases b
  ·simp only[List.filter_cons,beq_self_eq_true,if_true,List.length_cons];omega
  ·simpa[List.filter_cons] using this
def headListed (m n:Nat):Array Bool:=((List.range m).map (fun i=>decide (i<n))).toArray
theorem listed_eq {l:List Oper} {n:Nat} {listed:Array Bool} (inv:HeadInv .any l.toArray n listed) (hn:n≤l.length) (h:((listed.toList.take n).filter (· ==false)).length=0):listed=headListed l.length n:=by
 have hs:listed.size=l.length:=by have:=inv.size;simpa using this
 apply Array.ext_getElem?
 intro i
 unfold headListed
 by_cases hi:i<l.length
 ·have e1:listed[i]? =some (listed[i]'(by omega)):=by simp[show i<listed.size by omega]
  rw[e1]
  simp only[List.getElem?_toArray,List.getElem?_map,List.getElem?_range hi,Option.map_some]
  congr 1
  by_cases hin:i<n
  ·rw[decide_eq_true hin]
   have h0:=List.eq_nil_of_length_eq_zero h
   rw[List.filter_eq_nil_iff] at h0
   have hm:listed[i]'(by omega)∈listed.toList.take n:=by
    rw[List.mem_take_iff_getElem]
    exact⟨i,by simp;omega,by simp⟩
   have:=h0 _ hm
   simpa using this
  ·rw[decide_eq_false hin]
   have:=inv.tail i (by omega) (by simpa using hi)
   simpa[show i<listed.size by omega] using this
 ·rw[Array.getElem?_eq_none (by omega)]
  simp[Nat.le_of_not_lt hi]
def early (l:List Oper):Bool:=(List.range l.length).all fun i=>match l[i]? with|some o=>(waits o).all fun j=>decide (j<i)|none=>true
def fits (l:List Oper) (n m:Nat):Bool:=
 (l.all fun o=>o.guard.isNone)&&distinct (l.take n)&&((l.take n).all fun o=>match o.dst with|some d=>decide (d<m)|none=>true)&&early l&&decide (n≤l.length)&&
 (decide (n=l.length)||(Region.sinkB .any l.toArray n&&Region.chainB .any l.toArray n))&&Region.seqB .any l.toArray (l.length-n) n (headListed l.length n)
def Apart' (Bk:Nat→Value→Option Nat) (vs:List Value):Prop:=∀i j,i<vs.length→j<vs.length→i≠j→∀k,Bk i (vs.getD i undef)=some k→Bk j (vs.getD j undef)≠some k
def Bounded (Bk:Nat→Value→Option Nat) (vs:List Value) (w:World):Prop:=∀i,i<vs.length→∀k,Bk i (vs.getD i undef)=some k→k<w.heap.size
theorem least_of (p:Nat→Prop):∀i,p i→∃i,p i∧∀k,k<i→¬p k:=by
 intro i
 induction i using Nat.strongRecOn with
 |_ i ih=>
  intro hi
  by_cases h:∃k,k<i∧p k
  ·obtain⟨k,hk,hp⟩:=h
   exact ih k hk hp
  ·exact⟨i,hi,fun k hk hp=>h ⟨k,hk,hp⟩⟩
theorem slotAt_eq {h:List Oper} {a:Act} {j:Nat} {o:Oper} (hj:h[j]? =some o):slotAt h a.eval j=slotOf a o:=by
 unfold slotAt slotOf
 rw[hj]
 cases ho:o.dst<;>simp[ho,Act.eval]
theorem knows_iff {h:List Oper} {Rs:List (List Value→Value→World→Prop)} {a:Act} {w:World} {j:Nat} {o:Oper} (hj:h[j]? =some o):knows h Rs a.eval w j↔at' Rs j (depVals h a.eval o) (slotOf a o) w:=by
 unfold knows
 rw[hj,←slotAt_eq hj]
theorem wpAny_steps {P:Program} {l h:List Oper} {n:Nat} {Rs:List (List Value→Value→World→Prop)} {St:Nat→World→World→Prop} {Bk:Nat→Value→Option Nat} {G:(Nat→Bool)→World→Prop} {a0:Act} {Q:Exit→Act→World→Prop}
  (hh:h=l.take n) (hf:fits l n a0.tmps.size=true)
  (hgrow:∀i w w',St i w w'→w.heap.size≤w'.heap.size) (hst:∀i j ds v w w',i≠j→St i w w'→at' Rs j ds v w→at' Rs j ds v w')
  (hsteps:Steps P h Rs St Bk G a0.eval h 0)
  (hend:∀(vs:List Value) w L,G L w→vs.length=n→All Rs vs w h 0→Apart' Bk vs→Bounded Bk vs w→wpList P l.toArray Q (l.drop n) (putAll h a0 vs) w):
  ∀(fuel:Nat) (listed:Array Bool) (a:Act) (w:World),RInv l h n Rs Bk G a0 fuel listed a w→wpAny P .any l.toArray Q (fuel+(l.length-n)) listed a w:=by
 simp only[fits,Bool.and_eq_true,decide_eq_true_eq] at hf
 obtain⟨⟨⟨⟨⟨⟨hg,hd⟩,hin⟩,hearly⟩,hn⟩,hsink⟩,hseq⟩:=hf
 rw[←hh] at hd hin
 have hhl:h.length=n:=by rw[hh];simp[hn]
 have hget:∀j,j<n→h[j]? =l[j]? :=fun j hj=>by rw[hh];simp[hj]
 have hearly':∀i o,l[i]? =some o→∀e∈o.after,Region.binds .any e=true→e.on<i:=by
  intro i o hi e he hb
  have hil:i<l.length:=(List.getElem?_eq_some_iff.1 hi).1
  have h1:=List.all_eq_true.1 hearly i (List.mem_range.2 hil)
  rw[hi] at h1
  have h2:=List.all_eq_true.1 h1 e.on (by unfold waits;exact List.mem_map.2 ⟨e,List.mem_filter.2 ⟨by simpa using he,hb⟩,rfl⟩)
  simpa using h2
 intro fuel
 induction fuel with
 |zero=>
  intro listed a w hI
  have hL:=listed_eq hI.inv hn hI.left
  have hall:∀j,j<n→listed.getD j false=true:=by
   intro j hj
   rw[hL];simp[headListed,hj,show j<l.length by omega]
  have e:putAll h a0 (h.map (slotOf a))=a:=putAll_self a h a0 hI.frame hI.defs fun t ht=>hI.same t fun j o hj _=>ht o (List.mem_of_getElem? hj)
  have hvs:∀j,slotAt h a.eval j=(h.map (slotOf a)).getD j undef:=by
   intro j
   by_cases hj:j<h.length
   ·rw[slotAt_eq (o:=h[j]) (by simp[hj])];simp[List.getD,hj]
   ·unfold slotAt;simp[List.getD,Nat.le_of_not_lt hj]
  have hAll:∀(os:List Oper) (k:Nat),(∀i,os[i]? =h[k+i]?)→All Rs (h.map (slotOf a)) w os k:=by
   intro os
   induction os with
   |nil=>intro k _;trivial
   |cons o os ih=>
    intro k hk
    have h0:h[k]? =some o:=by have:=hk 0;simpa using this.symm
    refine⟨?_,ih (k+1) (fun i=>by have:=hk (i+1);rw[show k+1+i=k+(i+1) by omega];simpa using this)⟩
    have hlt:k<h.length:=(List.getElem?_eq_some_iff.1 h0).1
    have:=(knows_iff h0).1 (hI.know k hlt (hall k (by omega)))
    rw[←slotAt_eq h0,hvs k] at this
    have e:depVals h a.eval o=(waits o).map fun j=>(h.map (slotOf a)).getD j undef:=List.map_congr_left fun j _=>hvs j
    rw[e] at this
    exact this
  have hsl:∀j,j<h.length→∃o,h[j]? =some o∧(h.map (slotOf a)).getD j undef=slotOf a o:=by
   intro j hj
   exact⟨h[j],by simp[hj],by simp[List.getD,hj]⟩
  have hfin:=hend (h.map (slotOf a)) w _ hI.good (by simp[hhl]) (hAll h 0 (by simp)) (by
   intro i j hi hj hne k hk
   simp only[List.length_map] at hi hj
   obtain⟨o,ho,eo⟩:=hsl i hi
   obtain⟨p,hp,ep⟩:=hsl j hj
   rw[eo] at hk
   rw[ep]
   exact hI.apart i j o p ho hp hne (hall i (by omega)) (hall j (by omega)) k hk) (by
   intro i hi k hk
   simp only[List.length_map] at hi
   obtain⟨o,ho,eo⟩:=hsl i hi
   rw[eo] at hk
   exact hI.bound i o ho (hall i (by omega)) k hk)
  rw[e] at hfin
  have hdl:(l.drop n).length=l.length-n:=by simp
  have:=wpAny_of_seq (md:= .any) (Q':=Q) (l.drop n) n listed a w (fun j=>by simp[List.getElem?_drop]) (by rw[hdl,hL];exact hseq) hfin
  rw[Nat.zero_add]
  rwa [hdl] at this
 |succ fuel ih=>
  intro listed a w hI
  --some operation of the head is not listed;the first of them is ready
  have hex:∃i,i<n∧listed.getD i true=false:=by
   have hne:(listed.toList.take n).filter (· ==false)≠[]:=fun h0=>by have:=hI.left;rw[h0] at this;simp at this
   obtain⟨b,hb⟩:=List.exists_mem_of_ne_nil _ hne
   obtain⟨hb1,hb2⟩:=List.mem_filter.1 hb
   obtain⟨i,hi,e⟩:=List.mem_iff_getElem.1 hb1
   simp only[List.length_take,Array.length_toList] at hi
   refine⟨i,by omega,?_⟩
   have:listed[i]'(by omega)=b:=by simpa using e
   simp only[beq_iff_eq] at hb2
   simp[show i<listed.size by omega,this,hb2]
  have hsz:listed.size=l.length:=by have:=hI.inv.size;simpa using this
  have hready:Region.ready .any l.toArray listed≠[]:=by
   have hmin:∃i,(i<n∧listed.getD i true=false)∧∀k,k<i→¬(k<n∧listed.getD k true=false):=by
    obtain⟨i,hi⟩:=hex
    exact least_of (fun i=>i<n∧listed.getD i true=false) i hi
   obtain⟨i,⟨hi,hu⟩,hmin⟩:=hmin
   obtain⟨o,ho⟩:∃o,l[i]? =some o:=⟨l[i]'(by omega),by simp[show i<l.length by omega]⟩
   have:i∈Region.ready .any l.toArray listed:=mem_ready.2 ⟨hu,o,by simpa using ho,fun e he hb=>by
    have hlt:=hearly' i o ho e he hb
    have:=hmin e.on hlt
    have h2:listed.getD e.on true≠false:=fun h0=>this ⟨by omega,h0⟩
    simp only[Bool.not_eq_false] at h2
    have h3:e.on<listed.size:=by omega
    simpa[h3] using h2⟩
   intro h0
   rw[h0] at this
   cases this
  rw[show fuel+1+(l.length-n)=(fuel+(l.length-n))+1 by omega]
  refine⟨fun h0=>absurd h0 hready,fun i hi=> ?_⟩
  obtain⟨hu,o,ho,hdeps⟩:=mem_ready.1 hi
  have hol:l[i]? =some o:=by simpa using ho
  have hil:i<l.length:=(List.getElem?_eq_some_iff.1 hol).1
  have hin':i<n:=by
   rcases Nat.lt_or_ge i n with hlt|hge
   ·exact hlt
   ·exfalso
    obtain⟨i0,hi0,hu0⟩:=hex
    simp only[Bool.or_eq_true,decide_eq_true_eq,Bool.and_eq_true] at hsink
    rcases hsink with hsink|⟨hs,hc⟩
    ·omega
    ·exact tail_waits hs hc (by simpa using(show n<l.length by omega)) hI.inv _ i0 rfl hi0 hu0 i hge hi
  have hoh:h[i]? =some o:=by rw[hget i hin'];exact hol
  have hmem:o∈l:=List.mem_of_getElem? hol
  have hgo:o.guard=none:=by
   have:=List.all_eq_true.1 hg o hmem
   simpa using this
  unfold wpOp
  rw[ho]
  have hw:Region.wanted o (yielded l.toArray a.tmps)=true:=by simp[Region.wanted,hgo]
  simp only[hw,if_true]
  refine .inl ?_
  have hlt:i<listed.size:=by omega
  have hfalse:listed[i]=false:=by
   have:listed.getD i true=listed[i]:=by simp[hlt]
   rw[←this];exact hu
  have hK:knowAll h Rs a.eval w (waits o):=by
   refine knowAll_of fun j hj=> ?_
   unfold waits at hj
   obtain⟨e,he,rfl⟩:=List.mem_map.1 hj
   obtain⟨he1,he2⟩:=List.mem_filter.1 he
   have hl:=hdeps e (by simpa using he1) he2
   have hjl:=hearly' i o hol e (by simpa using he1) he2
   exact hI.know e.on (by omega) hl
  have hout:∀x,outer h x=true→a.eval x=a0.eval x:=by
   intro x hx
   cases x with
   |tmp t=>
    have hn:∀o'∈h,o'.dst≠some t:=by
     intro o' ho' e
     simp only[outer,Bool.not_eq_true',List.any_eq_false] at hx
     exact hx o' ho' (by simp[e])
    have:=hI.same t (fun j o' hj _=>hn o' (List.mem_of_getElem? hj))
    simp only[Act.eval]
    rw[Array.getD_eq_getD_getElem?,Array.getD_eq_getD_getElem?,this]
   |_=>rfl
  have hny:∀j p,h[j]? =some p→(j==i||(waits p).contains i)=true→listed.getD j false=false:=by
   intro j p hj hc
   by_cases hji:j=i
   ·subst hji;exact getD_both hu
   replace hc:(waits p).contains i=true:=by simpa[hji] using hc
   cases hlj:listed.getD j false with
   |false=>rfl
   |true=>
    exfalso
    have hjn:j<n:=by rw[←hhl];exact(List.getElem?_eq_some_iff.1 hj).1
    have hpl:l[j]? =some p:=by rw[←hget j hjn];exact hj
    have hm:i∈waits p:=by simpa using hc
    unfold waits at hm
    obtain⟨e,he,heq⟩:=List.mem_map.1 hm
    obtain⟨he1,he2⟩:=List.mem_filter.1 he
    have:=hI.inv.closed j p (by simpa using hpl) hlj e (by simpa using he1) he2
    rw[heq] at this
    have h2:listed.getD i false=false:=getD_both hu
    rw[h2] at this;cases this
  have hstep:=Steps.at (k:=0) hsteps hoh a.eval w _ hI.good (by rw[Nat.zero_add];exact hny) hout hK
  rw[Nat.zero_add] at hstep
  refine wp_of_gives hstep fun u w' hp=>ih _ _ _ ?_
  obtain⟨hS,hR,hB,hG⟩:=hp
  have hgs:∀j,(listed.setIfInBounds i true).getD j false=true→j=i∨(j≠i∧listed.getD j false=true):=by
   intro j hj
   by_cases e:j=i
   ·exact .inl e
   ·right
    refine⟨e,?_⟩
    have:(listed.setIfInBounds i true).getD j false=listed.getD j false:=by
     rw[Array.getD_eq_getD_getElem?,Array.getD_eq_getD_getElem?,Array.getElem?_setIfInBounds_ne (fun h=>e h.symm)]
    rw[←this];exact hj
  have hdl:∀d,o.dst=some d→d<a.tmps.size:=by
   intro d hod
   have:=List.all_eq_true.1 hin o (List.mem_of_getElem? hoh)
   rw[hod] at this
   rw[←hI.frame];simpa using this
  have hself:slotOf (a.put o.dst u) o=kept o u:=by
   unfold slotOf kept
   cases hod:o.dst with
   |none=>rfl
   |some d=>simp[Act.put,hdl d hod]
  have hslot:∀j p,h[j]? =some p→j≠i→slotOf (a.put o.dst u) p=slotOf a p:=by
   intro j p hj hne
   unfold slotOf
   cases hpd:p.dst with
   |none=>rfl
   |some d=>
    cases hod:o.dst with
    |none=>rfl
    |some d'=>
     have hdd:=distinct_ne hd hoh hj (fun e=>hne e.symm) hod
     have hne':d'≠d:=fun e=>hdd (by rw[hpd,e])
     simp[Act.put,Array.getElem?_setIfInBounds_ne hne']
  have hdep:∀j p,l[j]? =some p→j<n→(∀e∈p.after,Region.binds .any e=true→e.on≠i)→depVals h (a.put o.dst u).eval p=depVals h a.eval p:=by
   intro j p hj hjn hno
   refine List.map_congr_left fun k hk=> ?_
   unfold waits at hk
   obtain⟨e,he,rfl⟩:=List.mem_map.1 hk
   obtain⟨he1,he2⟩:=List.mem_filter.1 he
   have hke:=hearly' j p hj e (by simpa using he1) he2
   obtain⟨q,hq⟩:∃q,h[e.on]? =some q:=⟨h[e.on]'(by omega),by simp[show e.on<h.length by omega]⟩
   rw[slotAt_eq hq,slotAt_eq hq]
   exact hslot e.on q hq (hno e (by simpa using he1) he2)
  have hG':G (fun j=>(listed.setIfInBounds i true).getD j false) w':=by
   have e:(fun j=>(listed.setIfInBounds i true).getD j false)=fun j=>decide (j=i)||listed.getD j false:=by
    funext j
    by_cases e:j=i
    ·subst e;simp[hlt]
    ·have:(listed.setIfInBounds i true).getD j false=listed.getD j false:=by
      rw[Array.getD_eq_getD_getElem?,Array.getD_eq_getD_getElem?,Array.getElem?_setIfInBounds_ne (fun h=>e h.symm)]
     rw[this];simp[e]
   rw[e];exact hG
  refine⟨hI.inv.set hi hin',?_,hG',?_,?_,?_,?_,?_,?_⟩
  ·have hx:listed.toList[i]? =some false:=by simp[hlt,hfalse]
   have:=filter_set listed.toList n i hin' hx
   have e:(listed.setIfInBounds i true).toList=listed.toList.set i true:=by simp
   rw[e]
   have:=hI.left
   omega
  ·rw[hI.frame];cases o.dst<;>simp[Act.put]
  ·rw[hI.defs];cases o.dst<;>simp[Act.put]
  ·intro t ht
   have hio:o.dst≠some t:=ht i o hoh (by simp[hlt])
   have hold:=hI.same t (fun j p hj hl=>ht j p hj (by
    by_cases e:j=i
    ·subst e;simp[hlt]
    ·rw[Array.getD_eq_getD_getElem?,Array.getElem?_setIfInBounds_ne (fun h=>e h.symm),←Array.getD_eq_getD_getElem?];exact hl))
   rw[←hold]
   cases hod:o.dst with
   |none=>rfl
   |some d=>simp only[Act.put];rw[Array.getElem?_setIfInBounds_ne (fun e=>hio (by rw[hod,e]))]
  ·intro j hj hl
   obtain⟨p,hp⟩:∃p,h[j]? =some p:=⟨h[j],by simp[hj]⟩
   rw[knows_iff hp]
   rcases hgs j hl with e|⟨hne,hl'⟩
   ·subst e
    obtain rfl:o=p:=by rw[hoh] at hp;exact Option.some.inj hp
    rw[hself,hdep j o hol hin' (fun e he hb=>by have:=hearly' j o hol e he hb;omega)];exact hR
   ·have hpl:l[j]? =some p:=by rw[←hget j (by omega)];exact hp
    rw[hslot j p hp hne,hdep j p hpl (by omega) (fun e he hb heq=>by
     have:=hI.inv.closed j p (by simpa using hpl) hl' e he hb
     rw[heq] at this
     have h2:listed.getD i false=false:=by simp[hlt,hfalse]
     rw[h2] at this;cases this)]
    exact hst i j _ _ _ _ (fun e=>hne e.symm) hS ((knows_iff hp).1 (hI.know j hj hl'))
  ·intro j p hp hl k hk
   rcases hgs j hl with e|⟨hne,hl'⟩
   ·subst e
    obtain rfl:o=p:=by rw[hoh] at hp;exact Option.some.inj hp
    rw[hself] at hk;exact(hB k hk).2
   ·rw[hslot j p hp hne] at hk
    exact Nat.lt_of_lt_of_le (hI.bound j p hp hl' k hk) (hgrow _ _ _ hS)
  ·intro j1 j2 p1 p2 hp1 hp2 hne hl1 hl2 k hk hk2
   rcases hgs j1 hl1 with e1|⟨hne1,hl1'⟩
   ·subst e1
    obtain rfl:o=p1:=by rw[hoh] at hp1;exact Option.some.inj hp1
    rcases hgs j2 hl2 with e2|⟨hne2,hl2'⟩
    ·exact hne e2.symm
    ·rw[hself] at hk
     rw[hslot j2 p2 hp2 hne2] at hk2
     have h1:=(hB k hk).1
     have h2:=hI.bound j2 p2 hp2 hl2' k hk2
     omega
   ·rcases hgs j2 hl2 with e2|⟨hne2,hl2'⟩
    ·subst e2
     obtain rfl:o=p2:=by rw[hoh] at hp2;exact Option.some.inj hp2
     rw[hself] at hk2
     rw[hslot j1 p1 hp1 hne1] at hk
     have h1:=(hB k hk2).1
     have h2:=hI.bound j1 p1 hp1 hl1' k hk
     omega
    ·rw[hslot j1 p1 hp1 hne1] at hk
     rw[hslot j2 p2 hp2 hne2] at hk2
     exact hI.apart j1 j2 p1 p2 hp1 hp2 hne hl1' hl2' k hk hk2
theorem wp_region_steps {P:Program} {id:Nat} {l:List Oper} (n:Nat) {a0:Act} {w:World} {Q:Exit→Act→World→Prop} (hm:P.follows .mixedOrders=true) (hf:fits l n a0.tmps.size=true)
  (Rs:List (List Value→Value→World→Prop)) (St:Nat→World→World→Prop) (Bk:Nat→Value→Option Nat) (G:(Nat→Bool)→World→Prop) (hG:∀L,(∀j,L j=false)→G L w.drew)
  (hsz:∀i w w',St i w w'→w.heap.size≤w'.heap.size) (hst:∀i j ds v w w',i≠j→St i w w'→at' Rs j ds v w→at' Rs j ds v w')
  (hsteps:Steps P (l.take n) Rs St Bk G a0.eval (l.take n) 0)
  (hend:∀(vs:List Value) w' L,G L w'→vs.length=n→All Rs vs w' (l.take n) 0→Apart' Bk vs→Bounded Bk vs w'→wpList P l.toArray Q (l.drop n) (putAll (l.take n) a0 vs) w'):(Code.region id l.toArray true).wp P Q a0 w:=by
 have hn:n≤l.length:=by
  simp only[fits,Bool.and_eq_true,decide_eq_true_eq] at hf
  exact hf.1.1.2
 refine wp_region_any hm ?_
 have hne:∀j:Nat,(Array.replicate l.length false).getD j false=true→False:=fun j hj=>by
  simp only[Array.getD_eq_getD_getElem?,Array.getElem?_replicate] at hj
  split at hj<;>simp at hj
 have:=wpAny_steps rfl hf hsz hst hsteps hend n (Array.replicate l.length false) a0 w.drew
  ⟨⟨by simp,fun j oj _ hl=>(hne j hl).elim,fun t _ ht=>getD_in (by simpa using ht) (getD_replicate_false _ _)⟩,
  by simp[List.take_replicate,Nat.min_eq_left hn],hG _ (fun j=>getD_replicate_false _ _),rfl,rfl,fun t _=>rfl,fun j _ hl=>(hne j hl).elim,fun j _ _ hl=>(hne j hl).elim,fun i _ _ _ _ _ _ hl=>(hne i hl).elim⟩
 rw[show n+(l.length-n)=l.length by omega] at this
 simpa using this
theorem wp_region_fresh {P:Program} {id:Nat} {l:List Oper} (n:Nat) {a0:Act} {w:World} {Q:Exit→Act→World→Prop} (hm:P.follows .mixedOrders=true) (hf:fits l n a0.tmps.size=true)
  (Rs:List (List Value→Value→World→Prop)) (Bk:Nat→Value→Option Nat) (G:World→Prop) (hG:G w.drew)
  (hst:∀j ds v w w',Below w.heap.size w w'→at' Rs j ds v w→at' Rs j ds v w')
  (hsteps:StepsF P (l.take n) Rs Bk G a0.eval (l.take n) 0)
  (hend:∀(vs:List Value) w',G w'→vs.length=n→All Rs vs w' (l.take n) 0→Apart' Bk vs→Bounded Bk vs w'→wpList P l.toArray Q (l.drop n) (putAll (l.take n) a0 vs) w'):(Code.region id l.toArray true).wp P Q a0 w:=
 wp_region_steps n hm hf Rs _ Bk (fun _ w=>G w) (fun _ _=>hG) (fun _ _ _ h=>h.size) (fun _ j _ _ _ _ _ hS=>hst j _ _ _ _ hS) hsteps.to (fun vs w' _=>hend vs w')
theorem Touch.set {S:List Nat} {a w:World} (h:Touch S a w) {b j:Nat} {v:Value} (hb:b∈S):Touch S a (w.setCell ⟨b,j,none⟩ v):=
 h.trans ⟨rfl,rfl,rfl,by simp,fun k _ hn=>Below.heap_setCell _ _ _ _ (fun e=>hn (by rw[e];exact hb))⟩
theorem nodup_opt {o:Option Nat} {l:List Nat} (h:l.Nodup) (hk:∀k,o=some k→k∉l):(o.toList++l).Nodup:=by
 cases o with
 |none=>simpa using h
 |some k=>
  rw[Option.toList_some,List.singleton_append,List.nodup_cons]
  exact⟨hk k rfl,h⟩



structure Small (v:PV) (p:Pg):Prop where
 ls:v.ns≤1048576
 lg:v.ng≤1048576
 lb:v.nb≤1048576
 lr:v.nr≤1048576
 lt:v.nt≤1048576
 inn:∀i,(p.threads.getD i []).length≤1048576

theorem cell_touch {S:List Nat} {w w':World} {q:Addr} {x:Value} (T:Touch S w w') (g:w.cell? q=some x) (hne:q.block∉S):w'.cell? q=some x:=by
 have hlt:=World.block_lt_of_cell? w _ g
 rw[World.cell?_of_block (w:=w) (w':=w') (a:=q) (T.block q.block hlt hne)]
 exact g
theorem gives_val {P:Program} {o:Oper} {ρ:Operand→Value} {w w':World} {u:Value} {post:Value→World→Prop} (hr:(execOp ρ o).run P w= .ok (.value u) w') (hp:post u w'):gives P o ρ w post:=by
 unfold gives;rw[hr];exact hp
theorem gives_skip {P:Program} {o:Oper} {ρ:Operand→Value} {w w':World} {post:Value→World→Prop} (hr:(execOp ρ o).run P w= .ok .skip w') (hp:post undef w'):gives P o ρ w post:=by
 unfold gives;rw[hr];exact hp
theorem gives_call {P:Program} {o:Oper} {ρ:Operand→Value} {w w':World} {f:FuncId} {args:Array Value} {post:Value→World→Prop} (hr:(execOp ρ o).run P w= .ok (.enter f args) w') (hp:Calls P f args w' (fun e w''=>∃u,e= .returned u∧post u w'')):gives P o ρ w post:=by
 unfold gives;rw[hr];exact hp
theorem run_append_new {P:Program} {w:World} (t ty:TypeId) {B:Nat} {e:TypeId} {z:Value} {size bytes:Nat} (ht:P.underlying t=some (.slice e)) (hinfo:(P.info? e).map (fun i=>(i.zero,i.size,i.bytes))=some (some z,size,bytes))
  (hzs:z.cells.size=size) (hsz:0<size) {a:Option Addr} (hown:w.ownsRow B e size (.slice a 0 0) 0 [])
  {a2:Option Addr} {m c2:Nat} {news:List Value} (hl:news.length=m*size) (hsrc:Rd w a2 news) (h1:∀u∈news,u.oneCell'=true) (hbytes:m*bytes≤140737488355328) (hby:0<bytes) (hbase:B≤w.heap.size):
  ∃a' c' w',(Builtin.append_ #[t,t] ty #[.slice a 0 0,.slice a2 m c2]).run P w= .ok (.slice a' m c') w'∧w'.ownsRow B e size (.slice a' m c') m news∧Below w.heap.size w w'∧(0<m→∀k,rowOf a'=some k→w.heap.size≤k)∧(m=0→c'=0):=by
 obtain⟨i,hi,hz0,hz1,hz2⟩:=info_parts hinfo
 have h63:0+m≤maxLen:=by
  have:=Nat.le_trans (Nat.le_mul_of_pos_right m hby) hbytes
  simp only[maxLen];omega
 by_cases hm:m=0
 ·subst hm
  obtain rfl:news=[]:=List.eq_nil_of_length_eq_zero (by simpa using hl)
  refine⟨a,0,w,?_,hown,Below.refl _ _,by omega,fun _=>rfl⟩
  cases a2 with
  |none=>exact run_append_owned_none' (P:=P) (w:=w) B t ty e i size ht hi _ 0 [] hown c2
  |some ad=>
   cases a with
   |none=>simp[Builtin.append_,run_underlying ht,sizeOf,typeInfo,hi,Builtin.lenOf,Builtin.firstCells,loadCells,loadCellsFrom]
   |some b=>simp[Builtin.append_,run_underlying ht,sizeOf,typeInfo,hi,Builtin.lenOf,Builtin.firstCells,loadCells,loadCellsFrom,storeCells]
 ·have ha2:∃ad,a2=some ad:=by
   cases a2 with
   |some ad=>exact⟨ad,rfl⟩
   |none=>
    exfalso
    obtain⟨b,o',e',_⟩:=hsrc.at (by rw[hl];exact Nat.mul_pos (by omega) hsz)
    cases e'
  obtain⟨ad,rfl⟩:=ha2
  have hnews:∀j u,news[j]? =some u→w.cell? (ad.add j)=some u:=by
   intro j u hj
   have hjl:j<news.length:=(List.getElem?_eq_some_iff.1 hj).1
   obtain⟨b,o',e',hc⟩:=hsrc.at (by omega)
   cases e'
   rw[Addr.add_lit,hc j hjl]
   rw[List.getD_eq_getElem?_getD,hj];rfl
  have key:∃v' w',(Builtin.append_ #[t,t] ty #[.slice a 0 0,.slice (some ad) m c2]).run P w= .ok v' w'∧w'.ownsRow w.heap.size e size v' (0+m) ([]++news)∧w.grownBy w' none:=by
   cases a with
   |some b=>exact run_append_arg_grows (P:=P) w t ty e i z size bytes ht hi hz0 hz1 hz2 hzs hsz b 0 0 [] (by simp) (by simp) ad m c2 news hl hnews (by omega) h63 (by simpa using hbytes)
   |none=>
    obtain⟨v',w',hrun,r1,r2,_⟩:=run_append_own (P:=P) w w.heap.size t ty e i z size bytes ht hi hz0 hz1 hz2 hzs hsz (.slice none 0 0) 0 [] (World.ownsRow_nil w _ e size) ad m c2 news hl hnews h1 h63 (by simpa using hbytes) xL1
    exact⟨v',w',hrun,r1,r2⟩
  obtain⟨v',w',hrun,r1,r2⟩:=key
  rw[Nat.zero_add,List.nil_append] at r1
  obtain⟨a',c',rfl⟩:=owns_slice r1
  exact⟨a',c',w',hrun,owns_mono r1 hbase,below_of_grown r2 xL1 (by simp),fun _ k hk=>(owns_row r1 k hk).1,fun h0=>absurd h0 hm⟩
theorem gives_append_new {P:Program} {o:Oper} {ρ:Operand→Value} {w:World} {post:Value→World→Prop} (s x:Operand) (t:TypeId)
  (ho:o.op= .call {callee:= .builtin .append,args:= #[s,x],argTypes:= #[t,t]}) {B:Nat} {e:TypeId} {z:Value} {size bytes:Nat} (ht:P.underlying t=some (.slice e)) (hinfo:(P.info? e).map (fun i=>(i.zero,i.size,i.bytes))=some (some z,size,bytes))
  (hzs:z.cells.size=size) (hsz:0<size) {a:Option Addr} (hs:ρ s= .slice a 0 0) (hown:w.ownsRow B e size (.slice a 0 0) 0 [])
  {a2:Option Addr} {m c2:Nat} {news:List Value} (hx:ρ x= .slice a2 m c2) (hl:news.length=m*size) (hsrc:Rd w a2 news) (h1:∀u∈news,u.oneCell'=true) (hbytes:m*bytes≤140737488355328) (hby:0<bytes) (hbase:B≤w.heap.size)
  (h:∀a' c' w',w'.ownsRow B e size (.slice a' m c') m news→Below w.heap.size w w'→(0<m→∀k,rowOf a'=some k→w.heap.size≤k)→(m=0→c'=0)→post (.slice a' m c') w'):gives P o ρ w post:=by
 obtain⟨a',c',w',hr,h2,h3,h4,h5⟩:=run_append_new (P:=P) (c2:=c2) t o.type ht hinfo hzs hsz hown hl hsrc h1 hbytes hby hbase
 refine gives_val (u:= .slice a' m c') (w':=w') ?_ (h a' c' w' h2 h3 h4 h5)
 unfold execOp
 simp only[ho,resolve,invoke,builtin,Sem.run_bind,Sem.run_pure,Result.andThen_ok,List.map_toArray,List.map_cons,List.map_nil,hs,hx,hr]
def Stab (r:List Value→Value→World→Prop):Prop:=∀ds v w w',Below w.heap.size w w'→r ds v w→r ds v w'
def StabAll:List (List Value→Value→World→Prop)→Prop
 |[]=>True
 |r::rs=>Stab r∧StabAll rs
theorem stab_of:∀{Rs:List (List Value→Value→World→Prop)},StabAll Rs→∀j ds v w w',Below w.heap.size w w'→at' Rs j ds v w→at' Rs j ds v w'
 |[],_,_,_,_,_,_,_,_=>trivial
 |_::_,h,0,ds,v,w,w',hb,hr=>h.1 ds v w w' hb hr
 |_::rs,h,j+1,ds,v,w,w',hb,hr=>stab_of (Rs:=rs) h.2 j ds v w w' hb hr
def St1 (i0:Nat) (T:World→World→Prop) (i:Nat) (w w':World):Prop:=if i=i0 then T w w' else Below w.heap.size w w'
def StabBy (T:World→World→Prop) (r:List Value→Value→World→Prop):Prop:=∀ds v w w',T w w'→r ds v w→r ds v w'
def StabAllBy (i0:Nat) (T:World→World→Prop):Nat→List (List Value→Value→World→Prop)→Prop
 |_,[]=>True
 |k,r::rs=>(k=i0∨StabBy T r)∧StabAllBy i0 T (k+1) rs
theorem stabBy_of {i0:Nat} {T:World→World→Prop}:∀{Rs:List (List Value→Value→World→Prop)} {k:Nat},StabAllBy i0 T k Rs→∀j ds v w w',k+j≠i0→T w w'→at' Rs j ds v w→at' Rs j ds v w'
 |[],_,_,_,_,_,_,_,_,_,_=>trivial
 |_::_,_,h,0,ds,v,w,w',hne,hT,hr=>h.1.elim (fun e=>absurd e hne) (fun h=>h ds v w w' hT hr)
 |_::rs,k,h,j+1,ds,v,w,w',hne,hT,hr=>stabBy_of (Rs:=rs) (k:=k+1) h.2 j ds v w w' (by omega) hT hr
theorem stab1_of {i0:Nat} {T:World→World→Prop} {Rs:List (List Value→Value→World→Prop)} (h1:StabAll Rs) (h2:StabAllBy i0 T 0 Rs):∀i j ds v w w',i≠j→St1 i0 T i w w'→at' Rs j ds v w→at' Rs j ds v w':=by
 intro i j ds v w w' hne hS hr
 unfold St1 at hS
 split at hS
 ·next e=>subst e;exact stabBy_of h2 j ds v w w' (by omega) hS hr
 ·exact stab_of h1 j ds v w w' hS hr
theorem st1_size {i0:Nat} {T:World→World→Prop} (hT:∀w w',T w w'→w.heap.size≤w'.heap.size):∀i w w',St1 i0 T i w w'→w.heap.size≤w'.heap.size:=by
 intro i w w' h
 unfold St1 at h
 split at h
 ·exact hT _ _ h
 ·exact h.size
theorem st1_below {i0:Nat} {T:World→World→Prop} {i:Nat} {w w':World} (hne:i≠i0) (h:Below w.heap.size w w'):St1 i0 T i w w':=by
 unfold St1;rw[if_neg hne];exact h
theorem st1_own {i0:Nat} {T:World→World→Prop} {w w':World} (h:T w w'):St1 i0 T i0 w w':=by
 unfold St1;rw[if_pos rfl];exact h
def Stage (i0:Nat) (S:List Nat) (W1:World) (L:Nat→Bool) (w:World):Prop:=(L i0=false→Below W1.heap.size W1 w)∧Touch S W1 w
theorem Stage.start (i0:Nat) (S:List Nat) (W1:World):∀L:Nat→Bool,(∀j,L j=false)→Stage i0 S W1 L W1.drew:=fun _ _=>⟨fun _=>xB1.drew,Touch.of_below xB1.drew⟩
theorem Stage.step {i0:Nat} {S:List Nat} {W1 w w':World} {L:Nat→Bool} (h:Stage i0 S W1 L w) {i:Nat} (_hne:i≠i0) (hb:Below w.heap.size w w'):Stage i0 S W1 (fun j=>decide (j=i)||L j) w':=
 ⟨fun hL=>by
  have:L i0=false:=by
   simp only[Bool.or_eq_false_iff] at hL
   exact hL.2
  exact(h.1 this).trans (hb.mono (h.1 this).size),h.2.trans (Touch.of_below hb)⟩
theorem Stage.own {i0:Nat} {S:List Nat} {W1 w w':World} {L:Nat→Bool} (h:Stage i0 S W1 L w) (ht:Touch S w w'):Stage i0 S W1 (fun j=>decide (j=i0)||L j) w':=
 ⟨fun hL=>by simp at hL,h.2.trans ht⟩
theorem len_cons {vs:List Value} {n:Nat} (h:vs.length=n+1):∃x xs,vs=x::xs∧xs.length=n:=by
 cases vs with
 |nil=>simp at h
 |cons x xs=>exact⟨x,xs,rfl,by simpa using h⟩
theorem len_nil {vs:List Value} (h:vs.length=0):vs=[]:=List.eq_nil_of_length_eq_zero h
def slBk (n:Nat) (v:Value):Option Nat:=if n=0 then none else v.ownBlock
def ptBk:Value→Option Nat
 | .pointer (some a)=>some a.block
 |_=>none
theorem slBk_new {w w':World} {B:Nat} {e:TypeId} {sz m c:Nat} {a:Option Addr} {cs:List Value} (hown:w'.ownsRow B e sz (.slice a m c) m cs) (hf:0<m→∀k,rowOf a=some k→w.heap.size≤k):∀k,slBk m (.slice a m c)=some k→w.heap.size≤k∧k<w'.heap.size:=by
 intro k hk
 unfold slBk at hk
 by_cases hm:m=0
 ·rw[if_pos hm] at hk;cases hk
 ·rw[if_neg hm,ownBlock_slice] at hk
  exact⟨hf (by omega) k hk,(owns_row hown k hk).2⟩
theorem ptBk_new (w:World) (o:Obj):∀k,ptBk (.pointer (some ⟨w.heap.size,0,none⟩))=some k→w.heap.size≤k∧k<(w.alloc o).heap.size:=by
 intro k hk
 have:w.heap.size=k:=by simpa[ptBk] using hk
 subst this
 simp
end Go.Proofs.YtjmpejaifmopnaaGreat
namespace Go.Proofs.YtjmpejaifmopnaaGreat
open Go.RowKit Go.ChangeShapes Go.WideShapes Go.Deep
section
variable {H:Type} {enc:TypeId×Value→H} {w:World} {base:Nat} {held:Bool}
end
end Go.Proofs.YtjmpejaifmopnaaGreat
