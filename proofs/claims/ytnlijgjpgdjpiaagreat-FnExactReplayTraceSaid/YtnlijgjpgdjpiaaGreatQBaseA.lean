/- Part of a proof: BaseA. -/
import Derived.Test.YtnlijgjpgdjpiaaGreatRows
import Derived.WalkKit
import Derived.WalkSmall
import Derived.Lib.Hide
import Derived.WalkSpells
import Derived.WalkLawsBesides
import Derived.BigQuiet
import Derived.Deep.QuietTactic
import Derived.Maps.AppendAt
import Derived.Laws.IdiomStrings
import Derived.StillTailTactics
import Derived.Deep.RegionHeld3
import Derived.Lib.QuietBelow
import Derived.StillTail
import Derived.ArgAppend
import Derived.Deep.Slices
import Derived.ProofKit
namespace Go.Proofs.YtnlijgjpgdjpiaaGreat
open Go.RowKit
theorem xH1 {p:Prop} (h:p):Hid p:=Lib.hid h
theorem xN1 {α:Type} {P:α->Prop}:∀k:α,(none:Option α)=some k->P k:=λ_ h=>by cases h
theorem xB1 {B:Nat} {w:World}:Below B w w:=Below.refl _ _
theorem xL1 {n:Nat}:n<=n:=Nat.le_refl _
theorem xS1 {α:Type} {a b:α} (h:a∈[b]):a=b:=List.mem_singleton.1 h
theorem xP1 {α:Type} {a:α} {s t:List α} (h:a∈s++t):a∈s\/a∈t:=List.mem_append.1 h
theorem xQ1 {α:Type} {a:α} {s t:List α} (h:a∈s\/a∈t):a∈s++t:=List.mem_append.2 h
theorem xA1 {w:World} {o:Obj}:Below w.heap.size w (w.alloc o):=(Below.refl _ _).alloc (Nat.le_refl _) _
theorem xS2 {α:Type} {a:α}:a∈[a]:=List.mem_singleton.2 rfl
abbrev xW (w w':World):Prop:=Below w.heap.size w w'
abbrev xDa:= @List.getD_eq_getElem?_getD
abbrev xDb:= @List.getElem?_eq_getElem
abbrev xDc:= @List.mem_filterMap
abbrev xDd:= @bodyPost_ret
abbrev xDe:= @World.size_alloc
abbrev xDf:= @List.length_map
abbrev xDg:= @List.append_assoc
abbrev xDh:= @List.length_append
abbrev xDi:= @World.ownsRow_nil
abbrev xDj:= @decide_eq_false
abbrev xDk:= @decide_eq_true
abbrev xDl:= @List.mem_map
abbrev xDm:= @List.not_mem_nil
abbrev xDn:= @Option.some.injEq
abbrev xDo:= @List.mem_of_getElem?
abbrev xDp:= @List.length_take
abbrev xDq:= @List.nil_append
abbrev xDr:= @List.map_append
abbrev xDs:= @List.getElem?_eq_some_iff
abbrev xDt:= @List.take_of_length_le
end Go.Proofs.YtnlijgjpgdjpiaaGreat
set_option maxRecDepth 100000
set_option maxHeartbeats 16000000
namespace Go.Proofs.YtnlijgjpgdjpiaaGreat
open Go.RowKit
def Rd (w:World) (a:Option Addr) (cs:List Value):Prop:=
 cs=[]\/∃b o,a=some ⟨b,o,none⟩/\∀j,j<cs.length->w.cell? ⟨b,o+j,none⟩=some (cs.getD j undef)
theorem Rd.at {w:World} {a:Option Addr} {cs:List Value} (h:Rd w a cs) (hne:0<cs.length):
  ∃b o,a=some ⟨b,o,none⟩/\∀j,j<cs.length->w.cell? ⟨b,o+j,none⟩=some (cs.getD j undef):=by
 rcases h with rfl|h
 ·simp at hne
 ·exact h
theorem Rd.keep {w w':World} {a:Option Addr} {cs:List Value} (h:Rd w a cs) (hb:∀b o,a=some ⟨b,o,none⟩->b<w.heap.size->w'.heap[b]? =w.heap[b]?):Rd w' a cs:=by
 rcases h with rfl|⟨b,o,rfl,hc⟩
 ·exact .inl rfl
 ·by_cases hne:cs=[]
  ·exact .inl hne
  ·refine .inr ⟨b,o,rfl,λj hj=> ?_⟩;have h0:=hc j hj;have hlt:=World.block_lt_of_cell? w _ h0;rw[World.cell?_of_block (w:=w) (w':=w') (a:=⟨b,o+j,none⟩) (hb b o rfl hlt)];exact h0
theorem Rd.below {w w':World} {a:Option Addr} {cs:List Value} (h:Rd w a cs) (hb:xW w w'):Rd w' a cs:=
 h.keep λb _ _ hlt=>hb.block b hlt
def ze:Option Addr->Option Nat
 |some a=>some a.block
 |none=>none
theorem Rd.grown {w w':World} {a:Option Addr} {cs:List Value} {row:Option Nat} (h:Rd w a cs) (hg:w.grownBy w' row) (hne:ze a=none\/ze a≠row):Rd w' a cs:=by
 refine h.keep λb o e hlt=>hg.block b hlt ?_;subst e;rcases hne with h|h
 ·cases h
 ·exact h
theorem Rd.of_owns {w:World} {B:Nat} {e:TypeId} {sz n c:Nat} {a:Option Addr} {cs:List Value} (h:w.ownsRow B e sz (.slice a n c) n cs):Rd w a cs:=by
 rcases h.2 with ⟨h',h0⟩|⟨g,cap,cur,h',hb,hg,hnc,hcm,hcs,htake⟩
 ·left;refine List.eq_nil_of_length_eq_zero ?_;rw[h.1,h0];simp
 ·right;simp only[Value.slice.injEq,true_and] at h';obtain⟨rfl,rfl⟩:=h';refine⟨g,0,rfl,λj hj=> ?_⟩;rw[Nat.zero_add,h.cellAt j (by rw[<-h.1];exact hj)];simp[List.getD,hj]
abbrev ints (xs:List Int):List Value:=xs.map (Value.int .i64)
theorem zjN (xs:List Int) (j:Nat) (hj:j<xs.length):(ints xs).getD j undef= .int .i64 (xs.getD j 0):=by
 simp[ints,List.getD,hj]
theorem Rd.int {w:World} {a:Option Addr} {xs:List Int} (h:Rd w a (ints xs)) (hne:0<xs.length):
  ∃b o,a=some ⟨b,o,none⟩/\∀j,j<xs.length->w.cell? ⟨b,o+j,none⟩=some (.int .i64 (xs.getD j 0)):=by
 obtain⟨b,o,e,hc⟩:=h.at (by simpa using hne)
 exact⟨b,o,e,λj hj=>by rw[hc j (by simpa using hj),zjN xs j hj]⟩
theorem zc2 {α:Type} {f:α->List Value} {sz:Nat} (hf:∀x,(f x).length=sz) (l:List α):(l.flatMap f).length=l.length*sz:=by
 induction l with
 |nil=>simp
 |cons x l ih=>simp[ih,hf,Nat.add_mul];omega
theorem zfW {α:Type} {f:α->List Value} {sz:Nat} (hf:∀x,(f x).length=sz) (d:α):∀(l:List α) (j i:Nat),j<l.length->i<sz->(l.flatMap f).getD (j*sz+i) undef=(f (l.getD j d)).getD i undef
 |[],j,_,h,_=>by simp at h
 |x::l,0,i,_,hi=>by
  simp only[List.flatMap_cons,Nat.zero_mul,Nat.zero_add,List.getD_cons_zero];rw[xDa,List.getElem?_append_left (by rw[hf];exact hi),<-xDa]
 |x::l,j+1,i,h,hi=>by
  have:=zfW hf d l j i (by simpa using h) hi;simp only[List.flatMap_cons,List.getD_cons_succ];rw[<-this,xDa,List.getElem?_append_right (by rw[hf,Nat.add_mul];omega),xDa];congr 2;rw[hf,Nat.add_mul];omega
theorem Rd.flat {α:Type} {f:α->List Value} {sz:Nat} (hf:∀x,(f x).length=sz) (d:α) {w:World} {a:Option Addr} {l:List α} (h:Rd w a (l.flatMap f)) (hne:0<l.length) (hsz:0<sz):
  ∃b o,a=some ⟨b,o,none⟩/\∀j,j<l.length->∀i,i<sz->w.cell? ⟨b,o+j*sz+i,none⟩=some ((f (l.getD j d)).getD i undef):=by
 obtain⟨b,o,e,hc⟩:=h.at (by rw[zc2 hf];exact Nat.mul_pos hne hsz)
 refine⟨b,o,e,λj hj i hi=> ?_⟩;rw[Nat.add_assoc,hc (j*sz+i) (by rw[zc2 hf];have:=Nat.mul_le_mul_right sz (show j+1<=l.length from hj);rw[Nat.add_mul] at this;omega),zfW hf d l j i hj hi]
theorem zg5 {α:Type} {f:α->List Value} (l:List α) (d:α) (k:Nat) (hk:k<l.length):(l.take k).flatMap f++f (l.getD k d)=(l.take (k+1)).flatMap f:=by
 rw[List.take_add_one,xDb hk,List.flatMap_append,xDa,xDb hk];simp only[Option.toList_some,List.flatMap_cons,List.flatMap_nil,List.append_nil,Option.getD_some]
theorem zA {w w':World} {row:Option Nat} {B:Nat} (hg:w.grownBy w' row) (hB:B<=w.heap.size) (hr:∀k,row=some k->B<=k):Below B w w':=(Below.refl B w).grown hg hB hr
theorem za5 {a b c:World} {row:Option Nat} (h:a.grownBy b row) (k:b.grownBy c row):a.grownBy c row:=
 ⟨k.os.trans h.os,k.tape.trans h.tape,k.output.trans h.output,Nat.le_trans h.size k.size,λi hi hne=>(k.block i (Nat.lt_of_lt_of_le hi h.size) hne).trans (h.block i hi hne)⟩
theorem ziR {w w':World} {row:Option Nat} (h:xW w w'):w.grownBy w' row:=
 ⟨h.os,h.tape,h.output,h.size,λk hk _=>h.block k hk⟩
theorem zbi {B:Nat} (w:World) (n:Nat):Below B w (w.drewN n):=below_drewN xB1 n
theorem za0 {w w':World} {B:Nat} {e:TypeId} {sz n:Nat} {v:Value} {cs:List Value} (h:w.ownsRow B e sz v n cs) (hb:∀k,v.ownBlock=some k->k<w.heap.size->w'.heap[k]? =w.heap[k]?):w'.ownsRow B e sz v n cs:=by
 refine⟨h.1,?_⟩;rcases h.2 with hn|⟨g,cap,cur,rfl,hb',hgg,rest⟩
 ·exact .inl hn
 ·refine .inr ⟨g,cap,cur,rfl,hb',?_,rest⟩;rw[hb g rfl (Array.getElem?_eq_some_iff.1 hgg).1];exact hgg
theorem zf {w w':World} {B:Nat} {e:TypeId} {sz n:Nat} {v:Value} {cs:List Value} (h:w.ownsRow B e sz v n cs) (hb:xW w w'):w'.ownsRow B e sz v n cs:=
 za0 h λk _ hk=>hb.block k hk
theorem zl {w:World} {B B':Nat} {e:TypeId} {sz n:Nat} {v:Value} {cs:List Value} (h:w.ownsRow B e sz v n cs) (hb:B'<=B):w.ownsRow B' e sz v n cs:=by
 refine⟨h.1,?_⟩;rcases h.2 with hn|⟨g,cap,cur,rfl,hb',rest⟩
 ·exact .inl hn
 ·exact .inr ⟨g,cap,cur,rfl,by omega,rest⟩
theorem zaf {w:World} {B:Nat} {e:TypeId} {sz n c:Nat} {a:Option Addr} {cs:List Value} (h:w.ownsRow B e sz (.slice a n c) n cs) (hn:0<n):∃g,a=some ⟨g,0,none⟩/\B<=g/\g<w.heap.size:=by
 rcases h.2 with ⟨h',h0⟩|⟨g,cap,cur,h',hb,hg,hnc,hcm,hcs,htake⟩
 ·omega
 ·simp only[Value.slice.injEq,true_and] at h';obtain⟨rfl,rfl⟩:=h';exact⟨g,rfl,hb,(Array.getElem?_eq_some_iff.1 hg).1⟩
theorem zO (a:Option Addr) (n c:Nat):(Value.slice a n c).ownBlock=ze a:=by cases a<;>rfl
theorem zp {w:World} {B:Nat} {e:TypeId} {sz n c:Nat} {a:Option Addr} {cs:List Value} (h:w.ownsRow B e sz (.slice a n c) n cs):∀k,ze a=some k->B<=k/\k<w.heap.size:=by
 intro k hk;exact h.lt k (by rw[zO];exact hk)
theorem zak {w:World} {B:Nat} {e:TypeId} {sz n c g:Nat} {cs:List Value} (h:w.ownsRow B e sz (.slice (some ⟨g,0,none⟩) n c) n cs) (j:Nat) (u:Value) {cs':List Value} (e':cs.set j u=cs'):
  (w.setCell ⟨g,j,none⟩ u).ownsRow B e sz (.slice (some ⟨g,0,none⟩) n c) n cs'/\w.grownBy (w.setCell ⟨g,j,none⟩ u) (some g):=by
 subst e';exact h.stored j u
theorem zdr {w:World} {B:Nat} {e:TypeId} {sz n:Nat} {v:Value} {cs:List Value} (h:w.ownsRow B e sz v n cs):∃a c,v= .slice a n c:=by
 rcases h.2 with ⟨rfl,rfl⟩|⟨g,cap,cur,rfl,_⟩
 ·exact⟨none,0,rfl⟩
 ·exact⟨_,_,rfl⟩
theorem zav {P:Program} {wr:World} {o':Obj} {ops:Array Oper} {rest:List Oper} {o:Oper} {ac:Act} {Q:Exit->Act->World->Prop} (hgd:o.guard=none) (s x:Operand) (t:TypeId)
  (ho:o.op= .call {callee:= .builtin .append,args:= #[s,x],argTypes:= #[t,t]})
  {B:Nat} {e:TypeId} {z:Value} {size bytes:Nat} (ht:P.underlying t=some (.slice e)) (hinfo:(P.info? e).map (λi=>(i.zero,i.size,i.bytes))=some (some z,size,bytes))
  (hzs:z.cells.size=size) (hsz:0<size)
  {a:Option Addr} {n c:Nat} {xs:List Value} (hs:ac.eval s= .slice a n c) (hown:wr.ownsRow B e size (.slice a n c) n xs)
  {m cm:Nat} {news:List Value} (hx:ac.eval x= .slice (some ⟨wr.heap.size,0,none⟩) m cm) (hl:news.length=m*size) (hnews:o'= .cells news.toArray e) (h1:∀u∈news,u.oneCell'=true)
  (hbytes:(n+m)*bytes<=140737488355328) (hby:0<bytes) (hbase:B<=wr.heap.size)
  (h:∀a' c' w',w'.ownsRow B e size (.slice a' (n+m) c') (n+m) (xs++news)->wr.grownBy w' (ze a)->wpList P ops Q rest (ac.put o.dst (.slice a' (n+m) c')) w'):wpList P ops Q (o::rest) ac (wr.alloc o'):=by
 obtain⟨i,hi,hz0,hz1,hz2⟩:=info_parts hinfo;have h63:n+m<=maxLen:=by
  have:=Nat.le_trans (Nat.le_mul_of_pos_right (n+m) hby) hbytes;simp only[maxLen];omega
 refine wpList_append_own (wr.alloc o') hgd s x t ho B e i z size bytes ht hi hz0 hz1 hz2 hzs hsz _ n xs hs (hown.alloc _) ⟨wr.heap.size,0,none⟩ m cm news hx hl ?_ h1 h63 hbytes (by simp;omega) ?_
 ·intro j u hj;subst hnews;rw[Addr.add_lit,World.cell?_alloc_at _ _ _ _ rfl];simpa using hj
 ·intro v' w' hown' hgr _;obtain⟨a',c',rfl⟩:=zdr hown';rw[zO] at hgr;exact h a' c' w' hown' (za5 (World.grownBy_alloc _ _ _) hgr)
theorem zo {w w':World} {B:Nat} {e:TypeId} {sz n c:Nat} {a:Option Addr} {cs:List Value} {row:Option Nat} (h:w.ownsRow B e sz (.slice a n c) n cs) (hg:w.grownBy w' row)
  (hne:∀k,ze a=some k->row=some k->False):w'.ownsRow B e sz (.slice a n c) n cs:=
 za0 h λk hk hlt=>hg.block k hlt λe=>by
  rw[zO] at hk;exact hne k hk e.symm
theorem zcF {w w':World} {B:Nat} (e:∃n,w'=w.drewN n):Below B w w':=by
 obtain⟨n,rfl⟩:=e;exact zbi _ _
theorem zdP (z:Array Value) (v:Value) (m:Nat) (hs:0<z.size) (hz:∀i,i<z.size->z[i]! =v):(madeCells z m).toList=List.replicate m v:=by
 apply List.ext_getElem?;intro j;by_cases hj:j<m
 ·have:=hz (j% z.size) (Nat.mod_lt _ hs);simp[madeCells,hj,this]
 ·simp[madeCells,hj]
def puts (cs:List Value):Nat->List Value->List Value
 |_,[]=>cs
 |i,v::vs=>puts (cs.set i v) (i+1) vs
theorem zfZ:∀(V A B C:List Value),B.length=V.length->puts (A++B++C) A.length V=A++V++C
 |[],A,B,C,h=>by
  obtain rfl:B=[]:=List.eq_nil_of_length_eq_zero (by simpa using h);rfl
 |v::V,A,b::B,C,h=>by
  have e:(A++b::B++C).set A.length v=(A++[v])++B++C:=by
   simp
  rw[puts,e];have:=zfZ V (A++[v]) B C (by simpa using h);simp only[xDh,List.length_cons,List.length_nil] at this;rw[this];simp
 |v::V,A,[],C,h=>by simp at h
theorem zjT {α:Type} {f:α->List Value} {sz:Nat} (hf:∀x,(f x).length=sz) (d:α) (l:List α) (k:Nat) (z:Value) (hk:k<l.length):
  puts ((l.take k).flatMap f++List.replicate ((l.length-k)*sz) z) (k*sz) (f (l.getD k d))=(l.take (k+1)).flatMap f++List.replicate ((l.length-(k+1))*sz) z:=by
 have e:(l.length-k)*sz=sz+(l.length-(k+1))*sz:=by
  rw[show l.length-k=1+(l.length-(k+1)) from by omega,Nat.add_mul,Nat.one_mul]
 have e2:((l.take k).flatMap f).length=k*sz:=by rw[zc2 hf];simp[Nat.min_eq_left (Nat.le_of_lt hk)]
 have:=zfZ (f (l.getD k d)) ((l.take k).flatMap f) (List.replicate sz z) (List.replicate ((l.length-(k+1))*sz) z) (by simp[hf]);rw[e2,zg5 l d k hk] at this;rw[e,<-this,xDg,List.replicate_append_replicate]
theorem zJ (w:World) (e:TypeId) (sz:Nat):(w.alloc (.cells #[] e)).ownsRow w.heap.size e sz (.slice (some ⟨w.heap.size,0,none⟩) 0 0) 0 []:=
 World.ownsRow_lit w #[] 0 xL1 (Nat.zero_le _) (by simp)
theorem zaa (xs:List Int):∀u∈ints xs,u.oneCell'=true:=ints_oneCell .i64 xs
theorem zbe {w:World} {B:Nat} {e:TypeId} {sz n c:Nat} {a:Option Addr} {cs:List Value} (h:w.ownsRow B e sz (.slice a n c) n cs):n<=c/\c<=maxLen:=by
 rcases h.2 with ⟨h',h0⟩|⟨g,cap,cur,h',hb,hg,hnc,hcm,hcs,htake⟩
 ·simp only[Value.slice.injEq] at h';exact⟨by omega,by rw[h'.2.2];exact Nat.zero_le _⟩
 ·simp only[Value.slice.injEq,true_and] at h';obtain⟨rfl,rfl⟩:=h';exact⟨hnc,hcm⟩
def Blk (w:World) (b:Nat) (cs:Array Value) (t:TypeId):Prop:=w.heap[b]? =some (.cells cs t (0,0))
theorem Blk.lt {w:World} {b:Nat} {cs:Array Value} {t:TypeId} (h:Blk w b cs t):b<w.heap.size:=(Array.getElem?_eq_some_iff.1 h).1
theorem Blk.below {w w':World} {b:Nat} {cs:Array Value} {t:TypeId} (h:Blk w b cs t) (hb:xW w w'):Blk w' b cs t:=(hb.block b h.lt).trans h
theorem Blk.cell {w:World} {b:Nat} {cs:Array Value} {t:TypeId} (h:Blk w b cs t) (j:Nat) {v:Value} (hv:cs[j]? =some v):w.cell? ⟨b,j,none⟩=some v:=by
 unfold Blk at h;simp[World.cell?,h,hv]
theorem Blk.fz {w:World} {b:Nat} {cs:Array Value} {t:TypeId} (h:Blk w b cs t) (j:Nat):w.frozen? ⟨b,j,none⟩=false:=by
 unfold Blk at h;simp[World.frozen?,h]
theorem Blk.set {w:World} {b:Nat} {cs:Array Value} {t:TypeId} (h:Blk w b cs t) (j:Nat) (v:Value):Blk (w.setCell ⟨b,j,none⟩ v) b (cs.setIfInBounds j v) t:=heap_setCell_same w b j cs t v h
theorem Blk.other {w:World} {b:Nat} {cs:Array Value} {t:TypeId} (h:Blk w b cs t) (a:Addr) (v:Value) (hne:b≠a.block):Blk (w.setCell a v) b cs t:=(Below.heap_setCell _ _ _ _ hne).trans h
theorem Blk.alloc {w:World} {b:Nat} {cs:Array Value} {t:TypeId} (h:Blk w b cs t) (o:Obj):Blk (w.alloc o) b cs t:=(heap_alloc_old w o h.lt).trans h
theorem Blk.new (w:World) (cs:Array Value) (t:TypeId):Blk (w.alloc (.cells cs t)) w.heap.size cs t:=heap_alloc_new w _
theorem Blk.grown {w w':World} {b:Nat} {cs:Array Value} {t:TypeId} {row:Option Nat} (h:Blk w b cs t) (hg:w.grownBy w' row) (hne:row≠some b):Blk w' b cs t:=(hg.block b h.lt (λe=>hne e.symm)).trans h
theorem zhr (zs:List Int) (k:Nat) (hk:k<zs.length):zs.take (k+1)=zs.take k++[zs.getD k 0]:=by
 rw[List.take_add_one,xDb hk];simp[List.getD,hk]
theorem zM:(Tryz.prog.info? 3).map (λi=>(i.zero,i.size,i.bytes))=some (some (.int .i64 0),1,8):=by kernel_rfl
theorem zy {a b:Bool} (h:a=b):Ending.returned (.bool a)= .returned (.bool b):=by rw[h]
theorem zd6 {a b:Int} (h:a=b):Ending.returned (.int .i64 a)= .returned (.int .i64 b):=by rw[h]
theorem zkf {xs ys:List Int} (hl:xs.length=ys.length) (h:∀j,j<xs.length->xs.getD j 0=ys.getD j 0):xs=ys:=by
 refine List.ext_getElem hl λj h1 h2=> ?_;have:=h j h1;simpa[List.getD,h1,h2] using this
theorem zjD (a1 a2:Option Addr) (c1 c2:Nat) (xs ys:List Int) (w:World) (hn:xs.length<=maxLen)
  (h1:Rd w a1 (ints xs)) (h2:Rd w a2 (ints ys)):
  Calls Tryz.prog 14 #[.slice a1 xs.length c1,.slice a2 ys.length c2] w λe w'=>e= .returned (.bool (decide (xs=ys)))/\∃n,w'=w.drewN n:=by
 unfold maxLen at hn;by_cases hl:xs.length=ys.length
 ·obtain⟨m,hm'⟩:∃m,m=xs.length:=⟨_,rfl⟩
  rw[<-hl,<-hm'];have HM:=xH1 hm';have HL:=xH1 hl;rw[<-hm'] at hn;clear hl hm';go_enter Tryz.func14,Tryz.ntmps14;go_wp2
  go_loopw [5] (λi wr=>∃k:Nat,k<=m/\i= .int .i64 k/\Hid (∀j,j<k->xs.getD j 0=ys.getD j 0)/\∃d,wr=w.drewN d) (λi _=>m-(intOf i).toNat)
  case atStart=>exact⟨0,by omega,rfl,xH1 (by omega),0,rfl⟩
  case round=>
   obtain⟨k,hk,rfl,hall,d,rfl⟩:=hrel;by_cases hlt:k<m
   ·have HM':=HM.out;have HL':=HL.out;obtain⟨b1,o1,rfl,g1'⟩:=h1.int (by omega);obtain⟨b2,o2,rfl,g2'⟩:=h2.int (by omega);have g1:=g1' k (by omega);have g2:=g2' k (by omega);obtain⟨x,hx⟩:∃x,x=xs.getD k 0:=⟨_,rfl⟩
    obtain⟨y,hy⟩:∃y,y=ys.getD k 0:=⟨_,rfl⟩
    rw[<-hx] at g1;rw[<-hy] at g2;have HX:=xH1 hx;have HY:=xH1 hy;clear g1' g2' HM' HL' hx hy;go_wp2
    go_quiet (fail)
    go_wp2
    ·go_ret;refine⟨?_,d+nq,World.drewN_drewN _ _ _⟩;have hne:(x !=y)=true:=(by assumption);refine zy (xDj ?_).symm;intro e;rw[HX.out,HY.out,e] at hne;simp at hne
    ·have hne:(x !=y)=false:=(by assumption);have he:x=y:=(by simpa using hne);refine⟨⟨k+1,by omega,by go_num,xH1 ?_,d+nq,rfl⟩,by simp[intOf];omega⟩;intro j hj;by_cases hjk:j=k
     ·rw[hjk,<-HX.out,<-HY.out,he]
     ·exact hall.out j (by omega)
   ·have hkm:k=m:=(by omega);subst hkm;go_wp2;go_ret;exact⟨zy (xDk (zkf HL.out (λj hj=>hall.out j (by rw[HM.out];exact hj)))).symm,d,rfl⟩
 ·have hd:((xs.length:Int) !=(ys.length:Int))=true:=by simp;omega
  have he:decide (xs=ys)=false:=xDj (λe=>hl (by rw[e]));have HE:=xH1 he;clear he hl;go_enter Tryz.func14,Tryz.ntmps14;go_wp2;go_ret;exact⟨zy HE.out.symm,0,rfl⟩
theorem zde (a1 a2:Option Addr) (n c1 c2:Nat) (xs:List Int) (w:World) (hl:xs.length=n) (hn:n<=1099511627776)
  (h1:Rd w a1 (ints xs)) (h2:Rd w a2 (ints xs)):
  Calls Tryz.prog 14 #[.slice a1 n c1,.slice a2 n c2] w λe w'=>e= .returned (.bool true)/\∃n,w'=w.drewN n:=by
 subst hl;have h:=zjD a1 a2 c1 c2 xs xs w (by unfold maxLen;omega) h1 h2;simpa using h
def seq (k:Int) (n:Nat):List Int:=(List.range n).map (λj=>k+(j:Nat))
theorem zb9 (k:Int) (n:Nat):(seq k n).length=n:=by simp[seq]
theorem zeO (k:Int) (n j:Nat) (h:j<n):(seq k n).getD j 0=k+j:=by simp[seq,List.getD,h]
theorem zkh (k:Int) (n:Nat):seq k (n+1)=seq k n++[k+n]:=by simp[seq,List.range_succ]
theorem zbf (a:Option Addr) (c n:Nat) (k0:Int) (w:World) (hn:n<=1099511627776) (hk0:0<=k0) (hk1:k0<=1099511627776)
  (h1:Rd w a (ints (seq k0 n))):
  Calls Tryz.prog 40 #[.slice a n c,.int .i64 k0] w λe w'=>e= .returned (.int .i64 (k0+n))/\w'=w:=by
 go_enter Tryz.func40,Tryz.ntmps40;go_wp2
 go_loop [1,5] (λq i=>∃k:Nat,k<=n/\i= .int .i64 k/\q= .int .i64 (k0+k)) (λ_ i=>n-(intOf i).toNat)
 case atStart=>exact⟨0,by omega,rfl,by simp⟩
 case round=>
  obtain⟨k,hk,rfl,rfl⟩:=hrel;by_cases hlt:k<n
  ·obtain⟨b1,o1,rfl,g1'⟩:=h1.int (by rw[zb9];omega);have g1:=g1' k (by rw[zb9];omega);rw[zeO k0 n k hlt] at g1;clear g1';go_wp2
   go_round
   case rel=>exact⟨k+1,by omega,by go_num,by go_num⟩
   case measure=>simp[intOf];omega
  ·have hkn:k=n:=(by omega);subst hkn;go_wp2;go_ret;exact⟨rfl,rfl⟩
theorem zki (xs:List Int) (j:Nat) (h:j<xs.length):(ints (xs.take j)++List.replicate (xs.length-j) (Value.int .i64 0)).set j (.int .i64 (xs.getD j 0))=ints (xs.take (j+1))++List.replicate (xs.length-(j+1)) (Value.int .i64 0):=by
 rw[zhr xs j h,show xs.length-j=(xs.length-(j+1))+1 from by omega,List.replicate_succ];simp only[ints,xDr,List.map_cons,List.map_nil];rw[List.set_append,if_neg (by simp[Nat.le_of_lt h])];simp[Nat.le_of_lt h]
theorem zdX (n c:Nat) (a:Option Addr) (xs:List Int) (w:World) (hl:xs.length=n) (hn:n<=1099511627776) (h1:Rd w a (ints xs)):
  Calls Tryz.prog 10 #[.slice a n c] w λe w'=>∃a' c',e= .returned (.slice a' n c')/\
   w'.ownsRow w.heap.size 3 1 (.slice a' n c') n (ints xs)/\xW w w':=by
 obtain⟨i0,hi,hz0,hz1,hz2⟩:=info_parts zM;have HL:=xH1 hl;clear hl;go_enter Tryz.func10,Tryz.ntmps10;go_wp2_with (refine wpList_make_full _ rfl _ _ 22 rfl w.heap.size 3 i0 (.int .i64 0) 1 Tryz.underlying22 hi hz0 hz1 _ _ _ _ n rfl rfl rfl rfl (by rw[hz2];omega) (by unfold maxLen;omega) xL1 ?_;intro w1 hown1 hgr1);rw[show(Value.int .i64 0).cells= #[.int .i64 0] from rfl,Nat.mul_one,toList_madeCells_one] at hown1
 go_loopw [4] (λi wr=>∃k:Nat,k<=n/\i= .int .i64 k/\wr.ownsRow w.heap.size 3 1 (.slice (some ⟨w.heap.size,0,none⟩) n n) n (ints (xs.take k)++List.replicate (n-k) (.int .i64 0))/\xW w wr) (λi _=>n-(intOf i).toNat)
 case atStart=>exact⟨0,by omega,rfl,by simpa using hown1,zA hgr1 xL1 (by simp)⟩
 case round=>
  obtain⟨k,hk,rfl,hown,hb⟩:=hrel;by_cases hlt:k<n
  ·have hL:=HL.out;obtain⟨b1,o1,rfl,g1'⟩:=(h1.below hb).int (by omega);have g1:=g1' k (by omega);obtain⟨old,hold⟩:∃old,wr.cell? ⟨w.heap.size,k,none⟩=some old:=by
    rw[hown.cellAt k (by omega)];exact⟨_,xDb (by simp;omega)⟩
   have hfz:=hown.frozenAt k;have R:=zak hown k (.int .i64 (xs.getD k 0)) (by subst hL;exact zki xs k hlt);obtain⟨x,hx⟩:∃x,x=xs.getD k 0:=⟨_,rfl⟩
   rw[<-hx] at g1 R;have HR:=xH1 R;clear R hown hL g1' hx;go_wp2
   go_roundw
   case rel=>exact⟨k+1,by omega,by go_num,by rw[HL.out] at HR;exact HR.out.1,hb.trans (zA HR.out.2 hb.size (by simp))⟩
   case measure=>simp[intOf];omega
  ·have hkn:k=n:=(by omega);subst hkn;go_wp2;go_ret;exact⟨_,_,rfl,by rw[xDt (by have:=HL.out;omega)] at hown;simpa using hown,hb⟩
section
variable {w w':World} {R:Nat} {a:Option Addr} {n c:Nat} {bs:List Int} {p:Int}
end
section
variable {P:Program} {w:World}
theorem za4 (base:Nat) (t ty e:TypeId) (i:TypeInfo) (size:Nat) (ht:P.underlying t=some (.slice e)) (hi:P.info? e=some i)
  (v:Value) (n:Nat) (xs:List Value) (hown:w.ownsRow base e size v n xs) (c:Nat):
  (Builtin.append_ #[t,t] ty #[v,.slice none 0 c]).run P w= .ok v w:=by
 rcases hown.2 with ⟨rfl,rfl⟩|⟨g,cap,cur,rfl,_,_,hnc,_⟩
 ·simp[Builtin.append_,run_underlying ht,sizeOf,typeInfo,hi,Builtin.lenOf,Builtin.firstCells]
 ·simp[Builtin.append_,run_underlying ht,sizeOf,typeInfo,hi,Builtin.lenOf,Builtin.firstCells,hnc,storeCells]
end
theorem zax {P:Program} {wr:World} {ops:Array Oper} {rest:List Oper} {o:Oper} {ac:Act} {Q:Exit->Act->World->Prop} (hgd:o.guard=none) (s x:Operand) (t:TypeId)
  (ho:o.op= .call {callee:= .builtin .append,args:= #[s,x],argTypes:= #[t,t]})
  {B:Nat} {e:TypeId} {z:Value} {size bytes:Nat} (ht:P.underlying t=some (.slice e)) (hinfo:(P.info? e).map (λi=>(i.zero,i.size,i.bytes))=some (some z,size,bytes))
  (hzs:z.cells.size=size) (hsz:0<size)
  {a:Option Addr} {n c:Nat} {xs:List Value} (hs:ac.eval s= .slice a n c) (hown:wr.ownsRow B e size (.slice a n c) n xs)
  {a2:Option Addr} {m c2:Nat} {news:List Value} (hx:ac.eval x= .slice a2 m c2) (hl:news.length=m*size) (hsrc:Rd wr a2 news) (h1:∀u∈news,u.oneCell'=true)
  (hbytes:(n+m)*bytes<=140737488355328) (hby:0<bytes) (hbase:B<=wr.heap.size)
  (h:∀a' c' w',w'.ownsRow B e size (.slice a' (n+m) c') (n+m) (xs++news)->wr.grownBy w' (ze a)->wpList P ops Q rest (ac.put o.dst (.slice a' (n+m) c')) w'):wpList P ops Q (o::rest) ac wr:=by
 obtain⟨i,hi,hz0,hz1,hz2⟩:=info_parts hinfo;have h63:n+m<=maxLen:=by
  have:=Nat.le_trans (Nat.le_mul_of_pos_right (n+m) hby) hbytes;simp only[maxLen];omega
 cases a2 with
 |none=>
  have hm:m=0:=by
   rcases hsrc with e0|⟨b,o',e0,_⟩
   ·rw[e0] at hl;rcases Nat.mul_eq_zero.1 hl.symm with h0|h0
    ·exact h0
    ·omega
   ·cases e0
  subst hm;obtain rfl:news=[]:=List.eq_nil_of_length_eq_zero (by simpa using hl);refine wpList_plain hgd λK hK'=> ?_;have hrun:=za4 (P:=P) (w:=wr) B t o.type e i size ht hi _ n xs hown c2;unfold Oper.wp;simp[execOp,ho,resolve,invoke,builtin,hs,hx,hrun,Result.andThen];exact hK' _ _ (by simpa using h a c wr (by simpa using hown) (World.grownBy.refl _ _))
 |some ad=>
  refine wpList_append_own wr hgd s x t ho B e i z size bytes ht hi hz0 hz1 hz2 hzs hsz _ n xs hs hown ad m c2 news hx hl ?_ h1 h63 hbytes hbase ?_
  ·intro j u hj;have hjl:j<news.length:=(xDs.1 hj).1;obtain⟨b,o',e',hc⟩:=hsrc.at (by omega)
   cases e'
   rw[Addr.add_lit,hc j hjl];rw[xDa,hj];rfl
  ·intro v' w' hown' hgr _;obtain⟨a',c',rfl⟩:=zdr hown';rw[zO] at hgr;exact h a' c' w' hown' hgr
theorem zjO (w:World) (B:Nat) (e:TypeId) (sz:Nat):w.ownsRow B e sz (.slice none 0 0) 0 []:=xDi _ _ _ _
theorem Rd.of_blk {w:World} {b:Nat} {cs:Array Value} {t:TypeId} (h:Blk w b cs t):Rd w (some ⟨b,0,none⟩) cs.toList:=
 .inr ⟨b,0,rfl,λj hj=>by
  rw[Nat.zero_add];exact h.cell j (by simp only[Array.length_toList] at hj;simp[List.getD,hj])⟩

structure OpD where
 kind:Int
 on:Int
 arg:Int
structure Pg where
 sems:List Int
 groups:List Int
 barriers:List Int
 rooms:List Int
 threads:List (List OpD)
def opv (o:OpD):List Value:=[.int .i64 o.kind,.int .i64 o.on,.int .i64 o.arg]
theorem zfv (o:OpD):(opv o).length=3:=rfl
abbrev opsV (l:List OpD):List Value:=l.flatMap opv
theorem zfP (l:List OpD):(opsV l).length=l.length*3:=zc2 zfv l
def noOp:OpD:=⟨0,0,0⟩
theorem Rd.op {w:World} {a:Option Addr} {l:List OpD} (h:Rd w a (opsV l)) (hne:0<l.length):
  ∃b o,a=some ⟨b,o,none⟩/\∀j,j<l.length->w.cell? ⟨b,o+j*3,none⟩=some (.int .i64 (l.getD j noOp).kind)/\w.cell? ⟨b,o+j*3+1,none⟩=some (.int .i64 (l.getD j noOp).on)/\w.cell? ⟨b,o+j*3+2,none⟩=some (.int .i64 (l.getD j noOp).arg):=by
 obtain⟨b,o,e,hc⟩:=h.flat zfv noOp hne (by decide);exact⟨b,o,e,λj hj=>⟨by simpa[opv] using hc j hj 0 (by decide),by simpa[opv] using hc j hj 1 (by decide),by simpa[opv] using hc j hj 2 (by decide)⟩⟩
structure PV where
 s:Option Addr
 ns:Nat
 cs:Nat
 g:Option Addr
 ng:Nat
 cg:Nat
 b:Option Addr
 nb:Nat
 cb:Nat
 r:Option Addr
 nr:Nat
 cr:Nat
 t:Option Addr
 nt:Nat
 ct:Nat
abbrev pvC (u:PV):Array Value:= #[.slice u.s u.ns u.cs,.slice u.g u.ng u.cg,.slice u.b u.nb u.cb,.slice u.r u.nr u.cr,.slice u.t u.nt u.ct]
structure RdT (w:World) (a:Option Addr) (ts:List (List OpD)) (vs:List Value):Prop where
 len:vs.length=ts.length
 out:Rd w a vs
 inn:∀i,i<ts.length->∃a' c',vs.getD i undef= .slice a' (ts.getD i []).length c'/\Rd w a' (opsV (ts.getD i []))
theorem RdT.below {w w':World} {a:Option Addr} {ts:List (List OpD)} {vs:List Value} (h:RdT w a ts vs) (hb:xW w w'):RdT w' a ts vs:=
 ⟨h.len,h.out.below hb,λi hi=>by obtain⟨a',c',e,hr⟩:=h.inn i hi;exact⟨a',c',e,hr.below hb⟩⟩
theorem RdT.thread {w:World} {a:Option Addr} {ts:List (List OpD)} {vs:List Value} (h:RdT w a ts vs) (hne:0<ts.length):
  ∃b o,a=some ⟨b,o,none⟩/\∀i,i<ts.length->∃a' c',w.cell? ⟨b,o+i,none⟩=some (.slice a' (ts.getD i []).length c')/\Rd w a' (opsV (ts.getD i [])):=by
 obtain⟨b,o,e,hc⟩:=h.out.at (by rw[h.len];exact hne)
 refine⟨b,o,e,λi hi=> ?_⟩;obtain⟨a',c',e',hr⟩:=h.inn i hi;exact⟨a',c',by rw[hc i (by rw[h.len];exact hi),e'],hr⟩
structure RdP (w:World) (v:PV) (p:Pg):Prop where
 ls:p.sems.length=v.ns
 lg:p.groups.length=v.ng
 lb:p.barriers.length=v.nb
 lr:p.rooms.length=v.nr
 lt:p.threads.length=v.nt
 rs:Rd w v.s (ints p.sems)
 rg:Rd w v.g (ints p.groups)
 rb:Rd w v.b (ints p.barriers)
 rr:Rd w v.r (ints p.rooms)
 rt:∃vs,RdT w v.t p.threads vs
theorem RdP.below {w w':World} {v:PV} {p:Pg} (h:RdP w v p) (hb:xW w w'):RdP w' v p:=
 ⟨h.ls,h.lg,h.lb,h.lr,h.lt,h.rs.below hb,h.rg.below hb,h.rb.below hb,h.rr.below hb,by obtain⟨vs,hv⟩:=h.rt;exact⟨vs,hv.below hb⟩⟩
structure OwnT (w:World) (a:Option Addr) (n c:Nat) (vs:List Value) (rows:List (List Value)):Prop where
 out:w.ownsRow 0 94 1 (.slice a n c) n vs
 len:rows.length=n
 inn:∀i,i<n->∃a' m c',vs.getD i undef= .slice a' m c'/\w.ownsRow 0 113 3 (.slice a' m c') m (rows.getD i [])
def fpT (a:Option Addr) (vs:List Value):List Nat:=(ze a).toList++vs.filterMap Value.ownBlock
theorem OwnT.vlen {w:World} {a:Option Addr} {n c:Nat} {vs:List Value} {rows:List (List Value)} (h:OwnT w a n c vs rows):vs.length=n:=by
 have:=h.out.1;omega
theorem ziQ {a:Option Addr} {vs:List Value} {i k:Nat} (hi:i<vs.length) (hk:(vs.getD i undef).ownBlock=some k):k∈fpT a vs:=by
 unfold fpT;refine xQ1 (.inr (xDc.2 ⟨vs.getD i undef,?_,hk⟩));rw[xDa,xDb hi];simp
theorem ziX {a:Option Addr} {vs:List Value} {k:Nat} (hk:ze a=some k):k∈fpT a vs:=by
 unfold fpT;simp[hk]
theorem OwnT.keep {w w':World} {a:Option Addr} {n c:Nat} {vs:List Value} {rows:List (List Value)} (h:OwnT w a n c vs rows) (hb:∀k∈fpT a vs,k<w.heap.size->w'.heap[k]? =w.heap[k]?):OwnT w' a n c vs rows:=by
 refine⟨za0 h.out λk hk hl=>hb k (ziX (by rwa [zO] at hk)) hl,h.len,λi hi=> ?_⟩;obtain⟨a',m,c',e,ho⟩:=h.inn i hi;exact⟨a',m,c',e,za0 ho λk hk hl=>hb k (ziQ (by rw[h.vlen];exact hi) (by rw[e];exact hk)) hl⟩
theorem OwnT.lt {w:World} {a:Option Addr} {n c:Nat} {vs:List Value} {rows:List (List Value)} (h:OwnT w a n c vs rows):∀k∈fpT a vs,k<w.heap.size:=by
 intro k hk;unfold fpT at hk;rcases xP1 hk with hk|hk
 ·have:ze a=some k:=by simpa using hk
  exact(zp h.out k this).2
 ·obtain⟨v,hv,hvk⟩:=xDc.1 hk;obtain⟨i,hi,e⟩:=List.mem_iff_getElem.1 hv;obtain⟨a',m,c',e',ho⟩:=h.inn i (by rw[<-h.vlen];exact hi);have:vs.getD i undef=v:=by rw[xDa,xDb hi];simp[e]
  rw[this] at e';rw[e'] at hvk;exact(ho.lt k hvk).2
structure zcg where
 s:List Value
 g:List Value
 b:List Value
 r:List Value
 t:List (List Value)
def Pg.cells (p:Pg):zcg:=⟨ints p.sems,ints p.groups,ints p.barriers,ints p.rooms,p.threads.map opsV⟩
structure OwnP (w:World) (v:PV) (vs:List Value) (C:zcg):Prop where
 os:w.ownsRow 0 3 1 (.slice v.s v.ns v.cs) v.ns C.s
 og:w.ownsRow 0 3 1 (.slice v.g v.ng v.cg) v.ng C.g
 ob:w.ownsRow 0 3 1 (.slice v.b v.nb v.cb) v.nb C.b
 orr:w.ownsRow 0 3 1 (.slice v.r v.nr v.cr) v.nr C.r
 ot:OwnT w v.t v.nt v.ct vs C.t
def fpP (v:PV) (vs:List Value):List Nat:=(ze v.s).toList++((ze v.g).toList++((ze v.b).toList++((ze v.r).toList++fpT v.t vs)))
theorem OwnP.keep {w w':World} {v:PV} {vs:List Value} {C:zcg} (h:OwnP w v vs C) (hb:∀k∈fpP v vs,k<w.heap.size->w'.heap[k]? =w.heap[k]?):OwnP w' v vs C:=by
 refine⟨za0 h.os λk hk hl=>hb k ?_ hl,za0 h.og λk hk hl=>hb k ?_ hl,za0 h.ob λk hk hl=>hb k ?_ hl,za0 h.orr λk hk hl=>hb k ?_ hl,h.ot.keep λk hk hl=>hb k ?_ hl⟩
 all_goals first
  |(rw[zO] at hk;unfold fpP;simp[hk];done)
  |(unfold fpP;simp[hk];done)
theorem OwnP.lt {w:World} {v:PV} {vs:List Value} {C:zcg} (h:OwnP w v vs C):∀k∈fpP v vs,k<w.heap.size:=by
 intro k hk;unfold fpP at hk;simp only[List.mem_append,Option.mem_toList] at hk;rcases hk with hk|hk|hk|hk|hk
 ·exact(zp h.os k hk).2
 ·exact(zp h.og k hk).2
 ·exact(zp h.ob k hk).2
 ·exact(zp h.orr k hk).2
 ·exact h.ot.lt k hk
theorem OwnP.below {w w':World} {v:PV} {vs:List Value} {C:zcg} (h:OwnP w v vs C) (hb:xW w w'):OwnP w' v vs C:=
 h.keep λk hk _=>hb.block k (h.lt k hk)
theorem OwnT.rd {w:World} {a:Option Addr} {n c:Nat} {vs:List Value} {ts:List (List OpD)} (h:OwnT w a n c vs (ts.map opsV)):RdT w a ts vs:=by
 have hl:ts.length=n:=by simpa using h.len
 refine⟨by rw[h.vlen,hl],Rd.of_owns h.out,λi hi=> ?_⟩;obtain⟨a',m,c',e,ho⟩:=h.inn i (by omega);have er:(ts.map opsV).getD i []=opsV (ts.getD i []):=by simp[List.getD,hi]
 rw[er] at ho;have hm:m=(ts.getD i []).length:=by
  have:=ho.1;rw[zfP] at this;omega
 subst hm;exact⟨a',c',e,Rd.of_owns ho⟩
theorem OwnP.rd {w:World} {v:PV} {vs:List Value} {p:Pg} (h:OwnP w v vs p.cells):RdP w v p:=
 ⟨by have:=h.os.1;simpa[Pg.cells] using this,by have:=h.og.1;simpa[Pg.cells] using this,by have:=h.ob.1;simpa[Pg.cells] using this,by have:=h.orr.1;simpa[Pg.cells] using this,
 by have:=h.ot.len;simpa[Pg.cells] using this,Rd.of_owns h.os,Rd.of_owns h.og,Rd.of_owns h.ob,Rd.of_owns h.orr,⟨vs,OwnT.rd h.ot⟩⟩
structure zi (S:List Nat) (w w':World):Prop where
 os:w'.os=w.os
 tape:w'.tape=w.tape
 output:w'.output=w.output
 size:w.heap.size<=w'.heap.size
 block:∀k,k<w.heap.size->k∉S->w'.heap[k]? =w.heap[k]?
theorem zi.refl (S:List Nat) (w:World):zi S w w:=⟨rfl,rfl,rfl,Nat.le_refl _,λ_ _ _=>rfl⟩
theorem zi.trans {S:List Nat} {a b c:World} (h:zi S a b) (k:zi S b c):zi S a c:=
 ⟨k.os.trans h.os,k.tape.trans h.tape,k.output.trans h.output,Nat.le_trans h.size k.size,λi hi hn=>(k.block i (Nat.lt_of_lt_of_le hi h.size) hn).trans (h.block i hi hn)⟩
theorem zi.of_grown {S:List Nat} {w w':World} {row:Option Nat} (h:w.grownBy w' row) (hr:∀k,row=some k->k∈S):zi S w w':=
 ⟨h.os,h.tape,h.output,h.size,λk hk hn=>h.block k hk (λe=>hn (hr k e.symm))⟩
theorem zi.mono {S S':List Nat} {w w':World} (h:zi S w w') (hs:∀k∈S,k∈S'):zi S' w w':=
 ⟨h.os,h.tape,h.output,h.size,λk hk hn=>h.block k hk (λe=>hn (hs k e))⟩
theorem zi.below {S:List Nat} {w w':World} {B:Nat} (h:zi S w w') (hB:B<=w.heap.size) (hS:∀k∈S,B<=k):Below B w w':=
 ⟨h.os,h.tape,h.output,h.size,λk hk=>h.block k (by omega) (λe=>by have:=hS k e;omega)⟩
theorem zi.of_below {S:List Nat} {w w':World} (h:xW w w'):zi S w w':=
 ⟨h.os,h.tape,h.output,h.size,λk hk _=>h.block k hk⟩
theorem OwnP.touch {S:List Nat} {w w':World} {v:PV} {vs:List Value} {C:zcg} (h:OwnP w v vs C) (ht:zi S w w') (hd:∀k∈fpP v vs,k∉S):OwnP w' v vs C:=
 h.keep λk hk hl=>ht.block k hl (hd k hk)
theorem OwnT.touch {S:List Nat} {w w':World} {a:Option Addr} {n c:Nat} {vs:List Value} {rows:List (List Value)} (h:OwnT w a n c vs rows) (ht:zi S w w') (hd:∀k∈fpT a vs,k∉S):OwnT w' a n c vs rows:=
 h.keep λk hk hl=>ht.block k hl (hd k hk)
theorem zj {S:List Nat} {w w':World} {B:Nat} {e:TypeId} {sz n c:Nat} {a:Option Addr} {cs:List Value} (h:w.ownsRow B e sz (.slice a n c) n cs) (ht:zi S w w') (hd:∀k,ze a=some k->k∉S):w'.ownsRow B e sz (.slice a n c) n cs:=
 za0 h λk hk hl=>ht.block k hl (hd k (by rwa [zO] at hk))
structure zbE (w:World) (vs:List Value) (rows:List (List Value)):Prop where
 len:rows.length=vs.length
 inn:∀i,i<vs.length->∃a' m c',vs.getD i undef= .slice a' m c'/\w.ownsRow 0 113 3 (.slice a' m c') m (rows.getD i [])
def fpV (vs:List Value):List Nat:=vs.filterMap Value.ownBlock
theorem zbE.nil (w:World):zbE w [] []:=⟨rfl,by simp⟩
theorem zeK {vs:List Value} {i k:Nat} (hi:i<vs.length) (hk:(vs.getD i undef).ownBlock=some k):k∈fpV vs:=by
 refine xDc.2 ⟨vs.getD i undef,?_,hk⟩;rw[xDa,xDb hi];simp
theorem zbE.keep {w w':World} {vs:List Value} {rows:List (List Value)} (h:zbE w vs rows) (hb:∀k∈fpV vs,k<w.heap.size->w'.heap[k]? =w.heap[k]?):zbE w' vs rows:=by
 refine⟨h.len,λi hi=> ?_⟩;obtain⟨a',m,c',e,ho⟩:=h.inn i hi;exact⟨a',m,c',e,za0 ho λk hk hl=>hb k (zeK hi (by rw[e];exact hk)) hl⟩
theorem zbE.lt {w:World} {vs:List Value} {rows:List (List Value)} (h:zbE w vs rows):∀k∈fpV vs,k<w.heap.size:=by
 intro k hk;obtain⟨v,hv,hvk⟩:=xDc.1 hk;obtain⟨i,hi,e⟩:=List.mem_iff_getElem.1 hv;obtain⟨a',m,c',e',ho⟩:=h.inn i hi;have:vs.getD i undef=v:=by rw[xDa,xDb hi];simp[e]
 rw[this] at e';rw[e'] at hvk;exact(ho.lt k hvk).2
theorem zbE.below {w w':World} {vs:List Value} {rows:List (List Value)} (h:zbE w vs rows) (hb:xW w w'):zbE w' vs rows:=h.keep λk hk _=>hb.block k (h.lt k hk)
theorem zbE.grown {w w':World} {vs:List Value} {rows:List (List Value)} {row:Option Nat} (h:zbE w vs rows) (hg:w.grownBy w' row) (hr:∀k,row=some k->k∉fpV vs):zbE w' vs rows:=
 h.keep λk hk hl=>hg.block k hl (λe=>hr k e.symm hk)
theorem zbE.snoc {w:World} {vs:List Value} {rows:List (List Value)} (h:zbE w vs rows) {a:Option Addr} {m c:Nat} {row:List Value} (ho:w.ownsRow 0 113 3 (.slice a m c) m row):zbE w (vs++[.slice a m c]) (rows++[row]):=by
 refine⟨by simp[h.len],λi hi=> ?_⟩;by_cases hlt:i<vs.length
 ·obtain⟨a',m',c',e,ho'⟩:=h.inn i hlt;refine⟨a',m',c',?_,?_⟩
  ·rw[<-e];simp[List.getD,List.getElem?_append_left hlt]
  ·have:(rows++[row]).getD i []=rows.getD i []:=(by simp[List.getD,List.getElem?_append_left (show i<rows.length by rw[h.len];exact hlt)]);rw[this];exact ho'
 ·have hi':i=vs.length:=by simp at hi;omega
  subst hi';refine⟨a,m,c,by simp,?_⟩;have:(rows++[row]).getD vs.length []=row:=by simp[List.getD,<-h.len]
  rw[this];exact ho
theorem zfX (vs:List Value) (a:Option Addr) (m c:Nat):fpV (vs++[.slice a m c])=fpV vs++(ze a).toList:=by
 unfold fpV;rw[List.filterMap_append];congr 1
 cases a<;>rfl
theorem OwnT.of_inner {w:World} {a:Option Addr} {n c:Nat} {vs:List Value} {rows:List (List Value)} (ho:w.ownsRow 0 94 1 (.slice a n c) n vs) (h:zbE w vs rows):OwnT w a n c vs rows:=by
 have hv:vs.length=n:=by have:=ho.1;omega
 exact⟨ho,by rw[h.len,hv],λi hi=>h.inn i (by omega)⟩
theorem zge (a:Option Addr) (vs:List Value):fpT a vs=(ze a).toList++fpV vs:=rfl
theorem zks:(Tryz.prog.info? 113).map (λi=>(i.zero,i.size,i.bytes))=some (some (.agg #[.int .i64 0,.int .i64 0,.int .i64 0]),3,24):=by kernel_rfl
theorem zj8:(Tryz.prog.info? 94).map (λi=>(i.zero,i.size,i.bytes))=some (some (.slice none 0 0),1,24):=by kernel_rfl
theorem zkk (x:OpD) (w:World):
  Calls Tryz.prog 100 #[.agg #[.int .i64 x.kind,.int .i64 x.on,.int .i64 x.arg]] w λe w'=>e= .returned (.agg #[.int .i64 x.kind,.int .i64 x.on,.int .i64 x.arg])/\xW w w':=by
 go_enter Tryz.func100,Tryz.ntmps100;go_wp2;refine xDd (v:= .agg #[.int .i64 x.kind,.int .i64 x.on,.int .i64 x.arg]) (by simp[results,Tryz.results100,go_sem]) rfl ⟨rfl,?_⟩
 repeat (first|exact Below.refl _ _|refine Below.alloc ?_ (by simp<;>omega) _|refine Below.setCell ?_ (by simp<;>omega) _|refine Below.drew ?_)
theorem zjR (n c:Nat) (a:Option Addr) (xs:List OpD) (w:World) (hl:xs.length=n) (hn:n<=1099511627776) (h1:Rd w a (opsV xs)):
  Calls Tryz.prog 58 #[.slice a n c] w λe w'=>∃a' c',e= .returned (.slice a' n c')/\
   w'.ownsRow w.heap.size 113 3 (.slice a' n c') n (opsV xs)/\xW w w':=by
 obtain⟨i0,hi,hz0,hz1,hz2⟩:=info_parts zks;have HL:=xH1 hl;clear hl;go_enter Tryz.func58,Tryz.ntmps58;go_wp2_with (refine wpList_make_full _ rfl _ _ 94 rfl w.heap.size 113 i0 _ 3 Tryz.underlying94 hi hz0 hz1 _ _ _ _ n rfl rfl rfl rfl (by rw[hz2];omega) (by unfold maxLen;omega) xL1 ?_;intro w1 hown1 hgr1);rw[zdP _ (.int .i64 0) _ (by decide) (by intro i hi;match i,hi with|0,_=>rfl|1,_=>rfl|2,_=>rfl)] at hown1
 go_loopw [4] (λi wr=>∃k:Nat,k<=n/\i= .int .i64 k/\wr.ownsRow w.heap.size 113 3 (.slice (some ⟨w.heap.size,0,none⟩) n n) n (opsV (xs.take k)++List.replicate ((n-k)*3) (.int .i64 0))/\xW w wr) (λi _=>n-(intOf i).toNat)
 case atStart=>exact⟨0,by omega,rfl,by simpa using hown1,zA hgr1 xL1 (by simp)⟩
 case round=>
  obtain⟨k,hk,rfl,hown,hb⟩:=hrel;by_cases hlt:k<n
  ·obtain⟨b1,o1,rfl,g1'⟩:=(h1.below hb).op (by have:=HL.out;omega);obtain⟨g1a,g1b,g1c⟩:=g1' k (by have:=HL.out;omega);obtain⟨x,hx⟩:∃x,x=xs.getD k noOp:=⟨_,rfl⟩
   rw[<-hx] at g1a g1b g1c;have HX:=xH1 hx;clear g1' hx;go_wp2_with fail;refine(zkk x _).mono ?_;rintro e w2 ⟨rfl,b2⟩;replace hown:=zf hown b2;obtain⟨old1,hold1⟩:∃old,w2.cell? ⟨w.heap.size,k*3,none⟩=some old:=by
    rw[hown.cellAt _ (by omega)];exact⟨_,xDb (by rw[hown.1];omega)⟩
   obtain⟨old2,hold2⟩:∃old,w2.cell? ⟨w.heap.size,k*3+1,none⟩=some old:=by
    rw[hown.cellAt _ (by omega)];exact⟨_,xDb (by rw[hown.1];omega)⟩
   obtain⟨old3,hold3⟩:∃old,w2.cell? ⟨w.heap.size,k*3+2,none⟩=some old:=by
    rw[hown.cellAt _ (by omega)];exact⟨_,xDb (by rw[hown.1];omega)⟩
   have hfz1:=hown.frozenAt (k*3);have hfz2:=hown.frozenAt (k*3+1);have hfz3:=hown.frozenAt (k*3+2);have R1:=zak hown (k*3) (.int .i64 x.kind) rfl;have R2:=zak R1.1 (k*3+1) (.int .i64 x.on) rfl;have R3:=zak R2.1 (k*3+2) (.int .i64 x.arg) rfl;have HR1:=xH1 R1.2;have HR2:=xH1 R2.2;have HR:=xH1 R3;have hs1:=hb.size;have hs2:=b2.size;clear R1 R2 R3 hown;go_wp2
   go_roundw
   case rel=>
    have hx:=HX.out;have hl:=HL.out;refine⟨k+1,by omega,by go_num,?_,?_⟩
    ·have:=HR.out.1;have e:=zjT zfv noOp xs k (.int .i64 0) (by omega);rw[<-hx,hl] at e;rw[<-e];exact this
    ·exact(hb.trans (b2.mono hb.size)).trans (((zA HR1.out (by omega) (by simp)).trans (zA HR2.out (by simp;omega) (by simp))).trans (zA HR.out.2 (by simp;omega) (by simp)))
   case measure=>simp[intOf];omega
  ·have hkn:k=n:=(by omega);subst hkn;go_wp2;go_ret;exact⟨_,_,rfl,by rw[xDt (by have:=HL.out;omega)] at hown;simpa using hown,hb⟩
theorem zg3 (ts:List (List OpD)) (k:Nat) (hk:k<ts.length):(ts.take (k+1)).map opsV=(ts.take k).map opsV++[opsV (ts.getD k [])]:=by
 rw[List.take_add_one,xDb hk,xDr,xDa,xDb hk];simp only[Option.toList_some,List.map_cons,List.map_nil,Option.getD_some]
theorem zji {l:List Nat} {o:Option Nat} (h:l.Nodup) (hk:∀k,o=some k->k∉l):(l++o.toList).Nodup:=by
 cases o with
 |none=>simpa using h
 |some k=>
  rw[List.nodup_append];exact⟨h,by simp,λx hx y hy e=>by
   simp only[Option.toList_some,List.mem_singleton] at hy;exact hk k rfl (by rw[<-hy,<-e];exact hx)⟩
theorem zko (vs:List Value) (v:Value) (n:Nat) (h:vs.length<n):(vs++List.replicate (n-vs.length) (Value.slice none 0 0)).set vs.length v=(vs++[v])++List.replicate (n-(vs++[v]).length) (Value.slice none 0 0):=by
 rw[show n-vs.length=(n-(vs.length+1))+1 from by omega,List.replicate_succ,List.set_append,if_neg (by omega)];simp
theorem zjs (n c:Nat) (a:Option Addr) (ts:List (List OpD)) (us:List Value) (w:World) (hl:ts.length=n) (hn:n<=1099511627776) (hin:∀i,(ts.getD i []).length<=1099511627776) (h1:RdT w a ts us):
  Calls Tryz.prog 30 #[.slice a n c] w λe w'=>∃a' c' vs,e= .returned (.slice a' n c')/\
   OwnT w' a' n c' vs (ts.map opsV)/\(fpT a' vs).Nodup/\(∀k∈fpT a' vs,w.heap.size<=k)/\xW w w':=by
 obtain⟨i0,hi,hz0,hz1,hz2⟩:=info_parts zj8;have HL:=xH1 hl;have HI:=xH1 hin;clear hl hin;go_enter Tryz.func30,Tryz.ntmps30;go_wp2_with (refine wpList_make_full _ rfl _ _ 38 rfl w.heap.size 94 i0 _ 1 Tryz.underlying38 hi hz0 hz1 _ _ _ _ n rfl rfl rfl rfl (by rw[hz2];omega) (by unfold maxLen;omega) xL1 ?_;intro w1 hown1 hgr1);rw[zdP _ (.slice none 0 0) _ (by decide) (by intro i hi;match i,hi with|0,_=>rfl),Nat.mul_one] at hown1
 go_loopw [4] (λi wr=>∃(k:Nat) (vs:List Value),k<=n/\i= .int .i64 k/\Hid (vs.length=k)/\wr.ownsRow w.heap.size 94 1 (.slice (some ⟨w.heap.size,0,none⟩) n n) n (vs++List.replicate (n-vs.length) (.slice none 0 0))/\
   zbE wr vs ((ts.take k).map opsV)/\Hid ((fpV vs).Nodup)/\Hid (∀q∈fpV vs,w.heap.size<q)/\xW w wr) (λi _=>n-(intOf i).toNat)
 case atStart=>exact⟨0,[],by omega,rfl,xH1 rfl,by simpa using hown1,by simpa using zbE.nil w1,xH1 (by simp[fpV]),xH1 (by simp[fpV]),zA hgr1 xL1 (by simp)⟩
 case round=>
  obtain⟨k,vs,hk,rfl,hvl,hown,hin,hnd,hlo,hb⟩:=hrel;by_cases hlt:k<n
  ·obtain⟨b1,o1,rfl,g1'⟩:=(h1.below hb).thread (by have:=HL.out;omega);obtain⟨a1,c1,g1,hr1⟩:=g1' k (by have:=HL.out;omega);obtain⟨m,hm⟩:∃m,m=(ts.getD k []).length:=⟨_,rfl⟩
   rw[<-hm] at g1;have hmm:=HI.out k;rw[<-hm] at hmm;have HM:=xH1 hm;clear g1' hm;go_wp2_with fail;refine(zjR m c1 a1 (ts.getD k []) _ HM.out.symm hmm hr1).mono ?_;rintro e w2 ⟨a2,c2,rfl,ho2,b2⟩;have hs1:=hb.size;have hs2:=b2.size;have hwz:=(zp hown w.heap.size rfl).2;have hlt':=hin.lt;have HLT:=xH1 hlt';replace hown:=zf hown b2;replace hin:=hin.below b2;obtain⟨old,hold⟩:∃old,w2.cell? ⟨w.heap.size,k,none⟩=some old:=by
    rw[hown.cellAt k (by omega)];exact⟨_,xDb (by rw[hown.1];omega)⟩
   have hfz:=hown.frozenAt k;have hset:=zko vs (.slice a2 m c2) n (by have:=hvl.out;omega);rw[hvl.out] at hset hown;have R:=zak hown k (.slice a2 m c2) hset;have hin3:=(hin.snoc (zl ho2 (Nat.zero_le _))).grown R.2 (λq hq=>by
    cases hq
    rw[zfX,List.mem_append];rintro(hq|hq)
    ·have:=hlo.out _ hq;omega
    ·have:=zp ho2 _ (by simpa using hq);omega)
   have HR:=xH1 R;have HROW:=xH1 (zp ho2);clear hlt' R hset hown ho2;go_wp2
   go_roundw
   case rel=>
    refine⟨k+1,vs++[.slice a2 m c2],by omega,by go_num,xH1 (by simp[hvl.out]),HR.out.1,?_,xH1 ?_,xH1 ?_,(hb.trans (b2.mono hb.size)).trans (zA HR.out.2 (by omega) (by simp))⟩
    ·rw[zg3 ts k (by have:=HL.out;omega)];exact hin3
    ·rw[zfX];exact zji hnd.out (λq hq hm=>by have:=HLT.out _ hm;have:=HROW.out q hq;omega)
    ·intro q hq;rw[zfX,List.mem_append] at hq;rcases hq with hq|hq
     ·exact hlo.out q hq
     ·have:=HROW.out q (by simpa using hq);omega
   case measure=>simp[intOf];omega
  ·have hkn:k=n:=(by omega);subst hkn;go_wp2;go_ret;have hv:=hvl.out;rw[hv,Nat.sub_self,List.replicate_zero,List.append_nil] at hown;rw[xDt (by have:=HL.out;omega)] at hin;refine⟨_,_,vs,rfl,OwnT.of_inner (zl hown (Nat.zero_le _)) hin,?_,?_,hb⟩
   ·rw[zge,show(ze (some (⟨w.heap.size,0,none⟩:Addr))).toList=[w.heap.size] from rfl,List.singleton_append,List.nodup_cons];exact⟨λh=>by have:=hlo.out _ h;omega,hnd.out⟩
   ·intro q hq;rw[zge,List.mem_append] at hq;rcases hq with hq|hq
    ·simp[ze] at hq;omega
    ·have:=hlo.out q hq;omega
def zev (k:Int):ByteArray:=
 if k=1 then ⟨#[115,97,121]⟩
 else if k=2 then ⟨#[97,99,113,117,105,114,101]⟩
 else if k=3 then ⟨#[114,101,108,101,97,115,101]⟩
 else if k=4 then ⟨#[111,110,99,101]⟩
 else if k=5 then ⟨#[97,100,100]⟩
 else if k=6 then ⟨#[119,97,105,116]⟩
 else if k=7 then ⟨#[97,114,114,105,118,101]⟩
 else if k=8 then ⟨#[115,101,110,100]⟩
 else if k=9 then ⟨#[103,101,116]⟩
 else if k=10 then ⟨#[99,108,111,115,101]⟩
 else ⟨#[]⟩
def zbS (n:Int):Bool:=decide (0<=n)&&decide (n<=99)
def zw (p:Pg) (k:Int):Nat:=
 if k=1 then 1 else if k=2\/k=3 then p.sems.length else if k=4 then 3 else if k=5\/k=6 then p.groups.length else if k=7 then p.barriers.length else p.rooms.length
def zaR (p:Pg) (o:OpD):Bool:=
 if o.kind=2\/o.kind=3 then decide (1<=o.arg)&&decide (o.arg<=p.sems.getD o.on.toNat 0)
 else if o.kind=5 then decide (-9<=o.arg)&&decide (o.arg<=9)
 else if o.kind=1\/o.kind=4\/o.kind=8 then zbS o.arg
 else decide (o.arg=0)
def zF (p:Pg) (o:OpD):Bool:=
 decide (1<=o.kind)&&decide (o.kind<=10)&&decide (0<=o.on)&&decide (o.on<zw p o.kind)&&zaR p o
def zai (l:List Int) (lo hi:Int):Bool:=decide (l.length<=3)&&l.all (λn=>decide (lo<=n)&&decide (n<=hi))
def zu (p:Pg):Bool:=
 zai p.sems 1 9&&zai p.groups 0 9&&zai p.barriers 1 6&&zai p.rooms 0 4&&decide (1<=p.threads.length)&&decide (p.threads.length<=4)&&
  p.threads.all (λt=>decide (t.length<=8)&&t.all (zF p))
theorem ziI (n:Int) (w:World):
  Calls Tryz.prog 96 #[.int .i64 n] w λe w'=>e= .returned (.bool (zbS n))/\w'=w:=by
 by_cases h:0<=n
 ·have h':zbS n=decide (n<=99):=by simp[zbS,h]
  rw[h'];go_enter Tryz.func96,Tryz.ntmps96;go_wp2;go_ret;exact⟨rfl,rfl⟩
 ·have h':zbS n=false:=by simp[zbS,h]
  have hd:decide (0<=n)=false:=by simpa using h
  rw[h'];go_enter Tryz.func96,Tryz.ntmps96;go_wp2;go_ret;exact⟨rfl,rfl⟩
theorem zgg (k:Int) (w:World):
  Calls Tryz.prog 131 #[.int .i64 k] w λe w'=>e= .returned (.string (zev k))/\xW w w':=by
 by_cases h1:k<1
 ·have e:zev k=⟨#[]⟩:=by unfold zev;repeat (rw[if_neg (by omega)])
  rw[e];go_enter Tryz.func131,Tryz.ntmps131;go_wp2;go_ret;exact⟨rfl,xA1⟩
 ·have hd1:decide (k<1)=false:=by simpa using h1
  by_cases h2:10<k
  ·have e:zev k=⟨#[]⟩:=by unfold zev;repeat (rw[if_neg (by omega)])
   rw[e];go_enter Tryz.func131,Tryz.ntmps131;go_wp2;go_ret;exact⟨rfl,xA1⟩
  ·have hk:k=1\/k=2\/k=3\/k=4\/k=5\/k=6\/k=7\/k=8\/k=9\/k=10:=(by omega);clear h1 h2 hd1;rcases hk with rfl|rfl|rfl|rfl|rfl|rfl|rfl|rfl|rfl|rfl
   all_goals
    go_enter Tryz.func131,Tryz.ntmps131;go_wp2;go_ret;exact⟨rfl,xA1⟩
theorem zip (v:PV) (p:Pg) (k:Int) (w:World) (hr:RdP w v p) (h:v.ns<=maxLen/\v.ng<=maxLen/\v.nb<=maxLen/\v.nr<=maxLen):
  Calls Tryz.prog 132 #[.agg (pvC v),.int .i64 k] w λe w'=>e= .returned (.int .i64 (zw p k))/\xW w w':=by
 unfold maxLen at h;obtain⟨z1,z2,z3,z4⟩:=h;have l1:=xH1 hr.ls;have l2:=xH1 hr.lg;have l3:=xH1 hr.lb;have l4:=xH1 hr.lr;have hk:k=1\/k=2\/k=3\/k=4\/k=5\/k=6\/k=7\/(k≠1/\k≠2/\k≠3/\k≠4/\k≠5/\k≠6/\k≠7):=by omega
 clear hr;rcases hk with rfl|rfl|rfl|rfl|rfl|rfl|rfl|⟨h1,h2,h3,h4,h5,h6,h7⟩
 rotate_left 7
 ·have t1:(k==1)=false:=by simpa using h1
  have t2:(k==2)=false:=by simpa using h2
  have t3:(k==3)=false:=by simpa using h3
  have t4:(k==4)=false:=by simpa using h4
  have t5:(k==5)=false:=by simpa using h5
  have t6:(k==6)=false:=by simpa using h6
  have t7:(k==7)=false:=by simpa using h7
  have HS:Hid (zw p k=v.nr):=xH1 (by unfold zw;rw[if_neg h1,if_neg (by omega),if_neg h4,if_neg (by omega),if_neg h7];exact l4.out);clear h1 h2 h3 h4 h5 h6 h7;go_enter Tryz.func132,Tryz.ntmps132;go_wp2;go_ret;exact⟨zd6 (by rw[HS.out]),xA1⟩
 all_goals
  go_enter Tryz.func132,Tryz.ntmps132;go_wp2;go_ret;exact⟨zd6 (by simp[zw,l1.out,l2.out,l3.out]),xA1⟩
theorem zjY (v:PV) (p:Pg) (o:OpD) (w:World) (hr:RdP w v p) (hs:v.ns<=maxLen) (hon:0<=o.on/\o.on<zw p o.kind):
  Calls Tryz.prog 133 #[.agg (pvC v),.agg #[.int .i64 o.kind,.int .i64 o.on,.int .i64 o.arg]] w λe w'=>e= .returned (.bool (zaR p o))/\xW w w':=by
 unfold maxLen at hs;have b0:xW w ((w.alloc (.cells (pvC v) 40)).alloc (.cells #[.int .i64 o.kind,.int .i64 o.on,.int .i64 o.arg] 113)):=(xA1).alloc (by simp) _;by_cases hk:o.kind=2\/o.kind=3
 ·have hn:zw p o.kind=v.ns:=by
   unfold zw;rw[if_neg (by omega),if_pos hk];exact hr.ls
  rw[hn] at hon;obtain⟨on0,on1⟩:=hon;obtain⟨b,q,hsa,hc⟩:=(hr.rs.below b0).int (by rw[hr.ls];omega);have hcell:=hc o.on.toNat (by rw[hr.ls];omega)
  obtain⟨x,hx⟩:∃x,x=p.sems.getD o.on.toNat 0:=⟨_,rfl⟩
  rw[<-hx] at hcell;have HR:Hid (zaR p o=(decide (1<=o.arg)&&decide (o.arg<=x))):=xH1 (by unfold zaR;rw[if_pos hk,hx]);obtain⟨vs,vns,vcs,vg,vng,vcg,vb,vnb,vcb,vr,vnr,vcr,vt,vnt,vct⟩:=v;simp only at hsa hs hn hcell on1 b0;subst hsa;clear hr hc hx hn;by_cases ha:1<=o.arg
  ·have hd:decide (1<=o.arg)=true:=(by simpa using ha);rcases hk with h2|h2
   all_goals
    have t2:(o.kind==2)=_:=congrArg (· ==(2:Int)) h2;have t3:(o.kind==3)=_:=congrArg (· ==(3:Int)) h2;simp only[Int.reduceBEq] at t2 t3;clear h2;go_enter Tryz.func133,Tryz.ntmps133;go_wp2
    go_quiet (fail)
    go_wp2;go_ret;exact⟨zy (by rw[HR.out,hd];rfl),below_drewN b0 _⟩
  ·have hd:decide (1<=o.arg)=false:=(by simpa using ha);rcases hk with h2|h2
   all_goals
    have t2:(o.kind==2)=_:=congrArg (· ==(2:Int)) h2;have t3:(o.kind==3)=_:=congrArg (· ==(3:Int)) h2;simp only[Int.reduceBEq] at t2 t3;clear h2;go_enter Tryz.func133,Tryz.ntmps133;go_wp2
    go_quiet (fail)
    go_wp2;go_ret;exact⟨zy (by rw[HR.out,hd];rfl),below_drewN b0 _⟩
 ·have t2:(o.kind==2)=false:=by simp;omega
  have t3:(o.kind==3)=false:=by simp;omega
  by_cases h5:o.kind=5
  ·have t5:(o.kind==5)=true:=(by simpa using h5);have HR:Hid (zaR p o=(decide (-9<=o.arg)&&decide (o.arg<=9))):=xH1 (by unfold zaR;rw[if_neg hk,if_pos h5]);clear h5 hk hr;by_cases ha: -9<=o.arg
   ·have hd:decide (-9<=o.arg)=true:=(by simpa using ha);go_enter Tryz.func133,Tryz.ntmps133;go_wp2;go_ret;exact⟨zy (by rw[HR.out,hd];rfl),b0⟩
   ·have hd:decide (-9<=o.arg)=false:=(by simpa using ha);go_enter Tryz.func133,Tryz.ntmps133;go_wp2;go_ret;exact⟨zy (by rw[HR.out,hd];rfl),b0⟩
  ·have t5:(o.kind==5)=false:=(by simpa using h5);by_cases h1:o.kind=1\/o.kind=4\/o.kind=8
   ·have HR:Hid (zaR p o=zbS o.arg):=xH1 (by unfold zaR;rw[if_neg hk,if_neg h5,if_pos h1]);clear h5 hk hr;rcases h1 with h1|h1|h1
    all_goals
     have t1:(o.kind==1)=_:=congrArg (· ==(1:Int)) h1;have t4:(o.kind==4)=_:=congrArg (· ==(4:Int)) h1;have t8:(o.kind==8)=_:=congrArg (· ==(8:Int)) h1;simp only[Int.reduceBEq] at t1 t4 t8;clear h1;go_enter Tryz.func133,Tryz.ntmps133;go_wp2_with fail;refine(ziI o.arg _).mono ?_;rintro e w1 ⟨rfl,rfl⟩;go_wp2;go_ret;exact⟨zy (by rw[HR.out]),b0⟩
   ·have t1:(o.kind==1)=false:=by simp;omega
    have t4:(o.kind==4)=false:=by simp;omega
    have t8:(o.kind==8)=false:=by simp;omega
    have HR:Hid (zaR p o=decide (o.arg=0)):=xH1 (by unfold zaR;rw[if_neg hk,if_neg h5,if_neg h1]);clear h5 hk hr h1;go_enter Tryz.func133,Tryz.ntmps133;go_wp2;go_ret;exact⟨zy (by rw[HR.out];rfl),b0⟩
end Go.Proofs.YtnlijgjpgdjpiaaGreat
namespace Go.Proofs.YtnlijgjpgdjpiaaGreat
open Go.RowKit Go.Sort
def zfu:ByteArray:=⟨#[]⟩
def zft (c:UInt8) (cs:List UInt8):ByteArray:=⟨(c::cs).toArray⟩
@[simp] theorem zkF:zfu.toList.isEmpty=true:=by
 have:zfu.toList=[]:=by unfold zfu ByteArray.toList ByteArray.toList.loop;simp[ByteArray.size]
 rw[this];rfl
@[simp] theorem zkE (c:UInt8) (cs:List UInt8):(zft c cs).toList.isEmpty=false:=by
 have h:(zft c cs).toList≠[]:=by
  intro h;have:=congrArg List.length h;simp[zft,ByteArray.toList_eq] at this
 cases h':(zft c cs).toList with
 |nil=>exact absurd h' h
 |cons a l=>rfl
theorem zb8 {P:Program} {f:FuncId} {args:Array Value} {w:World} {d:Nat} {os:Array Obj} {v:Value}
  (h:Calls P f args (grow (redrawn w d) os) λe w'=>e= .returned v/\w'=grow (redrawn w d) os):Calls P f args (grow (redrawn w d) os) λe w''=>e= .returned v/\∃p:Regrown,w''=grow (redrawn w p.d) p.os:=
 h.mono λ_ _ ⟨he,hw⟩=>⟨he,⟨⟨d,os⟩,hw⟩⟩
theorem zd {w w':World} {q:Addr} {x:Value} (hb:xW w w') (g:w.cell? q=some x):w'.cell? q=some x:=
 (hb.cell (World.block_lt_of_cell? _ _ g)).trans g
theorem zkK {u w w':World} {C:Prop} (hb:xW w w') (h:C/\xW u w):xW u w':=h.2.trans (hb.mono h.2.size)
theorem zel (v:PV) (p:Pg) (o:OpD) (w:World) (hr:RdP w v p) (hs:v.ns<=maxLen/\v.ng<=maxLen/\v.nb<=maxLen/\v.nr<=maxLen):
  Calls Tryz.prog 82 #[.agg (pvC v),.agg #[.int .i64 o.kind,.int .i64 o.on,.int .i64 o.arg]] w λe w'=>e= .returned (.bool (zF p o))/\xW w w':=by
 have kP:Blk ((w.alloc (.cells (pvC v) 40)).alloc (.cells #[.int .i64 o.kind,.int .i64 o.on,.int .i64 o.arg] 113)) w.heap.size (pvC v) 40:=(Blk.new _ _ _).alloc _;have kO:Blk ((w.alloc (.cells (pvC v) 40)).alloc (.cells #[.int .i64 o.kind,.int .i64 o.on,.int .i64 o.arg] 113)) (w.heap.size+1) #[.int .i64 o.kind,.int .i64 o.on,.int .i64 o.arg] 113:=by simpa using Blk.new (w.alloc (.cells (pvC v) 40)) #[.int .i64 o.kind,.int .i64 o.on,.int .i64 o.arg] 113
 have hB:xW w ((w.alloc (.cells (pvC v) 40)).alloc (.cells #[.int .i64 o.kind,.int .i64 o.on,.int .i64 o.arg] 113)):=(xA1).alloc (by simp) _;obtain⟨W0,hW0⟩:∃W0:World,W0=((w.alloc (.cells (pvC v) 40)).alloc (.cells #[.int .i64 o.kind,.int .i64 o.on,.int .i64 o.arg] 113)):=⟨_,rfl⟩
 rw[<-hW0] at kP kO hB;have HW0:=xH1 hW0;clear hW0;have c1:W0.cell? ⟨w.heap.size,0,none⟩=some (.slice v.s v.ns v.cs):=kP.cell 0 rfl;have c2:W0.cell? ⟨w.heap.size,1,none⟩=some (.slice v.g v.ng v.cg):=kP.cell 1 rfl;have c3:W0.cell? ⟨w.heap.size,2,none⟩=some (.slice v.b v.nb v.cb):=kP.cell 2 rfl;have c4:W0.cell? ⟨w.heap.size,3,none⟩=some (.slice v.r v.nr v.cr):=kP.cell 3 rfl;have c5:W0.cell? ⟨w.heap.size,4,none⟩=some (.slice v.t v.nt v.ct):=kP.cell 4 rfl;have c6:W0.cell? ⟨w.heap.size+1,0,none⟩=some (.int .i64 o.kind):=kO.cell 0 rfl;have c7:W0.cell? ⟨w.heap.size+1,1,none⟩=some (.int .i64 o.on):=kO.cell 1 rfl;have c8:W0.cell? ⟨w.heap.size+1,2,none⟩=some (.int .i64 o.arg):=kO.cell 2 rfl;have k1:=cell_regrown c1;have k2:=cell_regrown c2;have k3:=cell_regrown c3;have k4:=cell_regrown c4;have k5:=cell_regrown c5;have k6:=cell_regrown c6;have k7:=cell_regrown c7;have k8:=cell_regrown c8;clear kP kO;by_cases hk:1<=o.kind/\o.kind<=10
 ·obtain⟨c,cs,hW⟩:∃c cs,zev o.kind=zft c cs:=by
   have hk:o.kind=1\/o.kind=2\/o.kind=3\/o.kind=4\/o.kind=5\/o.kind=6\/o.kind=7\/o.kind=8\/o.kind=9\/o.kind=10:=(by omega);rcases hk with h|h|h|h|h|h|h|h|h|h<;>rw[h]<;>exact⟨_,_,rfl⟩
  have cW:Hid (∀d os,Calls Tryz.prog 131 #[.int .i64 o.kind] (grow (redrawn W0 d) os) λe w''=>e= .returned (.string (zft c cs))/\∃p:Regrown,w''=grow (redrawn W0 p.d) p.os):=xH1 (λd os=>Calls.regrown_of (by
   have:=zgg o.kind (grow (redrawn W0 d) os);rw[hW] at this;exact this))
  have cS:Hid (∀d os,Calls Tryz.prog 132 #[.agg (pvC v),.int .i64 o.kind] (grow (redrawn W0 d) os) λe w''=>e= .returned (.int .i64 (zw p o.kind))/\∃p:Regrown,w''=grow (redrawn W0 p.d) p.os):=xH1 (λd os=>Calls.regrown_of
   (zip v p o.kind _ ((hr.below hB).below (below_regrown W0 d os)) hs))
  have e1:decide (1<=o.kind)=true:=by simpa using hk.1
  have e2:decide (o.kind<=10)=true:=by simpa using hk.2
  clear hW;by_cases hn:o.on<0
  ·have t1:decide (o.on<0)=true:=(by simpa using hn);have HR:Hid (zF p o=false):=xH1 (by unfold zF;rw[show decide (0<=o.on)=false by simpa using hn];simp);clear e1 e2;go_enter Tryz.func82,Tryz.ntmps82;go_wp2_with fail;rw[<-HW0.out];refine wp_region_quiet_below (by kernel_rfl) (by kernel_rfl) ?_
   repeat (go_big_quiet_step (first|exact cW.out _ _|exact cS.out _ _))
   refine wpQuiet_nil ?_;intro w6 hw6;have hbq:xW W0 w6:=by
    obtain⟨pq,rfl⟩:=hw6;exact below_regrown _ _ _
   clear hw6;go_wp2;go_ret;exact⟨zy (by rw[HR.out]),hB.trans (hbq.mono hB.size)⟩
  ·have t1:decide (o.on<0)=false:=(by simpa using hn);have e3:decide (0<=o.on)=true:=(by simpa using hn);by_cases hn2:(zw p o.kind:Int)<=o.on
   ·have t2:decide ((zw p o.kind:Int)<=o.on)=true:=(by simpa using hn2);have HR:Hid (zF p o=false):=xH1 (by unfold zF;rw[show decide (o.on<zw p o.kind)=false by simpa using hn2];simp);clear e1 e2 e3;go_enter Tryz.func82,Tryz.ntmps82;go_wp2_with fail;rw[<-HW0.out];refine wp_region_quiet_below (by kernel_rfl) (by kernel_rfl) ?_
    repeat (go_big_quiet_step (first|exact cW.out _ _|exact cS.out _ _))
    refine wpQuiet_nil ?_;intro w6 hw6;have hbq:xW W0 w6:=by
     obtain⟨pq,rfl⟩:=hw6;exact below_regrown _ _ _
    clear hw6;go_wp2;go_ret;exact⟨zy (by rw[HR.out]),hB.trans (hbq.mono hB.size)⟩
   ·have t2:decide ((zw p o.kind:Int)<=o.on)=false:=(by simpa using hn2);have hon:0<=o.on/\o.on<zw p o.kind:=(by omega);have HR:Hid (zF p o=zaR p o):=xH1 (by unfold zF;rw[e1,e2,e3,show decide (o.on<zw p o.kind)=true by simpa using hn2];simp);clear e1 e2 e3;go_enter Tryz.func82,Tryz.ntmps82;go_wp2_with fail;rw[<-HW0.out];refine wp_region_quiet_below (by kernel_rfl) (by kernel_rfl) ?_
    repeat (go_big_quiet_step (first|exact cW.out _ _|exact cS.out _ _))
    refine wpQuiet_nil ?_;intro w6 hw6;have hbq:xW W0 w6:=by
     obtain⟨pq,rfl⟩:=hw6;exact below_regrown _ _ _
    clear hw6;clear k1 k2 k3 k4 k5 k6 k7 k8;replace c1:=zd hbq c1;replace c2:=zd hbq c2;replace c3:=zd hbq c3;replace c4:=zd hbq c4;replace c5:=zd hbq c5;replace c6:=zd hbq c6;replace c7:=zd hbq c7;replace c8:=zd hbq c8;have hB2:=hB.trans (hbq.mono hB.size);go_wp2_with fail;refine(zjY v p o _ (hr.below hB2) hs.1 hon).mono ?_;rintro e w' ⟨rfl,hb2⟩;go_wp2;go_ret;exact⟨zy (by rw[HR.out]),hB2.trans (hb2.mono hB2.size)⟩
 ·have hW:zev o.kind=zfu:=by unfold zev zfu;repeat (rw[if_neg (by omega)])
  have cW:Hid (∀d os,Calls Tryz.prog 131 #[.int .i64 o.kind] (grow (redrawn W0 d) os) λe w''=>e= .returned (.string zfu)/\∃p:Regrown,w''=grow (redrawn W0 p.d) p.os):=xH1 (λd os=>Calls.regrown_of (by
   have:=zgg o.kind (grow (redrawn W0 d) os);rw[hW] at this;exact this))
  have HR:Hid (zF p o=false):=xH1 (by unfold zF;rw[<-Bool.decide_and,show decide (1<=o.kind/\o.kind<=10)=false by simpa using hk];simp);clear hW hk;go_enter Tryz.func82,Tryz.ntmps82;go_wp2_with fail;rw[<-HW0.out];refine wp_region_quiet_below (by kernel_rfl) (by kernel_rfl) ?_
  repeat (go_big_quiet_step (exact cW.out _ _))
  refine wpQuiet_nil ?_;intro w6 hw6;have hbq:xW W0 w6:=by
   obtain⟨pq,rfl⟩:=hw6;exact below_regrown _ _ _
  clear hw6;go_wp2;go_ret;exact⟨zy (by rw[HR.out]),hB.trans (hbq.mono hB.size)⟩
end Go.Proofs.YtnlijgjpgdjpiaaGreat
namespace Go.Proofs.YtnlijgjpgdjpiaaGreat
open Go.RowKit
def zau (P:Program) (o:Oper) (ρ:Operand->Value) (w:World) (post:Value->World->Prop):Prop:=
 match (execOp ρ o).run P w with
 | .ok (.value u) w'=>post u w'
 | .ok .skip w'=>post undef w'
 | .ok (.enter f args) w'=>Calls P f args w' (λe w''=>∃u,e= .returned u/\post u w'')
 |_=>False
theorem zfD {P:Program} {o:Oper} {a:Act} {w:World} {post:Value->World->Prop} {Q:Exit->Act->World->Prop} {K:Act->World->Prop} (h:zau P o a.eval w post) (hK:∀u w',post u w'->K (a.put o.dst u) w'):o.wp P a w K Q:=by
 unfold zau at h;unfold Oper.wp;generalize (execOp a.eval o).run P w=r at h⊢
 cases r with
 |ok n w'=>
  cases n with
  |value u=>exact hK _ _ h
  |skip=>exact hK _ _ h
  |enter f args=>
   refine Calls.mono h λe w'' he=> ?_;obtain⟨u,rfl,hp⟩:=he;exact hK _ _ hp
  |_=>exact h.elim
 |halt x w'=>exact h.elim
def at' (Rs:List (List Value->Value->World->Prop)) (i:Nat):List Value->Value->World->Prop:=Rs.getD i (λ_ _ _=>True)
def waits (o:Oper):List Nat:=(o.after.toList.filter (Region.binds .any)).map (·.on)
def zca (l:List Oper) (ρ:Operand->Value) (j:Nat):Value:=
 match (l[j]?).bind (·.dst) with
 |some d=>ρ (.tmp d)
 |none=>undef
def zc4 (l:List Oper) (ρ:Operand->Value) (o:Oper):List Value:=(waits o).map (zca l ρ)
def zgj (l:List Oper) (Rs:List (List Value->Value->World->Prop)) (ρ:Operand->Value) (w:World) (j:Nat):Prop:=
 match l[j]? with
 |some o=>at' Rs j (zc4 l ρ o) (zca l ρ j) w
 |none=>True
def zd3 (l:List Oper) (Rs:List (List Value->Value->World->Prop)) (ρ:Operand->Value) (w:World):List Nat->Prop
 |[]=>True
 |j::r=>zgj l Rs ρ w j/\zd3 l Rs ρ w r
theorem zgJ {l:List Oper} {Rs:List (List Value->Value->World->Prop)} {ρ:Operand->Value} {w:World}:∀{js:List Nat},(∀j∈js,zgj l Rs ρ w j)->zd3 l Rs ρ w js
 |[],_=>trivial
 |j::r,h=>⟨h j (by simp),zgJ (λk hk=>h k (by simp[hk]))⟩
def zdj (l:List Oper) (x:Operand):Bool:=
 match x with
 | .tmp t=> !(l.any λo=>o.dst==some t)
 |_=>true
theorem xF1 {l:List Oper} {ρ:Operand->Value} {a:Act} (h:∀x,zdj l x=true->ρ x=a.eval x):(∀z,ρ (.const z)=z)/\(∀z,ρ (.func z)= .func (.func z) #[] #[]):=⟨λ_=>h _ rfl,λ_=>h _ rfl⟩
def kept (o:Oper) (u:Value):Value:=match o.dst with|some _=>u|none=>undef
def zcX (P:Program) (l:List Oper) (Rs:List (List Value->Value->World->Prop)) (St:Nat->World->World->Prop) (Bk:Nat->Value->Option Nat) (G:(Nat->Bool)->World->Prop) (ρ0:Operand->Value):List Oper->Nat->Prop
 |[],_=>True
 |o::os,i=>(∀ρ w L,G L w->(∀j p,l[j]? =some p->(j==i||(waits p).contains i)=true->L j=false)->(∀x,zdj l x=true->ρ x=ρ0 x)->zd3 l Rs ρ w (waits o)->zau P o ρ w (λu w'=>St i w w'/\at' Rs i (zc4 l ρ o) (kept o u) w'/\(∀k,Bk i (kept o u)=some k->w.heap.size<=k/\k<w'.heap.size)/\G (λj=>decide (j=i)||L j) w'))/\zcX P l Rs St Bk G ρ0 os (i+1)
theorem zcX.at {P:Program} {l:List Oper} {Rs:List (List Value->Value->World->Prop)} {St:Nat->World->World->Prop} {Bk:Nat->Value->Option Nat} {G:(Nat->Bool)->World->Prop} {ρ0:Operand->Value}:∀{os:List Oper} {k i:Nat} {o:Oper},zcX P l Rs St Bk G ρ0 os k->os[i]? =some o->
  ∀ρ w L,G L w->(∀j p,l[j]? =some p->(j==k+i||(waits p).contains (k+i))=true->L j=false)->(∀x,zdj l x=true->ρ x=ρ0 x)->zd3 l Rs ρ w (waits o)->zau P o ρ w (λu w'=>St (k+i) w w'/\at' Rs (k+i) (zc4 l ρ o) (kept o u) w'/\(∀j,Bk (k+i) (kept o u)=some j->w.heap.size<=j/\j<w'.heap.size)/\G (λj=>decide (j=k+i)||L j) w')
 |[],_,i,o,_,h=>by simp at h
 |p::os,k,0,o,hs,h=>by
  obtain rfl:p=o:=by simpa using h
  simpa using hs.1
 |p::os,k,i+1,o,hs,h=>by
  have:=zcX.at (i:=i) (k:=k+1) hs.2 (by simpa using h);rw[show k+1+i=k+(i+1) by omega] at this;exact this
def zdL (P:Program) (l:List Oper) (Rs:List (List Value->Value->World->Prop)) (Bk:Nat->Value->Option Nat) (G:World->Prop) (ρ0:Operand->Value):List Oper->Nat->Prop
 |[],_=>True
 |o::os,i=>(∀ρ w,G w->(∀x,zdj l x=true->ρ x=ρ0 x)->zd3 l Rs ρ w (waits o)->zau P o ρ w (λu w'=>xW w w'/\at' Rs i (zc4 l ρ o) (kept o u) w'/\(∀k,Bk i (kept o u)=some k->w.heap.size<=k/\k<w'.heap.size)/\G w'))/\zdL P l Rs Bk G ρ0 os (i+1)
theorem zdL.to {P:Program} {l:List Oper} {Rs:List (List Value->Value->World->Prop)} {Bk:Nat->Value->Option Nat} {G:World->Prop} {ρ0:Operand->Value}:∀{os:List Oper} {k:Nat},zdL P l Rs Bk G ρ0 os k->zcX P l Rs (λ_ w w'=>xW w w') Bk (λ_ w=>G w) ρ0 os k
 |[],_,_=>trivial
 |_::_,_,h=>⟨λρ w _ hG _=>h.1 ρ w hG,zdL.to h.2⟩
def zap:List Oper->Act->List Value->Act
 |[],a,_=>a
 |o::os,a,v::vs=>zap os (a.put o.dst v) vs
 |o::os,a,[]=>zap os (a.put o.dst undef) []
def All (Rs:List (List Value->Value->World->Prop)) (vs:List Value) (w:World):List Oper->Nat->Prop
 |[],_=>True
 |o::os,i=>at' Rs i ((waits o).map λj=>vs.getD j undef) (vs.getD i undef) w/\All Rs vs w os (i+1)
def zaE (a:Act) (o:Oper):Value:=match o.dst with|some d=>a.tmps.getD d undef|none=>undef
theorem zey (b:Act):∀(l:List Oper) (a:Act),a.tmps.size=b.tmps.size->a.defers=b.defers->(∀t,(∀o∈l,o.dst≠some t)->b.tmps[t]? =a.tmps[t]?)->zap l a (l.map (zaE b))=b
 |[],a,hs,hd,h=>by
  rw[List.map_nil,zap];obtain⟨ta,da⟩:=a;obtain⟨tb,db⟩:=b;simp only at hs hd h;rw[hd];congr 1;exact Array.ext_getElem? λt=>(h t (by simp)).symm
 |o::os,a,hs,hd,h=>by
  rw[List.map_cons,zap];refine zey b os _ ?_ ?_ ?_
  ·cases ho:o.dst<;>simp[Act.put,hs]
  ·cases ho:o.dst<;>simp[Act.put,hd]
  ·intro t ht
   cases ho:o.dst with
   |none=>
    simp only[Act.put];refine h t (λp hp=> ?_);rcases List.mem_cons.1 hp with e|e
    ·rw[e,ho];simp
    ·exact ht p e
   |some d=>
    simp only[Act.put];by_cases hdt:d=t
    ·subst hdt;by_cases hlt:d<a.tmps.size
     ·have hlb:d<b.tmps.size:=by rw[<-hs];exact hlt
      rw[Array.getElem?_setIfInBounds_self_of_lt hlt];simp[zaE,ho,hlb]
     ·have hlb:b.tmps.size<=d:=by rw[<-hs];exact Nat.le_of_not_lt hlt
      rw[Array.getElem?_eq_none hlb,Array.getElem?_eq_none (by simpa using Nat.le_of_not_lt hlt)]
    ·rw[Array.getElem?_setIfInBounds_ne hdt];exact h t (λp hp=>by
      rcases List.mem_cons.1 hp with e|e
      ·rw[e,ho];exact λhh=>hdt (by simpa using hh)
      ·exact ht p e)
def ze0:List Oper->Bool
 |[]=>true
 |o::os=>(match o.dst with|some d=> !(os.any λp=>p.dst==some d)|none=>true)&&ze0 os
theorem zex:∀{l:List Oper},ze0 l=true->∀{i j:Nat} {o p:Oper} {d:Tmp},l[i]? =some o->l[j]? =some p->i≠j->o.dst=some d->p.dst≠some d
 |[],_,i,_,_,_,_,h,_,_,_=>by simp at h
 |q::os,hd,i,j,o,p,d,hi,hj,hne,ho=>by
  simp only[ze0,Bool.and_eq_true] at hd;intro hp
  cases i with
  |zero=>
   cases j with
   |zero=>exact hne rfl
   |succ j=>
    obtain rfl:q=o:=by simpa using hi
    rw[ho] at hd;have hm:p∈os:=xDo (by simpa using hj);have:(os.any λx=>x.dst==some d)=true:=List.any_eq_true.2 ⟨p,hm,by simp[hp]⟩;simp[this] at hd
  |succ i=>
   cases j with
   |zero=>
    obtain rfl:q=p:=by simpa using hj
    rw[hp] at hd;have hm:o∈os:=xDo (by simpa using hi);have:(os.any λx=>x.dst==some d)=true:=List.any_eq_true.2 ⟨o,hm,by simp[ho]⟩;simp[this] at hd
   |succ j=>exact zex hd.2 (by simpa using hi) (by simpa using hj) (by omega) ho hp
structure RInv (l h:List Oper) (n:Nat) (Rs:List (List Value->Value->World->Prop)) (Bk:Nat->Value->Option Nat) (G:(Nat->Bool)->World->Prop) (a0:Act) (fuel:Nat) (listed:Array Bool) (a:Act) (w:World):Prop where
 inv:HeadInv .any l.toArray n listed
 left:((listed.toList.take n).filter (· ==false)).length=fuel
 good:G (λj=>listed.getD j false) w
 frame:a0.tmps.size=a.tmps.size
 defs:a0.defers=a.defers
 same:∀t,(∀j o,h[j]? =some o->listed.getD j false=true->o.dst≠some t)->a.tmps[t]? =a0.tmps[t]?
 know:∀j,j<h.length->listed.getD j false=true->zgj h Rs a.eval w j
 bound:∀j o,h[j]? =some o->listed.getD j false=true->∀k,Bk j (zaE a o)=some k->k<w.heap.size
 apart:∀i j o p,h[i]? =some o->h[j]? =some p->i≠j->listed.getD i false=true->listed.getD j false=true->∀k,Bk i (zaE a o)=some k->Bk j (zaE a p)≠some k
theorem zeZ:∀(l:List Bool) (n i:Nat),i<n->l[i]? =some false->(((l.set i true).take n).filter (· ==false)).length+1=((l.take n).filter (· ==false)).length
 |[],_,i,_,h=>by simp at h
 |b::l,0,i,hi,_=>by omega
 |b::l,n+1,0,_,h=>by
  obtain rfl:b=false:=by simpa using h
  simp
 |b::l,n+1,i+1,hi,h=>by
  have:=zeZ l n i (by omega) (by simpa using h);simp only[List.set_cons_succ,List.take_succ_cons]
  cases b
  ·simp only[List.filter_cons,beq_self_eq_true,if_true,List.length_cons];omega
  ·simpa[List.filter_cons] using this
def zdp (m n:Nat):Array Bool:=((List.range m).map (λi=>decide (i<n))).toArray
theorem zhm {l:List Oper} {n:Nat} {listed:Array Bool} (inv:HeadInv .any l.toArray n listed) (hn:n<=l.length) (h:((listed.toList.take n).filter (· ==false)).length=0):listed=zdp l.length n:=by
 have hs:listed.size=l.length:=by have:=inv.size;simpa using this
 apply Array.ext_getElem?;intro i;unfold zdp;by_cases hi:i<l.length
 ·have e1:listed[i]? =some (listed[i]'(by omega)):=by simp[show i<listed.size by omega]
  rw[e1];simp only[List.getElem?_toArray,List.getElem?_map,List.getElem?_range hi,Option.map_some];congr 1;by_cases hin:i<n
  ·rw[xDk hin];have h0:=List.eq_nil_of_length_eq_zero h;rw[List.filter_eq_nil_iff] at h0;have hm:listed[i]'(by omega)∈listed.toList.take n:=by
    rw[List.mem_take_iff_getElem];exact⟨i,by simp;omega,by simp⟩
   have:=h0 _ hm;simpa using this
  ·rw[xDj hin];have:=inv.tail i (by omega) (by simpa using hi);simpa[show i<listed.size by omega] using this
 ·rw[Array.getElem?_eq_none (by omega)];simp[Nat.le_of_not_lt hi]
def early (l:List Oper):Bool:=(List.range l.length).all λi=>match l[i]? with|some o=>(waits o).all λj=>decide (j<i)|none=>true
def fits (l:List Oper) (n m:Nat):Bool:=
 (l.all λo=>o.guard.isNone)&&ze0 (l.take n)&&((l.take n).all λo=>match o.dst with|some d=>decide (d<m)|none=>true)&&early l&&decide (n<=l.length)&&
 (decide (n=l.length)||(Region.sinkB .any l.toArray n&&Region.chainB .any l.toArray n))&&Region.seqB .any l.toArray (l.length-n) n (zdp l.length n)
def zgF (Bk:Nat->Value->Option Nat) (vs:List Value):Prop:=∀i j,i<vs.length->j<vs.length->i≠j->∀k,Bk i (vs.getD i undef)=some k->Bk j (vs.getD j undef)≠some k
def zgX (Bk:Nat->Value->Option Nat) (vs:List Value) (w:World):Prop:=∀i,i<vs.length->∀k,Bk i (vs.getD i undef)=some k->k<w.heap.size
theorem zir (p:Nat->Prop):∀i,p i->∃i,p i/\∀k,k<i->¬p k:=by
 intro i
 induction i using Nat.strongRecOn with
 |_ i ih=>
  intro hi;by_cases h:∃k,k<i/\p k
  ·obtain⟨k,hk,hp⟩:=h;exact ih k hk hp
  ·exact⟨i,hi,λk hk hp=>h ⟨k,hk,hp⟩⟩
theorem zcc {h:List Oper} {a:Act} {j:Nat} {o:Oper} (hj:h[j]? =some o):zca h a.eval j=zaE a o:=by
 unfold zca zaE;rw[hj]
 cases ho:o.dst<;>simp[ho,Act.eval]
theorem zfd {h:List Oper} {Rs:List (List Value->Value->World->Prop)} {a:Act} {w:World} {j:Nat} {o:Oper} (hj:h[j]? =some o):zgj h Rs a.eval w j↔at' Rs j (zc4 h a.eval o) (zaE a o) w:=by
 unfold zgj;rw[hj,<-zcc hj]
theorem ziY {P:Program} {l h:List Oper} {n:Nat} {Rs:List (List Value->Value->World->Prop)} {St:Nat->World->World->Prop} {Bk:Nat->Value->Option Nat} {G:(Nat->Bool)->World->Prop} {a0:Act} {Q:Exit->Act->World->Prop}
  (hh:h=l.take n) (hf:fits l n a0.tmps.size=true)
  (hgrow:∀i w w',St i w w'->w.heap.size<=w'.heap.size) (hst:∀i j ds v w w',i≠j->St i w w'->at' Rs j ds v w->at' Rs j ds v w')
  (hsteps:zcX P h Rs St Bk G a0.eval h 0)
  (hend:∀(vs:List Value) w L,G L w->vs.length=n->All Rs vs w h 0->zgF Bk vs->zgX Bk vs w->wpList P l.toArray Q (l.drop n) (zap h a0 vs) w):
  ∀(fuel:Nat) (listed:Array Bool) (a:Act) (w:World),RInv l h n Rs Bk G a0 fuel listed a w->wpAny P .any l.toArray Q (fuel+(l.length-n)) listed a w:=by
 simp only[fits,Bool.and_eq_true,decide_eq_true_eq] at hf;obtain⟨⟨⟨⟨⟨⟨hg,hd⟩,hin⟩,hearly⟩,hn⟩,hsink⟩,hseq⟩:=hf;rw[<-hh] at hd hin;have hhl:h.length=n:=by rw[hh];simp[hn]
 have hget:∀j,j<n->h[j]? =l[j]? :=λj hj=>by rw[hh];simp[hj]
 have hearly':∀i o,l[i]? =some o->∀e∈o.after,Region.binds .any e=true->e.on<i:=by
  intro i o hi e he hb;have hil:i<l.length:=(xDs.1 hi).1;have h1:=List.all_eq_true.1 hearly i (List.mem_range.2 hil);rw[hi] at h1;have h2:=List.all_eq_true.1 h1 e.on (by unfold waits;exact xDl.2 ⟨e,List.mem_filter.2 ⟨by simpa using he,hb⟩,rfl⟩);simpa using h2
 intro fuel
 induction fuel with
 |zero=>
  intro listed a w hI;have hL:=zhm hI.inv hn hI.left;have hall:∀j,j<n->listed.getD j false=true:=by
   intro j hj;rw[hL];simp[zdp,hj,show j<l.length by omega]
  have e:zap h a0 (h.map (zaE a))=a:=zey a h a0 hI.frame hI.defs λt ht=>hI.same t λj o hj _=>ht o (xDo hj);have hvs:∀j,zca h a.eval j=(h.map (zaE a)).getD j undef:=by
   intro j;by_cases hj:j<h.length
   ·rw[zcc (o:=h[j]) (by simp[hj])];simp[List.getD,hj]
   ·unfold zca;simp[List.getD,Nat.le_of_not_lt hj]
  have hAll:∀(os:List Oper) (k:Nat),(∀i,os[i]? =h[k+i]?)->All Rs (h.map (zaE a)) w os k:=by
   intro os
   induction os with
   |nil=>intro k _;trivial
   |cons o os ih=>
    intro k hk;have h0:h[k]? =some o:=by have:=hk 0;simpa using this.symm
    refine⟨?_,ih (k+1) (λi=>by have:=hk (i+1);rw[show k+1+i=k+(i+1) by omega];simpa using this)⟩;have hlt:k<h.length:=(xDs.1 h0).1;have:=(zfd h0).1 (hI.know k hlt (hall k (by omega)));rw[<-zcc h0,hvs k] at this;have e:zc4 h a.eval o=(waits o).map λj=>(h.map (zaE a)).getD j undef:=List.map_congr_left λj _=>hvs j;rw[e] at this;exact this
  have hsl:∀j,j<h.length->∃o,h[j]? =some o/\(h.map (zaE a)).getD j undef=zaE a o:=by
   intro j hj;exact⟨h[j],by simp[hj],by simp[List.getD,hj]⟩
  have hfin:=hend (h.map (zaE a)) w _ hI.good (by simp[hhl]) (hAll h 0 (by simp)) (by
   intro i j hi hj hne k hk;simp only[xDf] at hi hj;obtain⟨o,ho,eo⟩:=hsl i hi;obtain⟨p,hp,ep⟩:=hsl j hj;rw[eo] at hk;rw[ep];exact hI.apart i j o p ho hp hne (hall i (by omega)) (hall j (by omega)) k hk) (by
   intro i hi k hk;simp only[xDf] at hi;obtain⟨o,ho,eo⟩:=hsl i hi;rw[eo] at hk;exact hI.bound i o ho (hall i (by omega)) k hk)
  rw[e] at hfin;have hdl:(l.drop n).length=l.length-n:=by simp
  have:=wpAny_of_seq (md:= .any) (Q':=Q) (l.drop n) n listed a w (λj=>by simp[List.getElem?_drop]) (by rw[hdl,hL];exact hseq) hfin;rw[Nat.zero_add];rwa [hdl] at this
 |succ fuel ih=>
  intro listed a w hI
  --some operation of the head is not listed;the first of them is ready
  have hex:∃i,i<n/\listed.getD i true=false:=by
   have hne:(listed.toList.take n).filter (· ==false)≠[]:=λh0=>by have:=hI.left;rw[h0] at this;simp at this
   obtain⟨b,hb⟩:=List.exists_mem_of_ne_nil _ hne;obtain⟨hb1,hb2⟩:=List.mem_filter.1 hb;obtain⟨i,hi,e⟩:=List.mem_iff_getElem.1 hb1;simp only[xDp,Array.length_toList] at hi;refine⟨i,by omega,?_⟩;have:listed[i]'(by omega)=b:=(by simpa using e);simp only[beq_iff_eq] at hb2;simp[show i<listed.size by omega,this,hb2]
  have hsz:listed.size=l.length:=by have:=hI.inv.size;simpa using this
  have hready:Region.ready .any l.toArray listed≠[]:=by
   have hmin:∃i,(i<n/\listed.getD i true=false)/\∀k,k<i->¬(k<n/\listed.getD k true=false):=by
    obtain⟨i,hi⟩:=hex;exact zir (λi=>i<n/\listed.getD i true=false) i hi
   obtain⟨i,⟨hi,hu⟩,hmin⟩:=hmin;obtain⟨o,ho⟩:∃o,l[i]? =some o:=⟨l[i]'(by omega),by simp[show i<l.length by omega]⟩
   have:i∈Region.ready .any l.toArray listed:=mem_ready.2 ⟨hu,o,by simpa using ho,λe he hb=>by
    have hlt:=hearly' i o ho e he hb;have:=hmin e.on hlt;have h2:listed.getD e.on true≠false:=λh0=>this ⟨by omega,h0⟩;simp only[Bool.not_eq_false] at h2;have h3:e.on<listed.size:=(by omega);simpa[h3] using h2⟩
   intro h0;rw[h0] at this
   cases this
  rw[show fuel+1+(l.length-n)=(fuel+(l.length-n))+1 by omega];refine⟨λh0=>absurd h0 hready,λi hi=> ?_⟩;obtain⟨hu,o,ho,hdeps⟩:=mem_ready.1 hi;have hol:l[i]? =some o:=by simpa using ho
  have hil:i<l.length:=(xDs.1 hol).1;have hin':i<n:=by
   rcases Nat.lt_or_ge i n with hlt|hge
   ·exact hlt
   ·exfalso;obtain⟨i0,hi0,hu0⟩:=hex;simp only[Bool.or_eq_true,decide_eq_true_eq,Bool.and_eq_true] at hsink;rcases hsink with hsink|⟨hs,hc⟩
    ·omega
    ·exact tail_waits hs hc (by simpa using(show n<l.length by omega)) hI.inv _ i0 rfl hi0 hu0 i hge hi
  have hoh:h[i]? =some o:=by rw[hget i hin'];exact hol
  have hmem:o∈l:=xDo hol;have hgo:o.guard=none:=by
   have:=List.all_eq_true.1 hg o hmem;simpa using this
  unfold wpOp;rw[ho];have hw:Region.wanted o (yielded l.toArray a.tmps)=true:=by simp[Region.wanted,hgo]
  simp only[hw,if_true];refine .inl ?_;have hlt:i<listed.size:=by omega
  have hfalse:listed[i]=false:=by
   have:listed.getD i true=listed[i]:=(by simp[hlt]);rw[<-this];exact hu
  have hK:zd3 h Rs a.eval w (waits o):=by
   refine zgJ λj hj=> ?_;unfold waits at hj;obtain⟨e,he,rfl⟩:=xDl.1 hj;obtain⟨he1,he2⟩:=List.mem_filter.1 he;have hl:=hdeps e (by simpa using he1) he2;have hjl:=hearly' i o hol e (by simpa using he1) he2;exact hI.know e.on (by omega) hl
  have hout:∀x,zdj h x=true->a.eval x=a0.eval x:=by
   intro x hx
   cases x with
   |tmp t=>
    have hn:∀o'∈h,o'.dst≠some t:=by
     intro o' ho' e;simp only[zdj,Bool.not_eq_true',List.any_eq_false] at hx;exact hx o' ho' (by simp[e])
    have:=hI.same t (λj o' hj _=>hn o' (xDo hj));simp only[Act.eval];rw[Array.getD_eq_getD_getElem?,Array.getD_eq_getD_getElem?,this]
   |_=>rfl
  have hny:∀j p,h[j]? =some p->(j==i||(waits p).contains i)=true->listed.getD j false=false:=by
   intro j p hj hc;by_cases hji:j=i
   ·subst hji;exact getD_both hu
   replace hc:(waits p).contains i=true:=(by simpa[hji] using hc)
   cases hlj:listed.getD j false with
   |false=>rfl
   |true=>
    exfalso;have hjn:j<n:=by rw[<-hhl];exact(xDs.1 hj).1
    have hpl:l[j]? =some p:=by rw[<-hget j hjn];exact hj
    have hm:i∈waits p:=(by simpa using hc);unfold waits at hm;obtain⟨e,he,heq⟩:=xDl.1 hm;obtain⟨he1,he2⟩:=List.mem_filter.1 he;have:=hI.inv.closed j p (by simpa using hpl) hlj e (by simpa using he1) he2;rw[heq] at this;have h2:listed.getD i false=false:=getD_both hu;rw[h2] at this;cases this
  have hstep:=zcX.at (k:=0) hsteps hoh a.eval w _ hI.good (by rw[Nat.zero_add];exact hny) hout hK;rw[Nat.zero_add] at hstep;refine zfD hstep λu w' hp=>ih _ _ _ ?_;obtain⟨hS,hR,hB,hG⟩:=hp;have hgs:∀j,(listed.setIfInBounds i true).getD j false=true->j=i\/(j≠i/\listed.getD j false=true):=by
   intro j hj;by_cases e:j=i
   ·exact .inl e
   ·right;refine⟨e,?_⟩;have:(listed.setIfInBounds i true).getD j false=listed.getD j false:=by
     rw[Array.getD_eq_getD_getElem?,Array.getD_eq_getD_getElem?,Array.getElem?_setIfInBounds_ne (λh=>e h.symm)]
    rw[<-this];exact hj
  have hdl:∀d,o.dst=some d->d<a.tmps.size:=by
   intro d hod;have:=List.all_eq_true.1 hin o (xDo hoh);rw[hod] at this;rw[<-hI.frame];simpa using this
  have hself:zaE (a.put o.dst u) o=kept o u:=by
   unfold zaE kept
   cases hod:o.dst with
   |none=>rfl
   |some d=>simp[Act.put,hdl d hod]
  have hslot:∀j p,h[j]? =some p->j≠i->zaE (a.put o.dst u) p=zaE a p:=by
   intro j p hj hne;unfold zaE
   cases hpd:p.dst with
   |none=>rfl
   |some d=>
    cases hod:o.dst with
    |none=>rfl
    |some d'=>
     have hdd:=zex hd hoh hj (λe=>hne e.symm) hod;have hne':d'≠d:=λe=>hdd (by rw[hpd,e]);simp[Act.put,Array.getElem?_setIfInBounds_ne hne']
  have hdep:∀j p,l[j]? =some p->j<n->(∀e∈p.after,Region.binds .any e=true->e.on≠i)->zc4 h (a.put o.dst u).eval p=zc4 h a.eval p:=by
   intro j p hj hjn hno;refine List.map_congr_left λk hk=> ?_;unfold waits at hk;obtain⟨e,he,rfl⟩:=xDl.1 hk;obtain⟨he1,he2⟩:=List.mem_filter.1 he;have hke:=hearly' j p hj e (by simpa using he1) he2;obtain⟨q,hq⟩:∃q,h[e.on]? =some q:=⟨h[e.on]'(by omega),by simp[show e.on<h.length by omega]⟩
   rw[zcc hq,zcc hq];exact hslot e.on q hq (hno e (by simpa using he1) he2)
  have hG':G (λj=>(listed.setIfInBounds i true).getD j false) w':=by
   have e:(λj=>(listed.setIfInBounds i true).getD j false)=λj=>decide (j=i)||listed.getD j false:=by
    funext j;by_cases e:j=i
    ·subst e;simp[hlt]
    ·have:(listed.setIfInBounds i true).getD j false=listed.getD j false:=by
      rw[Array.getD_eq_getD_getElem?,Array.getD_eq_getD_getElem?,Array.getElem?_setIfInBounds_ne (λh=>e h.symm)]
     rw[this];simp[e]
   rw[e];exact hG
  refine⟨hI.inv.set hi hin',?_,hG',?_,?_,?_,?_,?_,?_⟩
  ·have hx:listed.toList[i]? =some false:=(by simp[hlt,hfalse]);have:=zeZ listed.toList n i hin' hx;have e:(listed.setIfInBounds i true).toList=listed.toList.set i true:=(by simp);rw[e];have:=hI.left;omega
  ·rw[hI.frame];cases o.dst<;>simp[Act.put]
  ·rw[hI.defs];cases o.dst<;>simp[Act.put]
  ·intro t ht;have hio:o.dst≠some t:=ht i o hoh (by simp[hlt]);have hold:=hI.same t (λj p hj hl=>ht j p hj (by
    by_cases e:j=i
    ·subst e;simp[hlt]
    ·rw[Array.getD_eq_getD_getElem?,Array.getElem?_setIfInBounds_ne (λh=>e h.symm),<-Array.getD_eq_getD_getElem?];exact hl))
   rw[<-hold]
   cases hod:o.dst with
   |none=>rfl
   |some d=>simp only[Act.put];rw[Array.getElem?_setIfInBounds_ne (λe=>hio (by rw[hod,e]))]
  ·intro j hj hl;obtain⟨p,hp⟩:∃p,h[j]? =some p:=⟨h[j],by simp[hj]⟩
   rw[zfd hp];rcases hgs j hl with e|⟨hne,hl'⟩
   ·subst e;obtain rfl:o=p:=by rw[hoh] at hp;exact Option.some.inj hp
    rw[hself,hdep j o hol hin' (λe he hb=>by have:=hearly' j o hol e he hb;omega)];exact hR
   ·have hpl:l[j]? =some p:=by rw[<-hget j (by omega)];exact hp
    rw[hslot j p hp hne,hdep j p hpl (by omega) (λe he hb heq=>by
     have:=hI.inv.closed j p (by simpa using hpl) hl' e he hb;rw[heq] at this;have h2:listed.getD i false=false:=(by simp[hlt,hfalse]);rw[h2] at this;cases this)]
    exact hst i j _ _ _ _ (λe=>hne e.symm) hS ((zfd hp).1 (hI.know j hj hl'))
  ·intro j p hp hl k hk;rcases hgs j hl with e|⟨hne,hl'⟩
   ·subst e;obtain rfl:o=p:=by rw[hoh] at hp;exact Option.some.inj hp
    rw[hself] at hk;exact(hB k hk).2
   ·rw[hslot j p hp hne] at hk;exact Nat.lt_of_lt_of_le (hI.bound j p hp hl' k hk) (hgrow _ _ _ hS)
  ·intro j1 j2 p1 p2 hp1 hp2 hne hl1 hl2 k hk hk2;rcases hgs j1 hl1 with e1|⟨hne1,hl1'⟩
   ·subst e1;obtain rfl:o=p1:=by rw[hoh] at hp1;exact Option.some.inj hp1
    rcases hgs j2 hl2 with e2|⟨hne2,hl2'⟩
    ·exact hne e2.symm
    ·rw[hself] at hk;rw[hslot j2 p2 hp2 hne2] at hk2;have h1:=(hB k hk).1;have h2:=hI.bound j2 p2 hp2 hl2' k hk2;omega
   ·rcases hgs j2 hl2 with e2|⟨hne2,hl2'⟩
    ·subst e2;obtain rfl:o=p2:=by rw[hoh] at hp2;exact Option.some.inj hp2
     rw[hself] at hk2;rw[hslot j1 p1 hp1 hne1] at hk;have h1:=(hB k hk2).1;have h2:=hI.bound j1 p1 hp1 hl1' k hk;omega
    ·rw[hslot j1 p1 hp1 hne1] at hk;rw[hslot j2 p2 hp2 hne2] at hk2;exact hI.apart j1 j2 p1 p2 hp1 hp2 hne hl1' hl2' k hk hk2
theorem za1 {P:Program} {id:Nat} {l:List Oper} (n:Nat) {a0:Act} {w:World} {Q:Exit->Act->World->Prop} (hm:P.follows .mixedOrders=true) (hf:fits l n a0.tmps.size=true)
  (Rs:List (List Value->Value->World->Prop)) (St:Nat->World->World->Prop) (Bk:Nat->Value->Option Nat) (G:(Nat->Bool)->World->Prop) (hG:∀L,(∀j,L j=false)->G L w.drew)
  (hsz:∀i w w',St i w w'->w.heap.size<=w'.heap.size) (hst:∀i j ds v w w',i≠j->St i w w'->at' Rs j ds v w->at' Rs j ds v w')
  (hsteps:zcX P (l.take n) Rs St Bk G a0.eval (l.take n) 0)
  (hend:∀(vs:List Value) w' L,G L w'->vs.length=n->All Rs vs w' (l.take n) 0->zgF Bk vs->zgX Bk vs w'->wpList P l.toArray Q (l.drop n) (zap (l.take n) a0 vs) w'):(Code.region id l.toArray true).wp P Q a0 w:=by
 have hn:n<=l.length:=by
  simp only[fits,Bool.and_eq_true,decide_eq_true_eq] at hf;exact hf.1.1.2
 refine wp_region_any hm ?_;have hne:∀j:Nat,(Array.replicate l.length false).getD j false=true->False:=λj hj=>by
  simp only[Array.getD_eq_getD_getElem?,Array.getElem?_replicate] at hj;split at hj<;>simp at hj
 have:=ziY rfl hf hsz hst hsteps hend n (Array.replicate l.length false) a0 w.drew
  ⟨⟨by simp,λj oj _ hl=>(hne j hl).elim,λt _ ht=>getD_in (by simpa using ht) (getD_replicate_false _ _)⟩,
  by simp[List.take_replicate,Nat.min_eq_left hn],hG _ (λj=>getD_replicate_false _ _),rfl,rfl,λt _=>rfl,λj _ hl=>(hne j hl).elim,λj _ _ hl=>(hne j hl).elim,λi _ _ _ _ _ _ hl=>(hne i hl).elim⟩
 rw[show n+(l.length-n)=l.length by omega] at this;simpa using this
theorem zaJ {P:Program} {id:Nat} {l:List Oper} (n:Nat) {a0:Act} {w:World} {Q:Exit->Act->World->Prop} (hm:P.follows .mixedOrders=true) (hf:fits l n a0.tmps.size=true)
  (Rs:List (List Value->Value->World->Prop)) (Bk:Nat->Value->Option Nat) (G:World->Prop) (hG:G w.drew)
  (hst:∀j ds v w w',xW w w'->at' Rs j ds v w->at' Rs j ds v w')
  (hsteps:zdL P (l.take n) Rs Bk G a0.eval (l.take n) 0)
  (hend:∀(vs:List Value) w',G w'->vs.length=n->All Rs vs w' (l.take n) 0->zgF Bk vs->zgX Bk vs w'->wpList P l.toArray Q (l.drop n) (zap (l.take n) a0 vs) w'):(Code.region id l.toArray true).wp P Q a0 w:=
 za1 n hm hf Rs _ Bk (λ_ w=>G w) (λ_ _=>hG) (λ_ _ _ h=>h.size) (λ_ j _ _ _ _ _ hS=>hst j _ _ _ _ hS) hsteps.to (λvs w' _=>hend vs w')
theorem zi.set {S:List Nat} {a w:World} (h:zi S a w) {b j:Nat} {v:Value} (hb:b∈S):zi S a (w.setCell ⟨b,j,none⟩ v):=
 h.trans ⟨rfl,rfl,rfl,by simp,λk _ hn=>Below.heap_setCell _ _ _ _ (λe=>hn (by rw[e];exact hb))⟩
theorem zek {o:Option Nat} {l:List Nat} (h:l.Nodup) (hk:∀k,o=some k->k∉l):(o.toList++l).Nodup:=by
 cases o with
 |none=>simpa using h
 |some k=>
  rw[Option.toList_some,List.singleton_append,List.nodup_cons];exact⟨hk k rfl,h⟩
theorem zdT (v:PV) (p:Pg) (w:World) (hr:RdP w v p) (hs:v.ns<=1048576/\v.ng<=1048576/\v.nb<=1048576/\v.nr<=1048576/\v.nt<=1048576) (hin:∀i,(p.threads.getD i []).length<=1099511627776):
  Calls Tryz.prog 9 #[.agg (pvC v)] w λe w'=>∃(v':PV) (vs:List Value),e= .returned (.agg (pvC v'))/\OwnP w' v' vs p.cells/\(fpP v' vs).Nodup/\(∀k∈fpP v' vs,w.heap.size<=k)/\xW w w':=by
 obtain⟨z1,z2,z3,z4,z5⟩:=hs;have L1:=xH1 hr.ls;have L2:=xH1 hr.lg;have L3:=xH1 hr.lb;have L4:=xH1 hr.lr;have L5:=xH1 hr.lt;have HI:=xH1 hin;obtain⟨us,hus⟩:=hr.rt;have h1:=hr.rs;have h2:=hr.rg;have h3:=hr.rb;have h4:=hr.rr;clear hr hin;have b0:xW w (((w.alloc (.cells (pvC v) 25)).alloc (.cells #[.slice none 0 0,.slice none 0 0,.slice none 0 0,.slice none 0 0,.slice none 0 0] 40)).alloc (.cells #[.slice none 0 0,.slice none 0 0,.slice none 0 0,.slice none 0 0,.slice none 0 0] 40)):=((xA1).alloc (by simp) _).alloc (by simp;omega) _;go_enter Tryz.func9,Tryz.ntmps9;go_wp2_with fail;have kA0:Blk (((w.alloc (.cells (pvC v) 25)).alloc (.cells #[.slice none 0 0,.slice none 0 0,.slice none 0 0,.slice none 0 0,.slice none 0 0] 40)).alloc (.cells #[.slice none 0 0,.slice none 0 0,.slice none 0 0,.slice none 0 0,.slice none 0 0] 40)) w.heap.size (pvC v) 25:=((Blk.new _ _ _).alloc _).alloc _
 have kR0:Blk (((w.alloc (.cells (pvC v) 25)).alloc (.cells #[.slice none 0 0,.slice none 0 0,.slice none 0 0,.slice none 0 0,.slice none 0 0] 40)).alloc (.cells #[.slice none 0 0,.slice none 0 0,.slice none 0 0,.slice none 0 0,.slice none 0 0] 40)) (w.heap.size+1) #[.slice none 0 0,.slice none 0 0,.slice none 0 0,.slice none 0 0,.slice none 0 0] 40:=by simpa using(Blk.new (w.alloc (.cells (pvC v) 25)) #[.slice none 0 0,.slice none 0 0,.slice none 0 0,.slice none 0 0,.slice none 0 0] 40).alloc (.cells #[.slice none 0 0,.slice none 0 0,.slice none 0 0,.slice none 0 0,.slice none 0 0] 40)
 have kO0:Blk (((w.alloc (.cells (pvC v) 25)).alloc (.cells #[.slice none 0 0,.slice none 0 0,.slice none 0 0,.slice none 0 0,.slice none 0 0] 40)).alloc (.cells #[.slice none 0 0,.slice none 0 0,.slice none 0 0,.slice none 0 0,.slice none 0 0] 40)) (w.heap.size+1+1) #[.slice none 0 0,.slice none 0 0,.slice none 0 0,.slice none 0 0,.slice none 0 0] 40:=by simpa using Blk.new ((w.alloc (.cells (pvC v) 25)).alloc (.cells #[.slice none 0 0,.slice none 0 0,.slice none 0 0,.slice none 0 0,.slice none 0 0] 40)) #[.slice none 0 0,.slice none 0 0,.slice none 0 0,.slice none 0 0,.slice none 0 0] 40
 have hz0:w.heap.size+3<=(((w.alloc (.cells (pvC v) 25)).alloc (.cells #[.slice none 0 0,.slice none 0 0,.slice none 0 0,.slice none 0 0,.slice none 0 0] 40)).alloc (.cells #[.slice none 0 0,.slice none 0 0,.slice none 0 0,.slice none 0 0,.slice none 0 0] 40)).heap.size:=by simp
 refine(zdX v.ns v.cs v.s p.sems _ L1.out (by omega) (h1.below b0)).mono ?_;rintro e w1 ⟨a1,c1,rfl,o1,b1⟩;have hs1:=b1.size;have kA1:=kA0.below b1;have kR1:=kR0.below b1;have kO1':=kO0.below b1;have r1:=zp o1;have q1a:=kO1'.cell 0 rfl;have q1b:=kO1'.fz 0;have q1c:=kA1.cell 1 rfl;have t1:Below w.heap.size w1 (w1.setCell ⟨w.heap.size+1+1,0,none⟩ (.slice a1 v.ns c1)):=xB1.setCell (by simp;omega) _;have hb1:=hz0;have B1:xW w (w1.setCell ⟨w.heap.size+1+1,0,none⟩ (.slice a1 v.ns c1)):=(b0.trans (b1.mono (by omega))).trans t1;replace kA1:=kA1.other ⟨w.heap.size+1+1,0,none⟩ (.slice a1 v.ns c1) (by simp;omega);replace kR1:=kR1.other ⟨w.heap.size+1+1,0,none⟩ (.slice a1 v.ns c1) (by simp);have kO1:Blk (w1.setCell ⟨w.heap.size+1+1,0,none⟩ (.slice a1 v.ns c1)) (w.heap.size+1+1) #[.slice a1 v.ns c1,.slice none 0 0,.slice none 0 0,.slice none 0 0,.slice none 0 0] 40:=kO1'.set 0 (.slice a1 v.ns c1);have g1:w1.grownBy (w1.setCell ⟨w.heap.size+1+1,0,none⟩ (.slice a1 v.ns c1)) (some (w.heap.size+1+1)):=⟨rfl,rfl,rfl,by simp,λx _ hx=>Below.heap_setCell _ _ _ _ (λe=>hx (by rw[e]))⟩
 replace o1:=zo o1 g1 (λx e1 e2=>by cases e2;have:=zp o1 _ e1;omega);have hz1:w.heap.size+3<=(w1.setCell ⟨w.heap.size+1+1,0,none⟩ (.slice a1 v.ns c1)).heap.size:=by simp;omega
 clear kO1' g1;go_wp2_with fail;refine(zdX v.ng v.cg v.g p.groups _ L2.out (by omega) (h2.below B1)).mono ?_;rintro e w2 ⟨a2,c2,rfl,o2,b2⟩;have hs2:=b2.size;have kA2:=kA1.below b2;have kR2:=kR1.below b2;have kO2':=kO1.below b2;replace o1:=zf o1 b2;have r2:=zp o2;have q2a:=kO2'.cell 1 rfl;have q2b:=kO2'.fz 1;have q2c:=kA2.cell 2 rfl;have t2:Below w.heap.size w2 (w2.setCell ⟨w.heap.size+1+1,1,none⟩ (.slice a2 v.ng c2)):=xB1.setCell (by simp;omega) _;have hb2:=hz1;have B2:xW w (w2.setCell ⟨w.heap.size+1+1,1,none⟩ (.slice a2 v.ng c2)):=(B1.trans (b2.mono (by omega))).trans t2;replace kA2:=kA2.other ⟨w.heap.size+1+1,1,none⟩ (.slice a2 v.ng c2) (by simp;omega);replace kR2:=kR2.other ⟨w.heap.size+1+1,1,none⟩ (.slice a2 v.ng c2) (by simp);have kO2:Blk (w2.setCell ⟨w.heap.size+1+1,1,none⟩ (.slice a2 v.ng c2)) (w.heap.size+1+1) #[.slice a1 v.ns c1,.slice a2 v.ng c2,.slice none 0 0,.slice none 0 0,.slice none 0 0] 40:=kO2'.set 1 (.slice a2 v.ng c2);have g2:w2.grownBy (w2.setCell ⟨w.heap.size+1+1,1,none⟩ (.slice a2 v.ng c2)) (some (w.heap.size+1+1)):=⟨rfl,rfl,rfl,by simp,λx _ hx=>Below.heap_setCell _ _ _ _ (λe=>hx (by rw[e]))⟩
 replace o1:=zo o1 g2 (λx e1 e2=>by cases e2;have:=zp o1 _ e1;omega);replace o2:=zo o2 g2 (λx e1 e2=>by cases e2;have:=zp o2 _ e1;omega);have hz2:w.heap.size+3<=(w2.setCell ⟨w.heap.size+1+1,1,none⟩ (.slice a2 v.ng c2)).heap.size:=by simp;omega
 clear kO2' g2;go_wp2_with fail;refine(zdX v.nb v.cb v.b p.barriers _ L3.out (by omega) (h3.below B2)).mono ?_;rintro e w3 ⟨a3,c3,rfl,o3,b3⟩;have hs3:=b3.size;have kA3:=kA2.below b3;have kR3:=kR2.below b3;have kO3':=kO2.below b3;replace o1:=zf o1 b3;replace o2:=zf o2 b3;have r3:=zp o3;have q3a:=kO3'.cell 2 rfl;have q3b:=kO3'.fz 2;have q3c:=kA3.cell 3 rfl;have t3:Below w.heap.size w3 (w3.setCell ⟨w.heap.size+1+1,2,none⟩ (.slice a3 v.nb c3)):=xB1.setCell (by simp;omega) _;have hb3:=hz2;have B3:xW w (w3.setCell ⟨w.heap.size+1+1,2,none⟩ (.slice a3 v.nb c3)):=(B2.trans (b3.mono (by omega))).trans t3;replace kA3:=kA3.other ⟨w.heap.size+1+1,2,none⟩ (.slice a3 v.nb c3) (by simp;omega);replace kR3:=kR3.other ⟨w.heap.size+1+1,2,none⟩ (.slice a3 v.nb c3) (by simp);have kO3:Blk (w3.setCell ⟨w.heap.size+1+1,2,none⟩ (.slice a3 v.nb c3)) (w.heap.size+1+1) #[.slice a1 v.ns c1,.slice a2 v.ng c2,.slice a3 v.nb c3,.slice none 0 0,.slice none 0 0] 40:=kO3'.set 2 (.slice a3 v.nb c3);have g3:w3.grownBy (w3.setCell ⟨w.heap.size+1+1,2,none⟩ (.slice a3 v.nb c3)) (some (w.heap.size+1+1)):=⟨rfl,rfl,rfl,by simp,λx _ hx=>Below.heap_setCell _ _ _ _ (λe=>hx (by rw[e]))⟩
 replace o1:=zo o1 g3 (λx e1 e2=>by cases e2;have:=zp o1 _ e1;omega);replace o2:=zo o2 g3 (λx e1 e2=>by cases e2;have:=zp o2 _ e1;omega);replace o3:=zo o3 g3 (λx e1 e2=>by cases e2;have:=zp o3 _ e1;omega);have hz3:w.heap.size+3<=(w3.setCell ⟨w.heap.size+1+1,2,none⟩ (.slice a3 v.nb c3)).heap.size:=by simp;omega
 clear kO3' g3;go_wp2_with fail;refine(zdX v.nr v.cr v.r p.rooms _ L4.out (by omega) (h4.below B3)).mono ?_;rintro e w4 ⟨a4,c4,rfl,o4,b4⟩;have hs4:=b4.size;have kA4:=kA3.below b4;have kR4:=kR3.below b4;have kO4':=kO3.below b4;replace o1:=zf o1 b4;replace o2:=zf o2 b4;replace o3:=zf o3 b4;have r4:=zp o4;have q4a:=kO4'.cell 3 rfl;have q4b:=kO4'.fz 3;have q4c:=kA4.cell 4 rfl;have t4:Below w.heap.size w4 (w4.setCell ⟨w.heap.size+1+1,3,none⟩ (.slice a4 v.nr c4)):=xB1.setCell (by simp;omega) _;have hb4:=hz3;have B4:xW w (w4.setCell ⟨w.heap.size+1+1,3,none⟩ (.slice a4 v.nr c4)):=(B3.trans (b4.mono (by omega))).trans t4;replace kA4:=kA4.other ⟨w.heap.size+1+1,3,none⟩ (.slice a4 v.nr c4) (by simp;omega);replace kR4:=kR4.other ⟨w.heap.size+1+1,3,none⟩ (.slice a4 v.nr c4) (by simp);have kO4:Blk (w4.setCell ⟨w.heap.size+1+1,3,none⟩ (.slice a4 v.nr c4)) (w.heap.size+1+1) #[.slice a1 v.ns c1,.slice a2 v.ng c2,.slice a3 v.nb c3,.slice a4 v.nr c4,.slice none 0 0] 40:=kO4'.set 3 (.slice a4 v.nr c4);have g4:w4.grownBy (w4.setCell ⟨w.heap.size+1+1,3,none⟩ (.slice a4 v.nr c4)) (some (w.heap.size+1+1)):=⟨rfl,rfl,rfl,by simp,λx _ hx=>Below.heap_setCell _ _ _ _ (λe=>hx (by rw[e]))⟩
 replace o1:=zo o1 g4 (λx e1 e2=>by cases e2;have:=zp o1 _ e1;omega);replace o2:=zo o2 g4 (λx e1 e2=>by cases e2;have:=zp o2 _ e1;omega);replace o3:=zo o3 g4 (λx e1 e2=>by cases e2;have:=zp o3 _ e1;omega);replace o4:=zo o4 g4 (λx e1 e2=>by cases e2;have:=zp o4 _ e1;omega);have hz4:w.heap.size+3<=(w4.setCell ⟨w.heap.size+1+1,3,none⟩ (.slice a4 v.nr c4)).heap.size:=by simp;omega
 clear kO4' g4;go_wp2_with fail;refine(zjs v.nt v.ct v.t p.threads us _ L5.out (by omega) HI.out (hus.below B4)).mono ?_;rintro e w5 ⟨a5,c5,vs,rfl,o5,nd5,lo5,b5⟩;have hs5:=b5.size;have kA5:=kA4.below b5;have kR5:=kR4.below b5;have kO5':=kO4.below b5;replace o1:=zf o1 b5;replace o2:=zf o2 b5;replace o3:=zf o3 b5;replace o4:=zf o4 b5;have q5a:=kO5'.cell 4 rfl;have q5b:=kO5'.fz 4;have x0:=kO5'.cell 0 rfl;have x1:=kO5'.cell 1 rfl;have x2:=kO5'.cell 2 rfl;have x3:=kO5'.cell 3 rfl;have y0:=kR5.cell 0 rfl;have f0:=kR5.fz 0;have y1:=kR5.cell 1 rfl;have f1:=kR5.fz 1;have y2:=kR5.cell 2 rfl;have f2:=kR5.fz 2;have y3:=kR5.cell 3 rfl;have f3:=kR5.fz 3;have y4:=kR5.cell 4 rfl;have f4:=kR5.fz 4;have t5:Below w.heap.size w5 (w5.setCell ⟨w.heap.size+1+1,4,none⟩ (.slice a5 v.nt c5)):=xB1.setCell (by simp;omega) _;have hb5:=hz4;have B5:xW w (w5.setCell ⟨w.heap.size+1+1,4,none⟩ (.slice a5 v.nt c5)):=(B4.trans (b5.mono (by omega))).trans t5;replace kA5:=kA5.other ⟨w.heap.size+1+1,4,none⟩ (.slice a5 v.nt c5) (by simp;omega);replace kR5:=kR5.other ⟨w.heap.size+1+1,4,none⟩ (.slice a5 v.nt c5) (by simp)
 have kO5:Blk (w5.setCell ⟨w.heap.size+1+1,4,none⟩ (.slice a5 v.nt c5)) (w.heap.size+1+1) #[.slice a1 v.ns c1,.slice a2 v.ng c2,.slice a3 v.nb c3,.slice a4 v.nr c4,.slice a5 v.nt c5] 40:=kO5'.set 4 (.slice a5 v.nt c5);have g5:w5.grownBy (w5.setCell ⟨w.heap.size+1+1,4,none⟩ (.slice a5 v.nt c5)) (some (w.heap.size+1+1)):=⟨rfl,rfl,rfl,by simp,λx _ hx=>Below.heap_setCell _ _ _ _ (λe=>hx (by rw[e]))⟩
 replace o1:=zo o1 g5 (λx e1 e2=>by cases e2;have:=zp o1 _ e1;omega);replace o2:=zo o2 g5 (λx e1 e2=>by cases e2;have:=zp o2 _ e1;omega);replace o3:=zo o3 g5 (λx e1 e2=>by cases e2;have:=zp o3 _ e1;omega);replace o4:=zo o4 g5 (λx e1 e2=>by cases e2;have:=zp o4 _ e1;omega);have o5':=o5.touch (zi.of_grown (S:=[w.heap.size+1+1]) g5 (by simp)) (λx hx hm=>by have:=lo5 x hx;simp at hm;omega);have hz5:w.heap.size+3<=(w5.setCell ⟨w.heap.size+1+1,4,none⟩ (.slice a5 v.nt c5)).heap.size:=by simp;omega
 clear kO5' g5;have HO:OwnP (w5.setCell ⟨w.heap.size+1+1,4,none⟩ (.slice a5 v.nt c5)) ⟨a1,v.ns,c1,a2,v.ng,c2,a3,v.nb,c3,a4,v.nr,c4,a5,v.nt,c5⟩ vs p.cells:=⟨zl o1 (Nat.zero_le _),zl o2 (Nat.zero_le _),zl o3 (Nat.zero_le _),zl o4 (Nat.zero_le _),o5'⟩
 have hlo:∀k∈fpP ⟨a1,v.ns,c1,a2,v.ng,c2,a3,v.nb,c3,a4,v.nr,c4,a5,v.nt,c5⟩ vs,w.heap.size+3<=k:=by
  intro k hk;unfold fpP at hk;simp only[List.mem_append,Option.mem_toList] at hk;simp only[World.size_setCell,xDe] at r1 r2 r3 r4 lo5 hz1 hz2 hz3 hz4 hz5;rcases hk with hk|hk|hk|hk|hk
  ·have:=r1 k hk;omega
  ·have:=r2 k hk;omega
  ·have:=r3 k hk;omega
  ·have:=r4 k hk;omega
  ·have:=lo5 k hk;omega
 have hnd:(fpP ⟨a1,v.ns,c1,a2,v.ng,c2,a3,v.nb,c3,a4,v.nr,c4,a5,v.nt,c5⟩ vs).Nodup:=by
  unfold fpP;simp only[World.size_setCell,xDe] at r1 r2 r3 r4 lo5 hs2 hs3 hs4 hs5;refine zek ?_ (λk hk hm=> ?_)
  rotate_left
  ·simp only[List.mem_append,Option.mem_toList] at hm;have:=r1 k hk;rcases hm with hm|hm|hm|hm
   ·have:=r2 k hm;omega
   ·have:=r3 k hm;omega
   ·have:=r4 k hm;omega
   ·have:=lo5 k hm;omega
  refine zek ?_ (λk hk hm=> ?_)
  rotate_left
  ·simp only[List.mem_append,Option.mem_toList] at hm;have:=r2 k hk;rcases hm with hm|hm|hm
   ·have:=r3 k hm;omega
   ·have:=r4 k hm;omega
   ·have:=lo5 k hm;omega
  refine zek ?_ (λk hk hm=> ?_)
  rotate_left
  ·simp only[List.mem_append,Option.mem_toList] at hm;have:=r3 k hk;rcases hm with hm|hm
   ·have:=r4 k hm;omega
   ·have:=lo5 k hm;omega
  refine zek ?_ (λk hk hm=> ?_)
  rotate_left
  ·skip
   have:=r4 k hk;have:=lo5 k hm;omega
  exact nd5
 have HH:=xH1 HO;have HLO:=xH1 hlo;have HND:=xH1 hnd;clear HO hlo hnd lo5 nd5 o5' o5 o1 o2 o3 o4 r1 r2 r3 r4 kA1 kA2 kA3 kA4 kA5 kR1 kR2 kR3 kR4 kR5 kO1 kO2 kO3 kO4 kO5 kA0 kR0 kO0;go_wp2;refine xDd (v:= .agg #[.slice a1 v.ns c1,.slice a2 v.ng c2,.slice a3 v.nb c3,.slice a4 v.nr c4,.slice a5 v.nt c5]) (by simp[results,Tryz.results9,go_sem,y0,y1,y2,y3,y4]) rfl ⟨⟨a1,v.ns,c1,a2,v.ng,c2,a3,v.nb,c3,a4,v.nr,c4,a5,v.nt,c5⟩,vs,rfl,?_,HND.out,λk hk=>by have:=HLO.out k hk;omega,?_⟩
 ·refine HH.out.touch (S:=[w.heap.size+1]) ?_ (λk hk hm=>by have:=HLO.out k hk;simp at hm;omega);exact zi.set (zi.set (zi.set (zi.set (zi.set (zi.refl _ _) (by simp)) (by simp)) (by simp)) (by simp)) (by simp)
 ·exact((((B5.setCell (Nat.le_add_right _ _) _).setCell (Nat.le_add_right _ _) _).setCell (Nat.le_add_right _ _) _).setCell (Nat.le_add_right _ _) _).setCell (Nat.le_add_right _ _) _
theorem zbk (k:Int) (cs:List Value) (j:Nat) (h:j<cs.length):(ints (seq k j)++cs.drop j).set j (.int .i64 (k+j))=ints (seq k (j+1))++cs.drop (j+1):=by
 rw[List.drop_eq_getElem_cons h,zkh,List.set_append,if_neg (by simp[zb9])];simp only[ints,xDf,zb9,Nat.sub_self,List.set_cons_zero,xDr,List.map_cons,List.map_nil,xDg,List.cons_append,xDq]
theorem zat (B n c:Nat) (a:Option Addr) (cs:List Value) (k0:Int) (w:World) (hn:n<=1099511627776) (hk0:0<=k0) (hk1:k0<=1099511627776)
  (h1:w.ownsRow B 3 1 (.slice a n c) n cs):
  Calls Tryz.prog 16 #[.slice a n c,.int .i64 k0] w λe w'=>e= .returned (.int .i64 (k0+n))/\
   w'.ownsRow B 3 1 (.slice a n c) n (ints (seq k0 n))/\w.grownBy w' (ze a):=by
 have HL:Hid (cs.length=n):=xH1 (by have:=h1.1;omega);go_enter Tryz.func16,Tryz.ntmps16;go_wp2
 go_loopw [1,5] (λq i wr=>∃k:Nat,k<=n/\i= .int .i64 k/\q= .int .i64 (k0+k)/\wr.ownsRow B 3 1 (.slice a n c) n (ints (seq k0 k)++cs.drop k)/\w.grownBy wr (ze a)) (λ_ i _=>n-(intOf i).toNat)
 case atStart=>exact⟨0,by omega,rfl,by simp,by simpa[seq] using h1,World.grownBy.refl _ _⟩
 case round=>
  obtain⟨k,hk,rfl,rfl,hown,hgr⟩:=hrel;by_cases hlt:k<n
  ·obtain⟨g,rfl,_,_⟩:=zaf hown (by omega);have hL:=HL.out;obtain⟨old,hold⟩:∃old,wr.cell? ⟨g,k,none⟩=some old:=by
    rw[hown.cellAt k (by omega)];exact⟨_,xDb (by simp[zb9];omega)⟩
   have hfz:=hown.frozenAt k;have R:=zak hown k (.int .i64 (k0+k)) (zbk k0 cs k (by omega));have HR:=xH1 R;clear R hown hL;go_wp2
   go_roundw
   case rel=>exact⟨k+1,by omega,by go_num,by go_num,HR.out.1,za5 hgr HR.out.2⟩
   case measure=>simp[intOf];omega
  ·have hkn:k=n:=(by omega);subst hkn;go_wp2;go_ret;exact⟨rfl,by rw[List.drop_of_length_le (by have:=HL.out;omega)] at hown;simpa using hown,hgr⟩
theorem ziW (B n c:Nat) (a:Option Addr) (cs:List Value) (k0:Int) (w:World) (hn:n<=1099511627776) (hk0:0<=k0) (hk1:k0<=1099511627776)
  (h1:w.ownsRow B 113 3 (.slice a n c) n cs):
  Calls Tryz.prog 70 #[.slice a n c,.int .i64 k0] w λe w'=>e= .returned (.int .i64 (k0+cs.length))/\
   w'.ownsRow B 113 3 (.slice a n c) n (ints (seq k0 cs.length))/\w.grownBy w' (ze a):=by
 have HL:Hid (cs.length=n*3):=xH1 h1.1;rw[HL.out];go_enter Tryz.func70,Tryz.ntmps70;go_wp2
 go_loopw [1,5] (λq i wr=>∃k:Nat,k<=n/\i= .int .i64 k/\q= .int .i64 (k0+(k*3:Nat))/\wr.ownsRow B 113 3 (.slice a n c) n (ints (seq k0 (k*3))++cs.drop (k*3))/\w.grownBy wr (ze a)) (λ_ i _=>n-(intOf i).toNat)
 case atStart=>exact⟨0,by omega,rfl,by simp,by simpa[seq] using h1,World.grownBy.refl _ _⟩
 case round=>
  obtain⟨k,hk,rfl,rfl,hown,hgr⟩:=hrel;by_cases hlt:k<n
  ·obtain⟨g,rfl,_,_⟩:=zaf hown (by omega);have hL:=HL.out;obtain⟨old,hold⟩:∃old,wr.cell? ⟨g,k*3,none⟩=some old:=by
    rw[hown.cellAt _ (by omega)];exact⟨_,xDb (by rw[hown.1];omega)⟩
   obtain⟨old2,hold2⟩:∃old,wr.cell? ⟨g,k*3+1,none⟩=some old:=by
    rw[hown.cellAt _ (by omega)];exact⟨_,xDb (by rw[hown.1];omega)⟩
   obtain⟨old3,hold3⟩:∃old,wr.cell? ⟨g,k*3+2,none⟩=some old:=by
    rw[hown.cellAt _ (by omega)];exact⟨_,xDb (by rw[hown.1];omega)⟩
   have hfz:=hown.frozenAt (k*3);have hfz2:=hown.frozenAt (k*3+1);have hfz3:=hown.frozenAt (k*3+2);have R1:=zak hown (k*3) (.int .i64 (k0+(k*3:Nat))) (zbk k0 cs (k*3) (by omega));have R2:=zak R1.1 (k*3+1) (.int .i64 (k0+(k*3+1:Nat))) (zbk k0 cs (k*3+1) (by omega));have R3:=zak R2.1 (k*3+2) (.int .i64 (k0+(k*3+2:Nat))) (zbk k0 cs (k*3+2) (by omega));have e1:k0+((k*3:Nat):Int)=k0+(k:Int)*3:=(by omega);have e2:k0+((k*3+1:Nat):Int)=k0+(k:Int)*3+1:=(by omega);have e3:k0+((k*3+2:Nat):Int)=k0+(k:Int)*3+1+1:=(by omega);rw[e1] at R1 R2 R3;rw[e2] at R2 R3;rw[e3] at R3;have HR1:=xH1 R1.2;have HR2:=xH1 R2.2;have HR3:=xH1 R3;clear R1 R2 R3 hown hL e1 e2 e3;go_wp2
   go_roundw
   case rel=>exact⟨k+1,by omega,by go_num,by go_num,(by have:=HR3.out.1;rwa [show k*3+2+1=(k+1)*3 from by omega] at this),za5 hgr (za5 HR1.out (za5 HR2.out HR3.out.2))⟩
   case measure=>simp[intOf];omega
  ·have hkn:k=n:=(by omega);subst hkn;go_wp2;go_ret;exact⟨rfl,by rw[List.drop_of_length_le (by have:=HL.out;omega)] at hown;simpa using hown,hgr⟩
def flen:List (List Value)->Nat
 |[]=>0
 |r::rs=>r.length+flen rs
def zaZ:Int->List (List Value)->List (List Value)
 |_,[]=>[]
 |k,r::rs=>ints (seq k r.length)::zaZ (k+r.length) rs
theorem zeA:∀(xs ys:List (List Value)),flen (xs++ys)=flen xs+flen ys
 |[],ys=>by simp[flen]
 |x::xs,ys=>by simp[flen,zeA xs ys];omega
theorem zg8 (xs:List (List Value)) (r:List Value):flen (xs++[r])=flen xs+r.length:=by rw[zeA];simp[flen]
theorem zea:∀(k:Int) (xs:List (List Value)),(zaZ k xs).length=xs.length
 |_,[]=>rfl
 |k,x::xs=>by simp[zaZ,zea (k+x.length) xs]
theorem ze6:∀(k:Int) (xs:List (List Value)) (r:List Value),zaZ k (xs++[r])=zaZ k xs++[ints (seq (k+flen xs) r.length)]
 |k,[],r=>by simp[zaZ,flen]
 |k,x::xs,r=>by
  simp only[List.cons_append,zaZ,flen];rw[ze6 (k+x.length) xs r,show k+(x.length:Int)+(flen xs:Nat)=k+((x.length+flen xs:Nat):Int) from by omega]
theorem zdM (xs:List (List Value)) (k:Nat) (hk:k<xs.length):xs.take (k+1)=xs.take k++[xs.getD k []]:=by
 rw[List.take_add_one,xDb hk];simp[List.getD,hk]
theorem zif (xs:List (List Value)) (k:Nat):flen (xs.take k)<=flen xs:=by
 have e:xs=xs.take k++xs.drop k:=(List.take_append_drop k xs).symm;have:=zeA (xs.take k) (xs.drop k);rw[<-e] at this;omega
theorem zgI:∀{vs:List Value} {i j k:Nat},(fpV vs).Nodup->i<vs.length->j<vs.length->(vs.getD i undef).ownBlock=some k->(vs.getD j undef).ownBlock=some k->i=j
 |[],_,_,_,_,h,_,_,_=>by simp at h
 |v::vs,0,0,_,_,_,_,_,_=>rfl
 |v::vs,0,j+1,k,hn,_,hj,h1,h2=>by
  exfalso;simp only[List.getD_cons_zero,List.getD_cons_succ] at h1 h2;have hm:k∈fpV vs:=zeK (by simpa using hj) h2;unfold fpV at hn;rw[List.filterMap_cons,h1] at hn;simp only[List.nodup_cons] at hn;exact hn.1 hm
 |v::vs,i+1,0,k,hn,hi,_,h1,h2=>by
  exfalso;simp only[List.getD_cons_zero,List.getD_cons_succ] at h1 h2;have hm:k∈fpV vs:=zeK (by simpa using hi) h1;unfold fpV at hn;rw[List.filterMap_cons,h2] at hn;simp only[List.nodup_cons] at hn;exact hn.1 hm
 |v::vs,i+1,j+1,k,hn,hi,hj,h1,h2=>by
  simp only[List.getD_cons_succ] at h1 h2;have hn':(fpV vs).Nodup:=by
   unfold fpV at hn⊢;rw[List.filterMap_cons] at hn;split at hn
   ·exact hn
   ·simp only[List.nodup_cons] at hn;exact hn.2
  rw[zgI hn' (by simpa using hi) (by simpa using hj) h1 h2]
theorem OwnT.update {w w':World} {a:Option Addr} {n c:Nat} {vs:List Value} {rows:List (List Value)} (h:OwnT w a n c vs rows) (hnd:(fpT a vs).Nodup) {i:Nat} (hi:i<n) {a':Option Addr} {m c':Nat} (hv:vs.getD i undef= .slice a' m c')
  {row:List Value} (ho:w'.ownsRow 0 113 3 (.slice a' m c') m row) (hg:w.grownBy w' (ze a')):OwnT w' a n c vs (rows.set i row):=by
 rw[zge,List.nodup_append] at hnd;obtain⟨_,hn2,hn3⟩:=hnd;have hvl:=h.vlen;refine⟨za0 h.out λk hk hl=>hg.block k hl (λe=> ?_),by simp[h.len],λj hj=> ?_⟩
 ·rw[zO] at hk;refine hn3 k (by simp[hk]) k (zeK (i:=i) (by omega) ?_) rfl;rw[hv,zO];exact e.symm
 ·by_cases e:i=j
  ·subst e;refine⟨a',m,c',hv,?_⟩;have:(rows.set i row).getD i []=row:=(by simp[List.getD,h.len,hi]);rw[this];exact ho
  ·obtain⟨a2,m2,c2,hv2,ho2⟩:=h.inn j hj;refine⟨a2,m2,c2,hv2,?_⟩;have:(rows.set i row).getD j []=rows.getD j []:=(by simp[List.getD,e]);rw[this];refine za0 ho2 λk hk hl=>hg.block k hl (λe'=> ?_);refine e (zgI (k:=k) hn2 (by omega) (by omega) ?_ ?_:i=j)
   ·rw[hv,zO];exact e'.symm
   ·rw[hv2];exact hk
theorem zhZ (n c:Nat) (a:Option Addr) (vs:List Value) (rows:List (List Value)) (k0:Int) (w:World) (hn:n<=1048576) (hk0:0<=k0) (hk1:k0+flen rows<=1099511627776) (hin:∀i,(rows.getD i []).length<=3145728)
  (h1:OwnT w a n c vs rows) (hnd:(fpT a vs).Nodup):
  Calls Tryz.prog 37 #[.slice a n c,.int .i64 k0] w λe w'=>e= .returned (.int .i64 (k0+flen rows))/\OwnT w' a n c vs (zaZ k0 rows)/\zi (fpV vs) w w':=by
 have HL:=xH1 h1.len;have HV:=xH1 h1.vlen;have HI:=xH1 hin;have HND:=xH1 hnd;clear hin hnd;go_enter Tryz.func37,Tryz.ntmps37;go_wp2
 go_loopw [1,5] (λq i wr=>∃(k f:Nat),k<=n/\i= .int .i64 k/\Hid (f=flen (rows.take k))/\q= .int .i64 (k0+f)/\OwnT wr a n c vs (zaZ k0 (rows.take k)++rows.drop k)/\zi (fpV vs) w wr) (λ_ i _=>n-(intOf i).toNat)
 case atStart=>exact⟨0,0,by omega,rfl,xH1 rfl,by simp,by simpa[zaZ] using h1,zi.refl _ _⟩
 case round=>
  obtain⟨k,f,hk,rfl,hf,rfl,hown,ht⟩:=hrel;by_cases hlt:k<n
  ·obtain⟨g,rfl,_,_⟩:=zaf hown.out (by omega);obtain⟨a',m,c',hv,ho⟩:=hown.inn k hlt;have hcell:wr.cell? ⟨g,k,none⟩=some (.slice a' m c'):=by
    rw[hown.out.cellAt k (by omega),<-hv];have:=HV.out;simp[List.getD,show k<vs.length by omega]
   have hrow:(zaZ k0 (rows.take k)++rows.drop k).getD k []=rows.getD k []:=by
    have hl:=HL.out;have hm:(zaZ k0 (rows.take k)).length=k:=by rw[zea];simp;omega
    simp only[xDa];rw[List.getElem?_append_right (by omega),hm];simp
   rw[hrow] at ho;obtain⟨r,hr⟩:∃r,r=rows.getD k []:=⟨_,rfl⟩
   rw[<-hr] at ho;have HR:=xH1 hr;have HO:=xH1 hown;have HVk:=xH1 hv;have hfle:=zif rows (k+1);rw[zdM rows k (by have:=HL.out;omega),zg8,<-hr,<-hf.out] at hfle;have hmle:m<=1048576:=by
    have:=HI.out k;rw[<-hr] at this;have:=ho.1;omega
   clear hown hv hrow hr;go_wp2_with fail;refine(ziW 0 m c' a' r _ _ (by omega) (by omega) (by omega) ho).mono ?_;rintro e w2 ⟨rfl,ho2,hg2⟩;have hup:=HO.out.update HND.out hlt HVk.out ho2 hg2;have HUP:=xH1 hup;have HG:=xH1 hg2;clear ho ho2 hg2 hup;go_wp2
   go_roundw
   case rel=>
    have hl:=HL.out;refine⟨k+1,f+r.length,by omega,by go_num,xH1 ?_,by go_num,?_,ht.trans (zi.of_grown HG.out (λq hq=>zeK (i:=k) (by have:=HV.out;omega) (by rw[HVk.out,zO];exact hq)))⟩
    ·rw[zdM rows k (by omega),zg8,<-HR.out,<-hf.out]
    ·have e:(zaZ k0 (rows.take k)++rows.drop k).set k (ints (seq (k0+f) r.length))=zaZ k0 (rows.take (k+1))++rows.drop (k+1):=by
      have hm:(zaZ k0 (rows.take k)).length=k:=by rw[zea];simp;omega
      rw[zdM rows k (by omega),ze6,List.set_append,if_neg (by omega),hm,Nat.sub_self,List.drop_eq_getElem_cons (show k<rows.length by omega),List.set_cons_zero,<-hf.out,<-HR.out];simp
     rw[<-e];exact HUP.out
   case measure=>simp[intOf];omega
  ·have hkn:k=n:=(by omega);subst hkn;go_wp2;go_ret;have hl:=HL.out;have e1:rows.take k=rows:=xDt (by omega);have e2:rows.drop k=[]:=List.drop_of_length_le (by omega);rw[e1,e2,List.append_nil] at hown;refine⟨zd6 ?_,hown,ht⟩;rw[hf.out,e1]
def zcg.mark (C:zcg) (k:Int):zcg:=
 ⟨ints (seq k C.s.length),ints (seq (k+C.s.length) C.g.length),ints (seq (k+C.s.length+C.g.length) C.b.length),ints (seq (k+C.s.length+C.g.length+C.b.length) C.r.length),
 zaZ (k+C.s.length+C.g.length+C.b.length+C.r.length) C.t⟩
def zcg.size (C:zcg):Nat:=C.s.length+C.g.length+C.b.length+C.r.length+flen C.t
theorem zcW {o:Option Nat} {l:List Nat} (h:(o.toList++l).Nodup):l.Nodup/\∀k,o=some k->k∉l:=by
 rw[List.nodup_append] at h;exact⟨h.2.1,λk hk hm=>h.2.2 k (by simp[hk]) k hm rfl⟩
structure zjc (v:PV) (vs:List Value):Prop where
 sg:∀k,ze v.s=some k->ze v.g=some k->False
 sb:∀k,ze v.s=some k->ze v.b=some k->False
 sr:∀k,ze v.s=some k->ze v.r=some k->False
 st:∀k,ze v.s=some k->k∈fpT v.t vs->False
 gb:∀k,ze v.g=some k->ze v.b=some k->False
 gr:∀k,ze v.g=some k->ze v.r=some k->False
 gt:∀k,ze v.g=some k->k∈fpT v.t vs->False
 br:∀k,ze v.b=some k->ze v.r=some k->False
 bt:∀k,ze v.b=some k->k∈fpT v.t vs->False
 rt:∀k,ze v.r=some k->k∈fpT v.t vs->False
 tt:(fpT v.t vs).Nodup
theorem zjc.of {v:PV} {vs:List Value} (h:(fpP v vs).Nodup):zjc v vs:=by
 unfold fpP at h;obtain⟨h1,n1⟩:=zcW h;obtain⟨h2,n2⟩:=zcW h1;obtain⟨h3,n3⟩:=zcW h2;obtain⟨h4,n4⟩:=zcW h3;refine⟨λk a b=>n1 k a ?_,λk a b=>n1 k a ?_,λk a b=>n1 k a ?_,λk a b=>n1 k a ?_,λk a b=>n2 k a ?_,λk a b=>n2 k a ?_,λk a b=>n2 k a ?_,λk a b=>n3 k a ?_,λk a b=>n3 k a ?_,λk a b=>n4 k a b,h4⟩
 all_goals simp[b]
theorem zio (v:PV) (vs:List Value) (C:zcg) (k0:Int) (w:World) (hO:OwnP w v vs C) (hnd:(fpP v vs).Nodup) (hk0:0<=k0) (hk1:k0+C.size<=1099511627776)
  (hs:v.ns<=1048576/\v.ng<=1048576/\v.nb<=1048576/\v.nr<=1048576/\v.nt<=1048576) (hin:∀i,(C.t.getD i []).length<=3145728):
  Calls Tryz.prog 15 #[.agg (pvC v),.int .i64 k0] w λe w'=>e= .returned (.int .i64 (k0+C.size))/\OwnP w' v vs (C.mark k0)/\zi (fpP v vs) w w':=by
 obtain⟨z1,z2,z3,z4,z5⟩:=hs;have HA:=xH1 (zjc.of hnd);have HI:=xH1 hin;obtain⟨os,og,ob,orr,ot⟩:=hO;have l1:C.s.length=v.ns:=by have:=os.1;omega
 have l2:C.g.length=v.ng:=by have:=og.1;omega
 have l3:C.b.length=v.nb:=by have:=ob.1;omega
 have l4:C.r.length=v.nr:=by have:=orr.1;omega
 have HS:Hid (C.size=v.ns+v.ng+v.nb+v.nr+flen C.t):=xH1 (by unfold zcg.size;omega);rw[HS.out] at hk1;have HL:=xH1 (show C.s.length=v.ns/\C.g.length=v.ng/\C.b.length=v.nb/\C.r.length=v.nr from⟨l1,l2,l3,l4⟩);have b0:xW w (w.alloc (.cells (pvC v) 40)):=xA1;have kA0:=Blk.new w (pvC v) 40;have rs:=xH1 (zp os);have rg:=xH1 (zp og);have rb:=xH1 (zp ob);have rr:=xH1 (zp orr);have rt:=xH1 ot.lt;have T0:zi (fpP v vs) w (w.alloc (.cells (pvC v) 40)):=zi.of_below b0;replace os:=zf os b0;replace og:=zf og b0;replace ob:=zf ob b0;replace orr:=zf orr b0;replace ot:=ot.keep (λk hk hl=>b0.block k hl);clear hnd hin l1 l2 l3 l4 b0;go_enter Tryz.func15,Tryz.ntmps15;go_wp2_with fail;refine(zat 0 v.ns v.cs v.s _ (k0) _ (by omega) (by omega) (by omega) os).mono ?_;rintro e w1 ⟨rfl,m1,g1⟩;replace og:=zo og g1 (λk e1 e2=>HA.out.sg k e2 e1);replace ob:=zo ob g1 (λk e1 e2=>HA.out.sb k e2 e1);replace orr:=zo orr g1 (λk e1 e2=>HA.out.sr k e2 e1);replace os:=m1;replace ot:=ot.keep (λk hk hl=>g1.block k hl (λe=>HA.out.st k e.symm hk));have kA1:=kA0.grown g1 (λe=>by have:=rs.out _ e;omega);have ca1:=kA1.cell 1 rfl
 have T1:=T0.trans (zi.of_grown g1 (S:=fpP v vs) (λk hk=>by unfold fpP;simp[hk]));clear g1 m1;go_wp2_with fail;refine(zat 0 v.ng v.cg v.g _ (k0+(v.ns:Nat)) _ (by omega) (by omega) (by omega) og).mono ?_;rintro e w2 ⟨rfl,m2,g2⟩;replace os:=zo os g2 (λk e1 e2=>HA.out.sg k e1 e2);replace ob:=zo ob g2 (λk e1 e2=>HA.out.gb k e2 e1);replace orr:=zo orr g2 (λk e1 e2=>HA.out.gr k e2 e1);replace og:=m2;replace ot:=ot.keep (λk hk hl=>g2.block k hl (λe=>HA.out.gt k e.symm hk));have kA2:=kA1.grown g2 (λe=>by have:=rg.out _ e;omega);have ca2:=kA2.cell 2 rfl;have T2:=T1.trans (zi.of_grown g2 (S:=fpP v vs) (λk hk=>by unfold fpP;simp[hk]));clear g2 m2;go_wp2_with fail;refine(zat 0 v.nb v.cb v.b _ (k0+(v.ns:Nat)+(v.ng:Nat)) _ (by omega) (by omega) (by omega) ob).mono ?_;rintro e w3 ⟨rfl,m3,g3⟩;replace os:=zo os g3 (λk e1 e2=>HA.out.sb k e1 e2);replace og:=zo og g3 (λk e1 e2=>HA.out.gb k e1 e2);replace orr:=zo orr g3 (λk e1 e2=>HA.out.br k e2 e1);replace ob:=m3;replace ot:=ot.keep (λk hk hl=>g3.block k hl (λe=>HA.out.bt k e.symm hk));have kA3:=kA2.grown g3 (λe=>by have:=rb.out _ e;omega);have ca3:=kA3.cell 3 rfl
 have T3:=T2.trans (zi.of_grown g3 (S:=fpP v vs) (λk hk=>by unfold fpP;simp[hk]));clear g3 m3;go_wp2_with fail;refine(zat 0 v.nr v.cr v.r _ (k0+(v.ns:Nat)+(v.ng:Nat)+(v.nb:Nat)) _ (by omega) (by omega) (by omega) orr).mono ?_;rintro e w4 ⟨rfl,m4,g4⟩;replace os:=zo os g4 (λk e1 e2=>HA.out.sr k e1 e2);replace og:=zo og g4 (λk e1 e2=>HA.out.gr k e1 e2);replace ob:=zo ob g4 (λk e1 e2=>HA.out.br k e1 e2);replace orr:=m4;replace ot:=ot.keep (λk hk hl=>g4.block k hl (λe=>HA.out.rt k e.symm hk));have kA4:=kA3.grown g4 (λe=>by have:=rr.out _ e;omega);have ca4:=kA4.cell 4 rfl;have T4:=T3.trans (zi.of_grown g4 (S:=fpP v vs) (λk hk=>by unfold fpP;simp[hk]));clear g4 m4;go_wp2_with fail;refine(zhZ v.nt v.ct v.t vs C.t (k0+(v.ns:Nat)+(v.ng:Nat)+(v.nb:Nat)+(v.nr:Nat)) _ z5 (by omega) (by omega) HI.out ot HA.out.tt).mono ?_;rintro e w5 ⟨rfl,m5,t5⟩;have nt:∀k,k∈fpV vs->k∈fpT v.t vs:=λk hk=>by rw[zge];exact xQ1 (.inr hk)
 replace os:=zj os t5 (λk e1 e2=>HA.out.st k e1 (nt k e2));replace og:=zj og t5 (λk e1 e2=>HA.out.gt k e1 (nt k e2));replace ob:=zj ob t5 (λk e1 e2=>HA.out.bt k e1 (nt k e2));replace orr:=zj orr t5 (λk e1 e2=>HA.out.rt k e1 (nt k e2));have T5:=T4.trans (t5.mono (S':=fpP v vs) (λk hk=>by have:=nt k hk;unfold fpP;simp[this]));go_wp2;go_ret;obtain⟨l1,l2,l3,l4⟩:=HL.out;refine⟨zd6 (by rw[HS.out];omega),⟨?_,?_,?_,?_,?_⟩,T5⟩
 all_goals (unfold zcg.mark;simp only[l1,l2,l3,l4];assumption)
theorem zgu (a:Option Addr) (n c:Nat) (left:Int) (w:World) (hn:n<=maxLen) (h0:0<=left) (h1:left<=1048576):
  Calls Tryz.prog 25 #[.slice a n c,.int .i64 left] w λe w'=>e= .returned (.int .i64 (if left<n then-1 else left-n))/\w'=w:=by
 unfold maxLen at hn;by_cases h:left<n
 ·rw[if_pos h];have h':left-n<0:=by omega
  go_enter Tryz.func25,Tryz.ntmps25;go_wp2;go_ret;exact⟨rfl,rfl⟩
 ·rw[if_neg h];have h':¬left-n<0:=by omega
  go_enter Tryz.func25,Tryz.ntmps25;go_wp2;go_ret;exact⟨rfl,rfl⟩
theorem zdQ (a:Option Addr) (n c:Nat) (left:Int) (w:World) (hn:n<=maxLen) (h0:0<=left) (h1:left<=1048576) (h:left<n):
  Calls Tryz.prog 25 #[.slice a n c,.int .i64 left] w λe w'=>e= .returned (.int .i64 (-1))/\w'=w:=by
 have:=zgu a n c left w hn h0 h1;rwa [if_pos h] at this
theorem zaK (a:Option Addr) (n c:Nat) (left:Int) (w:World) (hn:n<=maxLen) (h0:0<=left) (h1:left<=1048576) (h:¬left<n):
  Calls Tryz.prog 25 #[.slice a n c,.int .i64 left] w λe w'=>e= .returned (.int .i64 (left-n))/\w'=w:=by
 have:=zgu a n c left w hn h0 h1;rwa [if_neg h] at this
theorem zhg (a:Option Addr) (n c:Nat) (left:Int) (w:World) (hn:n<=maxLen) (h0:0<=left) (h1:left<=1048576):
  Calls Tryz.prog 47 #[.slice a n c,.int .i64 left] w λe w'=>e= .returned (.int .i64 (if left<n then-1 else left-n))/\w'=w:=by
 unfold maxLen at hn;by_cases h:left<n
 ·rw[if_pos h];have h':left-n<0:=by omega
  go_enter Tryz.func47,Tryz.ntmps47;go_wp2;go_ret;exact⟨rfl,rfl⟩
 ·rw[if_neg h];have h':¬left-n<0:=by omega
  go_enter Tryz.func47,Tryz.ntmps47;go_wp2;go_ret;exact⟨rfl,rfl⟩
theorem zjZ (a:Option Addr) (n c:Nat) (left:Int) (w:World) (hn:n<=maxLen) (h0:0<=left) (h1:left<=1048576) (h:left<n):
  Calls Tryz.prog 47 #[.slice a n c,.int .i64 left] w λe w'=>e= .returned (.int .i64 (-1))/\w'=w:=by
 have:=zhg a n c left w hn h0 h1;rwa [if_pos h] at this
theorem zjd (a:Option Addr) (n c:Nat) (left:Int) (w:World) (hn:n<=maxLen) (h0:0<=left) (h1:left<=1048576) (h:¬left<n):
  Calls Tryz.prog 47 #[.slice a n c,.int .i64 left] w λe w'=>e= .returned (.int .i64 (left-n))/\w'=w:=by
 have:=zhg a n c left w hn h0 h1;rwa [if_neg h] at this
def tlen (ts:List (List OpD)) (k:Nat):Nat:=((ts.take k).map List.length).sum
theorem zfj (ts:List (List OpD)) (k:Nat) (hk:k<ts.length):tlen ts (k+1)=tlen ts k+(ts.getD k []).length:=by
 unfold tlen;rw[List.take_add_one,xDb hk,xDr,List.sum_append];simp[List.getD,hk]
theorem zi5 (ts:List (List OpD)) (k:Nat):tlen ts k<=tlen ts ts.length:=by
 unfold tlen;have e:ts.take ts.length=ts.take k++ts.drop k:=by rw[List.take_append_drop,List.take_length]
 rw[e,xDr,List.sum_append];omega
theorem zgl (a:Option Addr) (n c:Nat) (ts:List (List OpD)) (vs:List Value) (left:Int) (w:World) (hl:ts.length=n) (hn:n<=maxLen) (hin:∀i,(ts.getD i []).length<=maxLen) (h0:0<=left) (h1:left<=1048576) (hr:RdT w a ts vs):
  Calls Tryz.prog 26 #[.slice a n c,.int .i64 left] w λe w'=>e= .returned (.int .i64 (if left<n+tlen ts n then-1 else left-n-tlen ts n))/\w'=w:=by
 unfold maxLen at hn;have HL:=xH1 hl;have HI:=xH1 hin;clear hl hin;by_cases h:left<n
 ·have e:(if left<(n:Int)+(tlen ts n:Nat) then (-1:Int) else left-n-(tlen ts n:Nat))= -1:=if_pos (by omega);rw[e];have h':left-n<0:=by omega
  go_enter Tryz.func26,Tryz.ntmps26;go_wp2;go_ret;exact⟨rfl,rfl⟩
 ·have h':¬left-n<0:=by omega
  generalize hE:(if left<(n:Int)+(tlen ts n:Nat) then (-1:Int) else left-n-(tlen ts n:Nat))=E;have HE:=xH1 hE;clear hE;go_enter Tryz.func26,Tryz.ntmps26;go_wp2
  go_loop [1,5] (λv i=>∃(k t:Nat),k<=n/\i= .int .i64 k/\Hid (t=tlen ts k)/\v= .int .i64 (left-n-t)/\0<=left-n-t) (λ_ i=>n-(intOf i).toNat)
  case atStart=>exact⟨0,0,by omega,rfl,xH1 rfl,by simp,by omega⟩
  case round=>
   obtain⟨k,t,hk,rfl,ht,rfl,hpos⟩:=hrel;by_cases hlt:k<n
   ·obtain⟨b1,o1,rfl,g1⟩:=hr.thread (by have:=HL.out;omega);obtain⟨a',c',gc,_⟩:=g1 k (by have:=HL.out;omega);obtain⟨m,hm⟩:∃m,m=(ts.getD k []).length:=⟨_,rfl⟩
    rw[<-hm] at gc;have hmm:m<=maxLen:=by rw[hm];exact HI.out k
    have HM:=xH1 hm;clear g1 hm;by_cases hf:left-n-t<m
    ·go_wp2_with fail;refine(zjZ a' m c' _ _ hmm (by omega) (by omega) hf).mono ?_;rintro e w1 ⟨rfl,rfl⟩;go_wp2;go_ret;refine⟨zd6 ?_,rfl⟩;rw[<-HE.out,if_pos];have h2:=zfj ts k (by have:=HL.out;omega);have h3:=zi5 ts (k+1);rw[HL.out] at h3;have:=HM.out;have:=ht.out;omega
    ·go_wp2_with fail;refine(zjd a' m c' _ _ hmm (by omega) (by omega) (by omega)).mono ?_;rintro e w1 ⟨rfl,rfl⟩;have hf':¬left-n-t-m<0:=(by omega);go_wp2
     go_round
     case rel=>exact⟨k+1,t+m,by omega,by go_num,xH1 (by rw[zfj ts k (by have:=HL.out;omega),<-HM.out,<-ht.out]),by go_num,by omega⟩
     case measure=>simp[intOf];omega
   ·have hkn:k=n:=(by omega);subst hkn;go_wp2;go_ret;refine⟨zd6 ?_,rfl⟩;rw[<-HE.out,if_neg (by have:=ht.out;omega),ht.out]
structure Lens (v:PV) (p:Pg):Prop where
 ls:v.ns<=maxLen
 lg:v.ng<=maxLen
 lb:v.nb<=maxLen
 lr:v.nr<=maxLen
 lt:v.nt<=maxLen
 inn:∀i,(p.threads.getD i []).length<=maxLen
def zdR (v:PV) (p:Pg):Nat:=v.ns+v.ng+v.nb+v.nr+v.nt+tlen p.threads v.nt
theorem zjl (a:Option Addr) (n c:Nat) (ts:List (List OpD)) (vs:List Value) (left:Int) (w:World) (hl:ts.length=n) (hn:n<=maxLen) (hin:∀i,(ts.getD i []).length<=maxLen) (h0:0<=left) (h1:left<=1048576) (h:left<n+(tlen ts n:Nat)) (hr:RdT w a ts vs):
  Calls Tryz.prog 26 #[.slice a n c,.int .i64 left] w λe w'=>e= .returned (.int .i64 (-1))/\w'=w:=by
 have:=zgl a n c ts vs left w hl hn hin h0 h1 hr;rwa [if_pos h] at this
theorem ziF (a:Option Addr) (n c:Nat) (ts:List (List OpD)) (vs:List Value) (left:Int) (w:World) (hl:ts.length=n) (hn:n<=maxLen) (hin:∀i,(ts.getD i []).length<=maxLen) (h0:0<=left) (h1:left<=1048576) (h:¬left<n+(tlen ts n:Nat)) (hr:RdT w a ts vs):
  Calls Tryz.prog 26 #[.slice a n c,.int .i64 left] w λe w'=>e= .returned (.int .i64 (left-n-(tlen ts n:Nat)))/\w'=w:=by
 have:=zgl a n c ts vs left w hl hn hin h0 h1 hr;rwa [if_neg h] at this
theorem zjb (v:PV) (p:Pg) (w:World) (hr:RdP w v p) (hz:Lens v p) (h:1048576<zdR v p):
  Calls Tryz.prog 7 #[.agg (pvC v),.int .i64 1048576] w λe w'=>e= .returned (.int .i64 (-1))/\xW w w':=by
 unfold zdR at h;obtain⟨vs,hvs⟩:=hr.rt;have HT:=xH1 hr.lt;by_cases c0:1048576<v.ns
 ·go_enter Tryz.func7,Tryz.ntmps7;go_wp2_with fail;refine(zdQ v.s v.ns v.cs _ _ hz.ls (by omega) (by omega) (by omega)).mono ?_;rintro e w0 ⟨rfl,rfl⟩;go_wp2;go_ret;exact⟨rfl,xA1⟩
 by_cases c1:1048576-v.ns<v.ng
 ·have k0:¬(1048576-(v.ns:Nat):Int)<0:=by omega
  go_enter Tryz.func7,Tryz.ntmps7;go_wp2_with fail;refine(zaK v.s v.ns v.cs _ _ hz.ls (by omega) (by omega) (by omega)).mono ?_;rintro e w0 ⟨rfl,rfl⟩;go_wp2_with fail;refine(zdQ v.g v.ng v.cg _ _ hz.lg (by omega) (by omega) (by omega)).mono ?_;rintro e w1 ⟨rfl,rfl⟩;go_wp2;go_ret;exact⟨rfl,xA1⟩
 by_cases c2:1048576-v.ns-v.ng<v.nb
 ·have k0:¬(1048576-(v.ns:Nat):Int)<0:=by omega
  have k1:¬(1048576-(v.ns:Nat)-(v.ng:Nat):Int)<0:=by omega
  go_enter Tryz.func7,Tryz.ntmps7;go_wp2_with fail;refine(zaK v.s v.ns v.cs _ _ hz.ls (by omega) (by omega) (by omega)).mono ?_;rintro e w0 ⟨rfl,rfl⟩;go_wp2_with fail;refine(zaK v.g v.ng v.cg _ _ hz.lg (by omega) (by omega) (by omega)).mono ?_;rintro e w1 ⟨rfl,rfl⟩;go_wp2_with fail;refine(zdQ v.b v.nb v.cb _ _ hz.lb (by omega) (by omega) (by omega)).mono ?_;rintro e w2 ⟨rfl,rfl⟩;go_wp2;go_ret;exact⟨rfl,xA1⟩
 by_cases c3:1048576-v.ns-v.ng-v.nb<v.nr
 ·have k0:¬(1048576-(v.ns:Nat):Int)<0:=by omega
  have k1:¬(1048576-(v.ns:Nat)-(v.ng:Nat):Int)<0:=by omega
  have k2:¬(1048576-(v.ns:Nat)-(v.ng:Nat)-(v.nb:Nat):Int)<0:=by omega
  go_enter Tryz.func7,Tryz.ntmps7;go_wp2_with fail;refine(zaK v.s v.ns v.cs _ _ hz.ls (by omega) (by omega) (by omega)).mono ?_;rintro e w0 ⟨rfl,rfl⟩;go_wp2_with fail;refine(zaK v.g v.ng v.cg _ _ hz.lg (by omega) (by omega) (by omega)).mono ?_;rintro e w1 ⟨rfl,rfl⟩;go_wp2_with fail;refine(zaK v.b v.nb v.cb _ _ hz.lb (by omega) (by omega) (by omega)).mono ?_;rintro e w2 ⟨rfl,rfl⟩;go_wp2_with fail;refine(zdQ v.r v.nr v.cr _ _ hz.lr (by omega) (by omega) (by omega)).mono ?_;rintro e w3 ⟨rfl,rfl⟩;go_wp2;go_ret;exact⟨rfl,xA1⟩
 ·have k0:¬(1048576-(v.ns:Nat):Int)<0:=by omega
  have k1:¬(1048576-(v.ns:Nat)-(v.ng:Nat):Int)<0:=by omega
  have k2:¬(1048576-(v.ns:Nat)-(v.ng:Nat)-(v.nb:Nat):Int)<0:=by omega
  have k3:¬(1048576-(v.ns:Nat)-(v.ng:Nat)-(v.nb:Nat)-(v.nr:Nat):Int)<0:=by omega
  go_enter Tryz.func7,Tryz.ntmps7;go_wp2_with fail;refine(zaK v.s v.ns v.cs _ _ hz.ls (by omega) (by omega) (by omega)).mono ?_;rintro e w0 ⟨rfl,rfl⟩;go_wp2_with fail;refine(zaK v.g v.ng v.cg _ _ hz.lg (by omega) (by omega) (by omega)).mono ?_;rintro e w1 ⟨rfl,rfl⟩;go_wp2_with fail;refine(zaK v.b v.nb v.cb _ _ hz.lb (by omega) (by omega) (by omega)).mono ?_;rintro e w2 ⟨rfl,rfl⟩;go_wp2_with fail;refine(zaK v.r v.nr v.cr _ _ hz.lr (by omega) (by omega) (by omega)).mono ?_;rintro e w3 ⟨rfl,rfl⟩;go_wp2_with fail;refine(zjl v.t v.nt v.ct p.threads vs _ _ HT.out hz.lt hz.inn (by omega) (by omega) (by omega) (hvs.below (xA1))).mono ?_;rintro e w4 ⟨rfl,rfl⟩;go_wp2;go_ret;exact⟨rfl,xA1⟩
theorem ziE (v:PV) (p:Pg) (w:World) (hr:RdP w v p) (hz:Lens v p) (h:¬1048576<zdR v p):
  Calls Tryz.prog 7 #[.agg (pvC v),.int .i64 1048576] w λe w'=>∃l:Int,e= .returned (.int .i64 l)/\0<=l/\xW w w':=by
 unfold zdR at h;obtain⟨vs,hvs⟩:=hr.rt;have HT:=xH1 hr.lt;have k0:¬(1048576-(v.ns:Nat):Int)<0:=by omega
 have k1:¬(1048576-(v.ns:Nat)-(v.ng:Nat):Int)<0:=by omega
 have k2:¬(1048576-(v.ns:Nat)-(v.ng:Nat)-(v.nb:Nat):Int)<0:=by omega
 have k3:¬(1048576-(v.ns:Nat)-(v.ng:Nat)-(v.nb:Nat)-(v.nr:Nat):Int)<0:=by omega
 have k4:¬(1048576-(v.ns:Nat)-(v.ng:Nat)-(v.nb:Nat)-(v.nr:Nat)-(v.nt:Nat)-(tlen p.threads v.nt:Nat):Int)<0:=by omega
 go_enter Tryz.func7,Tryz.ntmps7;go_wp2_with fail;refine(zaK v.s v.ns v.cs _ _ hz.ls (by omega) (by omega) (by omega)).mono ?_;rintro e w0 ⟨rfl,rfl⟩;go_wp2_with fail;refine(zaK v.g v.ng v.cg _ _ hz.lg (by omega) (by omega) (by omega)).mono ?_;rintro e w1 ⟨rfl,rfl⟩;go_wp2_with fail;refine(zaK v.b v.nb v.cb _ _ hz.lb (by omega) (by omega) (by omega)).mono ?_;rintro e w2 ⟨rfl,rfl⟩;go_wp2_with fail;refine(zaK v.r v.nr v.cr _ _ hz.lr (by omega) (by omega) (by omega)).mono ?_;rintro e w3 ⟨rfl,rfl⟩;go_wp2_with fail;refine(ziF v.t v.nt v.ct p.threads vs _ _ HT.out hz.lt hz.inn (by omega) (by omega) (by omega) (hvs.below (xA1))).mono ?_;rintro e w4 ⟨rfl,rfl⟩;go_wp2;go_ret;exact⟨_,rfl,by omega,xA1⟩
theorem zj5 (x:OpD) (w:World):
  Calls Tryz.prog 126 #[.agg #[.int .i64 x.kind,.int .i64 x.on,.int .i64 x.arg],.agg #[.int .i64 x.kind,.int .i64 x.on,.int .i64 x.arg]] w λe w'=>e= .returned (.bool true)/\xW w w':=by
 go_enter Tryz.func126,Tryz.ntmps126;go_wp2;go_ret;exact⟨rfl,(xA1).alloc (by simp) _⟩
theorem zjW (a1 a2:Option Addr) (n c1 c2:Nat) (xs:List OpD) (w:World) (hn:n<=1099511627776) (hl:xs.length=n) (h1:Rd w a1 (opsV xs)) (h2:Rd w a2 (opsV xs)):
  Calls Tryz.prog 69 #[.slice a1 n c1,.slice a2 n c2] w λe w'=>e= .returned (.bool true)/\xW w w':=by
 have HL:=xH1 hl;clear hl;go_enter Tryz.func69,Tryz.ntmps69;go_wp2
 go_loopw [5] (λi wr=>∃k:Nat,k<=n/\i= .int .i64 k/\xW w wr) (λi _=>n-(intOf i).toNat)
 case atStart=>exact⟨0,by omega,rfl,Below.refl _ _⟩
 case round=>
  obtain⟨k,hk,rfl,hb⟩:=hrel;by_cases hlt:k<n
  ·obtain⟨b1,o1,rfl,g1'⟩:=(h1.below hb).op (by have:=HL.out;omega);obtain⟨b2,o2,rfl,g2'⟩:=(h2.below hb).op (by have:=HL.out;omega);obtain⟨g1a,g1b,g1c⟩:=g1' k (by have:=HL.out;omega);obtain⟨g2a,g2b,g2c⟩:=g2' k (by have:=HL.out;omega);obtain⟨x,hx⟩:∃x,x=xs.getD k noOp:=⟨_,rfl⟩
   rw[<-hx] at g1a g1b g1c g2a g2b g2c;clear g1' g2' hx;go_wp2;go_still_tail 8,(by kernel_rfl)
   go_wp2_with fail;refine(zj5 x wr.drew).mono ?_;rintro e w2 ⟨rfl,b2'⟩;go_wp2
   go_roundw
   case rel=>exact⟨k+1,by omega,by go_num,hb.drew.trans (b2'.mono hb.size)⟩
   case measure=>simp[intOf];omega
  ·have hkm:k=n:=(by omega);subst hkm;go_wp2;go_ret;exact⟨rfl,hb⟩
theorem zjA (a1 a2:Option Addr) (n c1 c2:Nat) (ts:List (List OpD)) (us1 us2:List Value) (w:World) (hn:n<=1099511627776) (hl:ts.length=n) (hin:∀i,(ts.getD i []).length<=1099511627776) (h1:RdT w a1 ts us1) (h2:RdT w a2 ts us2):
  Calls Tryz.prog 36 #[.slice a1 n c1,.slice a2 n c2] w λe w'=>e= .returned (.bool true)/\xW w w':=by
 have HL:=xH1 hl;have HI:=xH1 hin;clear hl hin;go_enter Tryz.func36,Tryz.ntmps36;go_wp2
 go_loopw [5] (λi wr=>∃k:Nat,k<=n/\i= .int .i64 k/\xW w wr) (λi _=>n-(intOf i).toNat)
 case atStart=>exact⟨0,by omega,rfl,Below.refl _ _⟩
 case round=>
  obtain⟨k,hk,rfl,hb⟩:=hrel;by_cases hlt:k<n
  ·obtain⟨b1,o1,rfl,g1'⟩:=(h1.below hb).thread (by have:=HL.out;omega);obtain⟨b2,o2,rfl,g2'⟩:=(h2.below hb).thread (by have:=HL.out;omega);obtain⟨x1,y1,g1,r1⟩:=g1' k (by have:=HL.out;omega);obtain⟨x2,y2,g2,r2⟩:=g2' k (by have:=HL.out;omega);obtain⟨m,hm⟩:∃m,m=(ts.getD k []).length:=⟨_,rfl⟩
   rw[<-hm] at g1 g2;have hmm:=HI.out k;rw[<-hm] at hmm;have HM:=xH1 hm;clear g1' g2' hm;go_wp2;go_still_tail 8,(by kernel_rfl)
   go_wp2_with fail;refine(zjW x1 x2 m y1 y2 (ts.getD k []) wr.drew hmm HM.out.symm r1 r2).mono ?_;rintro e w2 ⟨rfl,b2'⟩;go_wp2
   go_roundw
   case rel=>exact⟨k+1,by omega,by go_num,hb.drew.trans (b2'.mono hb.size)⟩
   case measure=>simp[intOf];omega
  ·have hkm:k=n:=(by omega);subst hkm;go_wp2;go_ret;exact⟨rfl,hb⟩
theorem Blk.dn {w w':World} {b:Nat} {cs:Array Value} {t:TypeId} (h:Blk w b cs t) (d:∃n,w'=w.drewN n):Blk w' b cs t:=by
 obtain⟨n,rfl⟩:=d;exact h
structure zbB (v:PV) (p:Pg):Prop where
 ls:v.ns<=1048576
 lg:v.ng<=1048576
 lb:v.nb<=1048576
 lr:v.nr<=1048576
 lt:v.nt<=1048576
 inn:∀i,(p.threads.getD i []).length<=1048576
theorem zjv (v u:PV) (p:Pg) (w:World) (hv:RdP w v p) (hu:RdP w u p) (hz:zbB v p):
  Calls Tryz.prog 13 #[.agg (pvC v),.agg (pvC u)] w λe w'=>e= .returned (.bool true)/\xW w w':=by
 have e1:u.ns=v.ns:=by rw[<-hu.ls,hv.ls]
 have e2:u.ng=v.ng:=by rw[<-hu.lg,hv.lg]
 have e3:u.nb=v.nb:=by rw[<-hu.lb,hv.lb]
 have e4:u.nr=v.nr:=by rw[<-hu.lr,hv.lr]
 have e5:u.nt=v.nt:=by rw[<-hu.lt,hv.lt]
 obtain⟨us1,hus1⟩:=hv.rt;obtain⟨us2,hus2⟩:=hu.rt;obtain⟨uS,uns,ucs,uG,ung,ucg,uB,unb,ucb,uR,unr,ucr,uT,unt,uct⟩:=u;simp only at e1 e2 e3 e4 e5;subst e1 e2 e3 e4 e5;have b0:xW w ((w.alloc (.cells (pvC v) 40)).alloc (.cells #[.slice uS v.ns ucs,.slice uG v.ng ucg,.slice uB v.nb ucb,.slice uR v.nr ucr,.slice uT v.nt uct] 40)):=(xA1).alloc (by simp) _;have ls:=xH1 hv.ls;have lg:=xH1 hv.lg;have lb:=xH1 hv.lb;have lr:=xH1 hv.lr;have lt:=xH1 hv.lt;have kA0:Blk ((w.alloc (.cells (pvC v) 40)).alloc (.cells #[.slice uS v.ns ucs,.slice uG v.ng ucg,.slice uB v.nb ucb,.slice uR v.nr ucr,.slice uT v.nt uct] 40)) w.heap.size (pvC v) 40:=(Blk.new _ _ _).alloc _;have kB0:Blk ((w.alloc (.cells (pvC v) 40)).alloc (.cells #[.slice uS v.ns ucs,.slice uG v.ng ucg,.slice uB v.nb ucb,.slice uR v.nr ucr,.slice uT v.nt uct] 40)) (w.heap.size+1) #[.slice uS v.ns ucs,.slice uG v.ng ucg,.slice uB v.nb ucb,.slice uR v.nr ucr,.slice uT v.nt uct] 40:=by simpa using Blk.new (w.alloc (.cells (pvC v) 40)) #[.slice uS v.ns ucs,.slice uG v.ng ucg,.slice uB v.nb ucb,.slice uR v.nr ucr,.slice uT v.nt uct] 40
 obtain⟨z1,z2,z3,z4,z5,z6⟩:=hz;have Z6:=xH1 z6;clear z6;go_enter Tryz.func13,Tryz.ntmps13;go_wp2_with fail;refine(zde v.s uS v.ns v.cs ucs p.sems _ ls.out (by omega) (hv.rs.below b0) (hu.rs.below b0)).mono ?_;rintro e w1 ⟨rfl,d1⟩;have B1:=b0.trans (zcF d1);have kA1:=kA0.dn d1;have kB1:=kB0.dn d1;have ca1:=kA1.cell 1 rfl;have cb1:=kB1.cell 1 rfl;clear d1;go_wp2_with fail;refine(zde v.g uG v.ng v.cg ucg p.groups _ lg.out (by omega) (hv.rg.below B1) (hu.rg.below B1)).mono ?_;rintro e w2 ⟨rfl,d2⟩;have B2:=B1.trans (zcF d2);have kA2:=kA1.dn d2;have kB2:=kB1.dn d2;have ca2:=kA2.cell 2 rfl;have cb2:=kB2.cell 2 rfl;clear d2;go_wp2_with fail;refine(zde v.b uB v.nb v.cb ucb p.barriers _ lb.out (by omega) (hv.rb.below B2) (hu.rb.below B2)).mono ?_;rintro e w3 ⟨rfl,d3⟩;have B3:=B2.trans (zcF d3);have kA3:=kA2.dn d3;have kB3:=kB2.dn d3;have ca3:=kA3.cell 3 rfl;have cb3:=kB3.cell 3 rfl;clear d3;go_wp2_with fail;refine(zde v.r uR v.nr v.cr ucr p.rooms _ lr.out (by omega) (hv.rr.below B3) (hu.rr.below B3)).mono ?_;rintro e w4 ⟨rfl,d4⟩;have B4:=B3.trans (zcF d4);have kA4:=kA3.dn d4;have kB4:=kB3.dn d4;have ca4:=kA4.cell 4 rfl;have cb4:=kB4.cell 4 rfl;clear d4;go_wp2_with fail
 refine(zjA v.t uT v.nt v.ct uct p.threads us1 us2 _ (by omega) lt.out (λi=>by have:=Z6.out i;omega) (hus1.below B4) (hus2.below B4)).mono ?_;rintro e w5 ⟨rfl,b5⟩;go_wp2;go_ret;exact⟨rfl,B4.trans (b5.mono B4.size)⟩
theorem zin (ts:List (List OpD)) (i:Nat):(ts.getD i []).length<=tlen ts ts.length:=by
 by_cases hi:i<ts.length
 ·have:=zfj ts i hi;have:=zi5 ts (i+1);omega
 ·have:ts.getD i []=[]:=by simp[List.getD,Nat.le_of_not_lt hi]
  rw[this];exact Nat.zero_le _
theorem zkc {w:World} {v:PV} {p:Pg} (hr:RdP w v p) (_hz:Lens v p) (h:¬1048576<zdR v p):zbB v p:=by
 unfold zdR at h;have hl:=hr.lt;refine⟨by omega,by omega,by omega,by omega,by omega,λi=> ?_⟩;have:=zin p.threads i;rw[hl] at this;omega
theorem zbB.at {v u:PV} {p:Pg} {w w':World} (h:zbB v p) (hr:RdP w v p) (hu:RdP w' u p):zbB u p:=
 ⟨by rw[<-hu.ls,hr.ls];exact h.ls,by rw[<-hu.lg,hr.lg];exact h.lg,by rw[<-hu.lb,hr.lb];exact h.lb,by rw[<-hu.lr,hr.lr];exact h.lr,by rw[<-hu.lt,hr.lt];exact h.lt,h.inn⟩
theorem zik:∀ts:List (List OpD),flen (ts.map opsV)=3*(ts.map List.length).sum
 |[]=>rfl
 |t::ts=>by
  simp only[List.map_cons,List.sum_cons];rw[show flen (opsV t::ts.map opsV)=(opsV t).length+flen (ts.map opsV) from rfl,zik ts,zfP];omega
theorem zjC {v:PV} {p:Pg} {w:World} (hr:RdP w v p) (h:¬1048576<zdR v p):p.cells.size<=3145728/\∀i,(p.cells.t.getD i []).length<=3145728:=by
 unfold zdR at h;have e:tlen p.threads v.nt=(p.threads.map List.length).sum:=by unfold tlen;rw[<-hr.lt,List.take_length]
 refine⟨?_,λi=> ?_⟩
 ·unfold zcg.size Pg.cells;simp only[xDf];rw[zik,hr.ls,hr.lg,hr.lb,hr.lr];omega
 ·unfold Pg.cells;by_cases hi:i<p.threads.length
  ·have e:(p.threads.map opsV).getD i []=opsV (p.threads.getD i []):=(by simp[List.getD,hi]);show((p.threads.map opsV).getD i []).length<=_;rw[e,zfP];have:=zin p.threads i;rw[hr.lt] at this;omega
  ·have e:(p.threads.map opsV).getD i []=[]:=(by simp[List.getD,Nat.le_of_not_lt hi]);show((p.threads.map opsV).getD i []).length<=_;rw[e];simp
theorem zB {S:List Nat} {w w':World} {q:Addr} {x:Value} (T:zi S w w') (g:w.cell? q=some x) (hne:q.block∉S):w'.cell? q=some x:=by
 have hlt:=World.block_lt_of_cell? w _ g;rw[World.cell?_of_block (w:=w) (w':=w') (a:=q) (T.block q.block hlt hne)];exact g
theorem zh {P:Program} {o:Oper} {ρ:Operand->Value} {w w':World} {u:Value} {post:Value->World->Prop} (hr:(execOp ρ o).run P w= .ok (.value u) w') (hp:post u w'):zau P o ρ w post:=by
 unfold zau;rw[hr];exact hp
theorem zgy {P:Program} {o:Oper} {ρ:Operand->Value} {w w':World} {post:Value->World->Prop} (hr:(execOp ρ o).run P w= .ok .skip w') (hp:post undef w'):zau P o ρ w post:=by
 unfold zau;rw[hr];exact hp
theorem zac {P:Program} {o:Oper} {ρ:Operand->Value} {w w':World} {f:FuncId} {args:Array Value} {post:Value->World->Prop} (hr:(execOp ρ o).run P w= .ok (.enter f args) w') (hp:Calls P f args w' (λe w''=>∃u,e= .returned u/\post u w'')):zau P o ρ w post:=by
 unfold zau;rw[hr];exact hp
theorem zeQ {P:Program} {w:World} (t ty:TypeId) {B:Nat} {e:TypeId} {z:Value} {size bytes:Nat} (ht:P.underlying t=some (.slice e)) (hinfo:(P.info? e).map (λi=>(i.zero,i.size,i.bytes))=some (some z,size,bytes))
  (hzs:z.cells.size=size) (hsz:0<size) {a:Option Addr} (hown:w.ownsRow B e size (.slice a 0 0) 0 [])
  {a2:Option Addr} {m c2:Nat} {news:List Value} (hl:news.length=m*size) (hsrc:Rd w a2 news) (h1:∀u∈news,u.oneCell'=true) (hbytes:m*bytes<=140737488355328) (hby:0<bytes) (hbase:B<=w.heap.size):
  ∃a' c' w',(Builtin.append_ #[t,t] ty #[.slice a 0 0,.slice a2 m c2]).run P w= .ok (.slice a' m c') w'/\w'.ownsRow B e size (.slice a' m c') m news/\xW w w'/\(0<m->∀k,ze a'=some k->w.heap.size<=k)/\(m=0->c'=0):=by
 obtain⟨i,hi,hz0,hz1,hz2⟩:=info_parts hinfo;have h63:0+m<=maxLen:=by
  have:=Nat.le_trans (Nat.le_mul_of_pos_right m hby) hbytes;simp only[maxLen];omega
 by_cases hm:m=0
 ·subst hm;obtain rfl:news=[]:=List.eq_nil_of_length_eq_zero (by simpa using hl);refine⟨a,0,w,?_,hown,Below.refl _ _,by omega,λ_=>rfl⟩
  cases a2 with
  |none=>exact za4 (P:=P) (w:=w) B t ty e i size ht hi _ 0 [] hown c2
  |some ad=>
   cases a with
   |none=>simp[Builtin.append_,run_underlying ht,sizeOf,typeInfo,hi,Builtin.lenOf,Builtin.firstCells,loadCells,loadCellsFrom]
   |some b=>simp[Builtin.append_,run_underlying ht,sizeOf,typeInfo,hi,Builtin.lenOf,Builtin.firstCells,loadCells,loadCellsFrom,storeCells]
 ·have ha2:∃ad,a2=some ad:=by
   cases a2 with
   |some ad=>exact⟨ad,rfl⟩
   |none=>
    exfalso;obtain⟨b,o',e',_⟩:=hsrc.at (by rw[hl];exact Nat.mul_pos (by omega) hsz)
    cases e'
  obtain⟨ad,rfl⟩:=ha2;have hnews:∀j u,news[j]? =some u->w.cell? (ad.add j)=some u:=by
   intro j u hj;have hjl:j<news.length:=(xDs.1 hj).1;obtain⟨b,o',e',hc⟩:=hsrc.at (by omega)
   cases e'
   rw[Addr.add_lit,hc j hjl];rw[xDa,hj];rfl
  have key:∃v' w',(Builtin.append_ #[t,t] ty #[.slice a 0 0,.slice (some ad) m c2]).run P w= .ok v' w'/\w'.ownsRow w.heap.size e size v' (0+m) ([]++news)/\w.grownBy w' none:=by
   cases a with
   |some b=>exact run_append_arg_grows (P:=P) w t ty e i z size bytes ht hi hz0 hz1 hz2 hzs hsz b 0 0 [] (by simp) (by simp) ad m c2 news hl hnews (by omega) h63 (by simpa using hbytes)
   |none=>
    obtain⟨v',w',hrun,r1,r2,_⟩:=run_append_own (P:=P) w w.heap.size t ty e i z size bytes ht hi hz0 hz1 hz2 hzs hsz (.slice none 0 0) 0 [] (xDi w _ e size) ad m c2 news hl hnews h1 h63 (by simpa using hbytes) xL1;exact⟨v',w',hrun,r1,r2⟩
  obtain⟨v',w',hrun,r1,r2⟩:=key;rw[Nat.zero_add,xDq] at r1;obtain⟨a',c',rfl⟩:=zdr r1;exact⟨a',c',w',hrun,zl r1 hbase,zA r2 xL1 (by simp),λ_ k hk=>(zp r1 k hk).1,λh0=>absurd h0 hm⟩
theorem zag {P:Program} {o:Oper} {ρ:Operand->Value} {w:World} {post:Value->World->Prop} (s x:Operand) (t:TypeId)
  (ho:o.op= .call {callee:= .builtin .append,args:= #[s,x],argTypes:= #[t,t]}) {B:Nat} {e:TypeId} {z:Value} {size bytes:Nat} (ht:P.underlying t=some (.slice e)) (hinfo:(P.info? e).map (λi=>(i.zero,i.size,i.bytes))=some (some z,size,bytes))
  (hzs:z.cells.size=size) (hsz:0<size) {a:Option Addr} (hs:ρ s= .slice a 0 0) (hown:w.ownsRow B e size (.slice a 0 0) 0 [])
  {a2:Option Addr} {m c2:Nat} {news:List Value} (hx:ρ x= .slice a2 m c2) (hl:news.length=m*size) (hsrc:Rd w a2 news) (h1:∀u∈news,u.oneCell'=true) (hbytes:m*bytes<=140737488355328) (hby:0<bytes) (hbase:B<=w.heap.size)
  (h:∀a' c' w',w'.ownsRow B e size (.slice a' m c') m news->xW w w'->(0<m->∀k,ze a'=some k->w.heap.size<=k)->(m=0->c'=0)->post (.slice a' m c') w'):zau P o ρ w post:=by
 obtain⟨a',c',w',hr,h2,h3,h4,h5⟩:=zeQ (P:=P) (c2:=c2) t o.type ht hinfo hzs hsz hown hl hsrc h1 hbytes hby hbase;refine zh (u:= .slice a' m c') (w':=w') ?_ (h a' c' w' h2 h3 h4 h5);unfold execOp;simp only[ho,resolve,invoke,builtin,Sem.run_bind,Sem.run_pure,Result.andThen_ok,List.map_toArray,List.map_cons,List.map_nil,hs,hx,hr]
def Stab (r:List Value->Value->World->Prop):Prop:=∀ds v w w',xW w w'->r ds v w->r ds v w'
def zd4:List (List Value->Value->World->Prop)->Prop
 |[]=>True
 |r::rs=>Stab r/\zd4 rs
theorem zbT:∀{Rs:List (List Value->Value->World->Prop)},zd4 Rs->∀j ds v w w',xW w w'->at' Rs j ds v w->at' Rs j ds v w'
 |[],_,_,_,_,_,_,_,_=>trivial
 |_::_,h,0,ds,v,w,w',hb,hr=>h.1 ds v w w' hb hr
 |_::rs,h,j+1,ds,v,w,w',hb,hr=>zbT (Rs:=rs) h.2 j ds v w w' hb hr
def St1 (i0:Nat) (T:World->World->Prop) (i:Nat) (w w':World):Prop:=if i=i0 then T w w' else xW w w'
def zkH (T:World->World->Prop) (r:List Value->Value->World->Prop):Prop:=∀ds v w w',T w w'->r ds v w->r ds v w'
def zdI (i0:Nat) (T:World->World->Prop):Nat->List (List Value->Value->World->Prop)->Prop
 |_,[]=>True
 |k,r::rs=>(k=i0\/zkH T r)/\zdI i0 T (k+1) rs
theorem zg6 {i0:Nat} {T:World->World->Prop}:∀{Rs:List (List Value->Value->World->Prop)} {k:Nat},zdI i0 T k Rs->∀j ds v w w',k+j≠i0->T w w'->at' Rs j ds v w->at' Rs j ds v w'
 |[],_,_,_,_,_,_,_,_,_,_=>trivial
 |_::_,_,h,0,ds,v,w,w',hne,hT,hr=>h.1.elim (λe=>absurd e hne) (λh=>h ds v w w' hT hr)
 |_::rs,k,h,j+1,ds,v,w,w',hne,hT,hr=>zg6 (Rs:=rs) (k:=k+1) h.2 j ds v w w' (by omega) hT hr
theorem zc1 {i0:Nat} {T:World->World->Prop} {Rs:List (List Value->Value->World->Prop)} (h1:zd4 Rs) (h2:zdI i0 T 0 Rs):∀i j ds v w w',i≠j->St1 i0 T i w w'->at' Rs j ds v w->at' Rs j ds v w':=by
 intro i j ds v w w' hne hS hr;unfold St1 at hS;split at hS
 ·next e=>subst e;exact zg6 h2 j ds v w w' (by omega) hS hr
 ·exact zbT h1 j ds v w w' hS hr
theorem zcZ {i0:Nat} {T:World->World->Prop} (hT:∀w w',T w w'->w.heap.size<=w'.heap.size):∀i w w',St1 i0 T i w w'->w.heap.size<=w'.heap.size:=by
 intro i w w' h;unfold St1 at h;split at h
 ·exact hT _ _ h
 ·exact h.size
theorem zI {i0:Nat} {T:World->World->Prop} {i:Nat} {w w':World} (hne:i≠i0) (h:xW w w'):St1 i0 T i w w':=by
 unfold St1;rw[if_neg hne];exact h
theorem zdw {i0:Nat} {T:World->World->Prop} {w w':World} (h:T w w'):St1 i0 T i0 w w':=by
 unfold St1;rw[if_pos rfl];exact h
def za2 (i0:Nat) (S:List Nat) (W1:World) (L:Nat->Bool) (w:World):Prop:=(L i0=false->xW W1 w)/\zi S W1 w
theorem za2.start (i0:Nat) (S:List Nat) (W1:World):∀L:Nat->Bool,(∀j,L j=false)->za2 i0 S W1 L W1.drew:=λ_ _=>⟨λ_=>xB1.drew,zi.of_below xB1.drew⟩
theorem za2.step {i0:Nat} {S:List Nat} {W1 w w':World} {L:Nat->Bool} (h:za2 i0 S W1 L w) {i:Nat} (_hne:i≠i0) (hb:xW w w'):za2 i0 S W1 (λj=>decide (j=i)||L j) w':=
 ⟨λhL=>by
  have:L i0=false:=by
   simp only[Bool.or_eq_false_iff] at hL;exact hL.2
  exact(h.1 this).trans (hb.mono (h.1 this).size),h.2.trans (zi.of_below hb)⟩
theorem za2.own {i0:Nat} {S:List Nat} {W1 w w':World} {L:Nat->Bool} (h:za2 i0 S W1 L w) (ht:zi S w w'):za2 i0 S W1 (λj=>decide (j=i0)||L j) w':=
 ⟨λhL=>by simp at hL,h.2.trans ht⟩
theorem zk {vs:List Value} {n:Nat} (h:vs.length=n+1):∃x xs,vs=x::xs/\xs.length=n:=by
 cases vs with
 |nil=>simp at h
 |cons x xs=>exact⟨x,xs,rfl,by simpa using h⟩
theorem zcD {vs:List Value} (h:vs.length=0):vs=[]:=List.eq_nil_of_length_eq_zero h
def slBk (n:Nat) (v:Value):Option Nat:=if n=0 then none else v.ownBlock
def ptBk:Value->Option Nat
 | .pointer (some a)=>some a.block
 |_=>none
theorem zeU {w w':World} {B:Nat} {e:TypeId} {sz m c:Nat} {a:Option Addr} {cs:List Value} (hown:w'.ownsRow B e sz (.slice a m c) m cs) (hf:0<m->∀k,ze a=some k->w.heap.size<=k):∀k,slBk m (.slice a m c)=some k->w.heap.size<=k/\k<w'.heap.size:=by
 intro k hk;unfold slBk at hk;by_cases hm:m=0
 ·rw[if_pos hm] at hk;cases hk
 ·rw[if_neg hm,zO] at hk;exact⟨hf (by omega) k hk,(zp hown k hk).2⟩
theorem zfT (w:World) (o:Obj):∀k,ptBk (.pointer (some ⟨w.heap.size,0,none⟩))=some k->w.heap.size<=k/\k<(w.alloc o).heap.size:=by
 intro k hk;have:w.heap.size=k:=by simpa[ptBk] using hk
 subst this;simp
end Go.Proofs.YtnlijgjpgdjpiaaGreat
namespace Go.Proofs.YtnlijgjpgdjpiaaGreat
open Go.RowKit Go.ChangeShapes Go.WideShapes Go.Deep
section
variable {H:Type} {enc:TypeId×Value->H} {w:World} {base:Nat} {held:Bool}
end
end Go.Proofs.YtnlijgjpgdjpiaaGreat
