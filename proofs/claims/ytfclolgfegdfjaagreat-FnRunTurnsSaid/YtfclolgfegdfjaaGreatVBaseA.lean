/- Part of a proof: BaseA. -/
import Derived.Test.YtfclolgfegdfjaaGreatRows
import Derived.WalkKit
import Derived.WalkSmall
import Derived.Lib.Hide
import Derived.WalkSpells
import Derived.WalkLawsBesides
import Derived.BigQuiet
import Derived.Deep.QuietTactic
import Derived.Maps.AppendAt
import Derived.Laws.IdiomStrings
import Derived.StillTailTactics
import Derived.Deep.RegionHeld3
import Derived.Lib.QuietBelow
import Derived.StillTail
import Derived.ArgAppend
import Derived.Laws.CopyOwn
import Derived.Deep.Slices
import Derived.ProofKit
namespace Go.Proofs.YtfclolgfegdfjaaGreat
open Go.RowKit
variable {w:World} {B n:Nat} {α:Type}
def uH (p:Prop):Prop:=p
theorem uH.o {p:Prop} (h:uH p):p:=h
theorem uH.out {p:Prop} (h:uH p):p:=h
theorem zd {p:Prop} (h:p):uH p:=h
theorem yn {P:α->Prop}:∀k:α,(none:Option α)=some k->P k:=λ_ h=>by cases h
theorem xd:Below B w w:=Below.refl _ _
theorem yk:n<=n:=Nat.le_refl _
theorem yh {a b:α} (h:a∈[b]):a=b:=List.mem_singleton.1 h
theorem xM {a:α} {s t:List α} (h:a∈s++t):a∈s\/a∈t:=List.mem_append.1 h
theorem yW {a:α} {s t:List α} (h:a∈s\/a∈t):a∈s++t:=List.mem_append.2 h
theorem zY {o:Obj}:Below w.heap.size w (w.alloc o):=(Below.refl _ _).alloc (Nat.le_refl _) _
theorem yl {a:α}:a∈[a]:=List.mem_singleton.2 rfl
abbrev xW (w w':World):Prop:=Below w.heap.size w w'
abbrev xm:= @List.getD_eq_getElem?_getD
abbrev xV:= @List.getElem?_eq_getElem
abbrev xc:= @List.mem_filterMap
abbrev zM:= @bodyPost_ret
abbrev yY:= @World.size_alloc
abbrev yG:= @List.length_map
abbrev qh:= @List.append_assoc
abbrev xp:= @List.length_append
abbrev jf:= @World.ownsRow_nil
abbrev xr:= @decide_eq_false
abbrev xK:= @decide_eq_true
abbrev yU:= @List.mem_map
abbrev jw:= @List.not_mem_nil
abbrev qy:= @Option.some.injEq
abbrev vB:= @List.mem_of_getElem?
abbrev jO:= @List.length_take
abbrev qZ:= @List.nil_append
abbrev vQ:= @List.map_append
abbrev YN:= @List.getElem?_eq_some_iff
abbrev Jh:= @List.take_of_length_le
theorem jq {p:Prop} (h:p:=by omega):p:=h
theorem jk {p:Prop} (h:p:=by decide):p:=h
theorem jv {p:Prop} (h:p:=by simp):p:=h
theorem jy (a:α):∃x,x=a:=⟨_,rfl⟩
theorem jQ {p q:Prop} (h:p) (k:p->q:=by intro h;omega):q:=k h
theorem jZ {p q r:Prop} (h:p) (i:q) (k:p->q->r:=by intro h i;omega):r:=k h i
theorem uq {p:Prop} (h:p:=by simp[intOf];omega):p:=h
abbrev uQ:=Option Addr
abbrev uZ:=List Value
abbrev uk:Value:= .slice none 0 0
abbrev uy (x:Int):Value:= .int .i64 x
end Go.Proofs.YtfclolgfegdfjaaGreat
set_option maxRecDepth 100000
set_option maxHeartbeats 16000000
namespace Go.Proofs.YtfclolgfegdfjaaGreat
open Go.RowKit
variable {w w':World} {B n k i m b g c sz:Nat} {e:TypeId} {S:List Nat} {α:Type}
def Rd (w:World) (a:uQ) (cs:uZ):Prop:=
 cs=[]\/∃b o,a=some ⟨b,o,none⟩/\∀j,j<cs.length->w.cell? ⟨b,o+j,none⟩=some (cs.getD j undef)
theorem Rd.at {a:uQ} {cs:uZ} (h:Rd w a cs) (a0:0<cs.length):
  ∃b o,a=some ⟨b,o,none⟩/\∀j,j<cs.length->w.cell? ⟨b,o+j,none⟩=some (cs.getD j undef):=by
 rcases h with rfl|h
 ·simp at a0
 ·exact h
theorem Rd.keep {a:uQ} {cs:uZ} (h:Rd w a cs) (hb:∀b o,a=some ⟨b,o,none⟩->b<w.heap.size->w'.heap[b]? =w.heap[b]?):Rd w' a cs:=by
 rcases h with rfl|⟨b,o,rfl,hc⟩
 ·exact .inl rfl
 ·by_cases b0:cs=[]
  ·exact .inl b0
  ·refine .inr ⟨b,o,rfl,λj hj=> ?_⟩;have h0:=hc j hj;have a0:=World.block_lt_of_cell? w _ h0;rw[World.cell?_of_block (w:=w) (w':=w') (a:=⟨b,o+j,none⟩) (hb b o rfl a0)];exact h0
theorem Rd.below {a:uQ} {cs:uZ} (h:Rd w a cs) (hb:xW w w'):Rd w' a cs:=
 h.keep λb _ _ a0=>hb.block b a0
def zj:uQ->Option Nat
 |some a=>some a.block
 |none=>none
theorem Rd.grown {a:uQ} {cs:uZ} {row:Option Nat} (h:Rd w a cs) (hg:w.grownBy w' row) (b0:zj a=none\/zj a≠row):Rd w' a cs:=by
 refine h.keep λb o e a0=>hg.block b a0 ?_;subst e;rcases b0 with h|h
 ·cases h
 ·exact h
theorem Rd.of_owns {a:uQ} {cs:uZ} (h:w.ownsRow B e sz (.slice a n c) n cs):Rd w a cs:=by
 rcases h.2 with ⟨h',h0⟩|⟨g,cap,b0,h',hb,hg,f0,c0,d0,a0⟩
 ·left;refine List.eq_nil_of_length_eq_zero ?_;rw[h.1,h0];simp
 ·right;simp only[Value.slice.injEq,true_and] at h';obtain⟨rfl,rfl⟩:=h';refine⟨g,0,rfl,λj hj=> ?_⟩;rw[Nat.zero_add,h.cellAt j (by rw[<-h.1];exact hj)];simp[List.getD,hj]
abbrev zf (xs:List Int):uZ:=xs.map (Value.int .i64)
theorem dx (xs:List Int) (j:Nat) (hj:j<xs.length):(zf xs).getD j undef=uy (xs.getD j 0):=by
 simp[zf,List.getD,hj]
theorem Rd.int {a:uQ} {xs:List Int} (h:Rd w a (zf xs)) (a0:0<xs.length):
  ∃b o,a=some ⟨b,o,none⟩/\∀j,j<xs.length->w.cell? ⟨b,o+j,none⟩=some (uy (xs.getD j 0)):=by
 obtain⟨b,o,e,hc⟩:=h.at (by simpa using a0)
 exact⟨b,o,e,λj hj=>by rw[hc j (by simpa using hj),dx xs j hj]⟩
theorem Xz {f:α->uZ} (hf:∀x,(f x).length=sz) (l:List α):(l.flatMap f).length=l.length*sz:=by
 induction l with
 |nil=>simp
 |cons x l ih=>simp[ih,hf,Nat.add_mul];omega
theorem UN {f:α->uZ} (hf:∀x,(f x).length=sz) (d:α):∀(l:List α) (j i:Nat),j<l.length->i<sz->(l.flatMap f).getD (j*sz+i) undef=(f (l.getD j d)).getD i undef
 |[],j,_,h,_=>by simp at h
 |x::l,0,i,_,hi=>by
  simp only[List.flatMap_cons,Nat.zero_mul,Nat.zero_add,List.getD_cons_zero];rw[xm,List.getElem?_append_left (by rw[hf];exact hi),<-xm]
 |x::l,j+1,i,h,hi=>by
  have:=UN hf d l j i (by simpa using h) hi;simp only[List.flatMap_cons,List.getD_cons_succ];rw[<-this,xm,List.getElem?_append_right (by rw[hf,Nat.add_mul];omega),xm];congr 2;rw[hf,Nat.add_mul];omega
theorem Rd.flat {f:α->uZ} (hf:∀x,(f x).length=sz) (d:α) {a:uQ} {l:List α} (h:Rd w a (l.flatMap f)) (a0:0<l.length) (b0:0<sz):
  ∃b o,a=some ⟨b,o,none⟩/\∀j,j<l.length->∀i,i<sz->w.cell? ⟨b,o+j*sz+i,none⟩=some ((f (l.getD j d)).getD i undef):=by
 obtain⟨b,o,e,hc⟩:=h.at (by rw[Xz hf];exact Nat.mul_pos a0 b0)
 refine⟨b,o,e,λj hj i hi=> ?_⟩;rw[Nat.add_assoc,hc (j*sz+i) (by rw[Xz hf];have:=Nat.mul_le_mul_right sz (show j+1<=l.length from hj);rw[Nat.add_mul] at this;omega),UN hf d l j i hj hi]
theorem zG {row:Option Nat} (hg:w.grownBy w' row) (hB:B<=w.heap.size) (hr:∀k,row=some k->B<=k):Below B w w':=(Below.refl B w).grown hg hB hr
theorem zi {a b c:World} {row:Option Nat} (h:a.grownBy b row) (k:b.grownBy c row):a.grownBy c row:=
 ⟨k.os.trans h.os,k.tape.trans h.tape,k.output.trans h.output,Nat.le_trans h.size k.size,λi hi a0=>(k.block i (Nat.lt_of_lt_of_le hi h.size) a0).trans (h.block i hi a0)⟩
theorem Uq {row:Option Nat} (h:xW w w'):w.grownBy w' row:=
 ⟨h.os,h.tape,h.output,h.size,λk hk _=>h.block k hk⟩
theorem j7 (w:World) (n:Nat):Below B w (w.drewN n):=below_drewN xd n
theorem qX {v:Value} {cs:uZ} (h:w.ownsRow B e sz v n cs) (hb:∀k,v.ownBlock=some k->k<w.heap.size->w'.heap[k]? =w.heap[k]?):w'.ownsRow B e sz v n cs:=by
 refine⟨h.1,?_⟩;rcases h.2 with hn|⟨g,cap,b0,rfl,c0,a0,rest⟩
 ·exact .inl hn
 ·refine .inr ⟨g,cap,b0,rfl,c0,?_,rest⟩;rw[hb g rfl (Array.getElem?_eq_some_iff.1 a0).1];exact a0
theorem zl {v:Value} {cs:uZ} (h:w.ownsRow B e sz v n cs) (hb:xW w w'):w'.ownsRow B e sz v n cs:=
 qX h λk _ hk=>hb.block k hk
theorem zw {B':Nat} {v:Value} {cs:uZ} (h:w.ownsRow B e sz v n cs) (hb:B'<=B):w.ownsRow B' e sz v n cs:=by
 refine⟨h.1,?_⟩;rcases h.2 with hn|⟨g,cap,a0,rfl,b0,rest⟩
 ·exact .inl hn
 ·exact .inr ⟨g,cap,a0,rfl,jq,rest⟩
theorem jF {a:uQ} {cs:uZ} (h:w.ownsRow B e sz (.slice a n c) n cs) (hn:0<n):∃g,a=some ⟨g,0,none⟩/\B<=g/\g<w.heap.size:=by
 rcases h.2 with ⟨h',h0⟩|⟨g,cap,b0,h',hb,hg,f0,c0,d0,a0⟩
 ·omega
 ·simp only[Value.slice.injEq,true_and] at h';obtain⟨rfl,rfl⟩:=h';exact⟨g,rfl,hb,(Array.getElem?_eq_some_iff.1 hg).1⟩
theorem yu (a:uQ) (n c:Nat):(Value.slice a n c).ownBlock=zj a:=by cases a<;>rfl
theorem zy {a:uQ} {cs:uZ} (h:w.ownsRow B e sz (.slice a n c) n cs):∀k,zj a=some k->B<=k/\k<w.heap.size:=by
 intro k hk;exact h.lt k (by rw[yu];exact hk)
theorem vR {cs:uZ} (h:w.ownsRow B e sz (.slice (some ⟨g,0,none⟩) n c) n cs) (j:Nat) (u:Value) {cs':uZ} (e':cs.set j u=cs'):
  (w.setCell ⟨g,j,none⟩ u).ownsRow B e sz (.slice (some ⟨g,0,none⟩) n c) n cs'/\w.grownBy (w.setCell ⟨g,j,none⟩ u) (some g):=by
 subst e';exact h.stored j u
theorem Ye {v:Value} {cs:uZ} (h:w.ownsRow B e sz v n cs):∃a c,v= .slice a n c:=by
 rcases h.2 with ⟨rfl,rfl⟩|⟨g,cap,a0,rfl,_⟩
 ·exact⟨none,0,rfl⟩
 ·exact⟨_,_,rfl⟩
theorem yF {P:Program} {wr:World} {o':Obj} {j0:Array Oper} {rest:List Oper} {o:Oper} {ac:Act} {Q:Exit->Act->World->Prop} (m0:o.guard=none) (s x:Operand) (t:TypeId)
  (ho:o.op= .call {callee:= .builtin .append,args:= #[s,x],argTypes:= #[t,t]})
  {B:Nat} {e:TypeId} {z:Value} {size a0:Nat} (ht:P.underlying t=some (.slice e)) (d0:(P.info? e).map (λi=>(i.zero,i.size,i.bytes))=some (some z,size,a0))
  (r0:z.cells.size=size) (n0:0<size)
  {a:uQ} {n c:Nat} {xs:uZ} (hs:ac.eval s= .slice a n c) (g0:wr.ownsRow B e size (.slice a n c) n xs)
  {m cm:Nat} {news:uZ} (hx:ac.eval x= .slice (some ⟨wr.heap.size,0,none⟩) m cm) (hl:news.length=m*size) (f0:o'= .cells news.toArray e) (h1:∀u∈news,u.oneCell'=true)
  (b0:(n+m)*a0<=140737488355328) (l0:0<a0) (h0:B<=wr.heap.size)
  (h:∀a' c' w',w'.ownsRow B e size (.slice a' (n+m) c') (n+m) (xs++news)->wr.grownBy w' (zj a)->wpList P j0 Q rest (ac.put o.dst (.slice a' (n+m) c')) w'):wpList P j0 Q (o::rest) ac (wr.alloc o'):=by
 obtain⟨i,hi,o0,p0,q0⟩:=info_parts d0;have k0:n+m<=maxLen:=by
  have:=Nat.le_trans (Nat.le_mul_of_pos_right (n+m) l0) b0;simp only[maxLen];omega
 refine wpList_append_own (wr.alloc o') m0 s x t ho B e i z size a0 ht hi o0 p0 q0 r0 n0 _ n xs hs (g0.alloc _) ⟨wr.heap.size,0,none⟩ m cm news hx hl ?_ h1 k0 b0 (by simp;omega) ?_
 ·intro j u hj;subst f0;rw[Addr.add_lit,World.cell?_alloc_at _ _ _ _ rfl];simpa using hj
 ·intro v' w' c0 i0 _;obtain⟨a',c',rfl⟩:=Ye c0;rw[yu] at i0;exact h a' c' w' c0 (zi (World.grownBy_alloc _ _ _) i0)
theorem zk {a:uQ} {cs:uZ} {row:Option Nat} (h:w.ownsRow B e sz (.slice a n c) n cs) (hg:w.grownBy w' row) 
  (b0:∀k,zj a=some k->row=some k->False):w'.ownsRow B e sz (.slice a n c) n cs:=
 qX h λk hk a0=>hg.block k a0 λe=>by
  rw[yu] at hk;exact b0 k hk e.symm
def tS (cs:uZ):Nat->uZ->uZ
 |_,[]=>cs
 |i,v::vs=>tS (cs.set i v) (i+1) vs
theorem ke:∀(V A B C:uZ),B.length=V.length->tS (A++B++C) A.length V=A++V++C
 |[],A,B,C,h=>by
  obtain rfl:B=[]:=List.eq_nil_of_length_eq_zero (by simpa using h);rfl
 |v::V,A,b::B,C,h=>by
  have e:(A++b::B++C).set A.length v=(A++[v])++B++C:=by
   simp
  rw[tS,e];have:=ke V (A++[v]) B C (by simpa using h);simp only[xp,List.length_cons,List.length_nil] at this;rw[this];simp
 |v::V,A,[],C,h=>by simp at h
theorem yg (w:World) (e:TypeId) (sz:Nat):(w.alloc (.cells #[] e)).ownsRow w.heap.size e sz (.slice (some ⟨w.heap.size,0,none⟩) 0 0) 0 []:=
 World.ownsRow_lit w #[] 0 yk (Nat.zero_le _) jv
theorem yA (xs:List Int):∀u∈zf xs,u.oneCell'=true:=ints_oneCell .i64 xs
theorem yB {a:uQ} {cs:uZ} (h:w.ownsRow B e sz (.slice a n c) n cs):n<=c/\c<=maxLen:=by
 rcases h.2 with ⟨h',h0⟩|⟨g,cap,d0,h',hb,hg,c0,b0,f0,a0⟩
 ·simp only[Value.slice.injEq] at h';exact⟨jq,by rw[h'.2.2];exact Nat.zero_le _⟩
 ·simp only[Value.slice.injEq,true_and] at h';obtain⟨rfl,rfl⟩:=h';exact⟨c0,b0⟩
theorem xe {a b c:World} {row row':Option Nat} (h:a.grownBy b row) (k:b.grownBy c row') (hr:∀i,row'=some i->a.heap.size<=i):a.grownBy c row:=
 ⟨k.os.trans h.os,k.tape.trans h.tape,k.output.trans h.output,Nat.le_trans h.size k.size,λi hi a0=>
  (k.block i (Nat.lt_of_lt_of_le hi h.size) (λe=>by have:=hr i e.symm;omega)).trans (h.block i hi a0)⟩
def zm (w:World) (b:Nat) (cs:Array Value) (t:TypeId):Prop:=w.heap[b]? =some (.cells cs t (0,0))
theorem zm.lt {cs:Array Value} {t:TypeId} (h:zm w b cs t):b<w.heap.size:=(Array.getElem?_eq_some_iff.1 h).1
theorem zm.below {cs:Array Value} {t:TypeId} (h:zm w b cs t) (hb:xW w w'):zm w' b cs t:=(hb.block b h.lt).trans h
theorem zm.cell {cs:Array Value} {t:TypeId} (h:zm w b cs t) (j:Nat) {v:Value} (hv:cs[j]? =some v):w.cell? ⟨b,j,none⟩=some v:=by
 unfold zm at h;simp[World.cell?,h,hv]
theorem zm.fz {cs:Array Value} {t:TypeId} (h:zm w b cs t) (j:Nat):w.frozen? ⟨b,j,none⟩=false:=by
 unfold zm at h;simp[World.frozen?,h]
theorem zm.set {cs:Array Value} {t:TypeId} (h:zm w b cs t) (j:Nat) (v:Value):zm (w.setCell ⟨b,j,none⟩ v) b (cs.setIfInBounds j v) t:=heap_setCell_same w b j cs t v h
theorem zm.other {cs:Array Value} {t:TypeId} (h:zm w b cs t) (a:Addr) (v:Value) (a0:b≠a.block):zm (w.setCell a v) b cs t:=(Below.heap_setCell _ _ _ _ a0).trans h
theorem zm.alloc {cs:Array Value} {t:TypeId} (h:zm w b cs t) (o:Obj):zm (w.alloc o) b cs t:=(heap_alloc_old w o h.lt).trans h
theorem zm.new (w:World) (cs:Array Value) (t:TypeId):zm (w.alloc (.cells cs t)) w.heap.size cs t:=heap_alloc_new w _
theorem zm.grown {cs:Array Value} {t:TypeId} {row:Option Nat} (h:zm w b cs t) (hg:w.grownBy w' row) (a0:row≠some b):zm w' b cs t:=(hg.block b h.lt (λe=>a0 e.symm)).trans h
theorem yb:(Tryz.prog.info? 3).map (λi=>(i.zero,i.size,i.bytes))=some (some (uy 0),1,8):=by kernel_rfl
theorem zT {a b:Bool} (h:a=b):Ending.returned (.bool a)= .returned (.bool b):=by rw[h]
theorem fe {a b:Int} (h:a=b):Ending.returned (uy a)= .returned (uy b):=by rw[h]
abbrev uf (bs:List Int):uZ:=bs.map (Value.int .u8)
structure jD (w:World) (R:Nat) (a:Option Addr) (n c:Nat) (bs:List Int) (p:Int):Prop where
 at_:w.heap[R]? =some (.cells #[.slice a n c,.int .i64 p] 158 (0,0))
 rd:Rd w a (uf bs)
 len:bs.length=n
 few:n<=2000
 pos:0<=p
 byte:∀b∈bs,0<=b/\b<=255
 apart:n=0\/∃k,zj a=some k/\k<R
section
variable {w w':World} {R:Nat} {a:uQ} {n c:Nat} {bs:List Int} {p:Int}
theorem jD.lt (h:jD w R a n c bs p):R<w.heap.size:=(Array.getElem?_eq_some_iff.1 h.at_).1
theorem Uo {cs:uZ} {row:Option Nat} (h:Rd w a cs) (hg:w.grownBy w' row) (h2:cs.length=0\/zj a≠row):Rd w' a cs:=by
 rcases h2 with h2|h2
 ·exact .inl (List.eq_nil_of_length_eq_zero h2)
 ·exact h.grown hg (.inr h2)
theorem jD.grown {row:Option Nat} (h:jD w R a n c bs p) (hg:w.grownBy w' row) (h1:row≠some R) (h2:n=0\/zj a≠row):jD w' R a n c bs p:=
 ⟨by rw[hg.block R h.lt (λe=>h1 e.symm)];exact h.at_,Uo h.rd hg (by rw[yG,h.len];exact h2),h.len,h.few,h.pos,h.byte,h.apart⟩
theorem jD.below (h:jD w R a n c bs p) (hb:xW w w'):jD w' R a n c bs p:=
 ⟨by rw[hb.block R h.lt];exact h.at_,h.rd.below hb,h.len,h.few,h.pos,h.byte,h.apart⟩
theorem jD.cell0 (h:jD w R a n c bs p):w.cell? ⟨R,0,none⟩=some (.slice a n c):=by simp[World.cell?,h.at_]
theorem jD.cell1 (h:jD w R a n c bs p):w.cell? ⟨R,1,none⟩=some (uy p):=by simp[World.cell?,h.at_]
theorem jD.fz (h:jD w R a n c bs p) (j:Nat):w.frozen? ⟨R,j,none⟩=false:=by
 simp[World.frozen?,h.at_]
theorem jD.move (h:jD w R a n c bs p) (d:Nat):jD ((w.setCell ⟨R,1,none⟩ (uy (p+1))).drewN d) R a n c bs (p+1)/\w.grownBy ((w.setCell ⟨R,1,none⟩ (uy (p+1))).drewN d) (some R):=by
 have hg:w.grownBy ((w.setCell ⟨R,1,none⟩ (uy (p+1))).drewN d) (some R):=
  ⟨rfl,rfl,rfl,by show _<=(w.setCell _ _).heap.size;simp,λk _ hk=>Below.heap_setCell _ _ _ _ (λe=>hk (by rw[e]))⟩
 refine⟨⟨?_,?_,h.len,h.few,by have:=h.pos;omega,h.byte,h.apart⟩,hg⟩
 ·show((w.setCell ⟨R,1,none⟩ (uy (p+1))).heap)[R]? =_;rw[heap_setCell_same w R 1 _ _ _ h.at_];rfl
 ·exact Uo h.rd hg (by
   rw[yG,h.len];rcases h.apart with h0|⟨k,h1,h2⟩
   ·exact .inl h0
   ·exact .inr (λe=>by rw[h1] at e;cases e;omega))
theorem jD.gr {row:Option Nat} (h:jD w R a n c bs p) (hg:w.grownBy w' row) (hr:∀k,row=some k->R<k):jD w' R a n c bs p:=
 h.grown hg (λe=>by have:=hr _ e;omega) (by
  rcases h.apart with h0|⟨k,h1,h2⟩
  ·exact .inl h0
  ·exact .inr (λe=>by rw[h1] at e;have:=hr k e.symm;omega))
end
theorem DW (x y:Int) (h1:0<=x) (h2:x<4611686018427387904) (h3:0<=y) (h4:y<4611686018427387904):0<=bits .xor .i64 x y/\bits .xor .i64 x y<4611686018427387904:=by
 obtain⟨X,rfl⟩:=Int.eq_ofNat_of_zero_le h1;obtain⟨Y,rfl⟩:=Int.eq_ofNat_of_zero_le h3;have hx:X^^^ Y<2^ 62:=Nat.xor_lt_two_pow jq jq;have e1:(BitVec.ofInt 64 (X:Int)).toNat=X:=by
  rw[BitVec.ofInt_natCast,BitVec.toNat_ofNat];exact Nat.mod_eq_of_lt jq
 have e2:(BitVec.ofInt 64 (Y:Int)).toNat=Y:=by
  rw[BitVec.ofInt_natCast,BitVec.toNat_ofNat];exact Nat.mod_eq_of_lt jq
 have e:bits .xor .i64 (X:Int) (Y:Int)=((X^^^ Y:Nat):Int):=by
  show IntKind.i64.wrap ((BitVec.ofInt 64 (X:Int)^^^ BitVec.ofInt 64 (Y:Int)).toNat:Int)=_;rw[BitVec.toNat_xor,e1,e2,IntKind.wrap_i64];omega
 rw[e];omega
def kW (w:World) (R:Nat) (p m:Int) (e:Ending) (w':World):Prop:=
 ∃v:Int,e= .returned (uy v)/\0<=v/\(1<=m->v<m)/\(m<1->v=0)/\∃d,w'=(w.setCell ⟨R,1,none⟩ (uy (p+1))).drewN d
theorem Dq (R:Nat) (a:uQ) (n c:Nat) (bs:List Int) (p m:Int) (w:World) (h:jD w R a n c bs p) (hp:p<=1099511627776):
  Calls Tryz.prog 94 #[.pointer (some ⟨R,0,none⟩),uy m] w (kW w R p m):=by
 have c0:=h.cell0;have c1:=h.cell1;have f1:=h.fz 1;have b0:=zd h.len;have j0:=h.few;have f0:=h.pos;have i0:=zd h.byte;have h2:=(h.move 0).1;have g0:=h2.cell0;have h0:=h2.cell1;have d0:=h2.rd;have a0:Rd (w.setCell ⟨R,1,none⟩ (uy (p+1))) a (uf bs):=d0;change (w.setCell ⟨R,1,none⟩ (uy (p+1))).cell? ⟨R,0,none⟩=_ at g0;change (w.setCell ⟨R,1,none⟩ (uy (p+1))).cell? ⟨R,1,none⟩=_ at h0;clear h2 d0 h;by_cases hm:m<1
 ·go_enter Tryz.func94,Tryz.ntmps94;go_wp2;go_ret;exact⟨0,rfl,jq,jq,jq,0,rfl⟩
 ·by_cases hn:n=0
  ·subst hn;have o0:decide (m<1)=false:=(by simpa using hm);go_enter Tryz.func94,Tryz.ntmps94;go_wp2;go_ret;exact⟨0,rfl,jq,jq,jq,0,rfl⟩
  ·have p0:((n:Int)==0)=false:=by simp;omega
   obtain⟨b,o,rfl,hc⟩:=a0.at (by have:=b0.out;simp;omega)
   have byteAt:∀j,j<n->∃x:Int,0<=x/\x<=255/\(w.setCell ⟨R,1,none⟩ (uy (p+1))).cell? ⟨b,o+j,none⟩=some (.int .u8 x):=λj hj=>by
    have hl:=b0.out;refine⟨bs.getD j 0,?_⟩;have hm:bs.getD j 0∈bs:=by rw[xm,xV jq];simp
    have:=i0.out _ hm;refine⟨this.1,this.2,?_⟩;rw[hc j (by simp;omega)];simp[uf,List.getD,show j<bs.length by omega]
   have HB:=zd byteAt;obtain⟨k,hk⟩:=Int.eq_ofNat_of_zero_le f0;subst hk;clear byteAt hc a0;by_cases k0:k<n
   ·obtain⟨x,l0,m0,n0⟩:=HB.o k k0;go_enter Tryz.func94,Tryz.ntmps94;go_wp2;go_ret;exact⟨x% m,rfl,Int.emod_nonneg _ jq,λ_=>Int.emod_lt_of_pos _ jq,jq,0,rfl⟩
   ·obtain⟨x,l0,m0,n0⟩:=HB.o (k% n) (Nat.mod_lt _ jq);obtain⟨y,r0,s0,t0⟩:=HB.o ((k*7+3)% n) (Nat.mod_lt _ jq);have q0:k/n<=k:=Nat.div_le_self _ _;have i1:0<=(k:Int)%(n:Int):=Int.emod_nonneg _ jq;have i2:(k:Int)%(n:Int)<n:=Int.emod_lt_of_pos _ jq;have i3:((k:Int)%(n:Int)).toNat=k% n:=by rw[<-Int.natCast_emod];rfl
    have j1:0<=((k:Int)*7+3)%(n:Int):=Int.emod_nonneg _ jq;have j2:((k:Int)*7+3)%(n:Int)<n:=Int.emod_lt_of_pos _ jq;have j3:(((k:Int)*7+3)%(n:Int)).toNat=(k*7+3)% n:=by
     rw[show((k:Int)*7+3)=((k*7+3:Nat):Int) from by simp,<-Int.natCast_emod];rfl
    have q1:0<=(k:Int)/(n:Int):=Int.ediv_nonneg jq jq;have q2:(k:Int)/(n:Int)<=k:=by rw[<-Int.natCast_ediv];omega
    go_enter Tryz.func94,Tryz.ntmps94;go_wp2
    go_quiet (fail)
    go_wp2;go_ret;obtain⟨x1,_⟩:=DW (x*131+y*1117+k*29+k/n*53) ((x*131+y*1117+k*29+k/n*53)/64) jq jq jq jq;exact⟨_,rfl,Int.tmod_nonneg _ x1,λ_=>Int.tmod_lt_of_pos _ jq,jq,nq,rfl⟩
theorem kW.out {R:Nat} {a:uQ} {bs:List Int} {p m:Int} {e:Ending} (h:jD w R a n c bs p) (k:kW w R p m e w'):
  ∃v:Int,e= .returned (uy v)/\0<=v/\(1<=m->v<m)/\(m<1->v=0)/\jD w' R a n c bs (p+1)/\w.grownBy w' (some R)/\w'.heap.size=w.heap.size:=by
 obtain⟨v,rfl,h1,h2,h3,d,rfl⟩:=k;refine⟨v,rfl,h1,h2,h3,(h.move d).1,(h.move d).2,?_⟩;show(w.setCell _ _).heap.size=_;simp
theorem qK (R:Nat) (a:uQ) (n c:Nat) (bs:List Int) (p m:Int) (w:World) (h:jD w R a n c bs p) (hp:p<=1099511627776) (hm:1<=m):
  Calls Tryz.prog 94 #[.pointer (some ⟨R,0,none⟩),uy m] w λe w'=>
   ∃v:Nat,e= .returned (uy v)/\(v:Int)<m/\jD w' R a n c bs (p+1)/\w.grownBy w' (some R)/\uH (w'.heap.size=w.heap.size):=by
 refine(Dq R a n c bs p m w h hp).mono λe w' hk=> ?_;obtain⟨v,rfl,h1,h2,_,h3,h4,h5⟩:=hk.out h;obtain⟨V,rfl⟩:=Int.eq_ofNat_of_zero_le h1;exact⟨V,rfl,h2 hm,h3,h4,zd h5⟩
theorem fa (R:Nat) (a:uQ) (n c:Nat) (bs:List Int) (p:Int) (g m cm:Nat) (xs:List Int) (w:World) (h:jD w R a n c bs p) (hp:p<=1099511627776)
  (hl:xs.length=m) (hm:1<=m) (d0:m<=1000) (hx:Rd w (some ⟨g,0,none⟩) (zf xs)) (hg:g≠R):
  Calls Tryz.prog 95 #[.pointer (some ⟨R,0,none⟩),.slice (some ⟨g,0,none⟩) m cm] w λe w'=>
   ∃v:Int,e= .returned (uy v)/\v∈xs/\jD w' R a n c bs (p+1)/\w.grownBy w' (some R)/\uH (w'.heap.size=w.heap.size):=by
 have HL:=zd hl;clear hl;go_enter Tryz.func95,Tryz.ntmps95;go_wp2_with fail;refine(qK R a n c bs p m _ h hp jq).mono ?_;rintro e w1 ⟨v,rfl,hv,hr,c0,hs⟩;have f0:v<m:=jq;obtain⟨b',o',e',hc⟩:=(hx.grown c0 (.inr (by simp[zj,hg]))).int (jQ HL.o);have b0:=hc v (jQ HL.o)
 cases e'
 rw[Nat.zero_add] at b0;obtain⟨x,a0⟩:=jy (xs.getD v 0);rw[<-a0] at b0;have HX:=zd a0;clear hc a0;go_wp2_with fail;go_ret;refine⟨x,rfl,?_,hr,c0,hs⟩;rw[HX.o,xm,xV (jQ HL.o)];simp
theorem fI (a:uQ) (n c:Nat) (bs:List Int) (w:World) (hl:bs.length=n) (h1:Rd w a (uf bs)) (d0:n<=c) (c0:∀b∈bs,0<=b/\b<=255) (hn:n<=1048576):
  Calls Tryz.prog 77 #[.slice a n c] w λe w'=>
   e= .returned (.pointer (some ⟨w.heap.size,0,none⟩))/\∃n' bs',jD w' w.heap.size a n' c bs' 0/\xW w w'/\w'.heap.size=w.heap.size+1:=by
 have HL:=zd hl;have HB:=zd c0;have b0:n=0\/∃k,zj a=some k/\k<w.heap.size:=by
  rcases h1 with h0|⟨b,o,rfl,hc⟩
  ·left;have:=congrArg List.length h0;simpa[hl] using this
  ·by_cases h0:n=0
   ·exact .inl h0
   ·right;have:=hc 0 (by simp;omega);exact⟨b,rfl,World.block_lt_of_cell? w ⟨b,o+0,none⟩ this⟩
 have a0:=zd b0;clear hl c0 b0;go_enter Tryz.func77,Tryz.ntmps77;go_wp2_with fail
 all_goals go_ret
 ·have g0:(2000:Int)<n:=by assumption
  refine⟨rfl,2000,bs.take 2000,⟨?_,?_,?_,jq,jq,?_,?_⟩,zY,jv⟩
  ·exact heap_alloc_new w _
  ·refine Rd.below ?_ (zY);rcases h1 with h0|⟨b,o,rfl,hc⟩
   ·exfalso;have h3:=congrArg List.length h0;simp only[yG,List.length_nil] at h3;have:=HL.o;omega
   ·refine .inr ⟨b,o,rfl,λj hj=> ?_⟩;have:=HL.o;simp only[yG,jO] at hj;rw[hc j (by simp;omega)];simp[uf,List.getD,show j<2000 by omega]
  ·have:=HL.o;simp;omega
  ·intro b hb;exact HB.o b (List.mem_of_mem_take hb)
  ·rcases a0.out with h0|h0
   ·omega
   ·exact .inr h0
 ·have f0:(n:Int)<=2000:=by assumption
  exact⟨rfl,n,bs,⟨heap_alloc_new w _,h1.below (zY),HL.o,jq,jq,HB.o,a0.out⟩,zY,jv⟩
section
variable {P:Program} {w:World}
theorem jV (base:Nat) (t ty e:TypeId) (i:TypeInfo) (size:Nat) (ht:P.underlying t=some (.slice e)) (hi:P.info? e=some i)
  (v:Value) (n:Nat) (xs:uZ) (a0:w.ownsRow base e size v n xs) (c:Nat):
  (Builtin.append_ #[t,t] ty #[v,.slice none 0 c]).run P w= .ok v w:=by
 rcases a0.2 with ⟨rfl,rfl⟩|⟨g,cap,c0,rfl,_,_,b0,_⟩
 ·simp[Builtin.append_,run_underlying ht,sizeOf,typeInfo,hi,Builtin.lenOf,Builtin.firstCells]
 ·simp[Builtin.append_,run_underlying ht,sizeOf,typeInfo,hi,Builtin.lenOf,Builtin.firstCells,b0,storeCells]
end
theorem xG {P:Program} {wr:World} {m0:Array Oper} {rest:List Oper} {o:Oper} {ac:Act} {Q:Exit->Act->World->Prop} (k0:o.guard=none) (s x:Operand) (t:TypeId)
  (ho:o.op= .call {callee:= .builtin .append,args:= #[s,x],argTypes:= #[t,t]})
  {B:Nat} {e:TypeId} {z:Value} {size a0:Nat} (ht:P.underlying t=some (.slice e)) (g0:(P.info? e).map (λi=>(i.zero,i.size,i.bytes))=some (some z,size,a0))
  (v0:z.cells.size=size) (r0:0<size)
  {a:uQ} {n c:Nat} {xs:uZ} (hs:ac.eval s= .slice a n c) (d0:wr.ownsRow B e size (.slice a n c) n xs)
  {a2:uQ} {m c2:Nat} {news:uZ} (hx:ac.eval x= .slice a2 m c2) (hl:news.length=m*size) (i0:Rd wr a2 news) (h1:∀u∈news,u.oneCell'=true)
  (b0:(n+m)*a0<=140737488355328) (p0:0<a0) (f0:B<=wr.heap.size)
  (h:∀a' c' w',w'.ownsRow B e size (.slice a' (n+m) c') (n+m) (xs++news)->wr.grownBy w' (zj a)->wpList P m0 Q rest (ac.put o.dst (.slice a' (n+m) c')) w'):wpList P m0 Q (o::rest) ac wr:=by
 obtain⟨i,hi,s0,t0,u0⟩:=info_parts g0;have n0:n+m<=maxLen:=by
  have:=Nat.le_trans (Nat.le_mul_of_pos_right (n+m) p0) b0;simp only[maxLen];omega
 cases a2 with
 |none=>
  have hm:m=0:=by
   rcases i0 with e0|⟨b,o',e0,_⟩
   ·rw[e0] at hl;rcases Nat.mul_eq_zero.1 hl.symm with h0|h0
    ·exact h0
    ·omega
   ·cases e0
  subst hm;obtain rfl:news=[]:=List.eq_nil_of_length_eq_zero (by simpa using hl);refine wpList_plain k0 λK o0=> ?_;have j0:=jV (P:=P) (w:=wr) B t o.type e i size ht hi _ n xs d0 c2;unfold Oper.wp;simp[execOp,ho,resolve,invoke,builtin,hs,hx,j0,Result.andThen];exact o0 _ _ (by simpa using h a c wr (by simpa using d0) (World.grownBy.refl _ _))
 |some ad=>
  refine wpList_append_own wr k0 s x t ho B e i z size a0 ht hi s0 t0 u0 v0 r0 _ n xs hs d0 ad m c2 news hx hl ?_ h1 n0 b0 f0 ?_
  ·intro j u hj;have q0:j<news.length:=(YN.1 hj).1;obtain⟨b,o',e',hc⟩:=i0.at jq
   cases e'
   rw[Addr.add_lit,hc j q0];rw[xm,hj];rfl
  ·intro v' w' c0 l0 _;obtain⟨a',c',rfl⟩:=Ye c0;rw[yu] at l0;exact h a' c' w' c0 l0
theorem pR {row:Option Nat} {q:Addr} {x:Value} (hg:w.grownBy w' row) (g:w.cell? q=some x) (b0:row≠some q.block):w'.cell? q=some x:=by
 have a0:=World.block_lt_of_cell? w _ g;rw[World.cell?_of_block (w:=w) (w':=w') (a:=q) (hg.block q.block a0 (λe=>b0 e.symm))];exact g
theorem dB (w:World) (B:Nat) (e:TypeId) (sz:Nat):w.ownsRow B e sz uk 0 []:=jf _ _ _ _
theorem Rd.of_blk {cs:Array Value} {t:TypeId} (h:zm w b cs t):Rd w (some ⟨b,0,none⟩) cs.toList:=
 .inr ⟨b,0,rfl,λj hj=>by
  rw[Nat.zero_add];exact h.cell j (by simp only[Array.length_toList] at hj;simp[List.getD,hj])⟩
theorem tX {P:Program} {wr:World} {o:Oper} {ac:Act} {K:Act->World->Prop} {Q:Exit->Act->World->Prop} (s x:Operand) (t:TypeId)
  (ho:o.op= .call {callee:= .builtin .append,args:= #[s,x],argTypes:= #[t,t]})
  {B:Nat} {e:TypeId} {z:Value} {size a0:Nat} (ht:P.underlying t=some (.slice e)) (f0:(P.info? e).map (λi=>(i.zero,i.size,i.bytes))=some (some z,size,a0))
  (p0:z.cells.size=size) (l0:0<size)
  {a:uQ} {n c:Nat} {xs:uZ} (hs:ac.eval s= .slice a n c) (c0:wr.ownsRow B e size (.slice a n c) n xs)
  {a2:uQ} {m c2:Nat} {news:uZ} (hx:ac.eval x= .slice a2 m c2) (hl:news.length=m*size) (g0:Rd wr a2 news) (h1:∀u∈news,u.oneCell'=true)
  (b0:(n+m)*a0<=140737488355328) (j0:0<a0) (d0:B<=wr.heap.size)
  (h:∀a' c' w',w'.ownsRow B e size (.slice a' (n+m) c') (n+m) (xs++news)->wr.grownBy w' (zj a)->K (ac.put o.dst (.slice a' (n+m) c')) w'):o.wp P ac wr K Q:=by
 obtain⟨i,hi,m0,n0,o0⟩:=info_parts f0;have i0:n+m<=maxLen:=by
  have:=Nat.le_trans (Nat.le_mul_of_pos_right (n+m) j0) b0;simp only[maxLen];omega
 have key:∃a' c' w',(Builtin.append_ #[t,t] o.type #[.slice a n c,.slice a2 m c2]).run P wr= .ok (.slice a' (n+m) c') w'/\w'.ownsRow B e size (.slice a' (n+m) c') (n+m) (xs++news)/\wr.grownBy w' (zj a):=by
  cases a2 with
  |none=>
   have hm:m=0:=by
    rcases g0 with e0|⟨b,o',e0,_⟩
    ·rw[e0] at hl;rcases Nat.mul_eq_zero.1 hl.symm with h0|h0
     ·exact h0
     ·omega
    ·cases e0
   subst hm;obtain rfl:news=[]:=List.eq_nil_of_length_eq_zero (by simpa using hl);exact⟨a,c,wr,jV (P:=P) (w:=wr) B t o.type e i size ht hi _ n xs c0 c2,by simpa using c0,World.grownBy.refl _ _⟩
  |some ad=>
   obtain⟨v',w',hr,h2,h3,_⟩:=run_append_own_at (P:=P) wr B t o.type e i z size a0 ht hi m0 n0 o0 p0 l0 (.slice a n c) n xs c0 ad m c2 news hl (by
    intro j u hj;have k0:j<news.length:=(YN.1 hj).1;obtain⟨b,o',e',hc⟩:=g0.at jq
    cases e'
    rw[Addr.add_lit,hc j k0];rw[xm,hj];rfl) h1 i0 b0 d0
   obtain⟨a',c',rfl⟩:=Ye h2;rw[yu] at h3;exact⟨a',c',w',hr,h2,h3⟩
 obtain⟨a',c',w',hr,h2,h3⟩:=key;unfold Oper.wp execOp;simp only[ho,resolve,invoke,builtin,Sem.run_bind,Sem.run_pure,Result.andThen_ok,List.map_toArray,List.map_cons,List.map_nil,hs,hx,hr];exact h a' c' w' h2 h3
theorem KT {P:Program} {wr:World} {h0:Array Oper} {o:Oper} {ac:Act} {K:Act->World->Prop} {Q:Exit->Act->World->Prop} {E:Prop} (j0:o.guard=none) (s x:Operand) (t:TypeId)
  (ho:o.op= .call {callee:= .builtin .append,args:= #[s,x],argTypes:= #[t,t]})
  {B:Nat} {e:TypeId} {z:Value} {size a0:Nat} (ht:P.underlying t=some (.slice e)) (d0:(P.info? e).map (λi=>(i.zero,i.size,i.bytes))=some (some z,size,a0))
  (l0:z.cells.size=size) (k0:0<size)
  {a:uQ} {n c:Nat} {xs:uZ} (hs:ac.eval s= .slice a n c) (f0:wr.ownsRow B e size (.slice a n c) n xs)
  {a2:uQ} {m c2:Nat} {news:uZ} (hx:ac.eval x= .slice a2 m c2) (hl:news.length=m*size) (g0:Rd wr a2 news) (h1:∀u∈news,u.oneCell'=true)
  (b0:(n+m)*a0<=140737488355328) (i0:0<a0) (c0:B<=wr.heap.size)
  (h:∀a' c' w',w'.ownsRow B e size (.slice a' (n+m) c') (n+m) (xs++news)->wr.grownBy w' (zj a)->K (ac.put o.dst (.slice a' (n+m) c')) w'):
  if Region.wanted o (yielded h0 ac.tmps)=true then Oper.wp P o ac wr K Q else E:=by
 have hw:Region.wanted o (yielded h0 ac.tmps)=true:=by simp[Region.wanted,j0]
 rw[if_pos hw];exact tX s x t ho ht d0 l0 k0 hs f0 hx hl g0 h1 b0 i0 c0 h
def Vx (n:Nat):ByteArray:=⟨#[UInt8.ofNat (48+n)]⟩
def uh (n:Nat) (acc:ByteArray):ByteArray:=if 9<n then uh (n/10) (Vx (n% 10)++acc) else Vx n++acc
termination_by n
def fg:ByteArray:=⟨#[45,57,50,50,51,51,55,50,48,51,54,56,53,52,55,55,53,56,48,56]⟩
def vd (n:Int):ByteArray:=
 if n< -9223372036854775807 then fg else if n<0 then ⟨#[45]⟩++uh (-n).toNat ⟨#[]⟩ else uh n.toNat ⟨#[]⟩
theorem Zg {a b:ByteArray} (h:a=b):Ending.returned (.string a)= .returned (.string b):=by rw[h]
theorem Uf (n:Nat) (a0:ByteArray) (h:9<n):uh n a0=uh (n/10) (Vx (n% 10)++a0):=by
 rw[uh,if_pos h]
theorem Uw (n:Nat) (a0:ByteArray) (h:¬9<n):uh n a0=Vx n++a0:=by
 rw[uh,if_neg h]
theorem gg (W:World) (b:Nat) (d:UInt8) (h:W.cell? ⟨b,0,none⟩=some (.int .u8 (d.toNat:Int))):(convert 22 9 (.slice (some ⟨b,0,none⟩) 1 1)).run Tryz.prog W= .ok (.string ⟨#[d]⟩) W:=
 run_convert_bytes_back W 22 9 5 ⟨b,0,none⟩ 1 [d] Tryz.underlying22 Tryz.underlying5 Tryz.underlying9 (λj hj=>by
  have e:j=0:=by simpa using hj
  subst e;rw[Addr.add_lit];exact h)
theorem kj (n:Nat) (h:n<10):∃d:UInt8,((d.toNat:Nat):Int)=48+(n:Int)/\Vx n=⟨#[d]⟩:=
 ⟨UInt8.ofNat (48+n),by simp only[UInt8.toNat_ofNat'];omega,rfl⟩
theorem Ve (n:Nat) (w:World) (hn:n<=9223372036854775807):
  Calls Tryz.prog 180 #[uy n] w λe w'=>e= .returned (.string (uh n ⟨#[]⟩))/\xW w w':=by
 have t0:decide ((n:Int)< -9223372036854775807)=false:=jv;have t1:decide ((n:Int)<0)=false:=jv;go_enter Tryz.func180,Tryz.ntmps180;go_wp2
 go_loopw [0,3] (λvn vo wr=>∃(k:Nat) (a0:ByteArray),vn=uy k/\vo= .string a0/\k<=9223372036854775807/\2*a0.size+k<=n/\uH (uh k a0=uh n ⟨#[]⟩)/\xW w wr) (λvn _ _=>(intOf vn).toNat)
 case atStart=>exact⟨n,_,rfl,rfl,hn,by show 2*0+n<=n;omega,zd rfl,Below.refl _ _⟩
 case round=>
  obtain⟨k,a0,rfl,rfl,hk,k0,hd,hb⟩:=hrel;have e1:∀d:UInt8,(⟨#[d]⟩:ByteArray).size=1:=λ_=>rfl;by_cases g0:9<k
  ·obtain⟨d,b0,c0⟩:=kj (k% 10) (Nat.mod_lt _ jk);have i0:=gg (wr.alloc (.cells #[.int .u8 (48+(k:Int)% 10)] 5)) wr.heap.size d (by rw[b0,World.cell?_alloc_at _ _ _ _ rfl];simp);have d0:=zd c0;have f0:=λ(W:World)=>run_string_add_sum (P:=Tryz.prog) (w:=W) ⟨#[d]⟩ a0 (by rw[e1];omega);have h0:=zd e1;clear b0 c0 e1;go_wp2
   go_roundw
   case rel=>exact⟨k/10,_,by go_num,rfl,jq,by rw[ByteArray.size_append,h0.out];omega,zd (by rw[<-hd.out,Uf k a0 g0,d0.out]),hb.alloc hb.size _⟩
   case measure=>exact uq
  ·obtain⟨d,b0,c0⟩:=kj k jq;have i0:=gg (wr.alloc (.cells #[.int .u8 (48+(k:Int))] 5)) wr.heap.size d (by rw[b0,World.cell?_alloc_at _ _ _ _ rfl];simp);have d0:=zd c0;have j0:k<=9:=jq;have f0:=λ(W:World)=>run_string_add_sum (P:=Tryz.prog) (w:=W) ⟨#[d]⟩ a0 (by rw[e1];omega);clear b0 c0 e1;go_wp2;go_ret;exact⟨Zg (by rw[<-hd.out,Uw k a0 g0,d0.out]),hb.alloc hb.size _⟩
theorem XI:∀(f n:Nat) (acc:ByteArray),n<10^ f->0<f->(uh n acc).size<=acc.size+f
 |0,_,_,_,h=>jq
 |f+1,n,acc,hn,_=>by
  by_cases h:9<n
  ·rw[Uf n acc h];have h1:n/10<10^ f:=by
    rw[Nat.pow_succ] at hn;omega
   have h0:0<f:=by
    rcases Nat.eq_zero_or_pos f with e|e
    ·subst e;simp at hn;omega
    ·exact e
   have:=XI f (n/10) (Vx (n% 10)++acc) h1 h0;rw[ByteArray.size_append] at this;have e:(Vx (n% 10)).size=1:=rfl;omega
  ·rw[Uw n acc h,ByteArray.size_append];have e:(Vx n).size=1:=rfl;omega
theorem YT (n:Int) (h0: -9223372036854775808<=n) (h1:n<=9223372036854775807):(vd n).size<=20:=by
 unfold vd;split
 ·show 20<=20;omega
 ·split
  ·rw[ByteArray.size_append];have:=XI 19 (-n).toNat ⟨#[]⟩ jq jq;have e:(⟨#[45]⟩:ByteArray).size=1:=rfl;have e2:(⟨#[]⟩:ByteArray).size=0:=rfl;omega
  ·have:=XI 19 n.toNat ⟨#[]⟩ jq jq;have e2:(⟨#[]⟩:ByteArray).size=0:=rfl;omega
theorem YZ (n:Int) (w:World) (h0: -9223372036854775808<=n) (h1:n<=9223372036854775807):
  Calls Tryz.prog 180 #[uy n] w λe w'=>e= .returned (.string (vd n))/\xW w w':=by
 by_cases hm:n< -9223372036854775807
 ·have t0:decide (n< -9223372036854775807)=true:=xK hm;have HD:uH (vd n=fg):=zd (by unfold vd;rw[if_pos hm]);clear h0 h1 hm;go_enter Tryz.func180,Tryz.ntmps180;go_wp2;go_ret;exact⟨Zg (by rw[HD.o];rfl),Below.refl _ _⟩
 by_cases hn:n<0
 ·have t0:decide (n< -9223372036854775807)=false:=xr hm;have t1:decide (n<0)=true:=xK hn;have HD:uH (vd n=⟨#[45]⟩++uh (-n).toNat ⟨#[]⟩):=zd (by unfold vd;rw[if_neg hm,if_pos hn]);obtain⟨m,c0⟩:∃m:Nat,m=(-n).toNat:=⟨_,rfl⟩
  have a0: -n=(m:Int):=jq;have b0:m<=9223372036854775807:=jq;have b1: -9223372036854775807<=n:=jq;have d0:=zd a0;rw[<-c0] at HD;clear h0 h1 hm c0 a0;go_enter Tryz.func180,Tryz.ntmps180;go_wp2_with fail;rw[d0.out];refine(Ve m _ b0).mono ?_;rintro e w1 ⟨rfl,hb⟩;have f0:=λ(W:World)=>run_string_add_sum (P:=Tryz.prog) (w:=W) ⟨#[45]⟩ (uh m ⟨#[]⟩) (by
   have:=XI 19 m ⟨#[]⟩ jq jq;have e:(⟨#[45]⟩:ByteArray).size=1:=rfl;have e2:(⟨#[]⟩:ByteArray).size=0:=rfl;omega)
  go_wp2;go_ret;exact⟨Zg (by rw[HD.o]),hb⟩
 ·have HD:uH (vd n=uh n.toNat ⟨#[]⟩):=zd (by unfold vd;rw[if_neg hm,if_neg hn]);obtain⟨m,rfl⟩:=Int.eq_ofNat_of_zero_le (show 0<=n by omega);refine(Ve m w jq).mono ?_;rintro e w1 ⟨rfl,hb⟩;exact⟨by rw[HD.o];rfl,hb⟩
structure xA where
 kind:Int
 on:Int
 arg:Int
structure Pg where
 sems:List Int
 groups:List Int
 barriers:List Int
 rooms:List Int
 threads:List (List xA)
def opv (o:xA):uZ:=[uy o.kind,uy o.on,uy o.arg]
theorem QP (o:xA):(opv o).length=3:=rfl
abbrev qR (l:List xA):uZ:=l.flatMap opv
theorem tP (l:List xA):(qR l).length=l.length*3:=Xz QP l
theorem DE (l:List xA):∀u∈qR l,u.oneCell'=true:=by
 intro u hu;obtain⟨e,_,h⟩:=List.mem_flatMap.1 hu;simp only[opv,List.mem_cons,jw,or_false] at h;rcases h with rfl|rfl|rfl<;>rfl
def qf:xA:=⟨0,0,0⟩
theorem Rd.op {a:uQ} {l:List xA} (h:Rd w a (qR l)) (a0:0<l.length):
  ∃b o,a=some ⟨b,o,none⟩/\∀j,j<l.length->w.cell? ⟨b,o+j*3,none⟩=some (uy (l.getD j qf).kind)/\w.cell? ⟨b,o+j*3+1,none⟩=some (uy (l.getD j qf).on)/\w.cell? ⟨b,o+j*3+2,none⟩=some (uy (l.getD j qf).arg):=by
 obtain⟨b,o,e,hc⟩:=h.flat QP qf a0 jk;exact⟨b,o,e,λj hj=>⟨by simpa[opv] using hc j hj 0 jk,by simpa[opv] using hc j hj 1 jk,by simpa[opv] using hc j hj 2 jk⟩⟩
structure PV where
 s:Option Addr
 ns:Nat
 cs:Nat
 g:Option Addr
 ng:Nat
 cg:Nat
 b:Option Addr
 nb:Nat
 cb:Nat
 r:Option Addr
 nr:Nat
 cr:Nat
 t:Option Addr
 nt:Nat
 ct:Nat
abbrev zF (u:PV):Array Value:= #[.slice u.s u.ns u.cs,.slice u.g u.ng u.cg,.slice u.b u.nb u.cb,.slice u.r u.nr u.cr,.slice u.t u.nt u.ct]
structure tj (w:World) (a:Option Addr) (ts:List (List xA)) (vs:List Value):Prop where
 len:vs.length=ts.length
 out:Rd w a vs
 inn:∀i,i<ts.length->∃a' c',vs.getD i undef= .slice a' (ts.getD i []).length c'/\Rd w a' (qR (ts.getD i []))
theorem tj.below {a:uQ} {ts:List (List xA)} {vs:uZ} (h:tj w a ts vs) (hb:xW w w'):tj w' a ts vs:=
 ⟨h.len,h.out.below hb,λi hi=>by obtain⟨a',c',e,hr⟩:=h.inn i hi;exact⟨a',c',e,hr.below hb⟩⟩
theorem tj.thread {a:uQ} {ts:List (List xA)} {vs:uZ} (h:tj w a ts vs) (a0:0<ts.length):
  ∃b o,a=some ⟨b,o,none⟩/\∀i,i<ts.length->∃a' c',w.cell? ⟨b,o+i,none⟩=some (.slice a' (ts.getD i []).length c')/\Rd w a' (qR (ts.getD i [])):=by
 obtain⟨b,o,e,hc⟩:=h.out.at (by rw[h.len];exact a0)
 refine⟨b,o,e,λi hi=> ?_⟩;obtain⟨a',c',e',hr⟩:=h.inn i hi;exact⟨a',c',by rw[hc i (by rw[h.len];exact hi),e'],hr⟩
structure yK (w:World) (v:PV) (p:Pg):Prop where
 ls:p.sems.length=v.ns
 lg:p.groups.length=v.ng
 lb:p.barriers.length=v.nb
 lr:p.rooms.length=v.nr
 lt:p.threads.length=v.nt
 rs:Rd w v.s (zf p.sems)
 rg:Rd w v.g (zf p.groups)
 rb:Rd w v.b (zf p.barriers)
 rr:Rd w v.r (zf p.rooms)
 rt:∃vs,tj w v.t p.threads vs
theorem yK.below {v:PV} {p:Pg} (h:yK w v p) (hb:xW w w'):yK w' v p:=
 ⟨h.ls,h.lg,h.lb,h.lr,h.lt,h.rs.below hb,h.rg.below hb,h.rb.below hb,h.rr.below hb,by obtain⟨vs,hv⟩:=h.rt;exact⟨vs,hv.below hb⟩⟩
structure Yn (w:World) (a:Option Addr) (n c:Nat) (vs:List Value) (rows:List (List Value)):Prop where
 out:w.ownsRow 0 48 1 (.slice a n c) n vs
 len:rows.length=n
 inn:∀i,i<n->∃a' m c',vs.getD i undef= .slice a' m c'/\w.ownsRow 0 68 3 (.slice a' m c') m (rows.getD i [])
def Vm (a:uQ) (vs:uZ):List Nat:=(zj a).toList++vs.filterMap Value.ownBlock
theorem Yn.vlen {a:uQ} {vs:uZ} {rows:List (uZ)} (h:Yn w a n c vs rows):vs.length=n:=by
 have:=h.out.1;omega
theorem gD {a:uQ} {vs:uZ} (hi:i<vs.length) (hk:(vs.getD i undef).ownBlock=some k):k∈Vm a vs:=by
 unfold Vm;refine yW (.inr (xc.2 ⟨vs.getD i undef,?_,hk⟩));rw[xm,xV hi];simp
theorem gP {a:uQ} {vs:uZ} (hk:zj a=some k):k∈Vm a vs:=by
 unfold Vm;simp[hk]
theorem Yn.keep {a:uQ} {vs:uZ} {rows:List (uZ)} (h:Yn w a n c vs rows) (hb:∀k∈Vm a vs,k<w.heap.size->w'.heap[k]? =w.heap[k]?):Yn w' a n c vs rows:=by
 refine⟨qX h.out λk hk hl=>hb k (gP (by rwa [yu] at hk)) hl,h.len,λi hi=> ?_⟩;obtain⟨a',m,c',e,ho⟩:=h.inn i hi;exact⟨a',m,c',e,qX ho λk hk hl=>hb k (gD (by rw[h.vlen];exact hi) (by rw[e];exact hk)) hl⟩
theorem Yn.lt {a:uQ} {vs:uZ} {rows:List (uZ)} (h:Yn w a n c vs rows):∀k∈Vm a vs,k<w.heap.size:=by
 intro k hk;unfold Vm at hk;rcases xM hk with hk|hk
 ·have:zj a=some k:=by simpa using hk
  exact(zy h.out k this).2
 ·obtain⟨v,hv,a0⟩:=xc.1 hk;obtain⟨i,hi,e⟩:=List.mem_iff_getElem.1 hv;obtain⟨a',m,c',e',ho⟩:=h.inn i (by rw[<-h.vlen];exact hi);have:vs.getD i undef=v:=by rw[xm,xV hi];simp[e]
  rw[this] at e';rw[e'] at a0;exact(ho.lt k a0).2
structure Vd where
 s:List Value
 g:List Value
 b:List Value
 r:List Value
 t:List (List Value)
def Pg.cells (p:Pg):Vd:=⟨zf p.sems,zf p.groups,zf p.barriers,zf p.rooms,p.threads.map qR⟩
structure qp (w:World) (v:PV) (vs:List Value) (C:Vd):Prop where
 os:w.ownsRow 0 3 1 (.slice v.s v.ns v.cs) v.ns C.s
 og:w.ownsRow 0 3 1 (.slice v.g v.ng v.cg) v.ng C.g
 ob:w.ownsRow 0 3 1 (.slice v.b v.nb v.cb) v.nb C.b
 orr:w.ownsRow 0 3 1 (.slice v.r v.nr v.cr) v.nr C.r
 ot:Yn w v.t v.nt v.ct vs C.t
def ZD (v:PV) (vs:uZ):List Nat:=(zj v.s).toList++((zj v.g).toList++((zj v.b).toList++((zj v.r).toList++Vm v.t vs)))
theorem qp.keep {v:PV} {vs:uZ} {C:Vd} (h:qp w v vs C) (hb:∀k∈ZD v vs,k<w.heap.size->w'.heap[k]? =w.heap[k]?):qp w' v vs C:=by
 refine⟨qX h.os λk hk hl=>hb k ?_ hl,qX h.og λk hk hl=>hb k ?_ hl,qX h.ob λk hk hl=>hb k ?_ hl,qX h.orr λk hk hl=>hb k ?_ hl,h.ot.keep λk hk hl=>hb k ?_ hl⟩
 all_goals first
  |(rw[yu] at hk;unfold ZD;simp[hk];done)
  |(unfold ZD;simp[hk];done)
theorem qp.lt {v:PV} {vs:uZ} {C:Vd} (h:qp w v vs C):∀k∈ZD v vs,k<w.heap.size:=by
 intro k hk;unfold ZD at hk;simp only[List.mem_append,Option.mem_toList] at hk;rcases hk with hk|hk|hk|hk|hk
 ·exact(zy h.os k hk).2
 ·exact(zy h.og k hk).2
 ·exact(zy h.ob k hk).2
 ·exact(zy h.orr k hk).2
 ·exact h.ot.lt k hk
theorem qp.below {v:PV} {vs:uZ} {C:Vd} (h:qp w v vs C) (hb:xW w w'):qp w' v vs C:=
 h.keep λk hk _=>hb.block k (h.lt k hk)
theorem Yn.rd {a:uQ} {vs:uZ} {ts:List (List xA)} (h:Yn w a n c vs (ts.map qR)):tj w a ts vs:=by
 have hl:ts.length=n:=by simpa using h.len
 refine⟨by rw[h.vlen,hl],Rd.of_owns h.out,λi hi=> ?_⟩;obtain⟨a',m,c',e,ho⟩:=h.inn i jq;have er:(ts.map qR).getD i []=qR (ts.getD i []):=by simp[List.getD,hi]
 rw[er] at ho;have hm:m=(ts.getD i []).length:=by
  have:=ho.1;rw[tP] at this;omega
 subst hm;exact⟨a',c',e,Rd.of_owns ho⟩
theorem qp.rd {v:PV} {vs:uZ} {p:Pg} (h:qp w v vs p.cells):yK w v p:=
 ⟨by have:=h.os.1;simpa[Pg.cells] using this,by have:=h.og.1;simpa[Pg.cells] using this,by have:=h.ob.1;simpa[Pg.cells] using this,by have:=h.orr.1;simpa[Pg.cells] using this,
 by have:=h.ot.len;simpa[Pg.cells] using this,Rd.of_owns h.os,Rd.of_owns h.og,Rd.of_owns h.ob,Rd.of_owns h.orr,⟨vs,Yn.rd h.ot⟩⟩
structure zo (S:List Nat) (w w':World):Prop where
 os:w'.os=w.os
 tape:w'.tape=w.tape
 output:w'.output=w.output
 size:w.heap.size<=w'.heap.size
 block:∀k,k<w.heap.size->k∉S->w'.heap[k]? =w.heap[k]?
theorem zo.refl (S:List Nat) (w:World):zo S w w:=⟨rfl,rfl,rfl,Nat.le_refl _,λ_ _ _=>rfl⟩
theorem zo.trans {a b c:World} (h:zo S a b) (k:zo S b c):zo S a c:=
 ⟨k.os.trans h.os,k.tape.trans h.tape,k.output.trans h.output,Nat.le_trans h.size k.size,λi hi hn=>(k.block i (Nat.lt_of_lt_of_le hi h.size) hn).trans (h.block i hi hn)⟩
theorem zo.of_grown {row:Option Nat} (h:w.grownBy w' row) (hr:∀k,row=some k->k∈S):zo S w w':=
 ⟨h.os,h.tape,h.output,h.size,λk hk hn=>h.block k hk (λe=>hn (hr k e.symm))⟩
theorem zo.mono {S':List Nat} (h:zo S w w') (hs:∀k∈S,k∈S'):zo S' w w':=
 ⟨h.os,h.tape,h.output,h.size,λk hk hn=>h.block k hk (λe=>hn (hs k e))⟩
theorem zo.below (h:zo S w w') (hB:B<=w.heap.size) (hS:∀k∈S,B<=k):Below B w w':=
 ⟨h.os,h.tape,h.output,h.size,λk hk=>h.block k jq (λe=>by have:=hS k e;omega)⟩
theorem zo.of_below (h:xW w w'):zo S w w':=
 ⟨h.os,h.tape,h.output,h.size,λk hk _=>h.block k hk⟩
theorem qp.touch {v:PV} {vs:uZ} {C:Vd} (h:qp w v vs C) (ht:zo S w w') (hd:∀k∈ZD v vs,k∉S):qp w' v vs C:=
 h.keep λk hk hl=>ht.block k hl (hd k hk)
theorem zE {a:uQ} {cs:uZ} (h:w.ownsRow B e sz (.slice a n c) n cs) (ht:zo S w w') (hd:∀k,zj a=some k->k∉S):w'.ownsRow B e sz (.slice a n c) n cs:=
 qX h λk hk hl=>ht.block k hl (hd k (by rwa [yu] at hk))
structure jU (w:World) (vs:List Value) (rows:List (List Value)):Prop where
 len:rows.length=vs.length
 inn:∀i,i<vs.length->∃a' m c',vs.getD i undef= .slice a' m c'/\w.ownsRow 0 68 3 (.slice a' m c') m (rows.getD i [])
def uW (vs:uZ):List Nat:=vs.filterMap Value.ownBlock
theorem jU.nil (w:World):jU w [] []:=⟨rfl,jv⟩
theorem DS {vs:uZ} (hi:i<vs.length) (hk:(vs.getD i undef).ownBlock=some k):k∈uW vs:=by
 refine xc.2 ⟨vs.getD i undef,?_,hk⟩;rw[xm,xV hi];simp
theorem jU.keep {vs:uZ} {rows:List (uZ)} (h:jU w vs rows) (hb:∀k∈uW vs,k<w.heap.size->w'.heap[k]? =w.heap[k]?):jU w' vs rows:=by
 refine⟨h.len,λi hi=> ?_⟩;obtain⟨a',m,c',e,ho⟩:=h.inn i hi;exact⟨a',m,c',e,qX ho λk hk hl=>hb k (DS hi (by rw[e];exact hk)) hl⟩
theorem jU.lt {vs:uZ} {rows:List (uZ)} (h:jU w vs rows):∀k∈uW vs,k<w.heap.size:=by
 intro k hk;obtain⟨v,hv,a0⟩:=xc.1 hk;obtain⟨i,hi,e⟩:=List.mem_iff_getElem.1 hv;obtain⟨a',m,c',e',ho⟩:=h.inn i hi;have:vs.getD i undef=v:=by rw[xm,xV hi];simp[e]
 rw[this] at e';rw[e'] at a0;exact(ho.lt k a0).2
theorem jU.below {vs:uZ} {rows:List (uZ)} (h:jU w vs rows) (hb:xW w w'):jU w' vs rows:=h.keep λk hk _=>hb.block k (h.lt k hk)
theorem jU.grown {vs:uZ} {rows:List (uZ)} {row:Option Nat} (h:jU w vs rows) (hg:w.grownBy w' row) (hr:∀k,row=some k->k∉uW vs):jU w' vs rows:=
 h.keep λk hk hl=>hg.block k hl (λe=>hr k e.symm hk)
theorem jU.snoc {vs:uZ} {rows:List (uZ)} (h:jU w vs rows) {a:uQ} {row:uZ} (ho:w.ownsRow 0 68 3 (.slice a m c) m row):jU w (vs++[.slice a m c]) (rows++[row]):=by
 refine⟨by simp[h.len],λi hi=> ?_⟩;by_cases a0:i<vs.length
 ·obtain⟨a',m',c',e,c0⟩:=h.inn i a0;refine⟨a',m',c',?_,?_⟩
  ·rw[<-e];simp[List.getD,List.getElem?_append_left a0]
  ·have:(rows++[row]).getD i []=rows.getD i []:=(by simp[List.getD,List.getElem?_append_left (show i<rows.length by rw[h.len];exact a0)]);rw[this];exact c0
 ·have b0:i=vs.length:=by simp at hi;omega
  subst b0;refine⟨a,m,c,jv,?_⟩;have:(rows++[row]).getD vs.length []=row:=by simp[List.getD,<-h.len]
  rw[this];exact ho
theorem tH (vs:uZ) (a:uQ) (m c:Nat):uW (vs++[.slice a m c])=uW vs++(zj a).toList:=by
 unfold uW;rw[List.filterMap_append];congr 1
 cases a<;>rfl
theorem Yn.inner {a:uQ} {vs:uZ} {rows:List (uZ)} (h:Yn w a n c vs rows):jU w vs rows:=
 ⟨by rw[h.len,h.vlen],λi hi=>h.inn i (by rw[<-h.vlen];exact hi)⟩
theorem Yn.of_inner {a:uQ} {vs:uZ} {rows:List (uZ)} (ho:w.ownsRow 0 48 1 (.slice a n c) n vs) (h:jU w vs rows):Yn w a n c vs rows:=by
 have hv:vs.length=n:=by have:=ho.1;omega
 exact⟨ho,by rw[h.len,hv],λi hi=>h.inn i jq⟩
theorem Dg (a:uQ) (vs:uZ):Vm a vs=(zj a).toList++uW vs:=rfl
theorem VU:(Tryz.prog.info? 68).map (λi=>(i.zero,i.size,i.bytes))=some (some (.agg #[uy 0,uy 0,uy 0]),3,24):=by kernel_rfl
theorem QW:(Tryz.prog.info? 48).map (λi=>(i.zero,i.size,i.bytes))=some (some uk,1,24):=by kernel_rfl
theorem KU (ts:List (List xA)) (k:Nat) (hk:k<ts.length):(ts.take (k+1)).map qR=(ts.take k).map qR++[qR (ts.getD k [])]:=by
 rw[List.take_add_one,xV hk,vQ,xm,xV hk];simp only[Option.toList_some,List.map_cons,List.map_nil,Option.getD_some]
theorem fN {l:List Nat} {o:Option Nat} (h:l.Nodup) (hk:∀k,o=some k->k∉l):(l++o.toList).Nodup:=by
 cases o with
 |none=>simpa using h
 |some k=>
  rw[List.nodup_append];exact⟨h,jv,λx hx y hy e=>by
   simp only[Option.toList_some,List.mem_singleton] at hy;exact hk k rfl (by rw[<-hy,<-e];exact hx)⟩
def vz (k:Int):ByteArray:=
 if k=1 then ⟨#[115,97,121]⟩
 else if k=2 then ⟨#[97,99,113,117,105,114,101]⟩
 else if k=3 then ⟨#[114,101,108,101,97,115,101]⟩
 else if k=4 then ⟨#[111,110,99,101]⟩
 else if k=5 then ⟨#[97,100,100]⟩
 else if k=6 then ⟨#[119,97,105,116]⟩
 else if k=7 then ⟨#[97,114,114,105,118,101]⟩
 else if k=8 then ⟨#[115,101,110,100]⟩
 else if k=9 then ⟨#[103,101,116]⟩
 else if k=10 then ⟨#[99,108,111,115,101]⟩
 else ⟨#[]⟩
def vS (n:Int):Bool:=decide (0<=n)&&decide (n<=99)
def zN (p:Pg) (k:Int):Nat:=
 if k=1 then 1 else if k=2\/k=3 then p.sems.length else if k=4 then 3 else if k=5\/k=6 then p.groups.length else if k=7 then p.barriers.length else p.rooms.length
def j5 (p:Pg) (o:xA):Bool:=
 if o.kind=2\/o.kind=3 then decide (1<=o.arg)&&decide (o.arg<=p.sems.getD o.on.toNat 0)
 else if o.kind=5 then decide (-9<=o.arg)&&decide (o.arg<=9)
 else if o.kind=1\/o.kind=4\/o.kind=8 then vS o.arg
 else decide (o.arg=0)
def zX (p:Pg) (o:xA):Bool:=
 decide (1<=o.kind)&&decide (o.kind<=10)&&decide (0<=o.on)&&decide (o.on<zN p o.kind)&&j5 p o
def xl (l:List Int) (lo hi:Int):Bool:=decide (l.length<=3)&&l.all (λn=>decide (lo<=n)&&decide (n<=hi))
def zD (p:Pg):Bool:=
 xl p.sems 1 9&&xl p.groups 0 9&&xl p.barriers 1 6&&xl p.rooms 0 4&&decide (1<=p.threads.length)&&decide (p.threads.length<=4)&&
  p.threads.all (λt=>decide (t.length<=8)&&t.all (zX p))
theorem gL (n:Int) (w:World):
  Calls Tryz.prog 141 #[uy n] w λe w'=>e= .returned (.bool (vS n))/\w'=w:=by
 by_cases h:0<=n
 ·have h':vS n=decide (n<=99):=by simp[vS,h]
  rw[h'];go_enter Tryz.func141,Tryz.ntmps141;go_wp2;go_ret;exact⟨rfl,rfl⟩
 ·have h':vS n=false:=by simp[vS,h]
  have hd:decide (0<=n)=false:=by simpa using h
  rw[h'];go_enter Tryz.func141,Tryz.ntmps141;go_wp2;go_ret;exact⟨rfl,rfl⟩
theorem vA (k:Int) (w:World):
  Calls Tryz.prog 154 #[uy k] w λe w'=>e= .returned (.string (vz k))/\xW w w':=by
 by_cases h1:k<1
 ·have e:vz k=⟨#[]⟩:=by unfold vz;repeat (rw[if_neg jq])
  rw[e];go_enter Tryz.func154,Tryz.ntmps154;go_wp2;go_ret;exact⟨rfl,zY⟩
 ·have a0:decide (k<1)=false:=by simpa using h1
  by_cases h2:10<k
  ·have e:vz k=⟨#[]⟩:=by unfold vz;repeat (rw[if_neg jq])
   rw[e];go_enter Tryz.func154,Tryz.ntmps154;go_wp2;go_ret;exact⟨rfl,zY⟩
  ·have hk:k=1\/k=2\/k=3\/k=4\/k=5\/k=6\/k=7\/k=8\/k=9\/k=10:=jq;clear h1 h2 a0;rcases hk with rfl|rfl|rfl|rfl|rfl|rfl|rfl|rfl|rfl|rfl
   all_goals
    go_enter Tryz.func154,Tryz.ntmps154;go_wp2;go_ret;exact⟨rfl,zY⟩
theorem ti (v:PV) (p:Pg) (k:Int) (w:World) (hr:yK w v p) (h:v.ns<=maxLen/\v.ng<=maxLen/\v.nb<=maxLen/\v.nr<=maxLen):
  Calls Tryz.prog 155 #[.agg (zF v),uy k] w λe w'=>e= .returned (uy (zN p k))/\xW w w':=by
 unfold maxLen at h;obtain⟨z1,z2,z3,z4⟩:=h;have l1:=zd hr.ls;have l2:=zd hr.lg;have l3:=zd hr.lb;have l4:=zd hr.lr;have hk:k=1\/k=2\/k=3\/k=4\/k=5\/k=6\/k=7\/(k≠1/\k≠2/\k≠3/\k≠4/\k≠5/\k≠6/\k≠7):=jq;clear hr;rcases hk with rfl|rfl|rfl|rfl|rfl|rfl|rfl|⟨h1,h2,h3,h4,h5,h6,h7⟩
 rotate_left 7
 ·have t1:(k==1)=false:=by simpa using h1
  have t2:(k==2)=false:=by simpa using h2
  have t3:(k==3)=false:=by simpa using h3
  have t4:(k==4)=false:=by simpa using h4
  have t5:(k==5)=false:=by simpa using h5
  have t6:(k==6)=false:=by simpa using h6
  have t7:(k==7)=false:=by simpa using h7
  have HS:uH (zN p k=v.nr):=zd (by unfold zN;rw[if_neg h1,if_neg jq,if_neg h4,if_neg jq,if_neg h7];exact l4.out);clear h1 h2 h3 h4 h5 h6 h7;go_enter Tryz.func155,Tryz.ntmps155;go_wp2;go_ret;exact⟨fe (by rw[HS.o]),zY⟩
 all_goals
  go_enter Tryz.func155,Tryz.ntmps155;go_wp2;go_ret;exact⟨fe (by simp[zN,l1.out,l2.out,l3.out]),zY⟩
theorem dG (v:PV) (p:Pg) (o:xA) (w:World) (hr:yK w v p) (hs:v.ns<=maxLen) (c0:0<=o.on/\o.on<zN p o.kind):
  Calls Tryz.prog 156 #[.agg (zF v),.agg #[uy o.kind,uy o.on,uy o.arg]] w λe w'=>e= .returned (.bool (j5 p o))/\xW w w':=by
 unfold maxLen at hs;have b0:xW w ((w.alloc (.cells (zF v) 26)).alloc (.cells #[uy o.kind,uy o.on,uy o.arg] 68)):=(zY).alloc jv _;by_cases hk:o.kind=2\/o.kind=3
 ·have hn:zN p o.kind=v.ns:=by
   unfold zN;rw[if_neg jq,if_pos hk];exact hr.ls
  rw[hn] at c0;obtain⟨f0,on1⟩:=c0;obtain⟨b,q,d0,hc⟩:=(hr.rs.below b0).int (by rw[hr.ls];omega);have a0:=hc o.on.toNat (by rw[hr.ls];omega)
  obtain⟨x,hx⟩:=jy (p.sems.getD o.on.toNat 0);rw[<-hx] at a0;have HR:uH (j5 p o=(decide (1<=o.arg)&&decide (o.arg<=x))):=zd (by unfold j5;rw[if_pos hk,hx]);obtain⟨vs,o0,j0,vg,m0,h0,vb,l0,g0,vr,n0,i0,vt,p0,k0⟩:=v;simp only at d0 hs hn a0 on1 b0;subst d0;clear hr hc hx hn;by_cases ha:1<=o.arg
  ·have hd:decide (1<=o.arg)=true:=(by simpa using ha);rcases hk with h2|h2
   all_goals
    have t2:(o.kind==2)=_:=congrArg (· ==(2:Int)) h2;have t3:(o.kind==3)=_:=congrArg (· ==(3:Int)) h2;simp only[Int.reduceBEq] at t2 t3;clear h2;go_enter Tryz.func156,Tryz.ntmps156;go_wp2
    go_quiet (fail)
    go_wp2;go_ret;exact⟨zT (by rw[HR.o,hd];rfl),below_drewN b0 _⟩
  ·have hd:decide (1<=o.arg)=false:=(by simpa using ha);rcases hk with h2|h2
   all_goals
    have t2:(o.kind==2)=_:=congrArg (· ==(2:Int)) h2;have t3:(o.kind==3)=_:=congrArg (· ==(3:Int)) h2;simp only[Int.reduceBEq] at t2 t3;clear h2;go_enter Tryz.func156,Tryz.ntmps156;go_wp2
    go_quiet (fail)
    go_wp2;go_ret;exact⟨zT (by rw[HR.o,hd];rfl),below_drewN b0 _⟩
 ·have t2:(o.kind==2)=false:=by simp;omega
  have t3:(o.kind==3)=false:=by simp;omega
  by_cases h5:o.kind=5
  ·have t5:(o.kind==5)=true:=(by simpa using h5);have HR:uH (j5 p o=(decide (-9<=o.arg)&&decide (o.arg<=9))):=zd (by unfold j5;rw[if_neg hk,if_pos h5]);clear h5 hk hr;by_cases ha: -9<=o.arg
   ·have hd:decide (-9<=o.arg)=true:=(by simpa using ha);go_enter Tryz.func156,Tryz.ntmps156;go_wp2;go_ret;exact⟨zT (by rw[HR.o,hd];rfl),b0⟩
   ·have hd:decide (-9<=o.arg)=false:=(by simpa using ha);go_enter Tryz.func156,Tryz.ntmps156;go_wp2;go_ret;exact⟨zT (by rw[HR.o,hd];rfl),b0⟩
  ·have t5:(o.kind==5)=false:=(by simpa using h5);by_cases h1:o.kind=1\/o.kind=4\/o.kind=8
   ·have HR:uH (j5 p o=vS o.arg):=zd (by unfold j5;rw[if_neg hk,if_neg h5,if_pos h1]);clear h5 hk hr;rcases h1 with h1|h1|h1
    all_goals
     have t1:(o.kind==1)=_:=congrArg (· ==(1:Int)) h1;have t4:(o.kind==4)=_:=congrArg (· ==(4:Int)) h1;have t8:(o.kind==8)=_:=congrArg (· ==(8:Int)) h1;simp only[Int.reduceBEq] at t1 t4 t8;clear h1;go_enter Tryz.func156,Tryz.ntmps156;go_wp2_with fail;refine(gL o.arg _).mono ?_;rintro e w1 ⟨rfl,rfl⟩;go_wp2;go_ret;exact⟨zT (by rw[HR.o]),b0⟩
   ·have t1:(o.kind==1)=false:=by simp;omega
    have t4:(o.kind==4)=false:=by simp;omega
    have t8:(o.kind==8)=false:=by simp;omega
    have HR:uH (j5 p o=decide (o.arg=0)):=zd (by unfold j5;rw[if_neg hk,if_neg h5,if_neg h1]);clear h5 hk hr h1;go_enter Tryz.func156,Tryz.ntmps156;go_wp2;go_ret;exact⟨zT (by rw[HR.o];rfl),b0⟩
end Go.Proofs.YtfclolgfegdfjaaGreat
namespace Go.Proofs.YtfclolgfegdfjaaGreat
open Go.RowKit Go.Sort
variable {w w':World}
def XQ:ByteArray:=⟨#[]⟩
def Yz (c:UInt8) (cs:List UInt8):ByteArray:=⟨(c::cs).toArray⟩
@[simp] theorem pm:XQ.toList.isEmpty=true:=by
 have:XQ.toList=[]:=by unfold XQ ByteArray.toList ByteArray.toList.loop;simp[ByteArray.size]
 rw[this];rfl
@[simp] theorem po (c:UInt8) (cs:List UInt8):(Yz c cs).toList.isEmpty=false:=by
 have h:(Yz c cs).toList≠[]:=by
  intro h;have:=congrArg List.length h;simp[Yz,ByteArray.toList_eq] at this
 cases h':(Yz c cs).toList with
 |nil=>exact absurd h' h
 |cons a l=>rfl
theorem Zi {P:Program} {f:FuncId} {args:Array Value} {d:Nat} {os:Array Obj} {v:Value} 
  (h:Calls P f args (grow (redrawn w d) os) λe w'=>e= .returned v/\w'=grow (redrawn w d) os):Calls P f args (grow (redrawn w d) os) λe a0=>e= .returned v/\∃p:Regrown,a0=grow (redrawn w p.d) p.os:=
 h.mono λ_ _ ⟨he,hw⟩=>⟨he,⟨⟨d,os⟩,hw⟩⟩
theorem ze {q:Addr} {x:Value} (hb:xW w w') (g:w.cell? q=some x):w'.cell? q=some x:=
 (hb.cell (World.block_lt_of_cell? _ _ g)).trans g
theorem qu (v:PV) (p:Pg) (o:xA) (w:World) (hr:yK w v p) (hs:v.ns<=maxLen/\v.ng<=maxLen/\v.nb<=maxLen/\v.nr<=maxLen):
  Calls Tryz.prog 127 #[.agg (zF v),.agg #[uy o.kind,uy o.on,uy o.arg]] w λe w'=>e= .returned (.bool (zX p o))/\xW w w':=by
 have kP:zm ((w.alloc (.cells (zF v) 26)).alloc (.cells #[uy o.kind,uy o.on,uy o.arg] 68)) w.heap.size (zF v) 26:=(zm.new _ _ _).alloc _;have kO:zm ((w.alloc (.cells (zF v) 26)).alloc (.cells #[uy o.kind,uy o.on,uy o.arg] 68)) (w.heap.size+1) #[uy o.kind,uy o.on,uy o.arg] 68:=by simpa using zm.new (w.alloc (.cells (zF v) 26)) #[uy o.kind,uy o.on,uy o.arg] 68
 have hB:xW w ((w.alloc (.cells (zF v) 26)).alloc (.cells #[uy o.kind,uy o.on,uy o.arg] 68)):=(zY).alloc jv _;obtain⟨W0,h0⟩:∃W0:World,W0=((w.alloc (.cells (zF v) 26)).alloc (.cells #[uy o.kind,uy o.on,uy o.arg] 68)):=⟨_,rfl⟩
 rw[<-h0] at kP kO hB;have d0:=zd h0;clear h0;have c1:W0.cell? ⟨w.heap.size,0,none⟩=some (.slice v.s v.ns v.cs):=kP.cell 0 rfl;have c2:W0.cell? ⟨w.heap.size,1,none⟩=some (.slice v.g v.ng v.cg):=kP.cell 1 rfl;have c3:W0.cell? ⟨w.heap.size,2,none⟩=some (.slice v.b v.nb v.cb):=kP.cell 2 rfl;have c4:W0.cell? ⟨w.heap.size,3,none⟩=some (.slice v.r v.nr v.cr):=kP.cell 3 rfl;have c5:W0.cell? ⟨w.heap.size,4,none⟩=some (.slice v.t v.nt v.ct):=kP.cell 4 rfl;have c6:W0.cell? ⟨w.heap.size+1,0,none⟩=some (uy o.kind):=kO.cell 0 rfl;have c7:W0.cell? ⟨w.heap.size+1,1,none⟩=some (uy o.on):=kO.cell 1 rfl;have c8:W0.cell? ⟨w.heap.size+1,2,none⟩=some (uy o.arg):=kO.cell 2 rfl;have k1:=cell_regrown c1;have k2:=cell_regrown c2;have k3:=cell_regrown c3;have k4:=cell_regrown c4;have k5:=cell_regrown c5;have k6:=cell_regrown c6;have k7:=cell_regrown c7;have k8:=cell_regrown c8;clear kP kO;by_cases hk:1<=o.kind/\o.kind<=10
 ·obtain⟨c,cs,hW⟩:∃c cs,vz o.kind=Yz c cs:=by
   have hk:o.kind=1\/o.kind=2\/o.kind=3\/o.kind=4\/o.kind=5\/o.kind=6\/o.kind=7\/o.kind=8\/o.kind=9\/o.kind=10:=jq;rcases hk with h|h|h|h|h|h|h|h|h|h<;>rw[h]<;>exact⟨_,_,rfl⟩
  have cW:uH (∀d os,Calls Tryz.prog 154 #[uy o.kind] (grow (redrawn W0 d) os) λe c0=>e= .returned (.string (Yz c cs))/\∃p:Regrown,c0=grow (redrawn W0 p.d) p.os):=zd (λd os=>Calls.regrown_of (by
   have:=vA o.kind (grow (redrawn W0 d) os);rw[hW] at this;exact this))
  have cS:uH (∀d os,Calls Tryz.prog 155 #[.agg (zF v),uy o.kind] (grow (redrawn W0 d) os) λe c0=>e= .returned (uy (zN p o.kind))/\∃p:Regrown,c0=grow (redrawn W0 p.d) p.os):=zd (λd os=>Calls.regrown_of
   (ti v p o.kind _ ((hr.below hB).below (below_regrown W0 d os)) hs))
  have e1:decide (1<=o.kind)=true:=by simpa using hk.1
  have e2:decide (o.kind<=10)=true:=by simpa using hk.2
  clear hW;by_cases hn:o.on<0
  ·have t1:decide (o.on<0)=true:=(by simpa using hn);have HR:uH (zX p o=false):=zd (by unfold zX;rw[show decide (0<=o.on)=false by simpa using hn];simp);clear e1 e2;go_enter Tryz.func127,Tryz.ntmps127;go_wp2_with fail;rw[<-d0.out];refine wp_region_quiet_below (by kernel_rfl) (by kernel_rfl) ?_
   repeat (go_big_quiet_step (first|exact cW.out _ _|exact cS.out _ _))
   refine wpQuiet_nil ?_;intro w6 b0;have a0:xW W0 w6:=by
    obtain⟨pq,rfl⟩:=b0;exact below_regrown _ _ _
   clear b0;go_wp2;go_ret;exact⟨zT (by rw[HR.o]),hB.trans (a0.mono hB.size)⟩
  ·have t1:decide (o.on<0)=false:=(by simpa using hn);have e3:decide (0<=o.on)=true:=(by simpa using hn);by_cases f0:(zN p o.kind:Int)<=o.on
   ·have t2:decide ((zN p o.kind:Int)<=o.on)=true:=(by simpa using f0);have HR:uH (zX p o=false):=zd (by unfold zX;rw[show decide (o.on<zN p o.kind)=false by simpa using f0];simp);clear e1 e2 e3;go_enter Tryz.func127,Tryz.ntmps127;go_wp2_with fail;rw[<-d0.out];refine wp_region_quiet_below (by kernel_rfl) (by kernel_rfl) ?_
    repeat (go_big_quiet_step (first|exact cW.out _ _|exact cS.out _ _))
    refine wpQuiet_nil ?_;intro w6 b0;have a0:xW W0 w6:=by
     obtain⟨pq,rfl⟩:=b0;exact below_regrown _ _ _
    clear b0;go_wp2;go_ret;exact⟨zT (by rw[HR.o]),hB.trans (a0.mono hB.size)⟩
   ·have t2:decide ((zN p o.kind:Int)<=o.on)=false:=(by simpa using f0);have j0:0<=o.on/\o.on<zN p o.kind:=jq;have HR:uH (zX p o=j5 p o):=zd (by unfold zX;rw[e1,e2,e3,show decide (o.on<zN p o.kind)=true by simpa using f0];simp);clear e1 e2 e3;go_enter Tryz.func127,Tryz.ntmps127;go_wp2_with fail;rw[<-d0.out];refine wp_region_quiet_below (by kernel_rfl) (by kernel_rfl) ?_
    repeat (go_big_quiet_step (first|exact cW.out _ _|exact cS.out _ _))
    refine wpQuiet_nil ?_;intro w6 b0;have a0:xW W0 w6:=by
     obtain⟨pq,rfl⟩:=b0;exact below_regrown _ _ _
    clear b0;clear k1 k2 k3 k4 k5 k6 k7 k8;replace c1:=ze a0 c1;replace c2:=ze a0 c2;replace c3:=ze a0 c3;replace c4:=ze a0 c4;replace c5:=ze a0 c5;replace c6:=ze a0 c6;replace c7:=ze a0 c7;replace c8:=ze a0 c8;have g0:=hB.trans (a0.mono hB.size);go_wp2_with fail;refine(dG v p o _ (hr.below g0) hs.1 j0).mono ?_;rintro e w' ⟨rfl,i0⟩;go_wp2;go_ret;exact⟨zT (by rw[HR.o]),g0.trans (i0.mono g0.size)⟩
 ·have hW:vz o.kind=XQ:=by unfold vz XQ;repeat (rw[if_neg jq])
  have cW:uH (∀d os,Calls Tryz.prog 154 #[uy o.kind] (grow (redrawn W0 d) os) λe c0=>e= .returned (.string XQ)/\∃p:Regrown,c0=grow (redrawn W0 p.d) p.os):=zd (λd os=>Calls.regrown_of (by
   have:=vA o.kind (grow (redrawn W0 d) os);rw[hW] at this;exact this))
  have HR:uH (zX p o=false):=zd (by unfold zX;rw[<-Bool.decide_and,show decide (1<=o.kind/\o.kind<=10)=false by simpa using hk];simp);clear hW hk;go_enter Tryz.func127,Tryz.ntmps127;go_wp2_with fail;rw[<-d0.out];refine wp_region_quiet_below (by kernel_rfl) (by kernel_rfl) ?_
  repeat (go_big_quiet_step (exact cW.out _ _))
  refine wpQuiet_nil ?_;intro w6 b0;have a0:xW W0 w6:=by
   obtain⟨pq,rfl⟩:=b0;exact below_regrown _ _ _
  clear b0;go_wp2;go_ret;exact⟨zT (by rw[HR.o]),hB.trans (a0.mono hB.size)⟩
end Go.Proofs.YtfclolgfegdfjaaGreat
namespace Go.Proofs.YtfclolgfegdfjaaGreat
open Go.RowKit
variable {w W w':World} {B n i j m b c c2 sz:Nat} {T e E:TypeId} {S:List Nat} {z:Value}
def xO (P:Program) (o:Oper) (ρ:Operand->Value) (w:World) (post:Value->World->Prop):Prop:=
 match (execOp ρ o).run P w with
 | .ok (.value u) w'=>post u w'
 | .ok .skip w'=>post undef w'
 | .ok (.enter f args) w'=>Calls P f args w' (λe w''=>∃u,e= .returned u/\post u w'')
 |_=>False
theorem Ua {P:Program} {o:Oper} {a:Act} {a0:Value->World->Prop} {Q:Exit->Act->World->Prop} {K:Act->World->Prop} (h:xO P o a.eval w a0) (hK:∀u w',a0 u w'->K (a.put o.dst u) w'):o.wp P a w K Q:=by
 unfold xO at h;unfold Oper.wp;generalize (execOp a.eval o).run P w=r at h⊢
 cases r with
 |ok n w'=>
  cases n with
  |value u=>exact hK _ _ h
  |skip=>exact hK _ _ h
  |enter f args=>
   refine Calls.mono h λe b0 he=> ?_;obtain⟨u,rfl,hp⟩:=he;exact hK _ _ hp
  |_=>exact h.elim
 |halt x w'=>exact h.elim
def xL (Rs:List (uZ->Value->World->Prop)) (i:Nat):uZ->Value->World->Prop:=Rs.getD i (λ_ _ _=>True)
def waits (o:Oper):List Nat:=(o.after.toList.filter (Region.binds .any)).map (·.on)
def Ze (l:List Oper) (ρ:Operand->Value) (j:Nat):Value:=
 match (l[j]?).bind (·.dst) with
 |some d=>ρ (.tmp d)
 |none=>undef
def YM (l:List Oper) (ρ:Operand->Value) (o:Oper):uZ:=(waits o).map (Ze l ρ)
def Kz (l:List Oper) (Rs:List (uZ->Value->World->Prop)) (ρ:Operand->Value) (w:World) (j:Nat):Prop:=
 match l[j]? with
 |some o=>xL Rs j (YM l ρ o) (Ze l ρ j) w
 |none=>True
def JB (l:List Oper) (Rs:List (uZ->Value->World->Prop)) (ρ:Operand->Value) (w:World):List Nat->Prop
 |[]=>True
 |j::r=>Kz l Rs ρ w j/\JB l Rs ρ w r
theorem UV {l:List Oper} {Rs:List (uZ->Value->World->Prop)} {ρ:Operand->Value}:∀{js:List Nat},(∀j∈js,Kz l Rs ρ w j)->JB l Rs ρ w js
 |[],_=>trivial
 |j::r,h=>⟨h j jv,UV (λk hk=>h k (by simp[hk]))⟩
def Y5 (l:List Oper) (x:Operand):Bool:=
 match x with
 | .tmp t=> !(l.any λo=>o.dst==some t)
 |_=>true
theorem xF1 {l:List Oper} {ρ:Operand->Value} {a:Act} (h:∀x,Y5 l x=true->ρ x=a.eval x):(∀z,ρ (.const z)=z)/\(∀z,ρ (.func z)= .func (.func z) #[] #[]):=⟨λ_=>h _ rfl,λ_=>h _ rfl⟩
def kept (o:Oper) (u:Value):Value:=match o.dst with|some _=>u|none=>undef
def Z9 (P:Program) (l:List Oper) (Rs:List (uZ->Value->World->Prop)) (St:Nat->World->World->Prop) (Bk:Nat->Value->Option Nat) (G:(Nat->Bool)->World->Prop) (ρ0:Operand->Value):List Oper->Nat->Prop
 |[],_=>True
 |o::os,i=>(∀ρ w L,G L w->(∀j p,l[j]? =some p->(j==i||(waits p).contains i)=true->L j=false)->(∀x,Y5 l x=true->ρ x=ρ0 x)->JB l Rs ρ w (waits o)->xO P o ρ w (λu w'=>St i w w'/\xL Rs i (YM l ρ o) (kept o u) w'/\(∀k,Bk i (kept o u)=some k->w.heap.size<=k/\k<w'.heap.size)/\G (λj=>decide (j=i)||L j) w'))/\Z9 P l Rs St Bk G ρ0 os (i+1)
theorem Z9.at {P:Program} {l:List Oper} {Rs:List (uZ->Value->World->Prop)} {St:Nat->World->World->Prop} {Bk:Nat->Value->Option Nat} {G:(Nat->Bool)->World->Prop} {ρ0:Operand->Value}:∀{os:List Oper} {k i:Nat} {o:Oper},Z9 P l Rs St Bk G ρ0 os k->os[i]? =some o->
  ∀ρ w L,G L w->(∀j p,l[j]? =some p->(j==k+i||(waits p).contains (k+i))=true->L j=false)->(∀x,Y5 l x=true->ρ x=ρ0 x)->JB l Rs ρ w (waits o)->xO P o ρ w (λu w'=>St (k+i) w w'/\xL Rs (k+i) (YM l ρ o) (kept o u) w'/\(∀j,Bk (k+i) (kept o u)=some j->w.heap.size<=j/\j<w'.heap.size)/\G (λj=>decide (j=k+i)||L j) w')
 |[],_,i,o,_,h=>by simp at h
 |p::os,k,0,o,hs,h=>by
  obtain rfl:p=o:=by simpa using h
  simpa using hs.1
 |p::os,k,i+1,o,hs,h=>by
  have:=Z9.at (i:=i) (k:=k+1) hs.2 (by simpa using h);rw[show k+1+i=k+(i+1) by omega] at this;exact this
def XV (P:Program) (l:List Oper) (Rs:List (uZ->Value->World->Prop)) (Bk:Nat->Value->Option Nat) (G:World->Prop) (ρ0:Operand->Value):List Oper->Nat->Prop
 |[],_=>True
 |o::os,i=>(∀ρ w,G w->(∀x,Y5 l x=true->ρ x=ρ0 x)->JB l Rs ρ w (waits o)->xO P o ρ w (λu w'=>xW w w'/\xL Rs i (YM l ρ o) (kept o u) w'/\(∀k,Bk i (kept o u)=some k->w.heap.size<=k/\k<w'.heap.size)/\G w'))/\XV P l Rs Bk G ρ0 os (i+1)
theorem XV.to {P:Program} {l:List Oper} {Rs:List (uZ->Value->World->Prop)} {Bk:Nat->Value->Option Nat} {G:World->Prop} {ρ0:Operand->Value}:∀{os:List Oper} {k:Nat},XV P l Rs Bk G ρ0 os k->Z9 P l Rs (λ_ w w'=>xW w w') Bk (λ_ w=>G w) ρ0 os k
 |[],_,_=>trivial
 |_::_,_,h=>⟨λρ w _ hG _=>h.1 ρ w hG,XV.to h.2⟩
def jH:List Oper->Act->uZ->Act
 |[],a,_=>a
 |o::os,a,v::vs=>jH os (a.put o.dst v) vs
 |o::os,a,[]=>jH os (a.put o.dst undef) []
def Gh (Rs:List (uZ->Value->World->Prop)) (vs:uZ) (w:World):List Oper->Nat->Prop
 |[],_=>True
 |o::os,i=>xL Rs i ((waits o).map λj=>vs.getD j undef) (vs.getD i undef) w/\Gh Rs vs w os (i+1)
def ju (a:Act) (o:Oper):Value:=match o.dst with|some d=>a.tmps.getD d undef|none=>undef
theorem Qt (b:Act):∀(l:List Oper) (a:Act),a.tmps.size=b.tmps.size->a.defers=b.defers->(∀t,(∀o∈l,o.dst≠some t)->b.tmps[t]? =a.tmps[t]?)->jH l a (l.map (ju b))=b
 |[],a,hs,hd,h=>by
  rw[List.map_nil,jH];obtain⟨ta,da⟩:=a;obtain⟨tb,db⟩:=b;simp only at hs hd h;rw[hd];congr 1;exact Array.ext_getElem? λt=>(h t jv).symm
 |o::os,a,hs,hd,h=>by
  rw[List.map_cons,jH];refine Qt b os _ ?_ ?_ ?_
  ·cases ho:o.dst<;>simp[Act.put,hs]
  ·cases ho:o.dst<;>simp[Act.put,hd]
  ·intro t ht
   cases ho:o.dst with
   |none=>
    simp only[Act.put];refine h t (λp hp=> ?_);rcases List.mem_cons.1 hp with e|e
    ·rw[e,ho];simp
    ·exact ht p e
   |some d=>
    simp only[Act.put];by_cases b0:d=t
    ·subst b0;by_cases a0:d<a.tmps.size
     ·have c0:d<b.tmps.size:=by rw[<-hs];exact a0
      rw[Array.getElem?_setIfInBounds_self_of_lt a0];simp[ju,ho,c0]
     ·have c0:b.tmps.size<=d:=by rw[<-hs];exact Nat.le_of_not_lt a0
      rw[Array.getElem?_eq_none c0,Array.getElem?_eq_none (by simpa using Nat.le_of_not_lt a0)]
    ·rw[Array.getElem?_setIfInBounds_ne b0];exact h t (λp hp=>by
      rcases List.mem_cons.1 hp with e|e
      ·rw[e,ho];exact λhh=>b0 (by simpa using hh)
      ·exact ht p e)
def Q6:List Oper->Bool
 |[]=>true
 |o::os=>(match o.dst with|some d=> !(os.any λp=>p.dst==some d)|none=>true)&&Q6 os
theorem Qh:∀{l:List Oper},Q6 l=true->∀{i j:Nat} {o p:Oper} {d:Tmp},l[i]? =some o->l[j]? =some p->i≠j->o.dst=some d->p.dst≠some d
 |[],_,i,_,_,_,_,h,_,_,_=>by simp at h
 |q::os,hd,i,j,o,p,d,hi,hj,hne,ho=>by
  simp only[Q6,Bool.and_eq_true] at hd;intro hp
  cases i with
  |zero=>
   cases j with
   |zero=>exact hne rfl
   |succ j=>
    obtain rfl:q=o:=by simpa using hi
    rw[ho] at hd;have hm:p∈os:=vB (by simpa using hj);have:(os.any λx=>x.dst==some d)=true:=List.any_eq_true.2 ⟨p,hm,by simp[hp]⟩;simp[this] at hd
  |succ i=>
   cases j with
   |zero=>
    obtain rfl:q=p:=by simpa using hj
    rw[hp] at hd;have hm:o∈os:=vB (by simpa using hi);have:(os.any λx=>x.dst==some d)=true:=List.any_eq_true.2 ⟨o,hm,by simp[ho]⟩;simp[this] at hd
   |succ j=>exact Qh hd.2 (by simpa using hi) (by simpa using hj) jq ho hp
structure Pz (l h:List Oper) (n:Nat) (Rs:List (List Value->Value->World->Prop)) (Bk:Nat->Value->Option Nat) (G:(Nat->Bool)->World->Prop) (a0:Act) (fuel:Nat) (listed:Array Bool) (a:Act) (w:World):Prop where
 inv:HeadInv .any l.toArray n listed
 left:((listed.toList.take n).filter (· ==false)).length=fuel
 good:G (λj=>listed.getD j false) w
 frame:a0.tmps.size=a.tmps.size
 defs:a0.defers=a.defers
 same:∀t,(∀j o,h[j]? =some o->listed.getD j false=true->o.dst≠some t)->a.tmps[t]? =a0.tmps[t]?
 know:∀j,j<h.length->listed.getD j false=true->Kz h Rs a.eval w j
 bound:∀j o,h[j]? =some o->listed.getD j false=true->∀k,Bk j (ju a o)=some k->k<w.heap.size
 apart:∀i j o p,h[i]? =some o->h[j]? =some p->i≠j->listed.getD i false=true->listed.getD j false=true->∀k,Bk i (ju a o)=some k->Bk j (ju a p)≠some k
theorem Q4:∀(l:List Bool) (n i:Nat),i<n->l[i]? =some false->(((l.set i true).take n).filter (· ==false)).length+1=((l.take n).filter (· ==false)).length
 |[],_,i,_,h=>by simp at h
 |b::l,0,i,hi,_=>jq
 |b::l,n+1,0,_,h=>by
  obtain rfl:b=false:=by simpa using h
  simp
 |b::l,n+1,i+1,hi,h=>by
  have:=Q4 l n i jq (by simpa using h);simp only[List.set_cons_succ,List.take_succ_cons]
  cases b
  ·simp only[List.filter_cons,beq_self_eq_true,if_true,List.length_cons];omega
  ·simpa[List.filter_cons] using this
def Y3 (m n:Nat):Array Bool:=((List.range m).map (λi=>decide (i<n))).toArray
theorem GC {l:List Oper} {a0:Array Bool} (inv:HeadInv .any l.toArray n a0) (hn:n<=l.length) (h:((a0.toList.take n).filter (· ==false)).length=0):a0=Y3 l.length n:=by
 have hs:a0.size=l.length:=by have:=inv.size;simpa using this
 apply Array.ext_getElem?;intro i;unfold Y3;by_cases hi:i<l.length
 ·have e1:a0[i]? =some (a0[i]'jq):=by simp[show i<a0.size by omega]
  rw[e1];simp only[List.getElem?_toArray,List.getElem?_map,List.getElem?_range hi,Option.map_some];congr 1;by_cases b0:i<n
  ·rw[xK b0];have h0:=List.eq_nil_of_length_eq_zero h;rw[List.filter_eq_nil_iff] at h0;have hm:a0[i]'jq∈a0.toList.take n:=by
    rw[List.mem_take_iff_getElem];exact⟨i,by simp;omega,jv⟩
   have:=h0 _ hm;simpa using this
  ·rw[xr b0];have:=inv.tail i jq (by simpa using hi);simpa[show i<a0.size by omega] using this
 ·rw[Array.getElem?_eq_none jq];simp[Nat.le_of_not_lt hi]
def early (l:List Oper):Bool:=(List.range l.length).all λi=>match l[i]? with|some o=>(waits o).all λj=>decide (j<i)|none=>true
def fits (l:List Oper) (n m:Nat):Bool:=
 (l.all λo=>o.guard.isNone)&&Q6 (l.take n)&&((l.take n).all λo=>match o.dst with|some d=>decide (d<m)|none=>true)&&early l&&decide (n<=l.length)&&
 (decide (n=l.length)||(Region.sinkB .any l.toArray n&&Region.chainB .any l.toArray n))&&Region.seqB .any l.toArray (l.length-n) n (Y3 l.length n)
def Ka (Bk:Nat->Value->Option Nat) (vs:uZ):Prop:=∀i j,i<vs.length->j<vs.length->i≠j->∀k,Bk i (vs.getD i undef)=some k->Bk j (vs.getD j undef)≠some k
def KG (Bk:Nat->Value->Option Nat) (vs:uZ) (w:World):Prop:=∀i,i<vs.length->∀k,Bk i (vs.getD i undef)=some k->k<w.heap.size
theorem tl (p:Nat->Prop):∀i,p i->∃i,p i/\∀k,k<i->¬p k:=by
 intro i
 induction i using Nat.strongRecOn with
 |_ i ih=>
  intro hi;by_cases h:∃k,k<i/\p k
  ·obtain⟨k,hk,hp⟩:=h;exact ih k hk hp
  ·exact⟨i,hi,λk hk hp=>h ⟨k,hk,hp⟩⟩
theorem Zo {h:List Oper} {a:Act} {o:Oper} (hj:h[j]? =some o):Ze h a.eval j=ju a o:=by
 unfold Ze ju;rw[hj]
 cases ho:o.dst<;>simp[ho,Act.eval]
theorem Vq {h:List Oper} {Rs:List (uZ->Value->World->Prop)} {a:Act} {o:Oper} (hj:h[j]? =some o):Kz h Rs a.eval w j↔xL Rs j (YM h a.eval o) (ju a o) w:=by
 unfold Kz;rw[hj,<-Zo hj]
theorem gM {P:Program} {l h:List Oper} {Rs:List (uZ->Value->World->Prop)} {St:Nat->World->World->Prop} {Bk:Nat->Value->Option Nat} {G:(Nat->Bool)->World->Prop} {a0:Act} {Q:Exit->Act->World->Prop} 
  (hh:h=l.take n) (hf:fits l n a0.tmps.size=true)
  (J0:∀i w w',St i w w'->w.heap.size<=w'.heap.size) (z1:∀i j ds v w w',i≠j->St i w w'->xL Rs j ds v w->xL Rs j ds v w')
  (B0:Z9 P h Rs St Bk G a0.eval h 0)
  (R0:∀(vs:uZ) w L,G L w->vs.length=n->Gh Rs vs w h 0->Ka Bk vs->KG Bk vs w->wpList P l.toArray Q (l.drop n) (jH h a0 vs) w):
  ∀(f0:Nat) (b0:Array Bool) (a:Act) (w:World),Pz l h n Rs Bk G a0 f0 b0 a w->wpAny P .any l.toArray Q (f0+(l.length-n)) b0 a w:=by
 simp only[fits,Bool.and_eq_true,decide_eq_true_eq] at hf;obtain⟨⟨⟨⟨⟨⟨hg,hd⟩,g1⟩,t0⟩,hn⟩,m0⟩,Y0⟩:=hf;rw[<-hh] at hd g1;have d1:h.length=n:=by rw[hh];simp[hn]
 have u0:∀j,j<n->h[j]? =l[j]? :=λj hj=>by rw[hh];simp[hj]
 have c0:∀i o,l[i]? =some o->∀e∈o.after,Region.binds .any e=true->e.on<i:=by
  intro i o hi e he hb;have f1:i<l.length:=(YN.1 hi).1;have h1:=List.all_eq_true.1 t0 i (List.mem_range.2 f1);rw[hi] at h1;have h2:=List.all_eq_true.1 h1 e.on (by unfold waits;exact yU.2 ⟨e,List.mem_filter.2 ⟨by simpa using he,hb⟩,rfl⟩);simpa using h2
 intro f0
 induction f0 with
 |zero=>
  intro b0 a w hI;have hL:=GC hI.inv hn hI.left;have n0:∀j,j<n->b0.getD j false=true:=by
   intro j hj;rw[hL];simp[Y3,hj,show j<l.length by omega]
  have e:jH h a0 (h.map (ju a))=a:=Qt a h a0 hI.frame hI.defs λt ht=>hI.same t λj o hj _=>ht o (vB hj);have m1:∀j,Ze h a.eval j=(h.map (ju a)).getD j undef:=by
   intro j;by_cases hj:j<h.length
   ·rw[Zo (o:=h[j]) (by simp[hj])];simp[List.getD,hj]
   ·unfold Ze;simp[List.getD,Nat.le_of_not_lt hj]
  have Q0:∀(os:List Oper) (k:Nat),(∀i,os[i]? =h[k+i]?)->Gh Rs (h.map (ju a)) w os k:=by
   intro os
   induction os with
   |nil=>intro k _;trivial
   |cons o os ih=>
    intro k hk;have h0:h[k]? =some o:=by have:=hk 0;simpa using this.symm
    refine⟨?_,ih (k+1) (λi=>by have:=hk (i+1);rw[show k+1+i=k+(i+1) by omega];simpa using this)⟩;have k0:k<h.length:=(YN.1 h0).1;have:=(Vq h0).1 (hI.know k k0 (n0 k jq));rw[<-Zo h0,m1 k] at this;have e:YM h a.eval o=(waits o).map λj=>(h.map (ju a)).getD j undef:=List.map_congr_left λj _=>m1 j;rw[e] at this;exact this
  have Z0:∀j,j<h.length->∃o,h[j]? =some o/\(h.map (ju a)).getD j undef=ju a o:=by
   intro j hj;exact⟨h[j],by simp[hj],by simp[List.getD,hj]⟩
  have I0:=R0 (h.map (ju a)) w _ hI.good (by simp[d1]) (Q0 h 0 jv) (by
   intro i j hi hj j0 k hk;simp only[yG] at hi hj;obtain⟨o,ho,eo⟩:=Z0 i hi;obtain⟨p,hp,ep⟩:=Z0 j hj;rw[eo] at hk;rw[ep];exact hI.apart i j o p ho hp j0 (n0 i jq) (n0 j jq) k hk) (by
   intro i hi k hk;simp only[yG] at hi;obtain⟨o,ho,eo⟩:=Z0 i hi;rw[eo] at hk;exact hI.bound i o ho (n0 i jq) k hk)
  rw[e] at I0;have N0:(l.drop n).length=l.length-n:=jv;have:=wpAny_of_seq (md:= .any) (Q':=Q) (l.drop n) n b0 a w (λj=>by simp[List.getElem?_drop]) (by rw[N0,hL];exact Y0) I0;rw[Nat.zero_add];rwa [N0] at this
 |succ f0 ih=>
  intro b0 a w hI
  --some operation of the head is not b0;the first of them is ready
  have b1:∃i,i<n/\b0.getD i true=false:=by
   have j0:(b0.toList.take n).filter (· ==false)≠[]:=λh0=>by have:=hI.left;rw[h0] at this;simp at this
   obtain⟨b,hb⟩:=List.exists_mem_of_ne_nil _ j0;obtain⟨o1,a1⟩:=List.mem_filter.1 hb;obtain⟨i,hi,e⟩:=List.mem_iff_getElem.1 o1;simp only[jO,Array.length_toList] at hi;refine⟨i,jq,?_⟩;have:b0[i]'jq=b:=(by simpa using e);simp only[beq_iff_eq] at a1;simp[show i<b0.size by omega,this,a1]
  have D1:b0.size=l.length:=by have:=hI.inv.size;simpa using this
  have A0:Region.ready .any l.toArray b0≠[]:=by
   have x0:∃i,(i<n/\b0.getD i true=false)/\∀k,k<i->¬(k<n/\b0.getD k true=false):=by
    obtain⟨i,hi⟩:=b1;exact tl (λi=>i<n/\b0.getD i true=false) i hi
   obtain⟨i,⟨hi,hu⟩,x0⟩:=x0;obtain⟨o,ho⟩:∃o,l[i]? =some o:=⟨l[i]'jq,by simp[show i<l.length by omega]⟩
   have:i∈Region.ready .any l.toArray b0:=mem_ready.2 ⟨hu,o,by simpa using ho,λe he hb=>by
    have k0:=c0 i o ho e he hb;have:=x0 e.on k0;have h2:b0.getD e.on true≠false:=λh0=>this ⟨jq,h0⟩;simp only[Bool.not_eq_false] at h2;have h3:e.on<b0.size:=jq;simpa[h3] using h2⟩
   intro h0;rw[h0] at this
   cases this
  rw[show f0+1+(l.length-n)=(f0+(l.length-n))+1 by omega];refine⟨λh0=>absurd h0 A0,λi hi=> ?_⟩;obtain⟨hu,o,ho,H0⟩:=mem_ready.1 hi;have D0:l[i]? =some o:=by simpa using ho
  have f1:i<l.length:=(YN.1 D0).1;have o0:i<n:=by
   rcases Nat.lt_or_ge i n with k0|r1
   ·exact k0
   ·exfalso;obtain⟨i0,t1,A1⟩:=b1;simp only[Bool.or_eq_true,decide_eq_true_eq,Bool.and_eq_true] at m0;rcases m0 with m0|⟨hs,hc⟩
    ·omega
    ·exact tail_waits hs hc (by simpa using(show n<l.length by omega)) hI.inv _ i0 rfl t1 A1 i r1 hi
  have p0:h[i]? =some o:=by rw[u0 i o0];exact D0
  have T0:o∈l:=vB D0;have s1:o.guard=none:=by
   have:=List.all_eq_true.1 hg o T0;simpa using this
  unfold wpOp;rw[ho];have hw:Region.wanted o (yielded l.toArray a.tmps)=true:=by simp[Region.wanted,s1]
  simp only[hw,if_true];refine .inl ?_;have k0:i<b0.size:=jq;have l0:b0[i]=false:=by
   have:b0.getD i true=b0[i]:=(by simp[k0]);rw[<-this];exact hu
  have hK:JB h Rs a.eval w (waits o):=by
   refine UV λj hj=> ?_;unfold waits at hj;obtain⟨e,he,rfl⟩:=yU.1 hj;obtain⟨r0,s0⟩:=List.mem_filter.1 he;have hl:=H0 e (by simpa using r0) s0;have B1:=c0 i o D0 e (by simpa using r0) s0;exact hI.know e.on jq hl
  have X0:∀x,Y5 h x=true->a.eval x=a0.eval x:=by
   intro x hx
   cases x with
   |tmp t=>
    have hn:∀o'∈h,o'.dst≠some t:=by
     intro o' y1 e;simp only[Y5,Bool.not_eq_true',List.any_eq_false] at hx;exact hx o' y1 (by simp[e])
    have:=hI.same t (λj o' hj _=>hn o' (vB hj));simp only[Act.eval];rw[Array.getD_eq_getD_getElem?,Array.getD_eq_getD_getElem?,this]
   |_=>rfl
  have hny:∀j p,h[j]? =some p->(j==i||(waits p).contains i)=true->b0.getD j false=false:=by
   intro j p hj hc;by_cases i1:j=i
   ·subst i1;exact getD_both hu
   replace hc:(waits p).contains i=true:=(by simpa[i1] using hc)
   cases hlj:b0.getD j false with
   |false=>rfl
   |true=>
    exfalso;have k1:j<n:=by rw[<-d1];exact(YN.1 hj).1
    have P0:l[j]? =some p:=by rw[<-u0 j k1];exact hj
    have hm:i∈waits p:=(by simpa using hc);unfold waits at hm;obtain⟨e,he,S0⟩:=yU.1 hm;obtain⟨r0,s0⟩:=List.mem_filter.1 he;have:=hI.inv.closed j p (by simpa using P0) hlj e (by simpa using r0) s0;rw[S0] at this;have h2:b0.getD i false=false:=getD_both hu;rw[h2] at this;cases this
  have q0:=Z9.at (k:=0) B0 p0 a.eval w _ hI.good (by rw[Nat.zero_add];exact hny) X0 hK;rw[Nat.zero_add] at q0;refine Ua q0 λu w' hp=>ih _ _ _ ?_;obtain⟨hS,hR,hB,hG⟩:=hp;have K0:∀j,(b0.setIfInBounds i true).getD j false=true->j=i\/(j≠i/\b0.getD j false=true):=by
   intro j hj;by_cases e:j=i
   ·exact .inl e
   ·right;refine⟨e,?_⟩;have:(b0.setIfInBounds i true).getD j false=b0.getD j false:=by
     rw[Array.getD_eq_getD_getElem?,Array.getD_eq_getD_getElem?,Array.getElem?_setIfInBounds_ne (λh=>e h.symm)]
    rw[<-this];exact hj
  have N0:∀d,o.dst=some d->d<a.tmps.size:=by
   intro d z0;have:=List.all_eq_true.1 g1 o (vB p0);rw[z0] at this;rw[<-hI.frame];simpa using this
  have g0:ju (a.put o.dst u) o=kept o u:=by
   unfold ju kept
   cases z0:o.dst with
   |none=>rfl
   |some d=>simp[Act.put,N0 d z0]
  have d0:∀j p,h[j]? =some p->j≠i->ju (a.put o.dst u) p=ju a p:=by
   intro j p hj j0;unfold ju
   cases hpd:p.dst with
   |none=>rfl
   |some d=>
    cases z0:o.dst with
    |none=>rfl
    |some d'=>
     have q1:=Qh hd p0 hj (λe=>j0 e.symm) z0;have U0:d'≠d:=λe=>q1 (by rw[hpd,e]);simp[Act.put,Array.getElem?_setIfInBounds_ne U0]
  have G0:∀j p,l[j]? =some p->j<n->(∀e∈p.after,Region.binds .any e=true->e.on≠i)->YM h (a.put o.dst u).eval p=YM h a.eval p:=by
   intro j p hj k1 x1;refine List.map_congr_left λk hk=> ?_;unfold waits at hk;obtain⟨e,he,rfl⟩:=yU.1 hk;obtain⟨r0,s0⟩:=List.mem_filter.1 he;have C1:=c0 j p hj e (by simpa using r0) s0;obtain⟨q,hq⟩:∃q,h[e.on]? =some q:=⟨h[e.on]'jq,by simp[show e.on<h.length by omega]⟩
   rw[Zo hq,Zo hq];exact d0 e.on q hq (x1 e (by simpa using r0) s0)
  have n1:G (λj=>(b0.setIfInBounds i true).getD j false) w':=by
   have e:(λj=>(b0.setIfInBounds i true).getD j false)=λj=>decide (j=i)||b0.getD j false:=by
    funext j;by_cases e:j=i
    ·subst e;simp[k0]
    ·have:(b0.setIfInBounds i true).getD j false=b0.getD j false:=by
      rw[Array.getD_eq_getD_getElem?,Array.getD_eq_getD_getElem?,Array.getElem?_setIfInBounds_ne (λh=>e h.symm)]
     rw[this];simp[e]
   rw[e];exact hG
  refine⟨hI.inv.set hi o0,?_,n1,?_,?_,?_,?_,?_,?_⟩
  ·have hx:b0.toList[i]? =some false:=(by simp[k0,l0]);have:=Q4 b0.toList n i o0 hx;have e:(b0.setIfInBounds i true).toList=b0.toList.set i true:=jv;rw[e];have:=hI.left;omega
  ·rw[hI.frame];cases o.dst<;>simp[Act.put]
  ·rw[hI.defs];cases o.dst<;>simp[Act.put]
  ·intro t ht;have u1:o.dst≠some t:=ht i o p0 (by simp[k0]);have V0:=hI.same t (λj p hj hl=>ht j p hj (by
    by_cases e:j=i
    ·subst e;simp[k0]
    ·rw[Array.getD_eq_getD_getElem?,Array.getElem?_setIfInBounds_ne (λh=>e h.symm),<-Array.getD_eq_getD_getElem?];exact hl))
   rw[<-V0]
   cases z0:o.dst with
   |none=>rfl
   |some d=>simp only[Act.put];rw[Array.getElem?_setIfInBounds_ne (λe=>u1 (by rw[z0,e]))]
  ·intro j hj hl;obtain⟨p,hp⟩:∃p,h[j]? =some p:=⟨h[j],by simp[hj]⟩
   rw[Vq hp];rcases K0 j hl with e|⟨j0,O0⟩
   ·subst e;obtain rfl:o=p:=by rw[p0] at hp;exact Option.some.inj hp
    rw[g0,G0 j o D0 o0 (λe he hb=>by have:=c0 j o D0 e he hb;omega)];exact hR
   ·have P0:l[j]? =some p:=by rw[<-u0 j jq];exact hp
    rw[d0 j p hp j0,G0 j p P0 jq (λe he hb S0=>by
     have:=hI.inv.closed j p (by simpa using P0) O0 e he hb;rw[S0] at this;have h2:b0.getD i false=false:=(by simp[k0,l0]);rw[h2] at this;cases this)]
    exact z1 i j _ _ _ _ (λe=>j0 e.symm) hS ((Vq hp).1 (hI.know j hj O0))
  ·intro j p hp hl k hk;rcases K0 j hl with e|⟨j0,O0⟩
   ·subst e;obtain rfl:o=p:=by rw[p0] at hp;exact Option.some.inj hp
    rw[g0] at hk;exact(hB k hk).2
   ·rw[d0 j p hp j0] at hk;exact Nat.lt_of_lt_of_le (hI.bound j p hp O0 k hk) (J0 _ _ _ hS)
  ·intro j1 j2 p1 p2 E0 F0 j0 v1 l1 k hk C0;rcases K0 j1 v1 with e1|⟨M0,L0⟩
   ·subst e1;obtain rfl:o=p1:=by rw[p0] at E0;exact Option.some.inj E0
    rcases K0 j2 l1 with e2|⟨y0,v0⟩
    ·exact j0 e2.symm
    ·rw[g0] at hk;rw[d0 j2 p2 F0 y0] at C0;have h1:=(hB k hk).1;have h2:=hI.bound j2 p2 F0 v0 k C0;omega
   ·rcases K0 j2 l1 with e2|⟨y0,v0⟩
    ·subst e2;obtain rfl:o=p2:=by rw[p0] at F0;exact Option.some.inj F0
     rw[g0] at C0;rw[d0 j1 p1 E0 M0] at hk;have h1:=(hB k C0).1;have h2:=hI.bound j1 p1 E0 L0 k hk;omega
    ·rw[d0 j1 p1 E0 M0] at hk;rw[d0 j2 p2 F0 y0] at C0;exact hI.apart j1 j2 p1 p2 E0 F0 j0 L0 v0 k hk C0
theorem vG {P:Program} {id:Nat} {l:List Oper} (n:Nat) {a0:Act} {Q:Exit->Act->World->Prop} (hm:P.follows .mixedOrders=true) (hf:fits l n a0.tmps.size=true) 
  (Rs:List (uZ->Value->World->Prop)) (St:Nat->World->World->Prop) (Bk:Nat->Value->Option Nat) (G:(Nat->Bool)->World->Prop) (hG:∀L,(∀j,L j=false)->G L w.drew)
  (g0:∀i w w',St i w w'->w.heap.size<=w'.heap.size) (f0:∀i j ds v w w',i≠j->St i w w'->xL Rs j ds v w->xL Rs j ds v w')
  (b0:Z9 P (l.take n) Rs St Bk G a0.eval (l.take n) 0)
  (d0:∀(vs:uZ) w' L,G L w'->vs.length=n->Gh Rs vs w' (l.take n) 0->Ka Bk vs->KG Bk vs w'->wpList P l.toArray Q (l.drop n) (jH (l.take n) a0 vs) w'):(Code.region id l.toArray true).wp P Q a0 w:=by
 have hn:n<=l.length:=by
  simp only[fits,Bool.and_eq_true,decide_eq_true_eq] at hf;exact hf.1.1.2
 refine wp_region_any hm ?_;have c0:∀j:Nat,(Array.replicate l.length false).getD j false=true->False:=λj hj=>by
  simp only[Array.getD_eq_getD_getElem?,Array.getElem?_replicate] at hj;split at hj<;>simp at hj
 have:=gM rfl hf g0 f0 b0 d0 n (Array.replicate l.length false) a0 w.drew
  ⟨⟨jv,λj oj _ hl=>(c0 j hl).elim,λt _ ht=>getD_in (by simpa using ht) (getD_replicate_false _ _)⟩,
  by simp[List.take_replicate,Nat.min_eq_left hn],hG _ (λj=>getD_replicate_false _ _),rfl,rfl,λt _=>rfl,λj _ hl=>(c0 j hl).elim,λj _ _ hl=>(c0 j hl).elim,λi _ _ _ _ _ _ hl=>(c0 i hl).elim⟩
 rw[show n+(l.length-n)=l.length by omega] at this;simpa using this
theorem ZJ {P:Program} {id:Nat} {l:List Oper} (n:Nat) {a0:Act} {Q:Exit->Act->World->Prop} (hm:P.follows .mixedOrders=true) (hf:fits l n a0.tmps.size=true) 
  (Rs:List (uZ->Value->World->Prop)) (Bk:Nat->Value->Option Nat) (G:World->Prop) (hG:G w.drew)
  (d0:∀j ds v w w',xW w w'->xL Rs j ds v w->xL Rs j ds v w')
  (b0:XV P (l.take n) Rs Bk G a0.eval (l.take n) 0)
  (c0:∀(vs:uZ) w',G w'->vs.length=n->Gh Rs vs w' (l.take n) 0->Ka Bk vs->KG Bk vs w'->wpList P l.toArray Q (l.drop n) (jH (l.take n) a0 vs) w'):(Code.region id l.toArray true).wp P Q a0 w:=
 vG n hm hf Rs _ Bk (λ_ w=>G w) (λ_ _=>hG) (λ_ _ _ h=>h.size) (λ_ j _ _ _ _ _ hS=>d0 j _ _ _ _ hS) b0.to (λvs w' _=>c0 vs w')
theorem zo.set {a:World} (h:zo S a w) {v:Value} (hb:b∈S):zo S a (w.setCell ⟨b,j,none⟩ v):=
 h.trans ⟨rfl,rfl,rfl,jv,λk _ hn=>Below.heap_setCell _ _ _ _ (λe=>hn (by rw[e];exact hb))⟩



structure xH (v:PV) (p:Pg):Prop where
 ls:v.ns<=1048576
 lg:v.ng<=1048576
 lb:v.nb<=1048576
 lr:v.nr<=1048576
 lt:v.nt<=1048576
 inn:∀i,(p.threads.getD i []).length<=1048576

theorem zZ {q:Addr} {x:Value} (T:zo S w w') (g:w.cell? q=some x) (b0:q.block∉S):w'.cell? q=some x:=by
 have a0:=World.block_lt_of_cell? w _ g;rw[World.cell?_of_block (w:=w) (w':=w') (a:=q) (T.block q.block a0 b0)];exact g
theorem zh {P:Program} {o:Oper} {ρ:Operand->Value} {u:Value} {a0:Value->World->Prop} (hr:(execOp ρ o).run P w= .ok (.value u) w') (hp:a0 u w'):xO P o ρ w a0:=by
 unfold xO;rw[hr];exact hp
theorem qj {P:Program} {o:Oper} {ρ:Operand->Value} {a0:Value->World->Prop} (hr:(execOp ρ o).run P w= .ok .skip w') (hp:a0 undef w'):xO P o ρ w a0:=by
 unfold xO;rw[hr];exact hp
theorem zU {P:Program} {o:Oper} {ρ:Operand->Value} {f:FuncId} {args:Array Value} {a0:Value->World->Prop} (hr:(execOp ρ o).run P w= .ok (.enter f args) w') (hp:Calls P f args w' (λe b0=>∃u,e= .returned u/\a0 u b0)):xO P o ρ w a0:=by
 unfold xO;rw[hr];exact hp
theorem XF {P:Program} (t ty:TypeId) {size a0:Nat} (ht:P.underlying t=some (.slice e)) (g0:(P.info? e).map (λi=>(i.zero,i.size,i.bytes))=some (some z,size,a0)) 
  (p0:z.cells.size=size) (k0:0<size) {a:uQ} (i0:w.ownsRow B e size (.slice a 0 0) 0 [])
  {a2:uQ} {m c2:Nat} {news:uZ} (hl:news.length=m*size) (j0:Rd w a2 news) (h1:∀u∈news,u.oneCell'=true) (b0:m*a0<=140737488355328) (r0:0<a0) (f0:B<=w.heap.size):
  ∃a' c' w',(Builtin.append_ #[t,t] ty #[.slice a 0 0,.slice a2 m c2]).run P w= .ok (.slice a' m c') w'/\w'.ownsRow B e size (.slice a' m c') m news/\xW w w'/\(0<m->∀k,zj a'=some k->w.heap.size<=k)/\(m=0->c'=0):=by
 obtain⟨i,hi,m0,n0,o0⟩:=info_parts g0;have l0:0+m<=maxLen:=by
  have:=Nat.le_trans (Nat.le_mul_of_pos_right m r0) b0;simp only[maxLen];omega
 by_cases hm:m=0
 ·subst hm;obtain rfl:news=[]:=List.eq_nil_of_length_eq_zero (by simpa using hl);refine⟨a,0,w,?_,i0,Below.refl _ _,jq,λ_=>rfl⟩
  cases a2 with
  |none=>exact jV (P:=P) (w:=w) B t ty e i size ht hi _ 0 [] i0 c2
  |some ad=>
   cases a with
   |none=>simp[Builtin.append_,run_underlying ht,sizeOf,typeInfo,hi,Builtin.lenOf,Builtin.firstCells,loadCells,loadCellsFrom]
   |some b=>simp[Builtin.append_,run_underlying ht,sizeOf,typeInfo,hi,Builtin.lenOf,Builtin.firstCells,loadCells,loadCellsFrom,storeCells]
 ·have q0:∃ad,a2=some ad:=by
   cases a2 with
   |some ad=>exact⟨ad,rfl⟩
   |none=>
    exfalso;obtain⟨b,o',e',_⟩:=j0.at (by rw[hl];exact Nat.mul_pos jq k0)
    cases e'
  obtain⟨ad,rfl⟩:=q0;have c0:∀j u,news[j]? =some u->w.cell? (ad.add j)=some u:=by
   intro j u hj;have s0:j<news.length:=(YN.1 hj).1;obtain⟨b,o',e',hc⟩:=j0.at jq
   cases e'
   rw[Addr.add_lit,hc j s0];rw[xm,hj];rfl
  have key:∃v' w',(Builtin.append_ #[t,t] ty #[.slice a 0 0,.slice (some ad) m c2]).run P w= .ok v' w'/\w'.ownsRow w.heap.size e size v' (0+m) ([]++news)/\w.grownBy w' none:=by
   cases a with
   |some b=>exact run_append_arg_grows (P:=P) w t ty e i z size a0 ht hi m0 n0 o0 p0 k0 b 0 0 [] jv jv ad m c2 news hl c0 jq l0 (by simpa using b0)
   |none=>
    obtain⟨v',w',d0,r1,r2,_⟩:=run_append_own (P:=P) w w.heap.size t ty e i z size a0 ht hi m0 n0 o0 p0 k0 uk 0 [] (jf w _ e size) ad m c2 news hl c0 h1 l0 (by simpa using b0) yk;exact⟨v',w',d0,r1,r2⟩
  obtain⟨v',w',d0,r1,r2⟩:=key;rw[Nat.zero_add,qZ] at r1;obtain⟨a',c',rfl⟩:=Ye r1;exact⟨a',c',w',d0,zw r1 f0,zG r2 yk jv,λ_ k hk=>(zy r1 k hk).1,λh0=>absurd h0 hm⟩
theorem jr {P:Program} {o:Oper} {ρ:Operand->Value} {f0:Value->World->Prop} (s x:Operand) (t:TypeId) 
  (ho:o.op= .call {callee:= .builtin .append,args:= #[s,x],argTypes:= #[t,t]}) {B:Nat} {e:TypeId} {z:Value} {size a0:Nat} (ht:P.underlying t=some (.slice e)) (d0:(P.info? e).map (λi=>(i.zero,i.size,i.bytes))=some (some z,size,a0))
  (k0:z.cells.size=size) (j0:0<size) {a:uQ} (hs:ρ s= .slice a 0 0) (g0:w.ownsRow B e size (.slice a 0 0) 0 [])
  {a2:uQ} {m c2:Nat} {news:uZ} (hx:ρ x= .slice a2 m c2) (hl:news.length=m*size) (h0:Rd w a2 news) (h1:∀u∈news,u.oneCell'=true) (b0:m*a0<=140737488355328) (i0:0<a0) (c0:B<=w.heap.size)
  (h:∀a' c' w',w'.ownsRow B e size (.slice a' m c') m news->xW w w'->(0<m->∀k,zj a'=some k->w.heap.size<=k)->(m=0->c'=0)->f0 (.slice a' m c') w'):xO P o ρ w f0:=by
 obtain⟨a',c',w',hr,h2,h3,h4,h5⟩:=XF (P:=P) (c2:=c2) t o.type ht d0 k0 j0 g0 hl h0 h1 b0 i0 c0;refine zh (u:= .slice a' m c') (w':=w') ?_ (h a' c' w' h2 h3 h4 h5);unfold execOp;simp only[ho,resolve,invoke,builtin,Sem.run_bind,Sem.run_pure,Result.andThen_ok,List.map_toArray,List.map_cons,List.map_nil,hs,hx,hr]
def Px (r:uZ->Value->World->Prop):Prop:=∀ds v w w',xW w w'->r ds v w->r ds v w'
def Jz:List (uZ->Value->World->Prop)->Prop
 |[]=>True
 |r::rs=>Px r/\Jz rs
theorem JA:∀{Rs:List (uZ->Value->World->Prop)},Jz Rs->∀j ds v w w',xW w w'->xL Rs j ds v w->xL Rs j ds v w'
 |[],_,_,_,_,_,_,_,_=>trivial
 |_::_,h,0,ds,v,w,w',hb,hr=>h.1 ds v w w' hb hr
 |_::rs,h,j+1,ds,v,w,w',hb,hr=>JA (Rs:=rs) h.2 j ds v w w' hb hr
def uo (i0:Nat) (T:World->World->Prop) (i:Nat) (w w':World):Prop:=if i=i0 then T w w' else xW w w'
def pH (T:World->World->Prop) (r:uZ->Value->World->Prop):Prop:=∀ds v w w',T w w'->r ds v w->r ds v w'
def XX (i0:Nat) (T:World->World->Prop):Nat->List (uZ->Value->World->Prop)->Prop
 |_,[]=>True
 |k,r::rs=>(k=i0\/pH T r)/\XX i0 T (k+1) rs
theorem Gp {i0:Nat} {T:World->World->Prop}:∀{Rs:List (uZ->Value->World->Prop)} {k:Nat},XX i0 T k Rs->∀j ds v w w',k+j≠i0->T w w'->xL Rs j ds v w->xL Rs j ds v w'
 |[],_,_,_,_,_,_,_,_,_,_=>trivial
 |_::_,_,h,0,ds,v,w,w',hne,hT,hr=>h.1.elim (λe=>absurd e hne) (λh=>h ds v w w' hT hr)
 |_::rs,k,h,j+1,ds,v,w,w',hne,hT,hr=>Gp (Rs:=rs) (k:=k+1) h.2 j ds v w w' jq hT hr
theorem JT {i0:Nat} {T:World->World->Prop} {Rs:List (uZ->Value->World->Prop)} (h1:Jz Rs) (h2:XX i0 T 0 Rs):∀i j ds v w w',i≠j->uo i0 T i w w'->xL Rs j ds v w->xL Rs j ds v w':=by
 intro i j ds v w w' a0 hS hr;unfold uo at hS;split at hS
 ·next e=>subst e;exact Gp h2 j ds v w w' jq hS hr
 ·exact JA h1 j ds v w w' hS hr
theorem JJ {i0:Nat} {T:World->World->Prop} (hT:∀w w',T w w'->w.heap.size<=w'.heap.size):∀i w w',uo i0 T i w w'->w.heap.size<=w'.heap.size:=by
 intro i w w' h;unfold uo at h;split at h
 ·exact hT _ _ h
 ·exact h.size
theorem xk {i0:Nat} {T:World->World->Prop} (a0:i≠i0) (h:xW w w'):uo i0 T i w w':=by
 unfold uo;rw[if_neg a0];exact h
theorem Xw {i0:Nat} {T:World->World->Prop} (h:T w w'):uo i0 T i0 w w':=by
 unfold uo;rw[if_pos rfl];exact h
def qO (i0:Nat) (S:List Nat) (W1:World) (L:Nat->Bool) (w:World):Prop:=(L i0=false->xW W1 w)/\zo S W1 w
theorem qO.start (i0:Nat) (S:List Nat) (W1:World):∀L:Nat->Bool,(∀j,L j=false)->qO i0 S W1 L W1.drew:=λ_ _=>⟨λ_=>xd.drew,zo.of_below xd.drew⟩
theorem qO.step {i0:Nat} {W1:World} {L:Nat->Bool} (h:qO i0 S W1 L w) (_hne:i≠i0) (hb:xW w w'):qO i0 S W1 (λj=>decide (j=i)||L j) w':=
 ⟨λhL=>by
  have:L i0=false:=by
   simp only[Bool.or_eq_false_iff] at hL;exact hL.2
  exact(h.1 this).trans (hb.mono (h.1 this).size),h.2.trans (zo.of_below hb)⟩
theorem qO.own {i0:Nat} {W1:World} {L:Nat->Bool} (h:qO i0 S W1 L w) (ht:zo S w w'):qO i0 S W1 (λj=>decide (j=i0)||L j) w':=
 ⟨λhL=>by simp at hL,h.2.trans ht⟩
theorem xN {vs:uZ} (h:vs.length=n+1):∃x xs,vs=x::xs/\xs.length=n:=by
 cases vs with
 |nil=>simp at h
 |cons x xs=>exact⟨x,xs,rfl,by simpa using h⟩
theorem DT {vs:uZ} (h:vs.length=0):vs=[]:=List.eq_nil_of_length_eq_zero h
def yQ (n:Nat) (v:Value):Option Nat:=if n=0 then none else v.ownBlock
def fX:Value->Option Nat
 | .pointer (some a)=>some a.block
 |_=>none
theorem JR {a:uQ} {cs:uZ} (a0:w'.ownsRow B e sz (.slice a m c) m cs) (hf:0<m->∀k,zj a=some k->w.heap.size<=k):∀k,yQ m (.slice a m c)=some k->w.heap.size<=k/\k<w'.heap.size:=by
 intro k hk;unfold yQ at hk;by_cases hm:m=0
 ·rw[if_pos hm] at hk;cases hk
 ·rw[if_neg hm,yu] at hk;exact⟨hf jq k hk,(zy a0 k hk).2⟩
theorem kc (w:World) (o:Obj):∀k,fX (.pointer (some ⟨w.heap.size,0,none⟩))=some k->w.heap.size<=k/\k<(w.alloc o).heap.size:=by
 intro k hk;have:w.heap.size=k:=by simpa[fX] using hk
 subst this;simp
theorem xu {l:List Oper} {ρ:Operand->Value} {a:Act} (h:∀x,Y5 l x=true->ρ x=a.eval x):(∀z,ρ (.const z)=z)/\(∀z,ρ (.func z)= .func (.func z) #[] #[]):=⟨λ_=>h _ rfl,λ_=>h _ rfl⟩
theorem hU {P:Program} {id:Nat} {l:List Oper} (n:Nat) {a0:Act} {Q:Exit->Act->World->Prop} (hm:P.follows .mixedOrders=true) (hf:fits l n a0.tmps.size=true) (Rs:List (uZ->Value->World->Prop)) (h1:Jz Rs) (b0:XV P (l.take n) Rs (λ_ _=>none) (λw'=>xW w w') a0.eval (l.take n) 0) (c0:∀(vs:uZ) w',xW w w'->vs.length=n->Gh Rs vs w' (l.take n) 0->wpList P l.toArray Q (l.drop n) (jH (l.take n) a0 vs) w'):(Code.region id l.toArray true).wp P Q a0 w:=
 ZJ n hm hf Rs _ _ xd.drew (JA h1) b0 (λvs w' hG hl ha _ _=>c0 vs w' hG hl ha)
inductive Rl where
 |k (V:Value)
 |r (R:List Value->Value->World->Prop)
def Rl.P:Rl->uZ->Value->World->Prop
 | .k V=>λ_ u _=>u=V
 | .r R=>R
def X6 (S:World->World->Prop):List Rl->Prop
 |[]=>True
 | .k _::l=>X6 S l
 | .r R::l=>(∀ds v w w',S w w'->R ds v w->R ds v w')/\X6 S l
def JH (i0:Nat) (S:World->World->Prop):Nat->List Rl->Prop
 |_,[]=>True
 |i,.k _::l=>JH i0 S (i+1) l
 |i,.r R::l=>(i=i0\/∀ds v w w',S w w'->R ds v w->R ds v w')/\JH i0 S (i+1) l
theorem X6.to:∀{l:List Rl},X6 (λw w'=>xW w w') l->Jz (l.map Rl.P)
 |[],_=>trivial
 | .k _::_,h=>⟨λ_ _ _ _ _ h=>h,X6.to h⟩
 | .r _::_,h=>⟨h.1,X6.to h.2⟩
theorem JH.to {i0:Nat} {S:World->World->Prop}:∀{l:List Rl} {i:Nat},JH i0 S i l->XX i0 S i (l.map Rl.P)
 |[],_,_=>trivial
 | .k _::_,_,h=>⟨.inr λ_ _ _ _ _ h=>h,JH.to h⟩
 | .r _::_,_,h=>⟨h.1,JH.to h.2⟩
def Je (w:World) (K:uZ->Prop):List Rl->List Oper->uZ->Prop
 | .k V::rs,_::os,acc=>Je w K rs os (acc++[V])
 | .r R::rs,o::os,acc=>∀u,R ((waits o).map λj=>acc.getD j undef) u w->Je w K rs os (acc++[u])
 |_,_,acc=>K acc
theorem Dt {a0 xs:uZ} (h:j<a0.length):(a0++xs).getD j undef=a0.getD j undef:=by
 simp[List.getElem?_append_left h]
def QK:Nat->List Oper->Bool
 |_,[]=>true
 |i,o::os=>(waits o).all (λj=>decide (j<i))&&QK (i+1) os
theorem Qv {K:uZ->Prop} {Rs:List (uZ->Value->World->Prop)}:∀(rs:List Rl) (os:List Oper) (acc vs:uZ),rs.length=os.length->vs.length=os.length->QK acc.length os=true->(∀k,rs[k]?.map Rl.P=Rs[acc.length+k]?)->Gh Rs (acc++vs) w os acc.length->Je w K rs os acc->K (acc++vs)
 |[],[],acc,[],_,_,_,_,_,h=>by simpa[Je] using h
 |r::rs,o::os,acc,v::vs,h1,h2,h3,h4,h5,h=>by
  simp only[QK,Bool.and_eq_true] at h3;have hR:=h5.1;have e0:xL Rs acc.length=r.P:=by
   have:=h4 0;simp only[List.getElem?_cons_zero,Option.map_some,Nat.add_zero] at this;unfold xL;rw[xm,<-this];rfl
  have e1:((waits o).map λj=>(acc++v::vs).getD j undef)=(waits o).map λj=>acc.getD j undef:=List.map_congr_left λj hj=>Dt (by simpa using List.all_eq_true.1 h3.1 j hj);rw[e0,e1,show(acc++v::vs).getD acc.length undef=v by simp] at hR;have ea:acc++v::vs=(acc++[v])++vs:=jv;rw[ea];refine Qv rs os (acc++[v]) vs (by simpa using h1) (by simpa using h2) (by simpa using h3.2) (λk=> ?_) (by rw[<-ea];simpa using h5.2) ?_
  ·have:=h4 (k+1);simp only[List.getElem?_cons_succ] at this;rw[this];simp;congr 1;omega
  ·cases r with
   |k V=>obtain rfl:v=V:=hR;exact h
   |r R=>exact h v hR
 |[],_::_,_,_,h,_,_,_,_,_=>by simp at h
 |_::_,[],_,_,h,_,_,_,_,_=>by simp at h
 |_,[],_,_::_,_,h,_,_,_,_=>by simp at h
 |_,_::_,_,[],_,h,_,_,_,_=>by simp at h
theorem Ju {l:List Oper} (n:Nat) (h:early l=true):QK 0 (l.take n)=true:=by
 have key:∀(os:List Oper) (i:Nat),(∀k o,os[k]? =some o->∀j∈waits o,j<i+k)->QK i os=true:=by
  intro os
  induction os with
  |nil=>intro i _;rfl
  |cons o os ih=>
   intro i hk;simp only[QK,Bool.and_eq_true,List.all_eq_true,decide_eq_true_eq];exact⟨λj hj=>by simpa using hk 0 o rfl j hj,ih (i+1) λk p hp j hj=>by have:=hk (k+1) p (by simpa using hp) j hj;omega⟩
 refine key _ 0 λk o hk j hj=> ?_;have hl:l[k]? =some o:=by
  rw[List.getElem?_take] at hk;split at hk
  ·exact hk
  ·cases hk
 have a0:k<l.length:=(YN.1 hl).1;have h1:=List.all_eq_true.1 h k (List.mem_range.2 a0);rw[hl] at h1;have:=List.all_eq_true.1 h1 j hj;simpa using this
theorem vT {l:List Oper} (hf:fits l n m=true):early l=true/\n<=l.length:=by
 simp only[fits,Bool.and_eq_true,decide_eq_true_eq] at hf;exact⟨hf.1.1.1.2,hf.1.1.2⟩
theorem xZ {P:Program} {id:Nat} {l:List Oper} (n:Nat) {a0:Act} {Q:Exit->Act->World->Prop} (rs:List Rl) (h1:X6 (λw w'=>xW w w') rs) 
  (hs:XV P (l.take n) (rs.map Rl.P) (λ_ _=>none) (λw'=>xW w w') a0.eval (l.take n) 0) (he:∀w',xW w w'->Je w' (λvs=>wpList P l.toArray Q (l.drop n) (jH (l.take n) a0 vs) w') rs (l.take n) []) (hm:P.follows .mixedOrders=true:=by kernel_rfl) (hf:fits l n a0.tmps.size=true:=by kernel_rfl) (hl:rs.length=n:=by rfl):(Code.region id l.toArray true).wp P Q a0 w:=
 hU n hm hf _ h1.to hs λvs w' hG c0 b0=>by
  have hn:=(vT hf).2;have:=Qv (Rs:=rs.map Rl.P) rs (l.take n) [] vs (by simp[hl,hn]) (by simp[c0,hn]) (Ju n (vT hf).1) (λk=>jv) (by simpa using b0) (he w' hG);simpa using this
theorem yv {p q:Prop} (h:q) (e:p=q:=by(simp only[Je,List.take_succ_cons,List.take_zero,List.drop_succ_cons,List.drop_zero,qZ,List.cons_append,jH,Act.put,List.setIfInBounds_toArray,List.set_cons_succ,List.set_cons_zero];rfl)):p:=e▸h
theorem je {o:Oper} {u:Value} (hd:o.dst.isSome=true):kept o u=u:=by unfold kept;cases ho:o.dst with|none=>rw[ho] at hd;cases hd|some _=>rfl
section
variable {P:Program} {o:Oper} {ρ:Operand->Value} {W w1:World} {V:Value} {R:Value->World->Prop} {f:FuncId} {args:Array Value} {post:Ending->World->Prop}
theorem dE (hG:xW W w1) (h:(execOp ρ o).run P w1= .ok (.value V) w1) (hd:o.dst.isSome=true:=by rfl):xO P o ρ w1 (λu w'=>xW w1 w'/\kept o u=V/\(∀k,none=some k->w1.heap.size<=k/\k<w'.heap.size)/\xW W w'):=
 zh h ⟨Below.refl _ _,je hd,yn,hG⟩
theorem PE (hG:xW W w1) (h:(execOp ρ o).run P w1= .ok (.value V) w1) (hR:R V w1) (hd:o.dst.isSome=true:=by rfl):xO P o ρ w1 (λu w'=>xW w1 w'/\R (kept o u) w'/\(∀k,none=some k->w1.heap.size<=k/\k<w'.heap.size)/\xW W w'):=
 zh h ⟨Below.refl _ _,by rw[je hd];exact hR,yn,hG⟩
theorem Pf {ob:Obj} (hG:xW W w1) (h:(execOp ρ o).run P w1= .ok (.value V) (w1.alloc ob)) (hR:R V (w1.alloc ob)) (hd:o.dst.isSome=true:=by rfl):xO P o ρ w1 (λu w'=>xW w1 w'/\R (kept o u) w'/\(∀k,none=some k->w1.heap.size<=k/\k<w'.heap.size)/\xW W w'):=
 zh h ⟨zY,by rw[je hd];exact hR,yn,hG.alloc hG.size _⟩
end
theorem yj {p:Prop} (h:p:=by(exact dE hG (by go_simp<;>rfl))):p:=h
theorem yI {p:Prop} (h:p:=by(have d:ρ (.tmp _)=_:=hd.1;exact dE hG (by go_simp<;>rfl))):p:=h
theorem Gu {p:Prop} (h:p:=by(have d:ρ (.tmp _)=_:=hd.1;have d':ρ (.tmp _)=_:=hd.2.1;exact dE hG (by go_simp<;>rfl))):p:=h
theorem PB {p:Prop} (h:p:=by(have d:ρ (.tmp _)=_:=hd.1;have d':ρ (.tmp _)=_:=hd.2.1;have d'':ρ (.tmp _)=_:=hd.2.2.1;exact dE hG (by go_simp<;>rfl))):p:=h
def Zl (B:Nat) (E:TypeId) (sz:Nat) (_:uZ) (u:Value) (W:World):Prop:=∃g:Nat,u= .slice (some ⟨g,0,none⟩) 0 0/\W.ownsRow B E sz (.slice (some ⟨g,0,none⟩) 0 0) 0 []
def Xi (B:Nat) (E:TypeId) (sz n:Nat) (cs:uZ) (_:uZ) (u:Value) (W:World):Prop:=∃(a:uQ) (c:Nat),u= .slice a n c/\W.ownsRow B E sz (.slice a n c) n cs/\(n=0->c=0)
def gX (B:Nat) (Z:Array Value) (T:TypeId) (_:uZ) (u:Value) (W:World):Prop:=∃g:Nat,u= .pointer (some ⟨g,0,none⟩)/\zm W g Z T/\B<=g
theorem Xr:∀ds u w w',xW w w'->Zl B E sz ds u w->Zl B E sz ds u w':=λ_ _ _ _ hb ⟨g,e,h⟩=>⟨g,e,zl h hb⟩
theorem Vj {cs:uZ}:∀ds u w w',xW w w'->Xi B E sz n cs ds u w->Xi B E sz n cs ds u w':=λ_ _ _ _ hb ⟨a,c,e,h,h0⟩=>⟨a,c,e,zl h hb,h0⟩
theorem dM {Z:Array Value}:∀ds u w w',xW w w'->gX B Z T ds u w->gX B Z T ds u w':=λ_ _ _ _ hb ⟨g,e,h,hs⟩=>⟨g,e,h.below hb,hs⟩
section
variable {P:Program} {o:Oper} {ρ:Operand->Value} {W w1:World} {R:Value->World->Prop}
theorem PD (hG:xW W w1) (h:(execOp ρ o).run P w1= .ok (.value (.slice (some ⟨w1.heap.size,0,none⟩) 0 0)) (w1.alloc (.cells #[] E))) (hR:∀u w',Zl W.heap.size E sz [] u w'->R u w') (hd:o.dst.isSome=true:=by rfl):xO P o ρ w1 (λu w'=>xW w1 w'/\R (kept o u) w'/\(∀k,none=some k->w1.heap.size<=k/\k<w'.heap.size)/\xW W w'):=
 Pf hG h (hR _ _ ⟨_,rfl,zw (yg w1 E sz) hG.size⟩) hd
theorem PO {Z:Array Value} (hG:xW W w1) (h:(execOp ρ o).run P w1= .ok (.value (.pointer (some ⟨w1.heap.size,0,none⟩))) (w1.alloc (.cells Z T))) (hR:∀u w',gX W.heap.size Z T [] u w'->R u w') (hd:o.dst.isSome=true:=by rfl):xO P o ρ w1 (λu w'=>xW w1 w'/\R (kept o u) w'/\(∀k,none=some k->w1.heap.size<=k/\k<w'.heap.size)/\xW W w'):=
 Pf hG h (hR _ _ ⟨_,rfl,zm.new _ _ _,hG.size⟩) hd
end
theorem ky {P:Program} {o:Oper} {ρ:Operand->Value} {w1:World} {R:Value->World->Prop} (hG:xW W w1) (s x:Operand) (t:TypeId) (ho:o.op= .call {callee:= .builtin .append,args:= #[s,x],argTypes:= #[t,t]}) {size a0:Nat} (ht:P.underlying t=some (.slice e)) (c0:(P.info? e).map (λi=>(i.zero,i.size,i.bytes))=some (some z,size,a0)) (j0:z.cells.size=size) (i0:0<size) (hs:Zl W.heap.size e size [] (ρ s) w1) {a2:uQ} {news:uZ} (hx:ρ x= .slice a2 m c2) (hl:news.length=m*size) (f0:Rd w1 a2 news) (h1:∀u∈news,u.oneCell'=true) (b0:m*a0<=140737488355328) (g0:0<a0) (hR:∀u w',Xi W.heap.size e size m news [] u w'->R u w') (hd:o.dst.isSome=true:=by rfl):xO P o ρ w1 (λu w'=>xW w1 w'/\R (kept o u) w'/\(∀k,none=some k->w1.heap.size<=k/\k<w'.heap.size)/\xW W w'):=by
 obtain⟨g,d,hg⟩:=hs;refine jr s x t ho ht c0 j0 i0 d hg hx hl f0 h1 b0 g0 hG.size ?_;intro a c w2 d0 hb hf h0;exact⟨hb,by rw[je hd];exact hR _ _ ⟨a,c,rfl,d0,h0⟩,yn,hG.trans (hb.mono hG.size)⟩
theorem VB {p:Prop} (h:p:=by exact PD hG (by go_simp) (λ_ _ h=>h)):p:=h
theorem pz {p:Prop} (h:p:=by exact PO hG (by go_simp) (λ_ _ h=>h)):p:=h
def nB (_:Value):Option Nat:=none
def Pb (bks:List (Value->Option Nat)) (i:Nat) (v:Value):Option Nat:=(bks.getD i λ_=>none) v
theorem dL {P:Program} {id:Nat} {l:List Oper} (n:Nat) {a0:Act} {Q:Exit->Act->World->Prop} (d0:List (Value->Option Nat)) (rs:List Rl) (h1:X6 (λw w'=>xW w w') rs) 
  (hs:XV P (l.take n) (rs.map Rl.P) (Pb d0) (λw'=>xW w w') a0.eval (l.take n) 0) (he:∀w',xW w w'->Je w' (λvs=>Ka (Pb d0) vs->wpList P l.toArray Q (l.drop n) (jH (l.take n) a0 vs) w') rs (l.take n) []) (hm:P.follows .mixedOrders=true:=by kernel_rfl) (hf:fits l n a0.tmps.size=true:=by kernel_rfl) (hl:rs.length=n:=by rfl):(Code.region id l.toArray true).wp P Q a0 w:=
 ZJ n hm hf _ _ _ xd.drew (JA h1.to) hs λvs w' hG c0 b0 f0 _=>by
  have hn:=(vT hf).2;have:=Qv (Rs:=rs.map Rl.P) rs (l.take n) [] vs (by simp[hl,hn]) (by simp[c0,hn]) (Ju n (vT hf).1) (λk=>jv) (by simpa using b0) (he w' hG);rw[qZ] at this;exact this f0
theorem fP {P:Program} {o:Oper} {ρ:Operand->Value} {w1:World} {R:Value->World->Prop} (hG:xW W w1) (s x:Operand) (t:TypeId) (ho:o.op= .call {callee:= .builtin .append,args:= #[s,x],argTypes:= #[t,t]}) {size a0:Nat} (ht:P.underlying t=some (.slice e)) (c0:(P.info? e).map (λi=>(i.zero,i.size,i.bytes))=some (some z,size,a0)) (j0:z.cells.size=size) (i0:0<size) (hs:Zl W.heap.size e size [] (ρ s) w1) {a2:uQ} {news:uZ} (hx:ρ x= .slice a2 m c2) (hl:news.length=m*size) (f0:Rd w1 a2 news) (h1:∀u∈news,u.oneCell'=true) (b0:m*a0<=140737488355328) (g0:0<a0) (hR:∀u w',Xi W.heap.size e size m news [] u w'->R u w') (hd:o.dst.isSome=true:=by rfl):xO P o ρ w1 (λu w'=>xW w1 w'/\R (kept o u) w'/\(∀k,yQ m (kept o u)=some k->w1.heap.size<=k/\k<w'.heap.size)/\xW W w'):=by
 obtain⟨g,d,hg⟩:=hs;refine jr s x t ho ht c0 j0 i0 d hg hx hl f0 h1 b0 g0 hG.size ?_;intro a c w2 d0 hb hf h0;exact⟨hb,by rw[je hd];exact hR _ _ ⟨a,c,rfl,d0,h0⟩,by rw[je hd];exact JR d0 hf,hG.trans (hb.mono hG.size)⟩
end Go.Proofs.YtfclolgfegdfjaaGreat
namespace Go.Proofs.YtfclolgfegdfjaaGreat
open Go.RowKit Go.ChangeShapes Go.WideShapes Go.Deep
section
variable {H:Type} {enc:TypeId×Value->H} {w:World} {base:Nat} {held:Bool}
end
end Go.Proofs.YtfclolgfegdfjaaGreat
