/- Part of a proof: Rk Rkb Rinv. -/
import Derived.Laws.CopyOwn
import Derived.Test.YtnlijgjpgdjpiaaGreatQPFr
set_option maxRecDepth 100000
set_option maxHeartbeats 16000000
namespace Go.Proofs.YtnlijgjpgdjpiaaGreat
open Go.RowKit
inductive Rl where
 |k (V:Value)
 |r (R:List Value->Value->World->Prop)
def Rl.P:Rl->List Value->Value->World->Prop
 | .k V=>λ_ u _=>u=V
 | .r R=>R
def StK (S:World->World->Prop):List Rl->Prop
 |[]=>True
 | .k _::l=>StK S l
 | .r R::l=>(∀ds v w w',S w w'->R ds v w->R ds v w')/\StK S l
def StT (i0:Nat) (S:World->World->Prop):Nat->List Rl->Prop
 |_,[]=>True
 |i,.k _::l=>StT i0 S (i+1) l
 |i,.r R::l=>(i=i0\/∀ds v w w',S w w'->R ds v w->R ds v w')/\StT i0 S (i+1) l
theorem StK.to:∀{l:List Rl},StK (λw w'=>xW w w') l->zd4 (l.map Rl.P)
 |[],_=>trivial
 | .k _::_,h=>⟨λ_ _ _ _ _ h=>h,StK.to h⟩
 | .r _::_,h=>⟨h.1,StK.to h.2⟩
theorem StT.to {i0:Nat} {S:World->World->Prop}:∀{l:List Rl} {i:Nat},StT i0 S i l->zdI i0 S i (l.map Rl.P)
 |[],_,_=>trivial
 | .k _::_,_,h=>⟨.inr λ_ _ _ _ _ h=>h,StT.to h⟩
 | .r _::_,_,h=>⟨h.1,StT.to h.2⟩
def ForK (w:World) (K:List Value->Prop):List Rl->List Oper->List Value->Prop
 | .k V::rs,_::os,acc=>ForK w K rs os (acc++[V])
 | .r R::rs,o::os,acc=>∀u,R ((waits o).map λj=>acc.getD j undef) u w->ForK w K rs os (acc++[u])
 |_,_,acc=>K acc
theorem zke {acc xs:List Value} {j:Nat} (h:j<acc.length):(acc++xs).getD j undef=acc.getD j undef:=by
 simp[xDa,List.getElem?_append_left h]
def zeL:Nat->List Oper->Bool
 |_,[]=>true
 |i,o::os=>(waits o).all (λj=>decide (j<i))&&zeL (i+1) os
theorem zeI {w:World} {K:List Value->Prop} {Rs:List (List Value->Value->World->Prop)}:∀(rs:List Rl) (os:List Oper) (acc vs:List Value),rs.length=os.length->vs.length=os.length->zeL acc.length os=true->(∀k,rs[k]?.map Rl.P=Rs[acc.length+k]?)->All Rs (acc++vs) w os acc.length->ForK w K rs os acc->K (acc++vs)
 |[],[],acc,[],_,_,_,_,_,h=>by simpa[ForK] using h
 |r::rs,o::os,acc,v::vs,h1,h2,h3,h4,h5,h=>by
  simp only[zeL,Bool.and_eq_true] at h3;have hR:=h5.1;have e0:at' Rs acc.length=r.P:=by
   have:=h4 0;simp only[List.getElem?_cons_zero,Option.map_some,Nat.add_zero] at this;unfold at';rw[xDa,<-this];rfl
  have e1:((waits o).map λj=>(acc++v::vs).getD j undef)=(waits o).map λj=>acc.getD j undef:=List.map_congr_left λj hj=>zke (by simpa using List.all_eq_true.1 h3.1 j hj);rw[e0,e1,show(acc++v::vs).getD acc.length undef=v by simp[xDa]] at hR;have ea:acc++v::vs=(acc++[v])++vs:=by simp
  rw[ea];refine zeI rs os (acc++[v]) vs (by simpa using h1) (by simpa using h2) (by simpa using h3.2) (λk=> ?_) (by rw[<-ea];simpa using h5.2) ?_
  ·have:=h4 (k+1);simp only[List.getElem?_cons_succ] at this;rw[this];simp;congr 1;omega
  ·cases r with
   |k V=>obtain rfl:v=V:=hR;exact h
   |r R=>exact h v hR
 |[],_::_,_,_,h,_,_,_,_,_=>by simp at h
 |_::_,[],_,_,h,_,_,_,_,_=>by simp at h
 |_,[],_,_::_,_,h,_,_,_,_=>by simp at h
 |_,_::_,_,[],_,h,_,_,_,_=>by simp at h
theorem zd2 {l:List Oper} (n:Nat) (h:early l=true):zeL 0 (l.take n)=true:=by
 have key:∀(os:List Oper) (i:Nat),(∀k o,os[k]? =some o->∀j∈waits o,j<i+k)->zeL i os=true:=by
  intro os
  induction os with
  |nil=>intro i _;rfl
  |cons o os ih=>
   intro i hk;simp only[zeL,Bool.and_eq_true,List.all_eq_true,decide_eq_true_eq];exact⟨λj hj=>by simpa using hk 0 o rfl j hj,ih (i+1) λk p hp j hj=>by have:=hk (k+1) p (by simpa using hp) j hj;omega⟩
 refine key _ 0 λk o hk j hj=> ?_;have hl:l[k]? =some o:=by
  rw[List.getElem?_take] at hk;split at hk
  ·exact hk
  ·cases hk
 have hkl:k<l.length:=(xDs.1 hl).1;have h1:=List.all_eq_true.1 h k (List.mem_range.2 hkl);rw[hl] at h1;have:=List.all_eq_true.1 h1 j hj;simpa using this
theorem zbG {l:List Oper} {n m:Nat} (hf:fits l n m=true):early l=true/\n<=l.length:=by
 simp only[fits,Bool.and_eq_true,decide_eq_true_eq] at hf;exact⟨hf.1.1.1.2,hf.1.1.2⟩
theorem zbc {P:Program} {id:Nat} {l:List Oper} (n:Nat) {a0:Act} {w:World} {Q:Exit->Act->World->Prop} (rs:List Rl) (h1:StK (λw w'=>xW w w') rs)
  (hs:zdL P (l.take n) (rs.map Rl.P) (λ_ _=>none) (λw'=>xW w w') a0.eval (l.take n) 0) (he:∀w',xW w w'->ForK w' (λvs=>wpList P l.toArray Q (l.drop n) (zap (l.take n) a0 vs) w') rs (l.take n) []) (hm:P.follows .mixedOrders=true:=by kernel_rfl) (hf:fits l n a0.tmps.size=true:=by kernel_rfl) (hl:rs.length=n:=by rfl):(Code.region id l.toArray true).wp P Q a0 w:=
 zie n hm hf _ h1.to hs λvs w' hG hlen hall=>by
  have hn:=(zbG hf).2;have:=zeI (Rs:=rs.map Rl.P) rs (l.take n) [] vs (by simp[hl,hn]) (by simp[hlen,hn]) (zd2 n (zbG hf).1) (λk=>by simp) (by simpa using hall) (he w' hG);simpa using this
theorem zkO {P:Program} {id:Nat} {l:List Oper} (n:Nat) (T:TypeId) (i0:Nat) {a0:Act} {w:World} {Q:Exit->Act->World->Prop} (rs:List Rl) (h1:StK (λw w'=>xW w w') rs) (h2:StT i0 (TS T w.heap.size) 0 rs)
  (hs:zcX P (l.take n) (rs.map Rl.P) (St1 i0 (TS T w.heap.size)) (λ_ _=>none) (λ_ w'=>xW w w') a0.eval (l.take n) 0) (he:∀w',xW w w'->ForK w' (λvs=>wpList P l.toArray Q (l.drop n) (zap (l.take n) a0 vs) w') rs (l.take n) []) (hm:P.follows .mixedOrders=true:=by kernel_rfl) (hf:fits l n a0.tmps.size=true:=by kernel_rfl) (hl:rs.length=n:=by rfl):(Code.region id l.toArray true).wp P Q a0 w:=
 zid n T i0 hm hf _ h1.to h2.to hs λvs w' hG hlen hall=>by
  have hn:=(zbG hf).2;have:=zeI (Rs:=rs.map Rl.P) rs (l.take n) [] vs (by simp[hl,hn]) (by simp[hlen,hn]) (zd2 n (zbG hf).1) (λk=>by simp) (by simpa using hall) (he w' hG);simpa using this
theorem zao {p q:Prop} (h:q) (e:p=q:=by(simp only[ForK,List.take_succ_cons,List.take_zero,List.drop_succ_cons,List.drop_zero,xDq,List.cons_append,zap,Act.put,List.setIfInBounds_toArray,List.set_cons_succ,List.set_cons_zero];rfl)):p:=e▸h
theorem zaL {o:Oper} {u:Value} (hd:o.dst.isSome=true):kept o u=u:=by unfold kept;cases ho:o.dst with|none=>rw[ho] at hd;cases hd|some _=>rfl
section
variable {P:Program} {o:Oper} {ρ:Operand->Value} {W w1:World} {V:Value} {R:Value->World->Prop} {f:FuncId} {args:Array Value} {post:Ending->World->Prop}
theorem gvK (hG:xW W w1) (h:(execOp ρ o).run P w1= .ok (.value V) w1) (hd:o.dst.isSome=true:=by rfl):zau P o ρ w1 (λu w'=>xW w1 w'/\kept o u=V/\(∀k,none=some k->w1.heap.size<=k/\k<w'.heap.size)/\xW W w'):=
 zh h ⟨Below.refl _ _,zaL hd,xN1,hG⟩
theorem gvV (hG:xW W w1) (h:(execOp ρ o).run P w1= .ok (.value V) w1) (hR:R V w1) (hd:o.dst.isSome=true:=by rfl):zau P o ρ w1 (λu w'=>xW w1 w'/\R (kept o u) w'/\(∀k,none=some k->w1.heap.size<=k/\k<w'.heap.size)/\xW W w'):=
 zh h ⟨Below.refl _ _,by rw[zaL hd];exact hR,xN1,hG⟩
theorem gvN {ob:Obj} (hG:xW W w1) (h:(execOp ρ o).run P w1= .ok (.value V) (w1.alloc ob)) (hR:R V (w1.alloc ob)) (hd:o.dst.isSome=true:=by rfl):zau P o ρ w1 (λu w'=>xW w1 w'/\R (kept o u) w'/\(∀k,none=some k->w1.heap.size<=k/\k<w'.heap.size)/\xW W w'):=
 zh h ⟨xA1,by rw[zaL hd];exact hR,xN1,hG.alloc hG.size _⟩
end
theorem rk0 {p:Prop} (h:p:=by(exact gvK hG (by go_simp<;>rfl))):p:=h
theorem rk1 {p:Prop} (h:p:=by(have d:ρ (.tmp _)=_:=hd.1;exact gvK hG (by go_simp<;>rfl))):p:=h
theorem rk2 {p:Prop} (h:p:=by(have d:ρ (.tmp _)=_:=hd.1;have d':ρ (.tmp _)=_:=hd.2.1;exact gvK hG (by go_simp<;>rfl))):p:=h
theorem rk3 {p:Prop} (h:p:=by(have d:ρ (.tmp _)=_:=hd.1;have d':ρ (.tmp _)=_:=hd.2.1;have d'':ρ (.tmp _)=_:=hd.2.2.1;exact gvK hG (by go_simp<;>rfl))):p:=h
def rqE (B:Nat) (E:TypeId) (sz:Nat) (_:List Value) (u:Value) (W:World):Prop:=∃g:Nat,u= .slice (some ⟨g,0,none⟩) 0 0/\W.ownsRow B E sz (.slice (some ⟨g,0,none⟩) 0 0) 0 []
def rqA (B:Nat) (E:TypeId) (sz n:Nat) (cs:List Value) (_:List Value) (u:Value) (W:World):Prop:=∃(a:Option Addr) (c:Nat),u= .slice a n c/\W.ownsRow B E sz (.slice a n c) n cs/\(n=0->c=0)
def rqZ (B:Nat) (Z:Array Value) (T:TypeId) (_:List Value) (u:Value) (W:World):Prop:=∃g:Nat,u= .pointer (some ⟨g,0,none⟩)/\Blk W g Z T/\B<=g
theorem stE {B:Nat} {E:TypeId} {sz:Nat}:∀ds u w w',xW w w'->rqE B E sz ds u w->rqE B E sz ds u w':=λ_ _ _ _ hb ⟨g,e,h⟩=>⟨g,e,zf h hb⟩
theorem stA {B:Nat} {E:TypeId} {sz n:Nat} {cs:List Value}:∀ds u w w',xW w w'->rqA B E sz n cs ds u w->rqA B E sz n cs ds u w':=λ_ _ _ _ hb ⟨a,c,e,h,h0⟩=>⟨a,c,e,zf h hb,h0⟩
theorem stZ {B:Nat} {Z:Array Value} {T:TypeId}:∀ds u w w',xW w w'->rqZ B Z T ds u w->rqZ B Z T ds u w':=λ_ _ _ _ hb ⟨g,e,h,hs⟩=>⟨g,e,h.below hb,hs⟩
section
variable {P:Program} {o:Oper} {ρ:Operand->Value} {W w1:World} {R:Value->World->Prop}
theorem gkE {E:TypeId} {sz:Nat} (hG:xW W w1) (h:(execOp ρ o).run P w1= .ok (.value (.slice (some ⟨w1.heap.size,0,none⟩) 0 0)) (w1.alloc (.cells #[] E))) (hR:∀u w',rqE W.heap.size E sz [] u w'->R u w') (hd:o.dst.isSome=true:=by rfl):zau P o ρ w1 (λu w'=>xW w1 w'/\R (kept o u) w'/\(∀k,none=some k->w1.heap.size<=k/\k<w'.heap.size)/\xW W w'):=
 gvN hG h (hR _ _ ⟨_,rfl,zl (zJ w1 E sz) hG.size⟩) hd
theorem gkZ {Z:Array Value} {T:TypeId} (hG:xW W w1) (h:(execOp ρ o).run P w1= .ok (.value (.pointer (some ⟨w1.heap.size,0,none⟩))) (w1.alloc (.cells Z T))) (hR:∀u w',rqZ W.heap.size Z T [] u w'->R u w') (hd:o.dst.isSome=true:=by rfl):zau P o ρ w1 (λu w'=>xW w1 w'/\R (kept o u) w'/\(∀k,none=some k->w1.heap.size<=k/\k<w'.heap.size)/\xW W w'):=
 gvN hG h (hR _ _ ⟨_,rfl,Blk.new _ _ _,hG.size⟩) hd
end
theorem gkA {P:Program} {o:Oper} {ρ:Operand->Value} {W w1:World} {R:Value->World->Prop} (hG:xW W w1) (s x:Operand) (t:TypeId) (ho:o.op= .call {callee:= .builtin .append,args:= #[s,x],argTypes:= #[t,t]}) {e:TypeId} {z:Value} {size bytes:Nat} (ht:P.underlying t=some (.slice e)) (hinfo:(P.info? e).map (λi=>(i.zero,i.size,i.bytes))=some (some z,size,bytes)) (hzs:z.cells.size=size) (hsz:0<size) (hs:rqE W.heap.size e size [] (ρ s) w1) {a2:Option Addr} {m c2:Nat} {news:List Value} (hx:ρ x= .slice a2 m c2) (hl:news.length=m*size) (hsrc:Rd w1 a2 news) (h1:∀u∈news,u.oneCell'=true) (hbytes:m*bytes<=140737488355328) (hby:0<bytes) (hR:∀u w',rqA W.heap.size e size m news [] u w'->R u w') (hd:o.dst.isSome=true:=by rfl):zau P o ρ w1 (λu w'=>xW w1 w'/\R (kept o u) w'/\(∀k,none=some k->w1.heap.size<=k/\k<w'.heap.size)/\xW W w'):=by
 obtain⟨g,d,hg⟩:=hs;refine zag s x t ho ht hinfo hzs hsz d hg hx hl hsrc h1 hbytes hby hG.size ?_;intro a c w2 hown hb hf h0;exact⟨hb,by rw[zaL hd];exact hR _ _ ⟨a,c,rfl,hown,h0⟩,xN1,hG.trans (hb.mono hG.size)⟩
theorem rkE {p:Prop} (h:p:=by exact gkE hG (by go_simp) (λ_ _ h=>h)):p:=h
theorem rkZ {p:Prop} (h:p:=by exact gkZ hG (by go_simp) (λ_ _ h=>h)):p:=h
theorem zbv (l:List Value) (i:Nat):zK (.tuple l.toArray) i=l.getD i undef:=by simp[zK,xDa,Array.getD_eq_getD_getElem?]
def aggC:Value->Array Value
 | .agg cs=>cs
 |_=> #[]
def rqC (M:Value->World->Prop) (_:List Value) (u:Value) (W:World):Prop:=M u W
def rqM (M:Value->World->Prop) (ds:List Value) (u:Value) (W:World):Prop:=u=ds.getD 0 undef/\M u W
def rqX (i:Nat) (M:Value->World->Prop) (ds:List Value) (u:Value) (W:World):Prop:=u=zK (ds.getD 0 undef) i/\M (ds.getD 0 undef) W
def rqL (B nf:Nat) (T:TypeId) (_:List Value) (u:Value) (W:World):Prop:=∃(g:Nat) (ds:Array Value),u= .pointer (some ⟨g,0,none⟩)/\ds.size=nf/\Blk W g ds T/\B<=g
def rqS (T:TypeId) (ds:List Value) (_:Value) (W:World):Prop:=∃g:Nat,ds.getD 0 undef= .pointer (some ⟨g,0,none⟩)/\Blk W g (aggC (ds.getD 1 undef)) T
def rqG (ds:List Value) (u:Value) (_:World):Prop:=u=ds.getD 0 undef
def rlx (M:Value->World->Prop):Nat->Nat->List Rl->List Rl
 |_,0,l=>l
 |i,k+1,l=> .r (rqX i M)::rlx M (i+1) k l
def rlg:Nat->List Rl
 |0=>[]
 |m+1=> .r rqG::rlg m
def rls (B nf:Nat) (T:TypeId) (M:Value->World->Prop) (k m:Nat):List Rl:= .r (rqC M):: .r (rqM M)::rlx M 0 k (.r (rqL B nf T):: .r (rqS T)::rlg m)
theorem TS.row {T:TypeId} {B g:Nat} {w:World} {old cs:Array Value} (h:Blk w g old T) (hB:B<=g) (hs:cs.size=old.size):TS T B w (w.setRow g cs):=by
 refine⟨below_setRow xB1 hB _,λk ds e fr hk he=>setRow_other _ _ _ _ λe'=> ?_,λk ds hk=> ?_⟩
 ·subst e';unfold Blk at h;rw[h] at hk;simp only[xDn,Obj.cells.injEq] at hk;exact he hk.2.1.symm
 ·by_cases e:k=g
  ·subst e;unfold Blk at h hk⊢;rw[h] at hk;simp only[xDn,Obj.cells.injEq,and_true] at hk;exact⟨cs,by rw[hs,hk],setRow_heap _ _ _ _ _ _ h⟩
  ·exact⟨ds,rfl,(setRow_other _ _ _ _ e).trans hk⟩
section
variable {P:Program} {o:Oper} {ρ:Operand->Value} {W w1:World} {V:Value} {R:Value->World->Prop} {f:FuncId} {args:Array Value} {post:Ending->World->Prop} {S:World->World->Prop} {i i0:Nat} {M:Value->World->Prop}
theorem gtK (hG:xW W w1) (h:(execOp ρ o).run P w1= .ok (.value V) w1) (hd:o.dst.isSome=true:=by rfl) (hi:i≠i0:=by decide):zau P o ρ w1 (λu w'=>St1 i0 S i w1 w'/\kept o u=V/\(∀k,none=some k->w1.heap.size<=k/\k<w'.heap.size)/\xW W w'):=
 zh h ⟨zI hi xB1,zaL hd,xN1,hG⟩
theorem gtV (hG:xW W w1) (h:(execOp ρ o).run P w1= .ok (.value V) w1) (hR:R V w1) (hd:o.dst.isSome=true:=by rfl) (hi:i≠i0:=by decide):zau P o ρ w1 (λu w'=>St1 i0 S i w1 w'/\R (kept o u) w'/\(∀k,none=some k->w1.heap.size<=k/\k<w'.heap.size)/\xW W w'):=
 zh h ⟨zI hi xB1,by rw[zaL hd];exact hR,xN1,hG⟩
theorem gtC (hG:xW W w1) (h:(execOp ρ o).run P w1= .ok (.enter f args) w1) (hc:Calls P f args w1 post) (hp:∀e w',post e w'->∃u,e= .returned u/\xW w1 w'/\R u w') (hd:o.dst.isSome=true:=by rfl) (hi:i≠i0:=by decide):zau P o ρ w1 (λu w'=>St1 i0 S i w1 w'/\R (kept o u) w'/\(∀k,none=some k->w1.heap.size<=k/\k<w'.heap.size)/\xW W w'):=
 zac h (hc.mono λe w' h1=>by
  obtain⟨u,e1,hb,h2⟩:=hp e w' h1;exact⟨u,e1,zI hi hb,by rw[zaL hd];exact h2,xN1,hG.trans (hb.mono hG.size)⟩)
theorem gtM {x:Operand} {k:Nat} (ho:o.op= .move x) (_hM:∀u w,M u w->∃vs,u= .tuple vs/\vs.size=k) (hG:xW W w1) (d:M (ρ x) w1) (hR:∀u w',rqM M [ρ x] u w'->R u w') (hd:o.dst.isSome=true:=by rfl) (hi:i≠i0:=by decide):zau P o ρ w1 (λu w'=>St1 i0 S i w1 w'/\R (kept o u) w'/\(∀k,none=some k->w1.heap.size<=k/\k<w'.heap.size)/\xW W w'):=
 gtV hG (by simp[execOp,ho]) (hR _ _ ⟨rfl,d⟩) hd hi
theorem gtX {x:Operand} {k j:Nat} (ho:o.op= .extract x j) (hM:∀u w,M u w->∃vs,u= .tuple vs/\vs.size=k) (hj:j<k) (hG:xW W w1) (d:M (ρ x) w1) (hR:∀u w',rqX j M [ρ x] u w'->R u w') (hd:o.dst.isSome=true:=by rfl) (hi:i≠i0:=by decide):zau P o ρ w1 (λu w'=>St1 i0 S i w1 w'/\R (kept o u) w'/\(∀k,none=some k->w1.heap.size<=k/\k<w'.heap.size)/\xW W w'):=by
 obtain⟨vs,e,hs⟩:=hM _ _ d;refine gtV hG (V:=vs[j]'(by omega)) ?_ (hR _ _ ⟨?_,d⟩) hd hi
 ·simp[execOp,ho,e,Instr.extract,hs,hj]
 ·simp[e,zK,Array.getD_eq_getD_getElem?,show j<vs.size by omega]
theorem gtG {x:Operand} (ho:o.op= .assign x) (hG:xW W w1) (hR:∀u w',rqG [ρ x] u w'->R u w') (hd:o.dst.isSome=true:=by rfl) (hi:i≠i0:=by decide):zau P o ρ w1 (λu w'=>St1 i0 S i w1 w'/\R (kept o u) w'/\(∀k,none=some k->w1.heap.size<=k/\k<w'.heap.size)/\xW W w'):=
 gtV hG (by simp[execOp,ho]) (hR _ _ rfl) hd hi
theorem gtL {Z:Array Value} {T:TypeId} (nf:Nat) (hG:xW W w1) (h:(execOp ρ o).run P w1= .ok (.value (.pointer (some ⟨w1.heap.size,0,none⟩))) (w1.alloc (.cells Z T))) (hR:∀u w',rqL W.heap.size nf T [] u w'->R u w') (hz:Z.size=nf:=by rfl) (hd:o.dst.isSome=true:=by rfl) (hi:i≠i0:=by decide):zau P o ρ w1 (λu w'=>St1 i0 S i w1 w'/\R (kept o u) w'/\(∀k,none=some k->w1.heap.size<=k/\k<w'.heap.size)/\xW W w'):=
 zh h ⟨zI hi (xA1),by rw[zaL hd];exact hR _ _ ⟨_,Z,rfl,hz,Blk.new _ _ _,hG.size⟩,xN1,hG.alloc hG.size _⟩
theorem gtS {x y:Operand} {T:TypeId} {nf:Nat} (ho:o.op= .store T x y) (hM:∀u w,M u w->∃cs,zK u 0= .agg cs/\cs.size=nf/\cs.toList.all (·.oneCell')=true) (hT:(P.info? T).map (·.size)=some nf) (hG:xW W w1) (d:rqL W.heap.size nf T [] (ρ x) w1) (d1:∃z,ρ y=zK z 0/\M z w1) (hR:∀u w',rqS T [ρ x,ρ y] u w'->R u w'):zau P o ρ w1 (λu w'=>St1 i (TS T W.heap.size) i w1 w'/\R (kept o u) w'/\(∀k,none=some k->w1.heap.size<=k/\k<w'.heap.size)/\xW W w'):=by
 obtain⟨g,old,e,hz,hB,hg⟩:=d;obtain⟨z,d1,d2⟩:=d1;obtain⟨cs,e2,hs,h1⟩:=hM _ _ d2;have e3:ρ y= .agg cs:=d1.trans e2;have hst:=TS.row hB hg (cs:=cs) (by omega);refine zgy (w':=w1.setRow g cs) ?_ ⟨zdw hst,hR _ _ ⟨g,e,?_⟩,xN1,hG.trans hst.bel⟩
 ·simp[execOp,ho,e,e3,Instr.storeAt,Instr.sureAddr,run_storeVar_row w1 g T T old cs hB (by rw[hT,hs]) (by omega) (Array.all_toList.symm.trans h1)]
 ·rw[show([ρ x,ρ y]:List Value).getD 1 undef= .agg cs from e3];exact setRow_heap _ _ _ _ _ _ hB
end
theorem zkv {B nf:Nat} {T:TypeId} {M:Value->World->Prop} (hM:∀u w w',xW w w'->M u w->M u w') (k m:Nat):StK (λw w'=>xW w w') (rls B nf T M k m):=by
 have h1:∀(l:List Rl),StK (λw w'=>xW w w') l->∀k i,StK (λw w'=>xW w w') (rlx M i k l):=by
  intro l hl k
  induction k with
  |zero=>intro _;exact hl
  |succ k ih=>intro i;exact⟨λds u w w' hb h=>⟨h.1,hM _ _ _ hb h.2⟩,ih (i+1)⟩
 have h2:∀m,StK (λw w'=>xW w w') (rlg m):=by
  intro m
  induction m with
  |zero=>trivial
  |succ m ih=>exact⟨λ_ _ _ _ _ h=>h,ih⟩
 exact⟨λ_ _ _ _ hb h=>hM _ _ _ hb h,λ_ _ _ _ hb h=>⟨h.1,hM _ _ _ hb h.2⟩,h1 (.r (rqL B nf T):: .r (rqS T)::rlg m) ⟨λ_ _ _ _ hb ⟨g,ds,e,hz,h,hs⟩=>⟨g,ds,e,hz,h.below hb,hs⟩,λ_ _ _ _ hb ⟨g,e,h⟩=>⟨g,e,h.below hb⟩,h2 m⟩ k 0⟩
theorem zkC {B B' nf:Nat} {T:TypeId} {M:Value->World->Prop} (hM:∀u w w',TS T B' w w'->M u w->M u w') (k m i:Nat):StT (i+k+3) (TS T B') i (rls B nf T M k m):=by
 have h1:∀(j:Nat) (l:List Rl) (k i a:Nat),StT j (TS T B') (a+k) l->StT j (TS T B') a (rlx M i k l):=by
  intro j l k
  induction k with
  |zero=>intro i a hl;exact hl
  |succ k ih=>intro i a hl;exact⟨.inr λds u w w' hb h=>⟨h.1,hM _ _ _ hb h.2⟩,ih (i+1) (a+1) (by rw[show a+1+k=a+(k+1) by omega];exact hl)⟩
 have h2:∀m a,StT (i+k+3) (TS T B') a (rlg m):=by
  intro m
  induction m with
  |zero=>intro _;trivial
  |succ m ih=>intro a;exact⟨.inr λ_ _ _ _ _ h=>h,ih _⟩
 exact⟨.inr λ_ _ _ _ hb h=>hM _ _ _ hb h,.inr λ_ _ _ _ hb h=>⟨h.1,hM _ _ _ hb h.2⟩,h1 _ (.r (rqL B nf T):: .r (rqS T)::rlg m) k 0 _ ⟨.inr λ_ _ _ _ hT ⟨g,ds,e,hz,h,hs⟩=>⟨g,(hT.prg g ds h).choose,e,(hT.prg g ds h).choose_spec.1.trans hz,(hT.prg g ds h).choose_spec.2,hs⟩,.inl (by omega),h2 _ _⟩⟩
theorem zdc {P:Program} {id:Nat} {l:List Oper} (n c k m nf:Nat) (T:TypeId) (M:Value->World->Prop) {a0:Act} {w:World} {Q:Exit->Act->World->Prop} (pre:List Rl) (hB:∀u w w',xW w w'->M u w->M u w') (hT:∀u w' w'',TS T w.heap.size w' w''->M u w'->M u w'') (h1:∀u w,M u w->∃vs,u= .tuple vs/\vs.size=k) (h2:∀u w,M u w->∃cs,zK u 0= .agg cs/\cs.size=nf/\cs.toList.all (·.oneCell')=true)
  (hs:(∀u w,M u w->∃vs,u= .tuple vs/\vs.size=k)->(∀u w,M u w->∃cs,zK u 0= .agg cs/\cs.size=nf/\cs.toList.all (·.oneCell')=true)->zcX P (l.take n) ((pre++rls w.heap.size nf T M k m).map Rl.P) (St1 (c+k+3) (TS T w.heap.size)) (λ_ _=>none) (λ_ w'=>xW w w') a0.eval (l.take n) 0) (he:∀w',xW w w'->ForK w' (λvs=>wpList P l.toArray Q (l.drop n) (zap (l.take n) a0 vs) w') (pre++rls w.heap.size nf T M k m) (l.take n) []) (hm:P.follows .mixedOrders=true:=by kernel_rfl) (hf:fits l n a0.tmps.size=true:=by kernel_rfl) (hl:(pre++rls w.heap.size nf T M k m).length=n:=by rfl) (hp:pre.all (λr=>match r with| .k _=>true|_=>false)=true:=by rfl) (hc:pre.length=c:=by rfl):(Code.region id l.toArray true).wp P Q a0 w:=by
 have q1:∀(pre:List Rl) (r:List Rl),pre.all (λr=>match r with| .k _=>true|_=>false)=true->StK (λw w'=>xW w w') r->StK (λw w'=>xW w w') (pre++r):=by
  intro pre r
  induction pre with
  |nil=>intro _ h;exact h
  |cons a pre ih=>
   intro hp h
   cases a with
   |k V=>exact ih (by simpa using hp) h
   |r R=>simp at hp
 have q2:∀(pre:List Rl) (r:List Rl) (i0 j:Nat),pre.all (λr=>match r with| .k _=>true|_=>false)=true->StT i0 (TS T w.heap.size) (j+pre.length) r->StT i0 (TS T w.heap.size) j (pre++r):=by
  intro pre r i0
  induction pre with
  |nil=>intro j _ h;exact h
  |cons a pre ih=>
   intro j hp h
   cases a with
   |k V=>exact ih (j+1) (by simpa using hp) (by rw[show j+1+pre.length=j+(Rl.k V::pre).length by simp;omega];exact h)
   |r R=>simp at hp
 exact zkO n T (c+k+3) _ (q1 _ _ hp (zkv hB k m)) (q2 _ _ _ _ hp (by rw[Nat.zero_add,hc];exact zkC hT k m c)) (hs h1 h2) he hm hf hl
theorem zcH {p q:Prop} (h:q) (e:p=q:=by(simp only[ForK,rls,rlx,rlg,rqC,rqM,rqX,rqL,rqS,rqG,List.map_cons,List.map_nil,List.getD_cons_zero,List.getD_cons_succ,List.getD_nil,List.take_succ_cons,List.take_zero,List.drop_succ_cons,List.drop_zero,xDq,List.cons_append,zap,Act.put,List.setIfInBounds_toArray,List.set_cons_succ,List.set_cons_zero];rfl)):p:=e▸h
theorem rt0 {p:Prop} (h:p:=by(exact gtK hG (by go_simp<;>rfl))):p:=h
theorem rt1 {p:Prop} (h:p:=by(have d:ρ (.tmp _)=_:=hd.1;exact gtK hG (by go_simp<;>rfl))):p:=h
theorem rtM {p:Prop} (h:p:=by exact gtM rfl hM1 hG hd.1 (λ_ _ h=>h)):p:=h
theorem rtX {p:Prop} (h:p:=by exact gtX rfl hM1 (by decide) hG hd.1.2 (λ_ _ h=>h)):p:=h
theorem rtL {p:Prop} (h:p:=by exact gtL _ hG (by go_simp<;>rfl) (λ_ _ h=>h)):p:=h
theorem rtS {p:Prop} (h:p:=by exact gtS rfl hM2 rfl hG hd.1 ⟨_,hd.2.1⟩ (λ_ _ h=>h)):p:=h
theorem rtG {p:Prop} (h:p:=by exact gtG rfl hG (λ_ _ h=>h)):p:=h
def nB (_:Value):Option Nat:=none
def bkl (bks:List (Value->Option Nat)) (i:Nat) (v:Value):Option Nat:=(bks.getD i λ_=>none) v
theorem zkG {P:Program} {id:Nat} {l:List Oper} (n:Nat) {a0:Act} {w:World} {Q:Exit->Act->World->Prop} (bks:List (Value->Option Nat)) (rs:List Rl) (h1:StK (λw w'=>xW w w') rs)
  (hs:zdL P (l.take n) (rs.map Rl.P) (bkl bks) (λw'=>xW w w') a0.eval (l.take n) 0) (he:∀w',xW w w'->ForK w' (λvs=>zgF (bkl bks) vs->wpList P l.toArray Q (l.drop n) (zap (l.take n) a0 vs) w') rs (l.take n) []) (hm:P.follows .mixedOrders=true:=by kernel_rfl) (hf:fits l n a0.tmps.size=true:=by kernel_rfl) (hl:rs.length=n:=by rfl):(Code.region id l.toArray true).wp P Q a0 w:=
 zaJ n hm hf _ _ _ xB1.drew (zbT h1.to) hs λvs w' hG hlen hall hap _=>by
  have hn:=(zbG hf).2;have:=zeI (Rs:=rs.map Rl.P) rs (l.take n) [] vs (by simp[hl,hn]) (by simp[hlen,hn]) (zd2 n (zbG hf).1) (λk=>by simp) (by simpa using hall) (he w' hG);rw[xDq] at this;exact this hap
def rqB (B:Nat) (E:TypeId) (sz n:Nat) (cs:List Value) (ds:List Value) (u:Value) (W:World):Prop:=∃(a:Option Addr) (c:Nat),u= .slice a n c/\W.ownsRow B E sz (.slice a n c) n cs/\(n=0->u=ds.getD 0 undef)
theorem stB {B:Nat} {E:TypeId} {sz n:Nat} {cs:List Value}:∀ds u w w',xW w w'->rqB B E sz n cs ds u w->rqB B E sz n cs ds u w':=λ_ _ _ _ hb ⟨a,c,e,h,h0⟩=>⟨a,c,e,zf h hb,h0⟩
theorem gkEb {P:Program} {o:Oper} {ρ:Operand->Value} {W w1:World} {R:Value->World->Prop} {E:TypeId} {sz:Nat} (hG:xW W w1) (h:(execOp ρ o).run P w1= .ok (.value (.slice (some ⟨w1.heap.size,0,none⟩) 0 0)) (w1.alloc (.cells #[] E))) (hR:∀u w',rqE W.heap.size E sz [] u w'->R u w') (hd:o.dst.isSome=true:=by rfl):zau P o ρ w1 (λu w'=>xW w1 w'/\R (kept o u) w'/\(∀k,Value.ownBlock (kept o u)=some k->w1.heap.size<=k/\k<w'.heap.size)/\xW W w'):=
 zh h ⟨xA1,by rw[zaL hd];exact hR _ _ ⟨_,rfl,zl (zJ w1 E sz) hG.size⟩,λk hk=>by
  rw[zaL hd,zO] at hk;have:w1.heap.size=k:=by simpa[ze] using hk
  subst this;simp,hG.alloc hG.size _⟩
theorem gkB {P:Program} {o:Oper} {ρ:Operand->Value} {W w1:World} {R:Value->World->Prop} (hG:xW W w1) (s x:Operand) (t:TypeId) (ho:o.op= .call {callee:= .builtin .append,args:= #[s,x],argTypes:= #[t,t]}) {e:TypeId} {z:Value} {size bytes:Nat} (ht:P.underlying t=some (.slice e)) (hinfo:(P.info? e).map (λi=>(i.zero,i.size,i.bytes))=some (some z,size,bytes)) (hzs:z.cells.size=size) (hsz:0<size) (hs:rqE W.heap.size e size [] (ρ s) w1) {a2:Option Addr} {m c2:Nat} {news:List Value} (hx:ρ x= .slice a2 m c2) (hl:news.length=m*size) (hsrc:Rd w1 a2 news) (h1:∀u∈news,u.oneCell'=true) (hbytes:m*bytes<=140737488355328) (hby:0<bytes) (hR:∀u w',rqB W.heap.size e size m news [ρ s] u w'->R u w') (hd:o.dst.isSome=true:=by rfl):zau P o ρ w1 (λu w'=>xW w1 w'/\R (kept o u) w'/\(∀k,slBk m (kept o u)=some k->w1.heap.size<=k/\k<w'.heap.size)/\xW W w'):=by
 obtain⟨g,d,hg⟩:=hs;by_cases hm:m=0
 ·subst hm;obtain rfl:news=[]:=List.eq_nil_of_length_eq_zero (by simpa using hl);have hrun:(Builtin.append_ #[t,t] o.type #[.slice (some ⟨g,0,none⟩) 0 0,.slice a2 0 c2]).run P w1= .ok (.slice (some ⟨g,0,none⟩) 0 0) w1:=by
   obtain⟨i,hi,-,-,-⟩:=info_parts hinfo
   cases a2 with
   |none=>exact za4 (P:=P) (w:=w1) W.heap.size t o.type e i size ht hi _ 0 [] hg c2
   |some ad=>simp[Builtin.append_,run_underlying ht,sizeOf,typeInfo,hi,Builtin.lenOf,Builtin.firstCells,loadCells,loadCellsFrom,storeCells]
  refine zh (u:= .slice (some ⟨g,0,none⟩) 0 0) (w':=w1) ?_ ⟨Below.refl _ _,by rw[zaL hd];exact hR _ _ ⟨_,_,rfl,hg,λ_=>d.symm⟩,(λk hk=>by simp[slBk] at hk),hG⟩;unfold execOp;simp only[ho,resolve,invoke,builtin,Sem.run_bind,Sem.run_pure,Result.andThen_ok,List.map_toArray,List.map_cons,List.map_nil,d,hx,hrun]
 ·refine zag s x t ho ht hinfo hzs hsz d hg hx hl hsrc h1 hbytes hby hG.size ?_;intro a c w2 hown hb hf h0;exact⟨hb,by rw[zaL hd];exact hR _ _ ⟨a,c,rfl,hown,λh=>absurd h hm⟩,by rw[zaL hd];exact zeU hown hf,hG.trans (hb.mono hG.size)⟩
theorem rkEb {p:Prop} (h:p:=by exact gkEb hG (by go_simp) (λ_ _ h=>h)):p:=h
theorem zg2 {n m c d:Nat} {a b:Option Addr} {e f:Value} (hee:∀k,Value.ownBlock e=some k->Value.ownBlock f≠some k) (heu:∀k,Value.ownBlock e=some k->slBk m (.slice b m d)≠some k) (hue:∀k,slBk n (.slice a n c)=some k->Value.ownBlock f≠some k) (huu:∀k,slBk n (.slice a n c)=some k->slBk m (.slice b m d)≠some k) (h1:n=0->Value.slice a n c=e) (h2:m=0->Value.slice b m d=f):∀q,ze a=some q->ze b≠some q:=by
 intro q hq hq';have sl:∀{n c:Nat} {a:Option Addr},n≠0->ze a=some q->slBk n (.slice a n c)=some q:=λh0 hq=>by rw[slBk,if_neg h0,zO];exact hq
 by_cases hn:n=0
 ·have e1:Value.ownBlock e=some q:=by rw[<-h1 hn,zO];exact hq
  by_cases hm:m=0
  ·exact hee q e1 (by rw[<-h2 hm,zO];exact hq')
  ·exact heu q e1 (sl hm hq')
 ·by_cases hm:m=0
  ·exact hue q (sl hn hq) (by rw[<-h2 hm,zO];exact hq')
  ·exact huu q (sl hn hq) (sl hm hq')
theorem Fr.dis {w W:World} {l:List It} (F:Fr w W l) {k k':Nat} (hne:k'≠k) {i i':It} (hi:l[k]? =some i) (hi':l[k']? =some i'):∀q∈i.foot,q∉i'.foot:=by
 intro q hq hq';have h:=(F.pull k hi).ap;have hm:i'∈l.eraseIdx k:=List.mem_eraseIdx_iff_getElem?.2 ⟨k',hne,hi'⟩;exact(List.nodup_append.1 h).2.2 q hq q (List.mem_flatMap.2 ⟨i',hm,hq'⟩) rfl
theorem Fr.add {w W:World} {l:List It} (F:Fr w W l) {i:It} (hi:i.has w.heap.size W) (hd:∀q∈i.foot,q∉zv l):Fr w W (i::l):=by
 refine⟨F.bel,λj hj=> ?_,?_⟩
 ·rcases List.mem_cons.1 hj with rfl|hj
  ·exact hi
  ·exact F.has j hj
 ·show(i.foot++zv l).Nodup;exact List.nodup_append.2 ⟨i.foot_nodup,F.ap,λa ha b hb e=>hd a ha (e▸hb)⟩
theorem Fr.rows3 {w W W':World} {l:List It} (F:Fr w W l) (hG:xW W W') {a1 a2 a3:Option Addr} {n1 n2 n3 c1 c2 c3 s1 s2 s3:Nat} {E1 E2 E3:TypeId} {x1 x2 x3:List Value} (o1:W'.ownsRow W.heap.size E1 s1 (.slice a1 n1 c1) n1 x1) (o2:W'.ownsRow W.heap.size E2 s2 (.slice a2 n2 c2) n2 x2) (o3:W'.ownsRow W.heap.size E3 s3 (.slice a3 n3 c3) n3 x3) (h12:∀q,ze a1=some q->ze a2≠some q) (h13:∀q,ze a1=some q->ze a3≠some q) (h23:∀q,ze a2=some q->ze a3≠some q):Fr w W' (.row a1 n1 c1 E1 s1 x1:: .row a2 n2 c2 E2 s2 x2:: .row a3 n3 c3 E3 s3 x3::l):=by
 have far:∀{a:Option Addr} {n c s:Nat} {E:TypeId} {x:List Value},W'.ownsRow W.heap.size E s (.slice a n c) n x->∀q,ze a=some q->q∉zv l:=λho q hq hm=>by
  have h1:=(zp ho q hq).1;have h2:=(F.inside q hm).2;omega
 have hs:=F.bel.size;refine Fr.add (Fr.add (F.row hG o3) (i:= .row a2 n2 c2 E2 s2 x2) (zl o2 hs) λq hq=> ?_) (i:= .row a1 n1 c1 E1 s1 x1) (zl o1 hs) λq hq=> ?_
 ·have hq':ze a2=some q:=by simpa[It.foot] using hq
  intro hm;rcases xP1 (show q∈(ze a3).toList++zv l from hm) with hm|hm
  ·exact h23 q hq' (by simpa using hm)
  ·exact far o2 q hq' hm
 ·have hq':ze a1=some q:=by simpa[It.foot] using hq
  intro hm;rcases xP1 (show q∈(ze a2).toList++((ze a3).toList++zv l) from hm) with hm|hm
  ·exact h12 q hq' (by simpa using hm)
  ·rcases xP1 hm with hm|hm
   ·exact h13 q hq' (by simpa using hm)
   ·exact far o1 q hq' hm
theorem zgB {P:Program} {id:Nat} {l:List Oper} (n i0 b:Nat) {a0:Act} {w:World} {Q:Exit->Act->World->Prop} (rs:List Rl) (h1:StK (λw w'=>xW w w') rs) (h2:StT i0 (zi [b]) 0 rs)
  (hs:zcX P (l.take n) (rs.map Rl.P) (St1 i0 (zi [b])) (λ_ _=>none) (za2 i0 [b] w) a0.eval (l.take n) 0) (he:∀w',zi [b] w w'->ForK w' (λvs=>wpList P l.toArray Q (l.drop n) (zap (l.take n) a0 vs) w') rs (l.take n) []) (hm:P.follows .mixedOrders=true:=by kernel_rfl) (hf:fits l n a0.tmps.size=true:=by kernel_rfl) (hl:rs.length=n:=by rfl):(Code.region id l.toArray true).wp P Q a0 w:=
 za1 n hm hf _ _ _ _ (za2.start _ _ _) (zcZ λ_ _ h=>h.size) (zc1 h1.to h2.to) hs λvs w' _ hG hlen hall _ _=>by
  have hn:=(zbG hf).2;have:=zeI (Rs:=rs.map Rl.P) rs (l.take n) [] vs (by simp[hl,hn]) (by simp[hlen,hn]) (zd2 n (zbG hf).1) (λk=>by simp) (by simpa using hall) (he w' hG.2);simpa using this
def rqI (B:Nat) (E:TypeId) (k:Nat) (cs:Array Value) (_:List Value) (u:Value) (W:World):Prop:=∃g:Nat,u= .slice (some ⟨g,0,none⟩) k k/\Blk W g cs E/\B<=g
theorem stI {B:Nat} {E:TypeId} {k:Nat} {cs:Array Value}:∀ds u w w',xW w w'->rqI B E k cs ds u w->rqI B E k cs ds u w':=λ_ _ _ _ hb ⟨g,e,h,hs⟩=>⟨g,e,h.below hb,hs⟩
theorem stIT {B:Nat} {E:TypeId} {k b:Nat} {cs:Array Value} (hb:b<B):∀ds u w w',zi [b] w w'->rqI B E k cs ds u w->rqI B E k cs ds u w':=λ_ _ _ _ hT ⟨g,e,h,hs⟩=>⟨g,e,hT.blk h (by simp;omega),hs⟩
def rqK (b:Nat) (T:TypeId) (cs:Array Value) (_:List Value) (_:Value) (W:World):Prop:=Blk W b cs T
theorem stKb {b:Nat} {T:TypeId} {cs:Array Value}:∀ds u w w',xW w w'->rqK b T cs ds u w->rqK b T cs ds u w':=λ_ _ _ _ hb h=>Blk.below h hb
section
variable {P:Program} {o:Oper} {ρ:Operand->Value} {W w1:World} {V:Value} {R:Value->World->Prop} {b i i0:Nat} {L:Nat->Bool}
theorem gsK (hG:za2 i0 [b] W L w1) (h:(execOp ρ o).run P w1= .ok (.value V) w1) (hd:o.dst.isSome=true:=by rfl) (hi:i≠i0:=by decide):zau P o ρ w1 (λu w'=>St1 i0 (zi [b]) i w1 w'/\kept o u=V/\(∀k,none=some k->w1.heap.size<=k/\k<w'.heap.size)/\za2 i0 [b] W (λj=>decide (j=i)||L j) w'):=
 zh h ⟨zI hi xB1,zaL hd,xN1,hG.step hi xB1⟩
theorem gsI {k:Nat} {cs:Array Value} {E:TypeId} (hG:za2 i0 [b] W L w1) (h:(execOp ρ o).run P w1= .ok (.value (.slice (some ⟨w1.heap.size,0,none⟩) k k)) (w1.alloc (.cells cs E))) (hR:∀u w',rqI W.heap.size E k cs [] u w'->R u w') (hd:o.dst.isSome=true:=by rfl) (hi:i≠i0:=by decide):zau P o ρ w1 (λu w'=>St1 i0 (zi [b]) i w1 w'/\R (kept o u) w'/\(∀k,none=some k->w1.heap.size<=k/\k<w'.heap.size)/\za2 i0 [b] W (λj=>decide (j=i)||L j) w'):=
 zh h ⟨zI hi (xA1),by rw[zaL hd];exact hR _ _ ⟨_,rfl,Blk.new _ _ _,hG.2.size⟩,xN1,hG.step hi (xA1)⟩
theorem gsS {x y:Operand} {T:TypeId} {old cs:Array Value} (ho:o.op= .store T x y) (hG:za2 i [b] W L w1) (hL:L i=false) (kb:Blk W b old T) (hx:ρ x= .pointer (some ⟨b,0,none⟩)) (hy:ρ y= .agg cs) (hs:cs.size=old.size) (h1:cs.toList.all (·.oneCell')=true) (hT:(P.info? T).map (·.size)=some cs.size) (hR:∀u w',rqK b T cs [] u w'->R u w'):zau P o ρ w1 (λu w'=>St1 i (zi [b]) i w1 w'/\R (kept o u) w'/\(∀k,none=some k->w1.heap.size<=k/\k<w'.heap.size)/\za2 i [b] W (λj=>decide (j=i)||L j) w'):=by
 have kb1:=kb.below (hG.1 hL);have hst:zi [b] w1 (w1.setRow b cs):=⟨rfl,rfl,rfl,by simp,λk _ hn=>setRow_other _ _ _ _ λe=>hn (by simp[e])⟩
 refine zgy (w':=w1.setRow b cs) ?_ ⟨zdw hst,hR _ _ (setRow_heap _ _ _ _ _ _ kb1),xN1,hG.own hst⟩;simp[execOp,ho,hx,hy,Instr.storeAt,Instr.sureAddr,run_storeVar_row w1 b T T old cs kb1 hT (by omega) (Array.all_toList.symm.trans h1)]
end
theorem stET {B b:Nat} {E:TypeId} {sz:Nat} (hb:b<B):∀ds u w w',zi [b] w w'->rqE B E sz ds u w->rqE B E sz ds u w':=λ_ _ _ _ hT ⟨g,e,h⟩=>⟨g,e,zj h hT λq hq hm=>by have:=(zp h q hq).1;have:=xS1 hm;omega⟩
theorem stAT {B b:Nat} {E:TypeId} {sz n:Nat} {cs:List Value} (hb:b<B):∀ds u w w',zi [b] w w'->rqA B E sz n cs ds u w->rqA B E sz n cs ds u w':=λ_ _ _ _ hT ⟨a,c,e,h,h0⟩=>⟨a,c,e,zj h hT λq hq hm=>by have:=(zp h q hq).1;have:=xS1 hm;omega,h0⟩
theorem gsE {P:Program} {o:Oper} {ρ:Operand->Value} {W w1:World} {R:Value->World->Prop} {b i i0:Nat} {L:Nat->Bool} {E:TypeId} {sz:Nat} (hG:za2 i0 [b] W L w1) (h:(execOp ρ o).run P w1= .ok (.value (.slice (some ⟨w1.heap.size,0,none⟩) 0 0)) (w1.alloc (.cells #[] E))) (hR:∀u w',rqE W.heap.size E sz [] u w'->R u w') (hd:o.dst.isSome=true:=by rfl) (hi:i≠i0:=by decide):zau P o ρ w1 (λu w'=>St1 i0 (zi [b]) i w1 w'/\R (kept o u) w'/\(∀k,none=some k->w1.heap.size<=k/\k<w'.heap.size)/\za2 i0 [b] W (λj=>decide (j=i)||L j) w'):=
 zh h ⟨zI hi (xA1),by rw[zaL hd];exact hR _ _ ⟨_,rfl,zl (zJ w1 E sz) hG.2.size⟩,xN1,hG.step hi (xA1)⟩
theorem gsA {P:Program} {o:Oper} {ρ:Operand->Value} {W w1:World} {R:Value->World->Prop} {b i i0:Nat} {L:Nat->Bool} (hG:za2 i0 [b] W L w1) (s x:Operand) (t:TypeId) (ho:o.op= .call {callee:= .builtin .append,args:= #[s,x],argTypes:= #[t,t]}) {e:TypeId} {z:Value} {size bytes:Nat} (ht:P.underlying t=some (.slice e)) (hinfo:(P.info? e).map (λi=>(i.zero,i.size,i.bytes))=some (some z,size,bytes)) (hzs:z.cells.size=size) (hsz:0<size) (hs:rqE W.heap.size e size [] (ρ s) w1) {a2:Option Addr} {m c2:Nat} {news:List Value} (hx:ρ x= .slice a2 m c2) (hl:news.length=m*size) (hsrc:Rd w1 a2 news) (h1:∀u∈news,u.oneCell'=true) (hbytes:m*bytes<=140737488355328) (hby:0<bytes) (hR:∀u w',rqA W.heap.size e size m news [] u w'->R u w') (hd:o.dst.isSome=true:=by rfl) (hi:i≠i0:=by decide):zau P o ρ w1 (λu w'=>St1 i0 (zi [b]) i w1 w'/\R (kept o u) w'/\(∀k,none=some k->w1.heap.size<=k/\k<w'.heap.size)/\za2 i0 [b] W (λj=>decide (j=i)||L j) w'):=by
 obtain⟨g,d,hg⟩:=hs;refine zag s x t ho ht hinfo hzs hsz d hg hx hl hsrc h1 hbytes hby hG.2.size ?_;intro a c w2 hown hb hf h0;exact⟨zI hi hb,by rw[zaL hd];exact hR _ _ ⟨a,c,rfl,hown,h0⟩,xN1,hG.step hi hb⟩
theorem rsE {p:Prop} (h:p:=by exact gsE hG (by go_simp) (λ_ _ h=>h)):p:=h
theorem rs0 {p:Prop} (h:p:=by(exact gsK hG (by go_simp<;>rfl))):p:=h
theorem rs1 {p:Prop} (h:p:=by(have d:ρ (.tmp _)=_:=hd.1;exact gsK hG (by go_simp<;>rfl))):p:=h
theorem rsI {p:Prop} (h:p:=by(have d:ρ (.tmp _)=_:=hd.1;exact gsI hG (by go_simp<;>rfl) (λ_ _ h=>h))):p:=h
theorem Fr.over {w W W':World} {l:List It} (k:Nat) {b:Nat} {old cs:Array Value} {T:TypeId} (F:Fr w W l) (hi:l[k]? =some (.blk b old T)) (hT:zi [b] W W') (h:Blk W' b cs T):Fr w W' (l.set k (.blk b cs T)):=
 F.step k hi hT ⟨(F.has _ (xDo hi)).1,h⟩ λ_ hq=> .inl hq
theorem Rd.int0 {w:World} {b o:Nat} {x:Int} {xs:List Int} (h:Rd w (some ⟨b,o,none⟩) (ints (x::xs))):w.cell? ⟨b,o,none⟩=some (.int .i64 x):=by
 obtain⟨b',o',e,hc⟩:=h.int (by simp)
 cases e
 simpa using hc 0 (by simp)
structure RI (l h:List Oper) (n:Nat) (I:(Nat->Bool)->(Nat->Value)->World->Prop) (a0:Act) (fuel:Nat) (listed:Array Bool) (a:Act) (w:World):Prop where
 inv:HeadInv .any l.toArray n listed
 left:((listed.toList.take n).filter (· ==false)).length=fuel
 good:I (λj=>listed.getD j false) (zca h a.eval) w
 frame:a0.tmps.size=a.tmps.size
 defs:a0.defers=a.defers
 same:∀t,(∀j o,h[j]? =some o->listed.getD j false=true->o.dst≠some t)->a.tmps[t]? =a0.tmps[t]?
def zkp (P:Program) (h:List Oper) (I:(Nat->Bool)->(Nat->Value)->World->Prop) (ρ0:Operand->Value) (i:Nat) (o:Oper):Prop:=∀ρ w L,I L (zca h ρ) w->(∀j∈waits o,L j=true)->(∀j p,h[j]? =some p->(j==i||(waits p).contains i)=true->L j=false)->(∀x,zdj h x=true->ρ x=ρ0 x)->zau P o ρ w (λu w'=>I (λj=>decide (j=i)||L j) (λj=>if j=i then kept o u else zca h ρ j) w')
def zd9 (P:Program) (h:List Oper) (I:(Nat->Bool)->(Nat->Value)->World->Prop) (ρ0:Operand->Value):List Oper->Nat->Prop
 |[],_=>True
 |o::os,i=>zkp P h I ρ0 i o/\zd9 P h I ρ0 os (i+1)
theorem zd9.at {P:Program} {h:List Oper} {I:(Nat->Bool)->(Nat->Value)->World->Prop} {ρ0:Operand->Value}:∀{os:List Oper} {k i:Nat} {o:Oper},zd9 P h I ρ0 os k->os[i]? =some o->zkp P h I ρ0 (k+i) o
 |[],_,i,o,_,e=>by simp at e
 |p::os,k,0,o,hs,e=>by
  obtain rfl:p=o:=by simpa using e
  exact hs.1
 |p::os,k,i+1,o,hs,e=>by
  have:=zd9.at (i:=i) (k:=k+1) hs.2 (by simpa using e);rw[show k+1+i=k+(i+1) by omega] at this;exact this
theorem zj1 {P:Program} {l h:List Oper} {n:Nat} {I:(Nat->Bool)->(Nat->Value)->World->Prop} {a0:Act} {Q:Exit->Act->World->Prop} (hI0:∀L L' σ σ' w,(∀j,j<n->L j=L' j)->(∀j,j<n->L j=true->σ j=σ' j)->I L σ w->I L' σ' w)
  (hh:h=l.take n) (hf:fits l n a0.tmps.size=true) (hsteps:zd9 P h I a0.eval h 0)
  (hend:∀(vs:List Value) w,vs.length=n->I (λ_=>true) (λj=>vs.getD j undef) w->wpList P l.toArray Q (l.drop n) (zap h a0 vs) w):
  ∀(fuel:Nat) (listed:Array Bool) (a:Act) (w:World),RI l h n I a0 fuel listed a w->wpAny P .any l.toArray Q (fuel+(l.length-n)) listed a w:=by
 simp only[fits,Bool.and_eq_true,decide_eq_true_eq] at hf;obtain⟨⟨⟨⟨⟨⟨hg,hd⟩,hin⟩,hearly⟩,hn⟩,hsink⟩,hseq⟩:=hf;rw[<-hh] at hd hin;have hhl:h.length=n:=by rw[hh];simp[hn]
 have hget:∀j,j<n->h[j]? =l[j]? :=λj hj=>by rw[hh];simp[hj]
 have hearly':∀i o,l[i]? =some o->∀e∈o.after,Region.binds .any e=true->e.on<i:=by
  intro i o hi e he hb;have hil:i<l.length:=(xDs.1 hi).1;have h1:=List.all_eq_true.1 hearly i (List.mem_range.2 hil);rw[hi] at h1;have h2:=List.all_eq_true.1 h1 e.on (by unfold waits;exact xDl.2 ⟨e,List.mem_filter.2 ⟨by simpa using he,hb⟩,rfl⟩);simpa using h2
 intro fuel
 induction fuel with
 |zero=>
  intro listed a w hI;have hL:=zhm hI.inv hn hI.left;have hall:∀j,j<n->listed.getD j false=true:=by
   intro j hj;rw[hL];simp[zdp,hj,show j<l.length by omega]
  have e:zap h a0 (h.map (zaE a))=a:=zey a h a0 hI.frame hI.defs λt ht=>hI.same t λj o hj _=>ht o (xDo hj);have hvs:∀j,zca h a.eval j=(h.map (zaE a)).getD j undef:=by
   intro j;by_cases hj:j<h.length
   ·rw[zcc (o:=h[j]) (by simp[hj])];simp[List.getD,hj]
   ·unfold zca;simp[List.getD,Nat.le_of_not_lt hj]
  have hfin:=hend (h.map (zaE a)) w (by simp[hhl]) (hI0 _ _ _ _ _ (λj hj=>hall j hj) (λj _ _=>hvs j) hI.good);rw[e] at hfin;have hdl:(l.drop n).length=l.length-n:=by simp
  have:=wpAny_of_seq (md:= .any) (Q':=Q) (l.drop n) n listed a w (λj=>by simp[List.getElem?_drop]) (by rw[hdl,hL];exact hseq) hfin;rw[Nat.zero_add];rwa [hdl] at this
 |succ fuel ih=>
  intro listed a w hI
  --some operation of the head is not listed;the first of them is ready
  have hex:∃i,i<n/\listed.getD i true=false:=by
   have hne:(listed.toList.take n).filter (· ==false)≠[]:=λh0=>by have:=hI.left;rw[h0] at this;simp at this
   obtain⟨b,hb⟩:=List.exists_mem_of_ne_nil _ hne;obtain⟨hb1,hb2⟩:=List.mem_filter.1 hb;obtain⟨i,hi,e⟩:=List.mem_iff_getElem.1 hb1;simp only[xDp,Array.length_toList] at hi;refine⟨i,by omega,?_⟩;have:listed[i]'(by omega)=b:=(by simpa using e);simp only[beq_iff_eq] at hb2;simp[show i<listed.size by omega,this,hb2]
  have hsz:listed.size=l.length:=by have:=hI.inv.size;simpa using this
  have hready:Region.ready .any l.toArray listed≠[]:=by
   have hmin:∃i,(i<n/\listed.getD i true=false)/\∀k,k<i->¬(k<n/\listed.getD k true=false):=by
    obtain⟨i,hi⟩:=hex;exact zir (λi=>i<n/\listed.getD i true=false) i hi
   obtain⟨i,⟨hi,hu⟩,hmin⟩:=hmin;obtain⟨o,ho⟩:∃o,l[i]? =some o:=⟨l[i]'(by omega),by simp[show i<l.length by omega]⟩
   have:i∈Region.ready .any l.toArray listed:=Go.mem_ready.2 ⟨hu,o,by simpa using ho,λe he hb=>by
    have hlt:=hearly' i o ho e he hb;have:=hmin e.on hlt;have h2:listed.getD e.on true≠false:=λh0=>this ⟨by omega,h0⟩;simp only[Bool.not_eq_false] at h2;have h3:e.on<listed.size:=(by omega);simpa[h3] using h2⟩
   intro h0;rw[h0] at this
   cases this
  rw[show fuel+1+(l.length-n)=(fuel+(l.length-n))+1 by omega];refine⟨λh0=>absurd h0 hready,λi hi=> ?_⟩;obtain⟨hu,o,ho,hdeps⟩:=Go.mem_ready.1 hi;have hol:l[i]? =some o:=by simpa using ho
  have hil:i<l.length:=(xDs.1 hol).1;have hin':i<n:=by
   rcases Nat.lt_or_ge i n with hlt|hge
   ·exact hlt
   ·exfalso;obtain⟨i0,hi0,hu0⟩:=hex;simp only[Bool.or_eq_true,decide_eq_true_eq,Bool.and_eq_true] at hsink;rcases hsink with hsink|⟨hs,hc⟩
    ·omega
    ·exact tail_waits hs hc (by simpa using(show n<l.length by omega)) hI.inv _ i0 rfl hi0 hu0 i hge hi
  have hoh:h[i]? =some o:=by rw[hget i hin'];exact hol
  have hmem:o∈l:=xDo hol;have hgo:o.guard=none:=by
   have:=List.all_eq_true.1 hg o hmem;simpa using this
  unfold wpOp;rw[ho];have hw:Region.wanted o (yielded l.toArray a.tmps)=true:=by simp[Region.wanted,hgo]
  simp only[hw,if_true];refine .inl ?_;have hlt:i<listed.size:=by omega
  have hfalse:listed[i]=false:=by
   have:listed.getD i true=listed[i]:=(by simp[hlt]);rw[<-this];exact hu
  have hW:∀j∈waits o,listed.getD j false=true:=by
   intro j hj;unfold waits at hj;obtain⟨e,he,rfl⟩:=xDl.1 hj;obtain⟨he1,he2⟩:=List.mem_filter.1 he;exact hdeps e (by simpa using he1) he2
  have hout:∀x,zdj h x=true->a.eval x=a0.eval x:=by
   intro x hx
   cases x with
   |tmp t=>
    have hn:∀o'∈h,o'.dst≠some t:=by
     intro o' ho' e;simp only[zdj,Bool.not_eq_true',List.any_eq_false] at hx;exact hx o' ho' (by simp[e])
    have:=hI.same t (λj o' hj _=>hn o' (xDo hj));simp only[Act.eval];rw[Array.getD_eq_getD_getElem?,Array.getD_eq_getD_getElem?,this]
   |_=>rfl
  have hny:∀j p,h[j]? =some p->(j==i||(waits p).contains i)=true->listed.getD j false=false:=by
   intro j p hj hc;by_cases hji:j=i
   ·subst hji;exact getD_both hu
   replace hc:(waits p).contains i=true:=(by simpa[hji] using hc)
   cases hlj:listed.getD j false with
   |false=>rfl
   |true=>
    exfalso;have hjn:j<n:=by rw[<-hhl];exact(xDs.1 hj).1
    have hpl:l[j]? =some p:=by rw[<-hget j hjn];exact hj
    have hm:i∈waits p:=(by simpa using hc);unfold waits at hm;obtain⟨e,he,heq⟩:=xDl.1 hm;obtain⟨he1,he2⟩:=List.mem_filter.1 he;have:=hI.inv.closed j p (by simpa using hpl) hlj e (by simpa using he1) he2;rw[heq] at this;have h2:listed.getD i false=false:=getD_both hu;rw[h2] at this;cases this
  have hstep:=zd9.at (k:=0) hsteps hoh;rw[Nat.zero_add] at hstep;refine zfD (hstep a.eval w _ hI.good hW hny hout) λu w' hp=>ih _ _ _ ?_;have hdl:∀d,o.dst=some d->d<a.tmps.size:=by
   intro d hod;have:=List.all_eq_true.1 hin o (xDo hoh);rw[hod] at this;rw[<-hI.frame];simpa using this
  have hself:zaE (a.put o.dst u) o=kept o u:=by
   unfold zaE kept
   cases hod:o.dst with
   |none=>rfl
   |some d=>simp[Act.put,hdl d hod]
  have hslot:∀j p,h[j]? =some p->j≠i->zaE (a.put o.dst u) p=zaE a p:=by
   intro j p hj hne;unfold zaE
   cases hpd:p.dst with
   |none=>rfl
   |some d=>
    cases hod:o.dst with
    |none=>rfl
    |some d'=>
     have hdd:=zex hd hoh hj (λe=>hne e.symm) hod;have hne':d'≠d:=λe=>hdd (by rw[hpd,e]);simp[Act.put,Array.getElem?_setIfInBounds_ne hne']
  have hG':I (λj=>(listed.setIfInBounds i true).getD j false) (zca h (a.put o.dst u).eval) w':=by
   have e:(λj=>(listed.setIfInBounds i true).getD j false)=λj=>decide (j=i)||listed.getD j false:=by
    funext j;by_cases e:j=i
    ·subst e;simp[hlt]
    ·have:(listed.setIfInBounds i true).getD j false=listed.getD j false:=by
      rw[Array.getD_eq_getD_getElem?,Array.getD_eq_getD_getElem?,Array.getElem?_setIfInBounds_ne (λh=>e h.symm)]
     rw[this];simp[e]
   refine hI0 _ _ _ _ _ (λj _=>(congrFun e j).symm) (λj hj _=> ?_) hp;have hq:h[j]? =some (h[j]'(by omega)):=(by simp[show j<h.length by omega]);rw[zcc hq,zcc hq];by_cases e':j=i
   ·subst e';rw[hoh] at hq;rw[if_pos rfl,<-Option.some.inj hq,hself]
   ·rw[if_neg e',hslot j _ hq e']
  refine⟨hI.inv.set hi hin',?_,hG',?_,?_,?_⟩
  ·have hx:listed.toList[i]? =some false:=(by simp[hlt,hfalse]);have:=zeZ listed.toList n i hin' hx;have e:(listed.setIfInBounds i true).toList=listed.toList.set i true:=(by simp);rw[e];have:=hI.left;omega
  ·rw[hI.frame];cases o.dst<;>simp[Act.put]
  ·rw[hI.defs];cases o.dst<;>simp[Act.put]
  ·intro t ht;have hio:o.dst≠some t:=ht i o hoh (by simp[hlt]);have hold:=hI.same t (λj p hj hl=>ht j p hj (by
    by_cases e:j=i
    ·subst e;simp[hlt]
    ·rw[Array.getD_eq_getD_getElem?,Array.getElem?_setIfInBounds_ne (λh=>e h.symm),<-Array.getD_eq_getD_getElem?];exact hl))
   rw[<-hold]
   cases hod:o.dst with
   |none=>rfl
   |some d=>simp only[Act.put];rw[Array.getElem?_setIfInBounds_ne (λe=>hio (by rw[hod,e]))]
theorem zhq {P:Program} {id:Nat} {l:List Oper} (n:Nat) (I:(Nat->Bool)->(Nat->Value)->World->Prop) {a0:Act} {w:World} {Q:Exit->Act->World->Prop} (hI0:∀L L' σ σ' w,(∀j,j<n->L j=L' j)->(∀j,j<n->L j=true->σ j=σ' j)->I L σ w->I L' σ' w) (h0:∀σ,I (λ_=>false) σ w.drew) (hsteps:zd9 P (l.take n) I a0.eval (l.take n) 0)
  (hend:∀(vs:List Value) w,vs.length=n->I (λ_=>true) (λj=>vs.getD j undef) w->wpList P l.toArray Q (l.drop n) (zap (l.take n) a0 vs) w) (hm:P.follows .mixedOrders=true:=by kernel_rfl) (hf:fits l n a0.tmps.size=true:=by kernel_rfl):(Code.region id l.toArray true).wp P Q a0 w:=by
 have hn:n<=l.length:=(zbG hf).2;refine wp_region_any hm ?_;have hne:∀j:Nat,(Array.replicate l.length false).getD j false=true->False:=λj hj=>by
  simp only[Array.getD_eq_getD_getElem?,Array.getElem?_replicate] at hj;split at hj<;>simp at hj
 have:=zj1 hI0 rfl hf hsteps hend n (Array.replicate l.length false) a0 w.drew
  ⟨⟨by simp,λj oj _ hl=>(hne j hl).elim,λt _ ht=>getD_in (by simpa using ht) (getD_replicate_false _ _)⟩,
  by simp[List.take_replicate,Nat.min_eq_left hn],hI0 _ _ _ _ _ (λj _=>(getD_replicate_false _ _).symm) (λ_ _ h=>by cases h) (h0 (zca (l.take n) a0.eval)),rfl,rfl,λt _=>rfl⟩
 rw[show n+(l.length-n)=l.length by omega] at this;simpa using this
end Go.Proofs.YtnlijgjpgdjpiaaGreat
