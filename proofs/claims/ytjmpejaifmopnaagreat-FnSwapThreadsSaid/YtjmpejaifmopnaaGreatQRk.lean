/- Part of a proof: Rk. -/
import Derived.Laws.CopyOwn
import Derived.Test.YtjmpejaifmopnaaGreatQPFr
set_option maxRecDepth 100000
set_option maxHeartbeats 16000000
namespace Go.Proofs.YtjmpejaifmopnaaGreat
open Go.RowKit
inductive Rl where
 |k (V:Value)
 |r (R:List Value→Value→World→Prop)
def Rl.P:Rl→List Value→Value→World→Prop
 | .k V=>fun _ u _=>u=V
 | .r R=>R
def StK (S:World→World→Prop):List Rl→Prop
 |[]=>True
 | .k _::l=>StK S l
 | .r R::l=>(∀ds v w w',S w w'→R ds v w→R ds v w')∧StK S l
def StT (i0:Nat) (S:World→World→Prop):Nat→List Rl→Prop
 |_,[]=>True
 |i,.k _::l=>StT i0 S (i+1) l
 |i,.r R::l=>(i=i0∨∀ds v w w',S w w'→R ds v w→R ds v w')∧StT i0 S (i+1) l
theorem StK.to:∀{l:List Rl},StK (fun w w'=>Below w.heap.size w w') l→StabAll (l.map Rl.P)
 |[],_=>trivial
 | .k _::_,h=>⟨fun _ _ _ _ _ h=>h,StK.to h⟩
 | .r _::_,h=>⟨h.1,StK.to h.2⟩
theorem StT.to {i0:Nat} {S:World→World→Prop}:∀{l:List Rl} {i:Nat},StT i0 S i l→StabAllBy i0 S i (l.map Rl.P)
 |[],_,_=>trivial
 | .k _::_,_,h=>⟨.inr fun _ _ _ _ _ h=>h,StT.to h⟩
 | .r _::_,_,h=>⟨h.1,StT.to h.2⟩
def ForK (w:World) (K:List Value→Prop):List Rl→List Oper→List Value→Prop
 | .k V::rs,_::os,acc=>ForK w K rs os (acc++[V])
 | .r R::rs,o::os,acc=>∀u,R ((waits o).map fun j=>acc.getD j undef) u w→ForK w K rs os (acc++[u])
 |_,_,acc=>K acc
theorem getD_app {acc xs:List Value} {j:Nat} (h:j<acc.length):(acc++xs).getD j undef=acc.getD j undef:=by
 simp[List.getD_eq_getElem?_getD,List.getElem?_append_left h]
def earlyF:Nat→List Oper→Bool
 |_,[]=>true
 |i,o::os=>(waits o).all (fun j=>decide (j<i))&&earlyF (i+1) os
theorem forK_of {w:World} {K:List Value→Prop} {Rs:List (List Value→Value→World→Prop)}:∀(rs:List Rl) (os:List Oper) (acc vs:List Value),rs.length=os.length→vs.length=os.length→earlyF acc.length os=true→(∀k,rs[k]?.map Rl.P=Rs[acc.length+k]?)→All Rs (acc++vs) w os acc.length→ForK w K rs os acc→K (acc++vs)
 |[],[],acc,[],_,_,_,_,_,h=>by simpa[ForK] using h
 |r::rs,o::os,acc,v::vs,h1,h2,h3,h4,h5,h=>by
  simp only[earlyF,Bool.and_eq_true] at h3
  have hR:=h5.1
  have e0:at' Rs acc.length=r.P:=by
   have:=h4 0
   simp only[List.getElem?_cons_zero,Option.map_some,Nat.add_zero] at this
   unfold at'
   rw[List.getD_eq_getElem?_getD,←this];rfl
  have e1:((waits o).map fun j=>(acc++v::vs).getD j undef)=(waits o).map fun j=>acc.getD j undef:=List.map_congr_left fun j hj=>getD_app (by simpa using List.all_eq_true.1 h3.1 j hj)
  rw[e0,e1,show(acc++v::vs).getD acc.length undef=v by simp[List.getD_eq_getElem?_getD]] at hR
  have ea:acc++v::vs=(acc++[v])++vs:=by simp
  rw[ea]
  refine forK_of rs os (acc++[v]) vs (by simpa using h1) (by simpa using h2) (by simpa using h3.2) (fun k=> ?_) (by rw[←ea];simpa using h5.2) ?_
  ·have:=h4 (k+1)
   simp only[List.getElem?_cons_succ] at this
   rw[this];simp;congr 1;omega
  ·cases r with
   |k V=>obtain rfl:v=V:=hR;exact h
   |r R=>exact h v hR
 |[],_::_,_,_,h,_,_,_,_,_=>by simp at h
 |_::_,[],_,_,h,_,_,_,_,_=>by simp at h
 |_,[],_,_::_,_,h,_,_,_,_=>by simp at h
 |_,_::_,_,[],_,h,_,_,_,_=>by simp at h
theorem early_take {l:List Oper} (n:Nat) (h:early l=true):earlyF 0 (l.take n)=true:=by
 have key:∀(os:List Oper) (i:Nat),(∀k o,os[k]? =some o→∀j∈waits o,j<i+k)→earlyF i os=true:=by
  intro os
  induction os with
  |nil=>intro i _;rfl
  |cons o os ih=>
   intro i hk
   simp only[earlyF,Bool.and_eq_true,List.all_eq_true,decide_eq_true_eq]
   exact⟨fun j hj=>by simpa using hk 0 o rfl j hj,ih (i+1) fun k p hp j hj=>by have:=hk (k+1) p (by simpa using hp) j hj;omega⟩
 refine key _ 0 fun k o hk j hj=> ?_
 have hl:l[k]? =some o:=by
  rw[List.getElem?_take] at hk
  split at hk
  ·exact hk
  ·cases hk
 have hkl:k<l.length:=(List.getElem?_eq_some_iff.1 hl).1
 have h1:=List.all_eq_true.1 h k (List.mem_range.2 hkl)
 rw[hl] at h1
 have:=List.all_eq_true.1 h1 j hj
 simpa using this
theorem fits_early {l:List Oper} {n m:Nat} (hf:fits l n m=true):early l=true∧n≤l.length:=by
 simp only[fits,Bool.and_eq_true,decide_eq_true_eq] at hf
 exact⟨hf.1.1.1.2,hf.1.1.2⟩
theorem wp_rk {P:Program} {id:Nat} {l:List Oper} (n:Nat) {a0:Act} {w:World} {Q:Exit→Act→World→Prop} (rs:List Rl) (h1:StK (fun w w'=>Below w.heap.size w w') rs)
  (hs:StepsF P (l.take n) (rs.map Rl.P) (fun _ _=>none) (fun w'=>Below w.heap.size w w') a0.eval (l.take n) 0) (he:∀w',Below w.heap.size w w'→ForK w' (fun vs=>wpList P l.toArray Q (l.drop n) (putAll (l.take n) a0 vs) w') rs (l.take n) []) (hm:P.follows .mixedOrders=true:=by kernel_rfl) (hf:fits l n a0.tmps.size=true:=by kernel_rfl) (hl:rs.length=n:=by rfl):(Code.region id l.toArray true).wp P Q a0 w:=
 wp_region_fr n hm hf _ h1.to hs fun vs w' hG hlen hall=>by
  have hn:=(fits_early hf).2
  have:=forK_of (Rs:=rs.map Rl.P) rs (l.take n) [] vs (by simp[hl,hn]) (by simp[hlen,hn]) (early_take n (fits_early hf).1) (fun k=>by simp) (by simpa using hall) (he w' hG)
  simpa using this
theorem wp_rt {P:Program} {id:Nat} {l:List Oper} (n:Nat) (T:TypeId) (i0:Nat) {a0:Act} {w:World} {Q:Exit→Act→World→Prop} (rs:List Rl) (h1:StK (fun w w'=>Below w.heap.size w w') rs) (h2:StT i0 (TS T w.heap.size) 0 rs)
  (hs:Steps P (l.take n) (rs.map Rl.P) (St1 i0 (TS T w.heap.size)) (fun _ _=>none) (fun _ w'=>Below w.heap.size w w') a0.eval (l.take n) 0) (he:∀w',Below w.heap.size w w'→ForK w' (fun vs=>wpList P l.toArray Q (l.drop n) (putAll (l.take n) a0 vs) w') rs (l.take n) []) (hm:P.follows .mixedOrders=true:=by kernel_rfl) (hf:fits l n a0.tmps.size=true:=by kernel_rfl) (hl:rs.length=n:=by rfl):(Code.region id l.toArray true).wp P Q a0 w:=
 wp_region_ts n T i0 hm hf _ h1.to h2.to hs fun vs w' hG hlen hall=>by
  have hn:=(fits_early hf).2
  have:=forK_of (Rs:=rs.map Rl.P) rs (l.take n) [] vs (by simp[hl,hn]) (by simp[hlen,hn]) (early_take n (fits_early hf).1) (fun k=>by simp) (by simpa using hall) (he w' hG)
  simpa using this
theorem rk_end {p q:Prop} (h:q) (e:p=q:=by(simp only[ForK,List.take_succ_cons,List.take_zero,List.drop_succ_cons,List.drop_zero,List.nil_append,List.cons_append,putAll,Act.put,List.setIfInBounds_toArray,List.set_cons_succ,List.set_cons_zero];rfl)):p:=e▸h
theorem kept_some {o:Oper} {u:Value} (hd:o.dst.isSome=true):kept o u=u:=by unfold kept;cases ho:o.dst with|none=>rw[ho] at hd;cases hd|some _=>rfl
section
variable {P:Program} {o:Oper} {ρ:Operand→Value} {W w1:World} {V:Value} {R:Value→World→Prop} {f:FuncId} {args:Array Value} {post:Ending→World→Prop}
theorem gvK (hG:Below W.heap.size W w1) (h:(execOp ρ o).run P w1= .ok (.value V) w1) (hd:o.dst.isSome=true:=by rfl):gives P o ρ w1 (fun u w'=>Below w1.heap.size w1 w'∧kept o u=V∧(∀k,none=some k→w1.heap.size≤k∧k<w'.heap.size)∧Below W.heap.size W w'):=
 gives_val h ⟨Below.refl _ _,kept_some hd,xN1,hG⟩
end
theorem rk0 {p:Prop} (h:p:=by(exact gvK hG (by go_simp<;>rfl))):p:=h
theorem rk1 {p:Prop} (h:p:=by(have d:ρ (.tmp _)=_:=hd.1;exact gvK hG (by go_simp<;>rfl))):p:=h
theorem rk2 {p:Prop} (h:p:=by(have d:ρ (.tmp _)=_:=hd.1;have d':ρ (.tmp _)=_:=hd.2.1;exact gvK hG (by go_simp<;>rfl))):p:=h
theorem rk3 {p:Prop} (h:p:=by(have d:ρ (.tmp _)=_:=hd.1;have d':ρ (.tmp _)=_:=hd.2.1;have d'':ρ (.tmp _)=_:=hd.2.2.1;exact gvK hG (by go_simp<;>rfl))):p:=h
def rqZ (B:Nat) (Z:Array Value) (T:TypeId) (_:List Value) (u:Value) (W:World):Prop:=∃g:Nat,u= .pointer (some ⟨g,0,none⟩)∧Blk W g Z T∧B≤g
theorem stZ {B:Nat} {Z:Array Value} {T:TypeId}:∀ds u w w',Below w.heap.size w w'→rqZ B Z T ds u w→rqZ B Z T ds u w':=fun _ _ _ _ hb ⟨g,e,h,hs⟩=>⟨g,e,h.below hb,hs⟩
section
variable {P:Program} {o:Oper} {ρ:Operand→Value} {W w1:World} {R:Value→World→Prop}
end
theorem tupGet_list (l:List Value) (i:Nat):tupGet (.tuple l.toArray) i=l.getD i undef:=by simp[tupGet,List.getD_eq_getElem?_getD,Array.getD_eq_getD_getElem?]
def aggC:Value→Array Value
 | .agg cs=>cs
 |_=> #[]
def rqC (M:Value→World→Prop) (_:List Value) (u:Value) (W:World):Prop:=M u W
def rqM (M:Value→World→Prop) (ds:List Value) (u:Value) (W:World):Prop:=u=ds.getD 0 undef∧M u W
def rqX (i:Nat) (M:Value→World→Prop) (ds:List Value) (u:Value) (W:World):Prop:=u=tupGet (ds.getD 0 undef) i∧M (ds.getD 0 undef) W
def rqL (B nf:Nat) (T:TypeId) (_:List Value) (u:Value) (W:World):Prop:=∃(g:Nat) (ds:Array Value),u= .pointer (some ⟨g,0,none⟩)∧ds.size=nf∧Blk W g ds T∧B≤g
def rqS (T:TypeId) (ds:List Value) (_:Value) (W:World):Prop:=∃g:Nat,ds.getD 0 undef= .pointer (some ⟨g,0,none⟩)∧Blk W g (aggC (ds.getD 1 undef)) T
def rqG (ds:List Value) (u:Value) (_:World):Prop:=u=ds.getD 0 undef
def rlx (M:Value→World→Prop):Nat→Nat→List Rl→List Rl
 |_,0,l=>l
 |i,k+1,l=> .r (rqX i M)::rlx M (i+1) k l
def rlg:Nat→List Rl
 |0=>[]
 |m+1=> .r rqG::rlg m
def rls (B nf:Nat) (T:TypeId) (M:Value→World→Prop) (k m:Nat):List Rl:= .r (rqC M):: .r (rqM M)::rlx M 0 k (.r (rqL B nf T):: .r (rqS T)::rlg m)
theorem TS.row {T:TypeId} {B g:Nat} {w:World} {old cs:Array Value} (h:Blk w g old T) (hB:B≤g) (hs:cs.size=old.size):TS T B w (w.setRow g cs):=by
 refine⟨below_setRow xB1 hB _,fun k ds e fr hk he=>setRow_other _ _ _ _ fun e'=> ?_,fun k ds hk=> ?_⟩
 ·subst e'
  unfold Blk at h
  rw[h] at hk
  simp only[Option.some.injEq,Obj.cells.injEq] at hk
  exact he hk.2.1.symm
 ·by_cases e:k=g
  ·subst e
   unfold Blk at h hk⊢
   rw[h] at hk
   simp only[Option.some.injEq,Obj.cells.injEq,and_true] at hk
   exact⟨cs,by rw[hs,hk],setRow_heap _ _ _ _ _ _ h⟩
  ·exact⟨ds,rfl,(setRow_other _ _ _ _ e).trans hk⟩
section
variable {P:Program} {o:Oper} {ρ:Operand→Value} {W w1:World} {V:Value} {R:Value→World→Prop} {f:FuncId} {args:Array Value} {post:Ending→World→Prop} {S:World→World→Prop} {i i0:Nat} {M:Value→World→Prop}
theorem gtK (hG:Below W.heap.size W w1) (h:(execOp ρ o).run P w1= .ok (.value V) w1) (hd:o.dst.isSome=true:=by rfl) (hi:i≠i0:=by decide):gives P o ρ w1 (fun u w'=>St1 i0 S i w1 w'∧kept o u=V∧(∀k,none=some k→w1.heap.size≤k∧k<w'.heap.size)∧Below W.heap.size W w'):=
 gives_val h ⟨st1_below hi xB1,kept_some hd,xN1,hG⟩
theorem gtV (hG:Below W.heap.size W w1) (h:(execOp ρ o).run P w1= .ok (.value V) w1) (hR:R V w1) (hd:o.dst.isSome=true:=by rfl) (hi:i≠i0:=by decide):gives P o ρ w1 (fun u w'=>St1 i0 S i w1 w'∧R (kept o u) w'∧(∀k,none=some k→w1.heap.size≤k∧k<w'.heap.size)∧Below W.heap.size W w'):=
 gives_val h ⟨st1_below hi xB1,by rw[kept_some hd];exact hR,xN1,hG⟩
theorem gtC (hG:Below W.heap.size W w1) (h:(execOp ρ o).run P w1= .ok (.enter f args) w1) (hc:Calls P f args w1 post) (hp:∀e w',post e w'→∃u,e= .returned u∧Below w1.heap.size w1 w'∧R u w') (hd:o.dst.isSome=true:=by rfl) (hi:i≠i0:=by decide):gives P o ρ w1 (fun u w'=>St1 i0 S i w1 w'∧R (kept o u) w'∧(∀k,none=some k→w1.heap.size≤k∧k<w'.heap.size)∧Below W.heap.size W w'):=
 gives_call h (hc.mono fun e w' h1=>by
  obtain⟨u,e1,hb,h2⟩:=hp e w' h1
  exact⟨u,e1,st1_below hi hb,by rw[kept_some hd];exact h2,xN1,hG.trans (hb.mono hG.size)⟩)
theorem gtM {x:Operand} {k:Nat} (ho:o.op= .move x) (_hM:∀u w,M u w→∃vs,u= .tuple vs∧vs.size=k) (hG:Below W.heap.size W w1) (d:M (ρ x) w1) (hR:∀u w',rqM M [ρ x] u w'→R u w') (hd:o.dst.isSome=true:=by rfl) (hi:i≠i0:=by decide):gives P o ρ w1 (fun u w'=>St1 i0 S i w1 w'∧R (kept o u) w'∧(∀k,none=some k→w1.heap.size≤k∧k<w'.heap.size)∧Below W.heap.size W w'):=
 gtV hG (by simp[execOp,ho]) (hR _ _ ⟨rfl,d⟩) hd hi
theorem gtX {x:Operand} {k j:Nat} (ho:o.op= .extract x j) (hM:∀u w,M u w→∃vs,u= .tuple vs∧vs.size=k) (hj:j<k) (hG:Below W.heap.size W w1) (d:M (ρ x) w1) (hR:∀u w',rqX j M [ρ x] u w'→R u w') (hd:o.dst.isSome=true:=by rfl) (hi:i≠i0:=by decide):gives P o ρ w1 (fun u w'=>St1 i0 S i w1 w'∧R (kept o u) w'∧(∀k,none=some k→w1.heap.size≤k∧k<w'.heap.size)∧Below W.heap.size W w'):=by
 obtain⟨vs,e,hs⟩:=hM _ _ d
 refine gtV hG (V:=vs[j]'(by omega)) ?_ (hR _ _ ⟨?_,d⟩) hd hi
 ·simp[execOp,ho,e,Instr.extract,hs,hj]
 ·simp[e,tupGet,Array.getD_eq_getD_getElem?,show j<vs.size by omega]
theorem gtG {x:Operand} (ho:o.op= .assign x) (hG:Below W.heap.size W w1) (hR:∀u w',rqG [ρ x] u w'→R u w') (hd:o.dst.isSome=true:=by rfl) (hi:i≠i0:=by decide):gives P o ρ w1 (fun u w'=>St1 i0 S i w1 w'∧R (kept o u) w'∧(∀k,none=some k→w1.heap.size≤k∧k<w'.heap.size)∧Below W.heap.size W w'):=
 gtV hG (by simp[execOp,ho]) (hR _ _ rfl) hd hi
theorem gtL {Z:Array Value} {T:TypeId} (nf:Nat) (hG:Below W.heap.size W w1) (h:(execOp ρ o).run P w1= .ok (.value (.pointer (some ⟨w1.heap.size,0,none⟩))) (w1.alloc (.cells Z T))) (hR:∀u w',rqL W.heap.size nf T [] u w'→R u w') (hz:Z.size=nf:=by rfl) (hd:o.dst.isSome=true:=by rfl) (hi:i≠i0:=by decide):gives P o ρ w1 (fun u w'=>St1 i0 S i w1 w'∧R (kept o u) w'∧(∀k,none=some k→w1.heap.size≤k∧k<w'.heap.size)∧Below W.heap.size W w'):=
 gives_val h ⟨st1_below hi (xA1),by rw[kept_some hd];exact hR _ _ ⟨_,Z,rfl,hz,Blk.new _ _ _,hG.size⟩,xN1,hG.alloc hG.size _⟩
theorem gtS {x y:Operand} {T:TypeId} {nf:Nat} (ho:o.op= .store T x y) (hM:∀u w,M u w→∃cs,tupGet u 0= .agg cs∧cs.size=nf∧cs.toList.all (·.oneCell')=true) (hT:(P.info? T).map (·.size)=some nf) (hG:Below W.heap.size W w1) (d:rqL W.heap.size nf T [] (ρ x) w1) (d1:∃z,ρ y=tupGet z 0∧M z w1) (hR:∀u w',rqS T [ρ x,ρ y] u w'→R u w'):gives P o ρ w1 (fun u w'=>St1 i (TS T W.heap.size) i w1 w'∧R (kept o u) w'∧(∀k,none=some k→w1.heap.size≤k∧k<w'.heap.size)∧Below W.heap.size W w'):=by
 obtain⟨g,old,e,hz,hB,hg⟩:=d
 obtain⟨z,d1,d2⟩:=d1
 obtain⟨cs,e2,hs,h1⟩:=hM _ _ d2
 have e3:ρ y= .agg cs:=d1.trans e2
 have hst:=TS.row hB hg (cs:=cs) (by omega)
 refine gives_skip (w':=w1.setRow g cs) ?_ ⟨st1_own hst,hR _ _ ⟨g,e,?_⟩,xN1,hG.trans hst.bel⟩
 ·simp[execOp,ho,e,e3,Instr.storeAt,Instr.sureAddr,run_storeVar_row w1 g T T old cs hB (by rw[hT,hs]) (by omega) (Array.all_toList.symm.trans h1)]
 ·rw[show([ρ x,ρ y]:List Value).getD 1 undef= .agg cs from e3]
  exact setRow_heap _ _ _ _ _ _ hB
end
theorem stK_rls {B nf:Nat} {T:TypeId} {M:Value→World→Prop} (hM:∀u w w',Below w.heap.size w w'→M u w→M u w') (k m:Nat):StK (fun w w'=>Below w.heap.size w w') (rls B nf T M k m):=by
 have h1:∀(l:List Rl),StK (fun w w'=>Below w.heap.size w w') l→∀k i,StK (fun w w'=>Below w.heap.size w w') (rlx M i k l):=by
  intro l hl k
  induction k with
  |zero=>intro _;exact hl
  |succ k ih=>intro i;exact⟨fun ds u w w' hb h=>⟨h.1,hM _ _ _ hb h.2⟩,ih (i+1)⟩
 have h2:∀m,StK (fun w w'=>Below w.heap.size w w') (rlg m):=by
  intro m
  induction m with
  |zero=>trivial
  |succ m ih=>exact⟨fun _ _ _ _ _ h=>h,ih⟩
 exact⟨fun _ _ _ _ hb h=>hM _ _ _ hb h,fun _ _ _ _ hb h=>⟨h.1,hM _ _ _ hb h.2⟩,h1 (.r (rqL B nf T):: .r (rqS T)::rlg m) ⟨fun _ _ _ _ hb ⟨g,ds,e,hz,h,hs⟩=>⟨g,ds,e,hz,h.below hb,hs⟩,fun _ _ _ _ hb ⟨g,e,h⟩=>⟨g,e,h.below hb⟩,h2 m⟩ k 0⟩
theorem stT_rls {B B' nf:Nat} {T:TypeId} {M:Value→World→Prop} (hM:∀u w w',TS T B' w w'→M u w→M u w') (k m i:Nat):StT (i+k+3) (TS T B') i (rls B nf T M k m):=by
 have h1:∀(j:Nat) (l:List Rl) (k i a:Nat),StT j (TS T B') (a+k) l→StT j (TS T B') a (rlx M i k l):=by
  intro j l k
  induction k with
  |zero=>intro i a hl;exact hl
  |succ k ih=>intro i a hl;exact⟨.inr fun ds u w w' hb h=>⟨h.1,hM _ _ _ hb h.2⟩,ih (i+1) (a+1) (by rw[show a+1+k=a+(k+1) by omega];exact hl)⟩
 have h2:∀m a,StT (i+k+3) (TS T B') a (rlg m):=by
  intro m
  induction m with
  |zero=>intro _;trivial
  |succ m ih=>intro a;exact⟨.inr fun _ _ _ _ _ h=>h,ih _⟩
 exact⟨.inr fun _ _ _ _ hb h=>hM _ _ _ hb h,.inr fun _ _ _ _ hb h=>⟨h.1,hM _ _ _ hb h.2⟩,h1 _ (.r (rqL B nf T):: .r (rqS T)::rlg m) k 0 _ ⟨.inr fun _ _ _ _ hT ⟨g,ds,e,hz,h,hs⟩=>⟨g,(hT.prg g ds h).choose,e,(hT.prg g ds h).choose_spec.1.trans hz,(hT.prg g ds h).choose_spec.2,hs⟩,.inl (by omega),h2 _ _⟩⟩
theorem wp_rcs {P:Program} {id:Nat} {l:List Oper} (n c k m nf:Nat) (T:TypeId) (M:Value→World→Prop) {a0:Act} {w:World} {Q:Exit→Act→World→Prop} (pre:List Rl) (hB:∀u w w',Below w.heap.size w w'→M u w→M u w') (hT:∀u w' w'',TS T w.heap.size w' w''→M u w'→M u w'') (h1:∀u w,M u w→∃vs,u= .tuple vs∧vs.size=k) (h2:∀u w,M u w→∃cs,tupGet u 0= .agg cs∧cs.size=nf∧cs.toList.all (·.oneCell')=true)
  (hs:(∀u w,M u w→∃vs,u= .tuple vs∧vs.size=k)→(∀u w,M u w→∃cs,tupGet u 0= .agg cs∧cs.size=nf∧cs.toList.all (·.oneCell')=true)→Steps P (l.take n) ((pre++rls w.heap.size nf T M k m).map Rl.P) (St1 (c+k+3) (TS T w.heap.size)) (fun _ _=>none) (fun _ w'=>Below w.heap.size w w') a0.eval (l.take n) 0) (he:∀w',Below w.heap.size w w'→ForK w' (fun vs=>wpList P l.toArray Q (l.drop n) (putAll (l.take n) a0 vs) w') (pre++rls w.heap.size nf T M k m) (l.take n) []) (hm:P.follows .mixedOrders=true:=by kernel_rfl) (hf:fits l n a0.tmps.size=true:=by kernel_rfl) (hl:(pre++rls w.heap.size nf T M k m).length=n:=by rfl) (hp:pre.all (fun r=>match r with| .k _=>true|_=>false)=true:=by rfl) (hc:pre.length=c:=by rfl):(Code.region id l.toArray true).wp P Q a0 w:=by
 have q1:∀(pre:List Rl) (r:List Rl),pre.all (fun r=>match r with| .k _=>true|_=>false)=true→StK (fun w w'=>Below w.heap.size w w') r→StK (fun w w'=>Below w.heap.size w w') (pre++r):=by
  intro pre r
  induction pre with
  |nil=>intro _ h;exact h
  |cons a pre ih=>
   intro hp h
   cases a with
   |k V=>exact ih (by simpa using hp) h
   |r R=>simp at hp
 have q2:∀(pre:List Rl) (r:List Rl) (i0 j:Nat),pre.all (fun r=>match r with| .k _=>true|_=>false)=true→StT i0 (TS T w.heap.size) (j+pre.length) r→StT i0 (TS T w.heap.size) j (pre++r):=by
  intro pre r i0
  induction pre with
  |nil=>intro j _ h;exact h
  |cons a pre ih=>
   intro j hp h
   cases a with
   |k V=>exact ih (j+1) (by simpa using hp) (by rw[show j+1+pre.length=j+(Rl.k V::pre).length by simp;omega];exact h)
   |r R=>simp at hp
 exact wp_rt n T (c+k+3) _ (q1 _ _ hp (stK_rls hB k m)) (q2 _ _ _ _ hp (by rw[Nat.zero_add,hc];exact stT_rls hT k m c)) (hs h1 h2) he hm hf hl
theorem rk_end2 {p q:Prop} (h:q) (e:p=q:=by(simp only[ForK,rls,rlx,rlg,rqC,rqM,rqX,rqL,rqS,rqG,List.map_cons,List.map_nil,List.getD_cons_zero,List.getD_cons_succ,List.getD_nil,List.take_succ_cons,List.take_zero,List.drop_succ_cons,List.drop_zero,List.nil_append,List.cons_append,putAll,Act.put,List.setIfInBounds_toArray,List.set_cons_succ,List.set_cons_zero];rfl)):p:=e▸h
theorem rt0 {p:Prop} (h:p:=by(exact gtK hG (by go_simp<;>rfl))):p:=h
theorem rt1 {p:Prop} (h:p:=by(have d:ρ (.tmp _)=_:=hd.1;exact gtK hG (by go_simp<;>rfl))):p:=h
theorem rtM {p:Prop} (h:p:=by exact gtM rfl hM1 hG hd.1 (fun _ _ h=>h)):p:=h
theorem rtX {p:Prop} (h:p:=by exact gtX rfl hM1 (by decide) hG hd.1.2 (fun _ _ h=>h)):p:=h
theorem rtL {p:Prop} (h:p:=by exact gtL _ hG (by go_simp<;>rfl) (fun _ _ h=>h)):p:=h
theorem rtS {p:Prop} (h:p:=by exact gtS rfl hM2 rfl hG hd.1 ⟨_,hd.2.1⟩ (fun _ _ h=>h)):p:=h
theorem rtG {p:Prop} (h:p:=by exact gtG rfl hG (fun _ _ h=>h)):p:=h
end Go.Proofs.YtjmpejaifmopnaaGreat
