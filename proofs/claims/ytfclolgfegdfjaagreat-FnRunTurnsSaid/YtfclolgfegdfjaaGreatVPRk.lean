/- Part of a proof: Rk Rkb Rinv. -/
import Derived.Laws.CopyOwn
import Derived.Test.YtfclolgfegdfjaaGreatVPFr
set_option maxRecDepth 100000
set_option maxHeartbeats 16000000
namespace Go.Proofs.YtfclolgfegdfjaaGreat
open Go.RowKit
variable {w W W':World} {B n k i j m b g c c2 sz:Nat} {a a2:uQ} {T e E:TypeId} {l:List It} {P:Program} {S:List Nat} {cs:uZ} {z:Value}
theorem pZ {id:Nat} {l:List Oper} (n:Nat) (T:TypeId) (i0:Nat) {a0:Act} {Q:Exit->Act->World->Prop} (rs:List Rl) (h1:X6 (λw w'=>xW w w') rs) (h2:JH i0 (TS T w.heap.size) 0 rs) 
  (hs:Z9 P (l.take n) (rs.map Rl.P) (uo i0 (TS T w.heap.size)) (λ_ _=>none) (λ_ w'=>xW w w') a0.eval (l.take n) 0) (he:∀w',xW w w'->Je w' (λvs=>wpList P l.toArray Q (l.drop n) (jH (l.take n) a0 vs) w') rs (l.take n) []) (hm:P.follows .mixedOrders=true:=by kernel_rfl) (hf:fits l n a0.tmps.size=true:=by kernel_rfl) (hl:rs.length=n:=by rfl):(Code.region id l.toArray true).wp P Q a0 w:=
 kQ n T i0 hm hf _ h1.to h2.to hs λvs w' hG c0 b0=>by
  have hn:=(vT hf).2;have:=Qv (Rs:=rs.map Rl.P) rs (l.take n) [] vs (by simp[hl,hn]) (by simp[c0,hn]) (Ju n (vT hf).1) (λk=>jv) (by simpa using b0) (he w' hG);simpa using this
theorem vu (l:uZ) (i:Nat):ym (.tuple l.toArray) i=l.getD i undef:=by simp[ym,Array.getD_eq_getD_getElem?]
def Qi:Value->Array Value
 | .agg cs=>cs
 |_=> #[]
def Pc (M:Value->World->Prop) (_:uZ) (u:Value) (W:World):Prop:=M u W
def pJ (M:Value->World->Prop) (ds:uZ) (u:Value) (W:World):Prop:=u=ds.getD 0 undef/\M u W
def pA (i:Nat) (M:Value->World->Prop) (ds:uZ) (u:Value) (W:World):Prop:=u=ym (ds.getD 0 undef) i/\M (ds.getD 0 undef) W
def fq (B nf:Nat) (T:TypeId) (_:uZ) (u:Value) (W:World):Prop:=∃(g:Nat) (ds:Array Value),u= .pointer (some ⟨g,0,none⟩)/\ds.size=nf/\zm W g ds T/\B<=g
def dC (T:TypeId) (ds:uZ) (_:Value) (W:World):Prop:=∃g:Nat,ds.getD 0 undef= .pointer (some ⟨g,0,none⟩)/\zm W g (Qi (ds.getD 1 undef)) T
def py (ds:uZ) (u:Value) (_:World):Prop:=u=ds.getD 0 undef
def dA (M:Value->World->Prop):Nat->Nat->List Rl->List Rl
 |_,0,l=>l
 |i,k+1,l=> .r (pA i M)::dA M (i+1) k l
def kC:Nat->List Rl
 |0=>[]
 |m+1=> .r py::kC m
def fv (B nf:Nat) (T:TypeId) (M:Value->World->Prop) (k m:Nat):List Rl:= .r (Pc M):: .r (pJ M)::dA M 0 k (.r (fq B nf T):: .r (dC T)::kC m)
theorem TS.row {a0 cs:Array Value} (h:zm w g a0 T) (hB:B<=g) (hs:cs.size=a0.size):TS T B w (w.setRow g cs):=by
 refine⟨below_setRow xd hB _,λk ds e fr hk he=>setRow_other _ _ _ _ λe'=> ?_,λk ds hk=> ?_⟩
 ·subst e';unfold zm at h;rw[h] at hk;simp only[qy,Obj.cells.injEq] at hk;exact he hk.2.1.symm
 ·by_cases e:k=g
  ·subst e;unfold zm at h hk⊢;rw[h] at hk;simp only[qy,Obj.cells.injEq,and_true] at hk;exact⟨cs,by rw[hs,hk],setRow_heap _ _ _ _ _ _ h⟩
  ·exact⟨ds,rfl,(setRow_other _ _ _ _ e).trans hk⟩
section
variable {P:Program} {o:Oper} {ρ:Operand->Value} {W w1:World} {V:Value} {R:Value->World->Prop} {f:FuncId} {args:Array Value} {post:Ending->World->Prop} {S:World->World->Prop} {i i0:Nat} {M:Value->World->Prop}
theorem Pk (hG:xW W w1) (h:(execOp ρ o).run P w1= .ok (.value V) w1) (hd:o.dst.isSome=true:=by rfl) (hi:i≠i0:=by decide):xO P o ρ w1 (λu w'=>uo i0 S i w1 w'/\kept o u=V/\(∀k,none=some k->w1.heap.size<=k/\k<w'.heap.size)/\xW W w'):=
 zh h ⟨xk hi xd,je hd,yn,hG⟩
theorem pC (hG:xW W w1) (h:(execOp ρ o).run P w1= .ok (.value V) w1) (hR:R V w1) (hd:o.dst.isSome=true:=by rfl) (hi:i≠i0:=by decide):xO P o ρ w1 (λu w'=>uo i0 S i w1 w'/\R (kept o u) w'/\(∀k,none=some k->w1.heap.size<=k/\k<w'.heap.size)/\xW W w'):=
 zh h ⟨xk hi xd,by rw[je hd];exact hR,yn,hG⟩
theorem Kr (hG:xW W w1) (h:(execOp ρ o).run P w1= .ok (.enter f args) w1) (hc:Calls P f args w1 post) (hp:∀e w',post e w'->∃u,e= .returned u/\xW w1 w'/\R u w') (hd:o.dst.isSome=true:=by rfl) (hi:i≠i0:=by decide):xO P o ρ w1 (λu w'=>uo i0 S i w1 w'/\R (kept o u) w'/\(∀k,none=some k->w1.heap.size<=k/\k<w'.heap.size)/\xW W w'):=
 zU h (hc.mono λe w' h1=>by
  obtain⟨u,e1,hb,h2⟩:=hp e w' h1;exact⟨u,e1,xk hi hb,by rw[je hd];exact h2,yn,hG.trans (hb.mono hG.size)⟩)
theorem PK {x:Operand} (ho:o.op= .move x) (_hM:∀u w,M u w->∃vs,u= .tuple vs/\vs.size=k) (hG:xW W w1) (d:M (ρ x) w1) (hR:∀u w',pJ M [ρ x] u w'->R u w') (hd:o.dst.isSome=true:=by rfl) (hi:i≠i0:=by decide):xO P o ρ w1 (λu w'=>uo i0 S i w1 w'/\R (kept o u) w'/\(∀k,none=some k->w1.heap.size<=k/\k<w'.heap.size)/\xW W w'):=
 pC hG (by simp[execOp,ho]) (hR _ _ ⟨rfl,d⟩) hd hi
theorem PL {x:Operand} (ho:o.op= .extract x j) (hM:∀u w,M u w->∃vs,u= .tuple vs/\vs.size=k) (hj:j<k) (hG:xW W w1) (d:M (ρ x) w1) (hR:∀u w',pA j M [ρ x] u w'->R u w') (hd:o.dst.isSome=true:=by rfl) (hi:i≠i0:=by decide):xO P o ρ w1 (λu w'=>uo i0 S i w1 w'/\R (kept o u) w'/\(∀k,none=some k->w1.heap.size<=k/\k<w'.heap.size)/\xW W w'):=by
 obtain⟨vs,e,hs⟩:=hM _ _ d;refine pC hG (V:=vs[j]'jq) ?_ (hR _ _ ⟨?_,d⟩) hd hi
 ·simp[execOp,ho,e,Instr.extract,hs,hj]
 ·simp[e,ym,Array.getD_eq_getD_getElem?,show j<vs.size by omega]
theorem PQ {x:Operand} (ho:o.op= .assign x) (hG:xW W w1) (hR:∀u w',py [ρ x] u w'->R u w') (hd:o.dst.isSome=true:=by rfl) (hi:i≠i0:=by decide):xO P o ρ w1 (λu w'=>uo i0 S i w1 w'/\R (kept o u) w'/\(∀k,none=some k->w1.heap.size<=k/\k<w'.heap.size)/\xW W w'):=
 pC hG (by simp[execOp,ho]) (hR _ _ rfl) hd hi
theorem PP {Z:Array Value} (nf:Nat) (hG:xW W w1) (h:(execOp ρ o).run P w1= .ok (.value (.pointer (some ⟨w1.heap.size,0,none⟩))) (w1.alloc (.cells Z T))) (hR:∀u w',fq W.heap.size nf T [] u w'->R u w') (hz:Z.size=nf:=by rfl) (hd:o.dst.isSome=true:=by rfl) (hi:i≠i0:=by decide):xO P o ρ w1 (λu w'=>uo i0 S i w1 w'/\R (kept o u) w'/\(∀k,none=some k->w1.heap.size<=k/\k<w'.heap.size)/\xW W w'):=
 zh h ⟨xk hi (zY),by rw[je hd];exact hR _ _ ⟨_,Z,rfl,hz,zm.new _ _ _,hG.size⟩,yn,hG.alloc hG.size _⟩
theorem PJ {x y:Operand} {nf:Nat} (ho:o.op= .store T x y) (hM:∀u w,M u w->∃cs,ym u 0= .agg cs/\cs.size=nf/\cs.toList.all (·.oneCell')=true) (hT:(P.info? T).map (·.size)=some nf) (hG:xW W w1) (d:fq W.heap.size nf T [] (ρ x) w1) (d1:∃z,ρ y=ym z 0/\M z w1) (hR:∀u w',dC T [ρ x,ρ y] u w'->R u w'):xO P o ρ w1 (λu w'=>uo i (TS T W.heap.size) i w1 w'/\R (kept o u) w'/\(∀k,none=some k->w1.heap.size<=k/\k<w'.heap.size)/\xW W w'):=by
 obtain⟨g,b0,e,hz,hB,hg⟩:=d;obtain⟨z,d1,d2⟩:=d1;obtain⟨cs,e2,hs,h1⟩:=hM _ _ d2;have e3:ρ y= .agg cs:=d1.trans e2;have a0:=TS.row hB hg (cs:=cs) jq;refine qj (w':=w1.setRow g cs) ?_ ⟨Xw a0,hR _ _ ⟨g,e,?_⟩,yn,hG.trans a0.bel⟩
 ·simp[execOp,ho,e,e3,Instr.storeAt,Instr.sureAddr,run_storeVar_row w1 g T T b0 cs hB (by rw[hT,hs]) jq (Array.all_toList.symm.trans h1)]
 ·rw[show([ρ x,ρ y]:uZ).getD 1 undef= .agg cs from e3];exact setRow_heap _ _ _ _ _ _ hB
end
theorem pe {nf:Nat} {M:Value->World->Prop} (hM:∀u w w',xW w w'->M u w->M u w') (k m:Nat):X6 (λw w'=>xW w w') (fv B nf T M k m):=by
 have h1:∀(l:List Rl),X6 (λw w'=>xW w w') l->∀k i,X6 (λw w'=>xW w w') (dA M i k l):=by
  intro l hl k
  induction k with
  |zero=>intro _;exact hl
  |succ k ih=>intro i;exact⟨λds u w w' hb h=>⟨h.1,hM _ _ _ hb h.2⟩,ih (i+1)⟩
 have h2:∀m,X6 (λw w'=>xW w w') (kC m):=by
  intro m
  induction m with
  |zero=>trivial
  |succ m ih=>exact⟨λ_ _ _ _ _ h=>h,ih⟩
 exact⟨λ_ _ _ _ hb h=>hM _ _ _ hb h,λ_ _ _ _ hb h=>⟨h.1,hM _ _ _ hb h.2⟩,h1 (.r (fq B nf T):: .r (dC T)::kC m) ⟨λ_ _ _ _ hb ⟨g,ds,e,hz,h,hs⟩=>⟨g,ds,e,hz,h.below hb,hs⟩,λ_ _ _ _ hb ⟨g,e,h⟩=>⟨g,e,h.below hb⟩,h2 m⟩ k 0⟩
theorem DZ {B' nf:Nat} {M:Value->World->Prop} (hM:∀u w w',TS T B' w w'->M u w->M u w') (k m i:Nat):JH (i+k+3) (TS T B') i (fv B nf T M k m):=by
 have h1:∀(j:Nat) (l:List Rl) (k i a:Nat),JH j (TS T B') (a+k) l->JH j (TS T B') a (dA M i k l):=by
  intro j l k
  induction k with
  |zero=>intro i a hl;exact hl
  |succ k ih=>intro i a hl;exact⟨.inr λds u w w' hb h=>⟨h.1,hM _ _ _ hb h.2⟩,ih (i+1) (a+1) (by rw[show a+1+k=a+(k+1) by omega];exact hl)⟩
 have h2:∀m a,JH (i+k+3) (TS T B') a (kC m):=by
  intro m
  induction m with
  |zero=>intro _;trivial
  |succ m ih=>intro a;exact⟨.inr λ_ _ _ _ _ h=>h,ih _⟩
 exact⟨.inr λ_ _ _ _ hb h=>hM _ _ _ hb h,.inr λ_ _ _ _ hb h=>⟨h.1,hM _ _ _ hb h.2⟩,h1 _ (.r (fq B nf T):: .r (dC T)::kC m) k 0 _ ⟨.inr λ_ _ _ _ hT ⟨g,ds,e,hz,h,hs⟩=>⟨g,(hT.prg g ds h).choose,e,(hT.prg g ds h).choose_spec.1.trans hz,(hT.prg g ds h).choose_spec.2,hs⟩,.inl jq,h2 _ _⟩⟩
theorem Xc {id:Nat} {l:List Oper} (n c k m nf:Nat) (T:TypeId) (M:Value->World->Prop) {a0:Act} {Q:Exit->Act->World->Prop} (pre:List Rl) (hB:∀u w w',xW w w'->M u w->M u w') (hT:∀u w' w'',TS T w.heap.size w' w''->M u w'->M u w'') (h1:∀u w,M u w->∃vs,u= .tuple vs/\vs.size=k) (h2:∀u w,M u w->∃cs,ym u 0= .agg cs/\cs.size=nf/\cs.toList.all (·.oneCell')=true) 
  (hs:(∀u w,M u w->∃vs,u= .tuple vs/\vs.size=k)->(∀u w,M u w->∃cs,ym u 0= .agg cs/\cs.size=nf/\cs.toList.all (·.oneCell')=true)->Z9 P (l.take n) ((pre++fv w.heap.size nf T M k m).map Rl.P) (uo (c+k+3) (TS T w.heap.size)) (λ_ _=>none) (λ_ w'=>xW w w') a0.eval (l.take n) 0) (he:∀w',xW w w'->Je w' (λvs=>wpList P l.toArray Q (l.drop n) (jH (l.take n) a0 vs) w') (pre++fv w.heap.size nf T M k m) (l.take n) []) (hm:P.follows .mixedOrders=true:=by kernel_rfl) (hf:fits l n a0.tmps.size=true:=by kernel_rfl) (hl:(pre++fv w.heap.size nf T M k m).length=n:=by rfl) (hp:pre.all (λr=>match r with| .k _=>true|_=>false)=true:=by rfl) (hc:pre.length=c:=by rfl):(Code.region id l.toArray true).wp P Q a0 w:=by
 have q1:∀(pre:List Rl) (r:List Rl),pre.all (λr=>match r with| .k _=>true|_=>false)=true->X6 (λw w'=>xW w w') r->X6 (λw w'=>xW w w') (pre++r):=by
  intro pre r
  induction pre with
  |nil=>intro _ h;exact h
  |cons a pre ih=>
   intro hp h
   cases a with
   |k V=>exact ih (by simpa using hp) h
   |r R=>simp at hp
 have q2:∀(pre:List Rl) (r:List Rl) (i0 j:Nat),pre.all (λr=>match r with| .k _=>true|_=>false)=true->JH i0 (TS T w.heap.size) (j+pre.length) r->JH i0 (TS T w.heap.size) j (pre++r):=by
  intro pre r i0
  induction pre with
  |nil=>intro j _ h;exact h
  |cons a pre ih=>
   intro j hp h
   cases a with
   |k V=>exact ih (j+1) (by simpa using hp) (by rw[show j+1+pre.length=j+(Rl.k V::pre).length by simp;omega];exact h)
   |r R=>simp at hp
 exact pZ n T (c+k+3) _ (q1 _ _ hp (pe hB k m)) (q2 _ _ _ _ hp (by rw[Nat.zero_add,hc];exact DZ hT k m c)) (hs h1 h2) he hm hf hl
theorem Yd {p q:Prop} (h:q) (e:p=q:=by(simp only[Je,fv,dA,kC,Pc,pJ,pA,fq,dC,py,List.map_cons,List.map_nil,List.getD_cons_zero,List.getD_cons_succ,List.getD_nil,List.take_succ_cons,List.take_zero,List.drop_succ_cons,List.drop_zero,qZ,List.cons_append,jH,Act.put,List.setIfInBounds_toArray,List.set_cons_succ,List.set_cons_zero];rfl)):p:=e▸h
theorem qI {p:Prop} (h:p:=by(exact Pk hG (by go_simp<;>rfl))):p:=h
theorem vq {p:Prop} (h:p:=by(have d:ρ (.tmp _)=_:=hd.1;exact Pk hG (by go_simp<;>rfl))):p:=h
theorem Kp {p:Prop} (h:p:=by exact PK rfl hM1 hG hd.1 (λ_ _ h=>h)):p:=h
theorem uU {p:Prop} (h:p:=by exact PL rfl hM1 jk hG hd.1.2 (λ_ _ h=>h)):p:=h
theorem Ky {p:Prop} (h:p:=by exact PP _ hG (by go_simp<;>rfl) (λ_ _ h=>h)):p:=h
theorem Ke {p:Prop} (h:p:=by exact PJ rfl hM2 rfl hG hd.1 ⟨_,hd.2.1⟩ (λ_ _ h=>h)):p:=h
theorem Ug {p:Prop} (h:p:=by exact PQ rfl hG (λ_ _ h=>h)):p:=h
def fm (B:Nat) (E:TypeId) (sz n:Nat) (cs:uZ) (ds:uZ) (u:Value) (W:World):Prop:=∃(a:uQ) (c:Nat),u= .slice a n c/\W.ownsRow B E sz (.slice a n c) n cs/\(n=0->u=ds.getD 0 undef)
theorem pK:∀ds u w w',xW w w'->fm B E sz n cs ds u w->fm B E sz n cs ds u w':=λ_ _ _ _ hb ⟨a,c,e,h,h0⟩=>⟨a,c,e,zl h hb,h0⟩
theorem Pt {o:Oper} {ρ:Operand->Value} {w1:World} {R:Value->World->Prop} (hG:xW W w1) (h:(execOp ρ o).run P w1= .ok (.value (.slice (some ⟨w1.heap.size,0,none⟩) 0 0)) (w1.alloc (.cells #[] E))) (hR:∀u w',Zl W.heap.size E sz [] u w'->R u w') (hd:o.dst.isSome=true:=by rfl):xO P o ρ w1 (λu w'=>xW w1 w'/\R (kept o u) w'/\(∀k,Value.ownBlock (kept o u)=some k->w1.heap.size<=k/\k<w'.heap.size)/\xW W w'):=
 zh h ⟨zY,by rw[je hd];exact hR _ _ ⟨_,rfl,zw (yg w1 E sz) hG.size⟩,λk hk=>by
  rw[je hd,yu] at hk;have:w1.heap.size=k:=by simpa[zj] using hk
  subst this;simp,hG.alloc hG.size _⟩
theorem px {o:Oper} {ρ:Operand->Value} {w1:World} {R:Value->World->Prop} (hG:xW W w1) (s x:Operand) (t:TypeId) (ho:o.op= .call {callee:= .builtin .append,args:= #[s,x],argTypes:= #[t,t]}) {size a0:Nat} (ht:P.underlying t=some (.slice e)) (b0:(P.info? e).map (λi=>(i.zero,i.size,i.bytes))=some (some z,size,a0)) (k0:z.cells.size=size) (j0:0<size) (hs:Zl W.heap.size e size [] (ρ s) w1) {news:uZ} (hx:ρ x= .slice a2 m c2) (hl:news.length=m*size) (g0:Rd w1 a2 news) (h1:∀u∈news,u.oneCell'=true) (c0:m*a0<=140737488355328) (i0:0<a0) (hR:∀u w',fm W.heap.size e size m news [ρ s] u w'->R u w') (hd:o.dst.isSome=true:=by rfl):xO P o ρ w1 (λu w'=>xW w1 w'/\R (kept o u) w'/\(∀k,yQ m (kept o u)=some k->w1.heap.size<=k/\k<w'.heap.size)/\xW W w'):=by
 obtain⟨g,d,hg⟩:=hs;by_cases hm:m=0
 ·subst hm;obtain rfl:news=[]:=List.eq_nil_of_length_eq_zero (by simpa using hl);have f0:(Builtin.append_ #[t,t] o.type #[.slice (some ⟨g,0,none⟩) 0 0,.slice a2 0 c2]).run P w1= .ok (.slice (some ⟨g,0,none⟩) 0 0) w1:=by
   obtain⟨i,hi,-,-,-⟩:=info_parts b0
   cases a2 with
   |none=>exact jV (P:=P) (w:=w1) W.heap.size t o.type e i size ht hi _ 0 [] hg c2
   |some ad=>simp[Builtin.append_,run_underlying ht,sizeOf,typeInfo,hi,Builtin.lenOf,Builtin.firstCells,loadCells,loadCellsFrom,storeCells]
  refine zh (u:= .slice (some ⟨g,0,none⟩) 0 0) (w':=w1) ?_ ⟨Below.refl _ _,by rw[je hd];exact hR _ _ ⟨_,_,rfl,hg,λ_=>d.symm⟩,(λk hk=>by simp[yQ] at hk),hG⟩;unfold execOp;simp only[ho,resolve,invoke,builtin,Sem.run_bind,Sem.run_pure,Result.andThen_ok,List.map_toArray,List.map_cons,List.map_nil,d,hx,f0]
 ·refine jr s x t ho ht b0 k0 j0 d hg hx hl g0 h1 c0 i0 hG.size ?_;intro a c w2 d0 hb hf h0;exact⟨hb,by rw[je hd];exact hR _ _ ⟨a,c,rfl,d0,λh=>absurd h hm⟩,by rw[je hd];exact JR d0 hf,hG.trans (hb.mono hG.size)⟩
theorem Dy {p:Prop} (h:p:=by exact Pt hG (by go_simp) (λ_ _ h=>h)):p:=h
theorem KW {d:Nat} {b:uQ} {e f:Value} (b0:∀k,Value.ownBlock e=some k->Value.ownBlock f≠some k) (c0:∀k,Value.ownBlock e=some k->yQ m (.slice b m d)≠some k) (d0:∀k,yQ n (.slice a n c)=some k->Value.ownBlock f≠some k) (f0:∀k,yQ n (.slice a n c)=some k->yQ m (.slice b m d)≠some k) (h1:n=0->Value.slice a n c=e) (h2:m=0->Value.slice b m d=f):∀q,zj a=some q->zj b≠some q:=by
 intro q hq a0;have sl:∀{n c:Nat} {a:uQ},n≠0->zj a=some q->yQ n (.slice a n c)=some q:=λh0 hq=>by rw[yQ,if_neg h0,yu];exact hq
 by_cases hn:n=0
 ·have e1:Value.ownBlock e=some q:=by rw[<-h1 hn,yu];exact hq
  by_cases hm:m=0
  ·exact b0 q e1 (by rw[<-h2 hm,yu];exact a0)
  ·exact c0 q e1 (sl hm a0)
 ·by_cases hm:m=0
  ·exact d0 q (sl hn hq) (by rw[<-h2 hm,yu];exact a0)
  ·exact f0 q (sl hn hq) (sl hm a0)
theorem Fr.dis (F:Fr w W l) {k':Nat} (b0:k'≠k) {i i':It} (hi:l[k]? =some i) (a0:l[k']? =some i'):∀q∈i.foot,q∉i'.foot:=by
 intro q hq c0;have h:=(F.pull k hi).ap;have hm:i'∈l.eraseIdx k:=List.mem_eraseIdx_iff_getElem?.2 ⟨k',b0,a0⟩;exact(List.nodup_append.1 h).2.2 q hq q (List.mem_flatMap.2 ⟨i',hm,c0⟩) rfl
theorem Fr.add (F:Fr w W l) {i:It} (hi:i.has w.heap.size W) (hd:∀q∈i.foot,q∉zO l):Fr w W (i::l):=by
 refine⟨F.bel,λj hj=> ?_,?_⟩
 ·rcases List.mem_cons.1 hj with rfl|hj
  ·exact hi
  ·exact F.has j hj
 ·show(i.foot++zO l).Nodup;exact List.nodup_append.2 ⟨i.foot_nodup,F.ap,λa ha b hb e=>hd a ha (e▸hb)⟩
theorem Fr.rows3 (F:Fr w W l) (hG:xW W W') {a1 a3:uQ} {n1 n2 n3 c1 c3 s1 s2 s3:Nat} {E1 E2 E3:TypeId} {x1 x2 x3:uZ} (o1:W'.ownsRow W.heap.size E1 s1 (.slice a1 n1 c1) n1 x1) (o2:W'.ownsRow W.heap.size E2 s2 (.slice a2 n2 c2) n2 x2) (o3:W'.ownsRow W.heap.size E3 s3 (.slice a3 n3 c3) n3 x3) (b0:∀q,zj a1=some q->zj a2≠some q) (c0:∀q,zj a1=some q->zj a3≠some q) (d0:∀q,zj a2=some q->zj a3≠some q):Fr w W' (.row a1 n1 c1 E1 s1 x1:: .row a2 n2 c2 E2 s2 x2:: .row a3 n3 c3 E3 s3 x3::l):=by
 have far:∀{a:uQ} {n c s:Nat} {E:TypeId} {x:uZ},W'.ownsRow W.heap.size E s (.slice a n c) n x->∀q,zj a=some q->q∉zO l:=λho q hq hm=>by
  have h1:=(zy ho q hq).1;have h2:=(F.inside q hm).2;omega
 have hs:=F.bel.size;refine Fr.add (Fr.add (F.row hG o3) (i:= .row a2 n2 c2 E2 s2 x2) (zw o2 hs) λq hq=> ?_) (i:= .row a1 n1 c1 E1 s1 x1) (zw o1 hs) λq hq=> ?_
 ·have a0:zj a2=some q:=by simpa[It.foot] using hq
  intro hm;rcases xM (show q∈(zj a3).toList++zO l from hm) with hm|hm
  ·exact d0 q a0 (by simpa using hm)
  ·exact far o2 q a0 hm
 ·have a0:zj a1=some q:=by simpa[It.foot] using hq
  intro hm;rcases xM (show q∈(zj a2).toList++((zj a3).toList++zO l) from hm) with hm|hm
  ·exact b0 q a0 (by simpa using hm)
  ·rcases xM hm with hm|hm
   ·exact c0 q a0 (by simpa using hm)
   ·exact far o1 q a0 hm
theorem fG {id:Nat} {l:List Oper} (n i0:Nat) (S:List Nat) {a0:Act} {Q:Exit->Act->World->Prop} (rs:List Rl) (h1:X6 (λw w'=>xW w w') rs) (h2:JH i0 (zo S) 0 rs) 
  (hs:Z9 P (l.take n) (rs.map Rl.P) (uo i0 (zo S)) (λ_ _=>none) (qO i0 S w) a0.eval (l.take n) 0) (he:∀w',zo S w w'->Je w' (λvs=>wpList P l.toArray Q (l.drop n) (jH (l.take n) a0 vs) w') rs (l.take n) []) (hm:P.follows .mixedOrders=true:=by kernel_rfl) (hf:fits l n a0.tmps.size=true:=by kernel_rfl) (hl:rs.length=n:=by rfl):(Code.region id l.toArray true).wp P Q a0 w:=
 vG n hm hf _ _ _ _ (qO.start _ _ _) (JJ λ_ _ h=>h.size) (JT h1.to h2.to) hs λvs w' _ hG c0 b0 _ _=>by
  have hn:=(vT hf).2;have:=Qv (Rs:=rs.map Rl.P) rs (l.take n) [] vs (by simp[hl,hn]) (by simp[c0,hn]) (Ju n (vT hf).1) (λk=>jv) (by simpa using b0) (he w' hG.2);simpa using this
theorem U7 {id:Nat} {l:List Oper} (n i0 b:Nat) {a0:Act} {Q:Exit->Act->World->Prop} (rs:List Rl) (h1:X6 (λw w'=>xW w w') rs) (h2:JH i0 (zo [b]) 0 rs) 
  (hs:Z9 P (l.take n) (rs.map Rl.P) (uo i0 (zo [b])) (λ_ _=>none) (qO i0 [b] w) a0.eval (l.take n) 0) (he:∀w',zo [b] w w'->Je w' (λvs=>wpList P l.toArray Q (l.drop n) (jH (l.take n) a0 vs) w') rs (l.take n) []) (hm:P.follows .mixedOrders=true:=by kernel_rfl) (hf:fits l n a0.tmps.size=true:=by kernel_rfl) (hl:rs.length=n:=by rfl):(Code.region id l.toArray true).wp P Q a0 w:=
 fG n i0 [b] rs h1 h2 hs he hm hf hl
def fu (B:Nat) (E:TypeId) (k:Nat) (cs:Array Value) (_:uZ) (u:Value) (W:World):Prop:=∃g:Nat,u= .slice (some ⟨g,0,none⟩) k k/\zm W g cs E/\B<=g
theorem PI {cs:Array Value}:∀ds u w w',xW w w'->fu B E k cs ds u w->fu B E k cs ds u w':=λ_ _ _ _ hb ⟨g,e,h,hs⟩=>⟨g,e,h.below hb,hs⟩
theorem Pu {cs:Array Value} (hb:b<B):∀ds u w w',zo [b] w w'->fu B E k cs ds u w->fu B E k cs ds u w':=λ_ _ _ _ hT ⟨g,e,h,hs⟩=>⟨g,e,hT.blk h (by simp;omega),hs⟩
def te (b:Nat) (T:TypeId) (cs:Array Value) (_:uZ) (_:Value) (W:World):Prop:=zm W b cs T
theorem dc {cs:Array Value}:∀ds u w w',xW w w'->te b T cs ds u w->te b T cs ds u w':=λ_ _ _ _ hb h=>zm.below h hb
section
variable {P:Program} {o:Oper} {ρ:Operand->Value} {W w1:World} {V:Value} {R:Value->World->Prop} {b i i0:Nat} {L:Nat->Bool}
theorem Pj (hG:qO i0 S W L w1) (h:(execOp ρ o).run P w1= .ok (.value V) w1) (hd:o.dst.isSome=true:=by rfl) (hi:i≠i0:=by decide):xO P o ρ w1 (λu w'=>uo i0 (zo S) i w1 w'/\kept o u=V/\(∀k,none=some k->w1.heap.size<=k/\k<w'.heap.size)/\qO i0 S W (λj=>decide (j=i)||L j) w'):=
 zh h ⟨xk hi xd,je hd,yn,hG.step hi xd⟩
theorem PH {cs:Array Value} (hG:qO i0 [b] W L w1) (h:(execOp ρ o).run P w1= .ok (.value (.slice (some ⟨w1.heap.size,0,none⟩) k k)) (w1.alloc (.cells cs E))) (hR:∀u w',fu W.heap.size E k cs [] u w'->R u w') (hd:o.dst.isSome=true:=by rfl) (hi:i≠i0:=by decide):xO P o ρ w1 (λu w'=>uo i0 (zo [b]) i w1 w'/\R (kept o u) w'/\(∀k,none=some k->w1.heap.size<=k/\k<w'.heap.size)/\qO i0 [b] W (λj=>decide (j=i)||L j) w'):=
 zh h ⟨xk hi (zY),by rw[je hd];exact hR _ _ ⟨_,rfl,zm.new _ _ _,hG.2.size⟩,yn,hG.step hi (zY)⟩
theorem DK {x y:Operand} {a0 cs:Array Value} (ho:o.op= .store T x y) (hG:qO i [b] W L w1) (hL:L i=false) (kb:zm W b a0 T) (hx:ρ x= .pointer (some ⟨b,0,none⟩)) (hy:ρ y= .agg cs) (hs:cs.size=a0.size) (h1:cs.toList.all (·.oneCell')=true) (hT:(P.info? T).map (·.size)=some cs.size) (hR:∀u w',te b T cs [] u w'->R u w'):xO P o ρ w1 (λu w'=>uo i (zo [b]) i w1 w'/\R (kept o u) w'/\(∀k,none=some k->w1.heap.size<=k/\k<w'.heap.size)/\qO i [b] W (λj=>decide (j=i)||L j) w'):=by
 have c0:=kb.below (hG.1 hL);have b0:zo [b] w1 (w1.setRow b cs):=⟨rfl,rfl,rfl,jv,λk _ hn=>setRow_other _ _ _ _ λe=>hn (by simp[e])⟩
 refine qj (w':=w1.setRow b cs) ?_ ⟨Xw b0,hR _ _ (setRow_heap _ _ _ _ _ _ c0),yn,hG.own b0⟩;simp[execOp,ho,hx,hy,Instr.storeAt,Instr.sureAddr,run_storeVar_row w1 b T T a0 cs c0 hT jq (Array.all_toList.symm.trans h1)]
end
theorem Ps (hb:b<B):∀ds u w w',zo [b] w w'->Zl B E sz ds u w->Zl B E sz ds u w':=λ_ _ _ _ hT ⟨g,e,h⟩=>⟨g,e,zE h hT λq hq hm=>by have:=(zy h q hq).1;have:=yh hm;omega⟩
theorem Pp (hb:b<B):∀ds u w w',zo [b] w w'->Xi B E sz n cs ds u w->Xi B E sz n cs ds u w':=λ_ _ _ _ hT ⟨a,c,e,h,h0⟩=>⟨a,c,e,zE h hT λq hq hm=>by have:=(zy h q hq).1;have:=yh hm;omega,h0⟩
theorem PF {o:Oper} {ρ:Operand->Value} {w1:World} {R:Value->World->Prop} {i0:Nat} {L:Nat->Bool} (hG:qO i0 [b] W L w1) (h:(execOp ρ o).run P w1= .ok (.value (.slice (some ⟨w1.heap.size,0,none⟩) 0 0)) (w1.alloc (.cells #[] E))) (hR:∀u w',Zl W.heap.size E sz [] u w'->R u w') (hd:o.dst.isSome=true:=by rfl) (hi:i≠i0:=by decide):xO P o ρ w1 (λu w'=>uo i0 (zo [b]) i w1 w'/\R (kept o u) w'/\(∀k,none=some k->w1.heap.size<=k/\k<w'.heap.size)/\qO i0 [b] W (λj=>decide (j=i)||L j) w'):=
 zh h ⟨xk hi (zY),by rw[je hd];exact hR _ _ ⟨_,rfl,zw (yg w1 E sz) hG.2.size⟩,yn,hG.step hi (zY)⟩
theorem PC {o:Oper} {ρ:Operand->Value} {w1:World} {R:Value->World->Prop} {i0:Nat} {L:Nat->Bool} (hG:qO i0 [b] W L w1) (s x:Operand) (t:TypeId) (ho:o.op= .call {callee:= .builtin .append,args:= #[s,x],argTypes:= #[t,t]}) {size a0:Nat} (ht:P.underlying t=some (.slice e)) (c0:(P.info? e).map (λi=>(i.zero,i.size,i.bytes))=some (some z,size,a0)) (k0:z.cells.size=size) (j0:0<size) (hs:Zl W.heap.size e size [] (ρ s) w1) {news:uZ} (hx:ρ x= .slice a2 m c2) (hl:news.length=m*size) (f0:Rd w1 a2 news) (h1:∀u∈news,u.oneCell'=true) (b0:m*a0<=140737488355328) (g0:0<a0) (hR:∀u w',Xi W.heap.size e size m news [] u w'->R u w') (hd:o.dst.isSome=true:=by rfl) (hi:i≠i0:=by decide):xO P o ρ w1 (λu w'=>uo i0 (zo [b]) i w1 w'/\R (kept o u) w'/\(∀k,none=some k->w1.heap.size<=k/\k<w'.heap.size)/\qO i0 [b] W (λj=>decide (j=i)||L j) w'):=by
 obtain⟨g,d,hg⟩:=hs;refine jr s x t ho ht c0 k0 j0 d hg hx hl f0 h1 b0 g0 hG.2.size ?_;intro a c w2 d0 hb hf h0;exact⟨xk hi hb,by rw[je hd];exact hR _ _ ⟨a,c,rfl,d0,h0⟩,yn,hG.step hi hb⟩
theorem PM {p:Prop} (h:p:=by exact PF hG (by go_simp) (λ_ _ h=>h)):p:=h
theorem Ym {p:Prop} (h:p:=by(exact Pj hG (by go_simp<;>rfl))):p:=h
theorem XU {p:Prop} (h:p:=by(have d:ρ (.tmp _)=_:=hd.1;exact Pj hG (by go_simp<;>rfl))):p:=h
theorem PG {p:Prop} (h:p:=by(have d:ρ (.tmp _)=_:=hd.1;exact PH hG (by go_simp<;>rfl) (λ_ _ h=>h))):p:=h
theorem Fr.over (k:Nat) {a0 cs:Array Value} (F:Fr w W l) (hi:l[k]? =some (.blk b a0 T)) (hT:zo [b] W W') (h:zm W' b cs T):Fr w W' (l.set k (.blk b cs T)):=
 F.step k hi hT ⟨(F.has _ (vB hi)).1,h⟩ λ_ hq=> .inl hq
theorem Rd.int0 {o:Nat} {x:Int} {xs:List Int} (h:Rd w (some ⟨b,o,none⟩) (zf (x::xs))):w.cell? ⟨b,o,none⟩=some (uy x):=by
 obtain⟨b',o',e,hc⟩:=h.int jv
 cases e
 simpa using hc 0 jv
structure RI (l h:List Oper) (n:Nat) (I:(Nat->Bool)->(Nat->Value)->World->Prop) (a0:Act) (fuel:Nat) (listed:Array Bool) (a:Act) (w:World):Prop where
 inv:HeadInv .any l.toArray n listed
 left:((listed.toList.take n).filter (· ==false)).length=fuel
 good:I (λj=>listed.getD j false) (Ze h a.eval) w
 frame:a0.tmps.size=a.tmps.size
 defs:a0.defers=a.defers
 same:∀t,(∀j o,h[j]? =some o->listed.getD j false=true->o.dst≠some t)->a.tmps[t]? =a0.tmps[t]?
def DO (P:Program) (h:List Oper) (I:(Nat->Bool)->(Nat->Value)->World->Prop) (ρ0:Operand->Value) (i:Nat) (o:Oper):Prop:=∀ρ w L,I L (Ze h ρ) w->(∀j∈waits o,L j=true)->(∀j p,h[j]? =some p->(j==i||(waits p).contains i)=true->L j=false)->(∀x,Y5 h x=true->ρ x=ρ0 x)->xO P o ρ w (λu w'=>I (λj=>decide (j=i)||L j) (λj=>if j=i then kept o u else Ze h ρ j) w')
def JM (P:Program) (h:List Oper) (I:(Nat->Bool)->(Nat->Value)->World->Prop) (ρ0:Operand->Value):List Oper->Nat->Prop
 |[],_=>True
 |o::os,i=>DO P h I ρ0 i o/\JM P h I ρ0 os (i+1)
theorem JM.at {P:Program} {h:List Oper} {I:(Nat->Bool)->(Nat->Value)->World->Prop} {ρ0:Operand->Value}:∀{os:List Oper} {k i:Nat} {o:Oper},JM P h I ρ0 os k->os[i]? =some o->DO P h I ρ0 (k+i) o
 |[],_,i,o,_,e=>by simp at e
 |p::os,k,0,o,hs,e=>by
  obtain rfl:p=o:=by simpa using e
  exact hs.1
 |p::os,k,i+1,o,hs,e=>by
  have:=JM.at (i:=i) (k:=k+1) hs.2 (by simpa using e);rw[show k+1+i=k+(i+1) by omega] at this;exact this
theorem dV {l h:List Oper} {I:(Nat->Bool)->(Nat->Value)->World->Prop} {a0:Act} {Q:Exit->Act->World->Prop} (K0:∀L L' σ σ' w,(∀j,j<n->L j=L' j)->(∀j,j<n->L j=true->σ j=σ' j)->I L σ w->I L' σ' w) 
  (hh:h=l.take n) (hf:fits l n a0.tmps.size=true) (q0:JM P h I a0.eval h 0)
  (C0:∀(vs:uZ) w,vs.length=n->I (λ_=>true) (λj=>vs.getD j undef) w->wpList P l.toArray Q (l.drop n) (jH h a0 vs) w):
  ∀(c0:Nat) (b0:Array Bool) (a:Act) (w:World),RI l h n I a0 c0 b0 a w->wpAny P .any l.toArray Q (c0+(l.length-n)) b0 a w:=by
 simp only[fits,Bool.and_eq_true,decide_eq_true_eq] at hf;obtain⟨⟨⟨⟨⟨⟨hg,hd⟩,P0⟩,k0⟩,hn⟩,d0⟩,J0⟩:=hf;rw[<-hh] at hd P0;have N0:h.length=n:=by rw[hh];simp[hn]
 have t0:∀j,j<n->h[j]? =l[j]? :=λj hj=>by rw[hh];simp[hj]
 have f0:∀i o,l[i]? =some o->∀e∈o.after,Region.binds .any e=true->e.on<i:=by
  intro i o hi e he hb;have O0:i<l.length:=(YN.1 hi).1;have h1:=List.all_eq_true.1 k0 i (List.mem_range.2 O0);rw[hi] at h1;have h2:=List.all_eq_true.1 h1 e.on (by unfold waits;exact yU.2 ⟨e,List.mem_filter.2 ⟨by simpa using he,hb⟩,rfl⟩);simpa using h2
 intro c0
 induction c0 with
 |zero=>
  intro b0 a w hI;have hL:=GC hI.inv hn hI.left;have z0:∀j,j<n->b0.getD j false=true:=by
   intro j hj;rw[hL];simp[Y3,hj,show j<l.length by omega]
  have e:jH h a0 (h.map (ju a))=a:=Qt a h a0 hI.frame hI.defs λt ht=>hI.same t λj o hj _=>ht o (vB hj);have g1:∀j,Ze h a.eval j=(h.map (ju a)).getD j undef:=by
   intro j;by_cases hj:j<h.length
   ·rw[Zo (o:=h[j]) (by simp[hj])];simp[List.getD,hj]
   ·unfold Ze;simp[List.getD,Nat.le_of_not_lt hj]
  have s0:=C0 (h.map (ju a)) w (by simp[N0]) (K0 _ _ _ _ _ (λj hj=>z0 j hj) (λj _ _=>g1 j) hI.good);rw[e] at s0;have y0:(l.drop n).length=l.length-n:=jv;have:=wpAny_of_seq (md:= .any) (Q':=Q) (l.drop n) n b0 a w (λj=>by simp[List.getElem?_drop]) (by rw[y0,hL];exact J0) s0;rw[Nat.zero_add];rwa [y0] at this
 |succ c0 ih=>
  intro b0 a w hI
  --some operation of the head is not b0;the first of them is ready
  have M0:∃i,i<n/\b0.getD i true=false:=by
   have E0:(b0.toList.take n).filter (· ==false)≠[]:=λh0=>by have:=hI.left;rw[h0] at this;simp at this
   obtain⟨b,hb⟩:=List.exists_mem_of_ne_nil _ E0;obtain⟨S0,L0⟩:=List.mem_filter.1 hb;obtain⟨i,hi,e⟩:=List.mem_iff_getElem.1 S0;simp only[jO,Array.length_toList] at hi;refine⟨i,jq,?_⟩;have:b0[i]'jq=b:=(by simpa using e);simp only[beq_iff_eq] at L0;simp[show i<b0.size by omega,this,L0]
  have i1:b0.size=l.length:=by have:=hI.inv.size;simpa using this
  have p0:Region.ready .any l.toArray b0≠[]:=by
   have n0:∃i,(i<n/\b0.getD i true=false)/\∀k,k<i->¬(k<n/\b0.getD k true=false):=by
    obtain⟨i,hi⟩:=M0;exact tl (λi=>i<n/\b0.getD i true=false) i hi
   obtain⟨i,⟨hi,hu⟩,n0⟩:=n0;obtain⟨o,ho⟩:∃o,l[i]? =some o:=⟨l[i]'jq,by simp[show i<l.length by omega]⟩
   have:i∈Region.ready .any l.toArray b0:=Go.mem_ready.2 ⟨hu,o,by simpa using ho,λe he hb=>by
    have g0:=f0 i o ho e he hb;have:=n0 e.on g0;have h2:b0.getD e.on true≠false:=λh0=>this ⟨jq,h0⟩;simp only[Bool.not_eq_false] at h2;have h3:e.on<b0.size:=jq;simpa[h3] using h2⟩
   intro h0;rw[h0] at this
   cases this
  rw[show c0+1+(l.length-n)=(c0+(l.length-n))+1 by omega];refine⟨λh0=>absurd h0 p0,λi hi=> ?_⟩;obtain⟨hu,o,ho,r0⟩:=Go.mem_ready.1 hi;have G0:l[i]? =some o:=by simpa using ho
  have O0:i<l.length:=(YN.1 G0).1;have m0:i<n:=by
   rcases Nat.lt_or_ge i n with g0|V0
   ·exact g0
   ·exfalso;obtain⟨i0,Y0,f1⟩:=M0;simp only[Bool.or_eq_true,decide_eq_true_eq,Bool.and_eq_true] at d0;rcases d0 with d0|⟨hs,hc⟩
    ·omega
    ·exact tail_waits hs hc (by simpa using(show n<l.length by omega)) hI.inv _ i0 rfl Y0 f1 i V0 hi
  have u0:h[i]? =some o:=by rw[t0 i m0];exact G0
  have D0:o∈l:=vB G0;have X0:o.guard=none:=by
   have:=List.all_eq_true.1 hg o D0;simpa using this
  unfold wpOp;rw[ho];have hw:Region.wanted o (yielded l.toArray a.tmps)=true:=by simp[Region.wanted,X0]
  simp only[hw,if_true];refine .inl ?_;have g0:i<b0.size:=jq;have l0:b0[i]=false:=by
   have:b0.getD i true=b0[i]:=(by simp[g0]);rw[<-this];exact hu
  have hW:∀j∈waits o,b0.getD j false=true:=by
   intro j hj;unfold waits at hj;obtain⟨e,he,rfl⟩:=yU.1 hj;obtain⟨A0,B0⟩:=List.mem_filter.1 he;exact r0 e (by simpa using A0) B0
  have I0:∀x,Y5 h x=true->a.eval x=a0.eval x:=by
   intro x hx
   cases x with
   |tmp t=>
    have hn:∀o'∈h,o'.dst≠some t:=by
     intro o' b1 e;simp only[Y5,Bool.not_eq_true',List.any_eq_false] at hx;exact hx o' b1 (by simp[e])
    have:=hI.same t (λj o' hj _=>hn o' (vB hj));simp only[Act.eval];rw[Array.getD_eq_getD_getElem?,Array.getD_eq_getD_getElem?,this]
   |_=>rfl
  have hny:∀j p,h[j]? =some p->(j==i||(waits p).contains i)=true->b0.getD j false=false:=by
   intro j p hj hc;by_cases Q0:j=i
   ·subst Q0;exact getD_both hu
   replace hc:(waits p).contains i=true:=(by simpa[Q0] using hc)
   cases hlj:b0.getD j false with
   |false=>rfl
   |true=>
    exfalso;have a1:j<n:=by rw[<-N0];exact(YN.1 hj).1
    have d1:l[j]? =some p:=by rw[<-t0 j a1];exact hj
    have hm:i∈waits p:=(by simpa using hc);unfold waits at hm;obtain⟨e,he,U0⟩:=yU.1 hm;obtain⟨A0,B0⟩:=List.mem_filter.1 he;have:=hI.inv.closed j p (by simpa using d1) hlj e (by simpa using A0) B0;rw[U0] at this;have h2:b0.getD i false=false:=getD_both hu;rw[h2] at this;cases this
  have j0:=JM.at (k:=0) q0 u0;rw[Nat.zero_add] at j0;refine Ua (j0 a.eval w _ hI.good hW hny I0) λu w' hp=>ih _ _ _ ?_;have y0:∀d,o.dst=some d->d<a.tmps.size:=by
   intro d o0;have:=List.all_eq_true.1 P0 o (vB u0);rw[o0] at this;rw[<-hI.frame];simpa using this
  have v0:ju (a.put o.dst u) o=kept o u:=by
   unfold ju kept
   cases o0:o.dst with
   |none=>rfl
   |some d=>simp[Act.put,y0 d o0]
  have x0:∀j p,h[j]? =some p->j≠i->ju (a.put o.dst u) p=ju a p:=by
   intro j p hj E0;unfold ju
   cases hpd:p.dst with
   |none=>rfl
   |some d=>
    cases o0:o.dst with
    |none=>rfl
    |some d'=>
     have T0:=Qh hd u0 hj (λe=>E0 e.symm) o0;have F0:d'≠d:=λe=>T0 (by rw[hpd,e]);simp[Act.put,Array.getElem?_setIfInBounds_ne F0]
  have R0:I (λj=>(b0.setIfInBounds i true).getD j false) (Ze h (a.put o.dst u).eval) w':=by
   have e:(λj=>(b0.setIfInBounds i true).getD j false)=λj=>decide (j=i)||b0.getD j false:=by
    funext j;by_cases e:j=i
    ·subst e;simp[g0]
    ·have:(b0.setIfInBounds i true).getD j false=b0.getD j false:=by
      rw[Array.getD_eq_getD_getElem?,Array.getD_eq_getD_getElem?,Array.getElem?_setIfInBounds_ne (λh=>e h.symm)]
     rw[this];simp[e]
   refine K0 _ _ _ _ _ (λj _=>(congrFun e j).symm) (λj hj _=> ?_) hp;have hq:h[j]? =some (h[j]'jq):=(by simp[show j<h.length by omega]);rw[Zo hq,Zo hq];by_cases e':j=i
   ·subst e';rw[u0] at hq;rw[if_pos rfl,<-Option.some.inj hq,v0]
   ·rw[if_neg e',x0 j _ hq e']
  refine⟨hI.inv.set hi m0,?_,R0,?_,?_,?_⟩
  ·have hx:b0.toList[i]? =some false:=(by simp[g0,l0]);have:=Q4 b0.toList n i m0 hx;have e:(b0.setIfInBounds i true).toList=b0.toList.set i true:=jv;rw[e];have:=hI.left;omega
  ·rw[hI.frame];cases o.dst<;>simp[Act.put]
  ·rw[hI.defs];cases o.dst<;>simp[Act.put]
  ·intro t ht;have Z0:o.dst≠some t:=ht i o u0 (by simp[g0]);have H0:=hI.same t (λj p hj hl=>ht j p hj (by
    by_cases e:j=i
    ·subst e;simp[g0]
    ·rw[Array.getD_eq_getD_getElem?,Array.getElem?_setIfInBounds_ne (λh=>e h.symm),<-Array.getD_eq_getD_getElem?];exact hl))
   rw[<-H0]
   cases o0:o.dst with
   |none=>rfl
   |some d=>simp only[Act.put];rw[Array.getElem?_setIfInBounds_ne (λe=>Z0 (by rw[o0,e]))]
theorem jd {id:Nat} {l:List Oper} (n:Nat) (I:(Nat->Bool)->(Nat->Value)->World->Prop) {a0:Act} {Q:Exit->Act->World->Prop} (d0:∀L L' σ σ' w,(∀j,j<n->L j=L' j)->(∀j,j<n->L j=true->σ j=σ' j)->I L σ w->I L' σ' w) (h0:∀σ,I (λ_=>false) σ w.drew) (b0:JM P (l.take n) I a0.eval (l.take n) 0) 
  (c0:∀(vs:uZ) w,vs.length=n->I (λ_=>true) (λj=>vs.getD j undef) w->wpList P l.toArray Q (l.drop n) (jH (l.take n) a0 vs) w) (hm:P.follows .mixedOrders=true:=by kernel_rfl) (hf:fits l n a0.tmps.size=true:=by kernel_rfl):(Code.region id l.toArray true).wp P Q a0 w:=by
 have hn:n<=l.length:=(vT hf).2;refine wp_region_any hm ?_;have f0:∀j:Nat,(Array.replicate l.length false).getD j false=true->False:=λj hj=>by
  simp only[Array.getD_eq_getD_getElem?,Array.getElem?_replicate] at hj;split at hj<;>simp at hj
 have:=dV d0 rfl hf b0 c0 n (Array.replicate l.length false) a0 w.drew
  ⟨⟨jv,λj oj _ hl=>(f0 j hl).elim,λt _ ht=>getD_in (by simpa using ht) (getD_replicate_false _ _)⟩,
  by simp[List.take_replicate,Nat.min_eq_left hn],d0 _ _ _ _ _ (λj _=>(getD_replicate_false _ _).symm) (λ_ _ h=>by cases h) (h0 (Ze (l.take n) a0.eval)),rfl,rfl,λt _=>rfl⟩
 rw[show n+(l.length-n)=l.length by omega] at this;simpa using this
end Go.Proofs.YtfclolgfegdfjaaGreat
