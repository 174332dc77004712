/- Part of a proof: Sf2 IStart. -/
import Derived.Test.YtfclolgfegdfjaaGreatVPIFit
set_option maxRecDepth 100000
set_option maxHeartbeats 16000000
namespace Go.Proofs.YtfclolgfegdfjaaGreat
open Go.RowKit
variable {w W w' W':World} {s:zp} {B j c2:Nat} {a2:uQ} {v:zu} {L:zQ} {l:List It} {q:zP} {X:List Nat} {α:Type}
theorem yr.push_pl (h:yr X B w v L s) {r:zP} (G:w.grownBy w' (zj v.pl.a)) (hn:∀k,zj r.a=some k->zj v.pl.a=some k\/w.heap.size<=k) {ps:List Int} (hl:r.n=ps.length) (ho:w'.ownsRow B 3 1 r.val r.n (zf ps)):yr X B w' {v with pl:=r} L {s with places:=ps}:=by
 have b0:∀b∈zu.blks {v with pl:=r},b∈v.blks\/w.heap.size<=b:=by
  intro b hm;unfold zu.blks at hm⊢;obtain⟨y,hy,a0⟩:=xc.1 hm;simp only[List.mem_cons,jw,or_false] at hy;rcases hy with rfl|rfl|rfl|rfl|rfl|rfl|rfl|rfl
  ·rcases hn b a0 with h1|h1
   ·exact .inl (xc.2 ⟨v.pl.a,jv,h1⟩)
   ·exact .inr h1
  ·exact .inl (xc.2 ⟨_,jv,a0⟩)
  ·exact .inl (xc.2 ⟨_,jv,a0⟩)
  ·exact .inl (xc.2 ⟨_,jv,a0⟩)
  ·exact .inl (xc.2 ⟨_,jv,a0⟩)
  ·exact .inl (xc.2 ⟨_,jv,a0⟩)
  ·exact .inl (xc.2 ⟨_,jv,a0⟩)
  ·exact .inl (xc.2 ⟨_,jv,a0⟩)
 have hB:∀b∈X++zu.blks {v with pl:=r},b∈X++v.blks\/w.heap.size<=b:=by
  intro b hm;rcases xM hm with hm|hm
  ·exact .inl (yW (.inl hm))
  ·exact(b0 b hm).imp (λh=>yW (.inr h)) id
 have hT:zo (X++v.blks) w w':=zo.of_grown G λk hk=>yW (.inr (zu.mem_pl hk));have hX:∀k∈X,k<w'.heap.size/\k∉zu.blks {v with pl:=r}:=λk hk=>⟨Nat.lt_of_lt_of_le (h.xs k hk).1 G.size,λhm=>by
  rcases b0 k hm with h1|h1
  ·exact(h.xs k hk).2 h1
  ·have:=(h.xs k hk).1;omega⟩
 refine⟨ho,hl,zk h.st G (λk hk hq=>h.dps k hq hk),h.nst,zk h.se G (λk hk hq=>zx h.se h.pl jk _ hk hq),h.nse,zk h.on G (λk hk hq=>zx h.on h.pl jk _ hk hq),h.non,zk h.gr G (λk hk hq=>zx h.gr h.pl jk _ hk hq),h.ngr,zk h.ba G (λk hk hq=>zx h.ba h.pl jk _ hk hq),h.nba,zk h.ch G (λk hk hq=>zx h.ch h.pl jk _ hk hq),h.nch,zk h.sa G (λk hk hq=>h.dpa k hq hk),h.nsa,h.fl,?_,?_,h.dsa,hX,(h.inn.wide hT hB).to ⟨rfl,rfl,rfl,rfl,rfl⟩⟩
 ·intro k hk hq;rcases hn k hk with h1|h1
  ·exact h.dps k h1 hq
  ·have:=(zy h.st k hq).2;omega
 ·intro k hk hq;rcases hn k hk with h1|h1
  ·exact h.dpa k h1 hq
  ·have:=(zy h.sa k hq).2;omega
theorem yr.push_st (h:yr X B w v L s) {r:zP} (G:w.grownBy w' (zj v.st.a)) (hn:∀k,zj r.a=some k->zj v.st.a=some k\/w.heap.size<=k) {ps:List Int} (hl:r.n=ps.length) (ho:w'.ownsRow B 3 1 r.val r.n (zf ps)):yr X B w' {v with st:=r} L {s with status:=ps}:=by
 have b0:∀b∈zu.blks {v with st:=r},b∈v.blks\/w.heap.size<=b:=by
  intro b hm;unfold zu.blks at hm⊢;obtain⟨y,hy,a0⟩:=xc.1 hm;simp only[List.mem_cons,jw,or_false] at hy;rcases hy with rfl|rfl|rfl|rfl|rfl|rfl|rfl|rfl
  ·exact .inl (xc.2 ⟨_,jv,a0⟩)
  ·rcases hn b a0 with h1|h1
   ·exact .inl (xc.2 ⟨v.st.a,jv,h1⟩)
   ·exact .inr h1
  ·exact .inl (xc.2 ⟨_,jv,a0⟩)
  ·exact .inl (xc.2 ⟨_,jv,a0⟩)
  ·exact .inl (xc.2 ⟨_,jv,a0⟩)
  ·exact .inl (xc.2 ⟨_,jv,a0⟩)
  ·exact .inl (xc.2 ⟨_,jv,a0⟩)
  ·exact .inl (xc.2 ⟨_,jv,a0⟩)
 have hB:∀b∈X++zu.blks {v with st:=r},b∈X++v.blks\/w.heap.size<=b:=by
  intro b hm;rcases xM hm with hm|hm
  ·exact .inl (yW (.inl hm))
  ·exact(b0 b hm).imp (λh=>yW (.inr h)) id
 have hT:zo (X++v.blks) w w':=zo.of_grown G λk hk=>yW (.inr (zu.mem_st hk));have hX:∀k∈X,k<w'.heap.size/\k∉zu.blks {v with st:=r}:=λk hk=>⟨Nat.lt_of_lt_of_le (h.xs k hk).1 G.size,λhm=>by
  rcases b0 k hm with h1|h1
  ·exact(h.xs k hk).2 h1
  ·have:=(h.xs k hk).1;omega⟩
 refine⟨zk h.pl G (λk hk hq=>h.dps k hk hq),h.npl,ho,hl,zk h.se G (λk hk hq=>zx h.se h.st jk _ hk hq),h.nse,zk h.on G (λk hk hq=>zx h.on h.st jk _ hk hq),h.non,zk h.gr G (λk hk hq=>zx h.gr h.st jk _ hk hq),h.ngr,zk h.ba G (λk hk hq=>zx h.ba h.st jk _ hk hq),h.nba,zk h.ch G (λk hk hq=>zx h.ch h.st jk _ hk hq),h.nch,zk h.sa G (λk hk hq=>h.dsa k hq hk),h.nsa,h.fl,?_,h.dpa,?_,hX,(h.inn.wide hT hB).to ⟨rfl,rfl,rfl,rfl,rfl⟩⟩
 ·intro k hk hq;rcases hn k hq with h1|h1
  ·exact h.dps k hk h1
  ·have:=(zy h.pl k hk).2;omega
 ·intro k hk hq;rcases hn k hk with h1|h1
  ·exact h.dsa k h1 hq
  ·have:=(zy h.sa k hq).2;omega
section
variable {w W:World} {l:List It} {v:zu} {L:zQ} {s:zp} {ops:Array Oper} {rest:List Oper} {o:Oper} {ac:Act} {Q:Exit->Act->World->Prop}
theorem Sf.app_pl (h:Sf w W l v L s) (a0:o.guard=none) (y z:Operand) (ho:o.op= .call {callee:= .builtin .append,args:= #[y,z],argTypes:= #[23,23]}) (hs:ac.eval y=v.pl.val) {x:Int} (hx:ac.eval z= .slice a2 1 c2) (hr:Rd W a2 (zf [x])) (hn:v.pl.n+1<=1048576) 
  (K:∀(r:zP) W',Sf w W' l {v with pl:=r} L {s with places:=s.places++[x]}->wpList Tryz.prog ops Q rest (ac.put o.dst r.val) W'):wpList Tryz.prog ops Q (o::rest) ac W:=
 yP a0 y z _ ho Tryz.underlying23 yb rfl jk hs h.st.pl hx rfl hr (yA [x]) jq jk h.fr.bel.size λa' c' W' c0 hg b0=>
  K ⟨a',v.pl.n+1,c'⟩ W' (h.upd (zo.of_grown hg λk hk=>zu.mem_pl hk) (h.st.push_pl hg b0 (by show v.pl.n+1=_;rw[xp,h.st.npl];rfl) (by rw[xy];exact c0)))
theorem Sf.app_st (h:Sf w W l v L s) (a0:o.guard=none) (y z:Operand) (ho:o.op= .call {callee:= .builtin .append,args:= #[y,z],argTypes:= #[23,23]}) (hs:ac.eval y=v.st.val) {x:Int} (hx:ac.eval z= .slice a2 1 c2) (hr:Rd W a2 (zf [x])) (hn:v.st.n+1<=1048576) 
  (K:∀(r:zP) W',Sf w W' l {v with st:=r} L {s with status:=s.status++[x]}->wpList Tryz.prog ops Q rest (ac.put o.dst r.val) W'):wpList Tryz.prog ops Q (o::rest) ac W:=
 yP a0 y z _ ho Tryz.underlying23 yb rfl jk hs h.st.st hx rfl hr (yA [x]) jq jk h.fr.bel.size λa' c' W' c0 hg b0=>
  K ⟨a',v.st.n+1,c'⟩ W' (h.upd (zo.of_grown hg λk hk=>zu.mem_st hk) (h.st.push_st hg b0 (by show v.st.n+1=_;rw[xp,h.st.nst];rfl) (by rw[xy];exact c0)))
end
def z12:uZ:=[uy 0,uy 0,uy 0,uk,uy 0,uy 0,uy 0,uk,uy 0,uy 0,uy 0,uk]
abbrev Dz (q:zP):zu:=⟨zR,zR,zR,q,zR,zR,zR,zR,0⟩
abbrev dd:zQ:=⟨[],List.replicate 3 (zH,zR),[],[],[]⟩
abbrev Pq:zp:=⟨[],[],[],List.replicate 3 zH,[],[],[],[],0⟩
theorem yz.start (B:Nat):yz B dd:=⟨jv,λz hz=>by obtain rfl:=(List.mem_replicate.1 hz).2;exact .inl rfl,jv,jv,jv⟩
theorem Sf.fresh (F:Fr w W l) (hb:xW W W') (ho:W'.ownsRow W.heap.size 81 4 q.val q.n z12) (h3:q.n=3):Sf w W' l (Dz q) dd Pq:=by
 have hX:∀k∈zO l,k<W.heap.size:=λk hk=>(F.inside k hk).2;have hz:(List.replicate 3 (zH,zR)).flatMap uB=z12:=rfl;refine⟨F.call hb,jf _ _ _ _,rfl,jf _ _ _ _,rfl,jf _ _ _ _,rfl,by rw[hz];exact zw ho F.bel.size,h3,jf _ _ _ _,rfl,jf _ _ _ _,rfl,jf _ _ _ _,rfl,jf _ _ _ _,rfl,rfl,λk hk=>(by cases hk),λk hk=>(by cases hk),λk hk=>(by cases hk),λk hk=>⟨Nat.lt_of_lt_of_le (hX k hk) hb.size,λhm=> ?_⟩,⟨qJ.nil,⟨rfl,λx hx=>by obtain rfl:=(List.mem_replicate.1 hx).2;exact yc.nil _ _⟩,qJ.nil,qJ.nil,qJ.nil⟩⟩;unfold zu.blks at hm;obtain⟨y,hy,a0⟩:=xc.1 hm;simp only[List.mem_cons,jw,or_false] at hy;have hq:zj q.a=some k->False:=λe=>by
  have h1:=(zy ho k e).1;have:=hX k hk;omega
 rcases hy with rfl|rfl|rfl|rfl|rfl|rfl|rfl|rfl<;>first|exact hq a0|cases a0
def xB (p:Pg) (a b c d e:Nat):zp:=⟨(p.threads.take a).map λ_=>0,(p.threads.take a).map λt=>if t.length=0 then 3 else 0,(p.sems.take b).map λn=>⟨n,n,[]⟩,List.replicate 3 zH,(p.groups.take c).map λn=>⟨n,[]⟩,(p.barriers.take d).map λn=>⟨n,0,[]⟩,(p.rooms.take e).map λn=>⟨n,[],[],[],false⟩,[],0⟩
theorem gl (p:Pg):xB p p.threads.length p.sems.length p.groups.length p.barriers.length p.rooms.length=zI p:=by unfold xB zI;simp only[List.take_length]
abbrev QQ (w:World) (G:Nat) (V:zu) (u:PV):List It:=[.blk G (yN V) 38,.blk (w.heap.size+1) zC 38,.blk w.heap.size (zF u) 26]
theorem Yh {β:Type} (g:α->β) (l:List α) (d:α) (hj:j<l.length):(l.take (j+1)).map g=(l.take j).map g++[g (l.getD j d)]:=by rw[<-xQ l d hj,vQ];rfl
theorem gf (u:PV) (p:Pg) (w:World) (hp:yK w u p) (hv:zD p=true):
  Calls Tryz.prog 105 #[.agg (zF u)] w λe w'=>∃(v:zu) (L:zQ),e= .returned (.tuple #[v.val,.bool true])/\yr [] w.heap.size w' v L (zI p)/\yz w.heap.size L/\xW w w':=by
 obtain⟨i0,o0,p0,q0,r0⟩:=info_parts VM;have HP:=zd hp;have HV:=zd hv;have HZ:=zd (vx hv hp);have m0:=yf hv;have VS:=zd m0;have n1:u.nt<=4:=by rw[<-hp.lt];omega
 have n2:u.ns<=3:=by rw[<-hp.ls];omega
 have n3:u.ng<=3:=by rw[<-hp.lg];omega
 have n4:u.nb<=3:=by rw[<-hp.lb];omega
 have n5:u.nr<=3:=by rw[<-hp.lr];omega
 clear hp hv m0;have F:=((Fr.start w).alloc (zF u) 26).alloc zC 38;simp only[yY] at F;have cp:=F.c5 1 rfl;go_enter Tryz.func105,Tryz.ntmps105;go_wp2_with fail;refine(Yo u p _ (HP.o.below F.bel) HZ.o).mono ?_;rintro e w1 ⟨rfl,hb⟩;replace F:=F.call hb;replace cp:=F.c5 1 rfl;clear hb;rw[HV.o];clear cp;go_upto_region 4 with (refine wpList_make_full _ rfl _ _ 33 rfl _ 81 i0 _ 4 Tryz.underlying33 o0 p0 q0 _ _ _ _ 3 rfl rfl rfl rfl (by rw[r0];omega) (by unfold maxLen;omega) yk ?_;intro w2 f0 g0)
 have k0:(madeCells (Value.agg #[uy 0,uy 0,uy 0,uk]).cells (3*4)).toList=z12:=by kernel_rfl
 rw[k0] at f0;have h0:=(Sf.fresh (q:=⟨some ⟨w1.heap.size,0,none⟩,3,3⟩) F (zG g0 yk jv) f0 rfl).alloc #[uk,uk,uk,.slice (some ⟨w1.heap.size,0,none⟩) 3 3,uk,uk,uk,uk,uy 0] 38;obtain⟨G,hG⟩:=jy w2.heap.size;obtain⟨wz,hw,h⟩:=h0.named;rw[<-hw];rw[<-hG] at h⊢;replace h:Sf w wz (QQ w G (Dz ⟨some ⟨w1.heap.size,0,none⟩,3,3⟩) u) (Dz ⟨some ⟨w1.heap.size,0,none⟩,3,3⟩) dd (xB p 0 0 0 0 0):=h;clear hw hG k0 f0 g0 h0 F;have HN:=yz.start w.heap.size;have cp:=h.c5 2 rfl;go_wp2;clear cp
 go_loopw [25] (λi wr=>∃(k:Nat) (V:zu),k<=u.nt/\i=uy k/\Sf w wr (QQ w G V u) V dd (xB p k 0 0 0 0)) (λi _=>u.nt-(intOf i).toNat)
 case atStart=>exact⟨0,_,jq,rfl,h⟩
 case round=>
  clear h;obtain⟨k,V,hk,rfl,h⟩:=hrel;by_cases b0:k<u.nt
  ·have a0:k<p.threads.length:=by rw[HP.o.lt];exact b0
   obtain⟨bt,ot,et,l0⟩:=HP.o.thr jq;obtain⟨a2,c2,ct,r2⟩:=l0 k a0;obtain⟨t,ht⟩:=jy (p.threads.getD k []);rw[<-ht] at ct;have c0:uH (xB p (k+1) 0 0 0 0={xB p k 0 0 0 0 with places:=(xB p k 0 0 0 0).places++[0],status:=(xB p k 0 0 0 0).status++[if t.length=0 then 3 else 0]}):=zd (by unfold xB;rw[Yh _ p.threads [] a0,Yh _ p.threads [] a0,<-ht]);replace ct:=ze h.bel ct;have d0:uH (V.pl.n=k/\V.st.n=k):=zd ⟨by rw[h.st.npl];show((p.threads.take k).map _).length=k;rw[yG,jO];omega,by rw[h.st.nst];show((p.threads.take k).map _).length=k;rw[yG,jO];omega⟩;obtain⟨m,hm⟩:=jy t.length;rw[<-hm] at ct c0;have h2:=h.alloc #[uy 0] 3;have co:=h.c9 0 rfl;clear l0 r2 a0 ht hm;go_upto_region 7 with fail;clear et;go_upto_region 8 with (at_builtin;refine h2.app_pl rfl _ _ rfl rfl rfl (Rd.of_blk (h2.fr.blk 0 rfl)) (jQ d0.out) ?_;intro r W5 h5;have co:=h5.c9 1 rfl;have h6:=(h5.set 1 rfl 0 r.val).sub (l':=QQ w G {V with pl:=r} u) (.cons _ (.refl _)))
   obtain⟨W6,n0,h7⟩:=h6.named;rw[<-n0];clear n0 h6 h5 co h2 h ct;rcases Nat.eq_zero_or_pos m with rfl|s0
   ·have h8:=h7.alloc #[uy 3] 3;have co:=h7.c9 0 rfl;go_wp2_with (at_builtin;refine h8.app_st rfl _ _ rfl rfl rfl (Rd.of_blk (h8.fr.blk 0 rfl)) (by have:=d0.out;show V.st.n+1<=_;omega) ?_;intro r' W5 h5;have co:=h5.c9 1 rfl;have h6:=(h5.set 1 rfl 1 r'.val).sub (l':=QQ w G {V with pl:=r,st:=r'} u) (.cons _ (.refl _)))
    go_roundw
    case rel=>exact⟨k+1,_,jq,by go_num,by rw[c0.out,if_pos rfl];exact h6⟩
    case measure=>exact uq
   ·have h8:=h7.alloc #[uy 0] 3;have co:=h7.c9 0 rfl;go_wp2_with (at_builtin;refine h8.app_st rfl _ _ rfl rfl rfl (Rd.of_blk (h8.fr.blk 0 rfl)) (by have:=d0.out;show V.st.n+1<=_;omega) ?_;intro r' W5 h5;have co:=h5.c9 1 rfl;have h6:=(h5.set 1 rfl 1 r'.val).sub (l':=QQ w G {V with pl:=r,st:=r'} u) (.cons _ (.refl _)))
    go_roundw
    case rel=>exact⟨k+1,_,jq,by go_num,by rw[c0.out,if_neg jq];exact h6⟩
    case measure=>exact uq
  ·obtain rfl:k=u.nt:=jq;clear b0 hk;have HN:=yz.start w.heap.size;have cp:=h.c5 2 rfl;go_wp2;clear cp
   go_loopw [47] (λi wr=>∃(k:Nat) (V:zu) (L:zQ),k<=u.ns/\i=uy k/\Sf w wr (QQ w G V u) V L (xB p u.nt k 0 0 0)/\yz w.heap.size L) (λi _=>u.ns-(intOf i).toNat)
   case atStart=>exact⟨0,_,_,jq,rfl,h,HN⟩
   case round=>
    clear h HN;obtain⟨k,V,L,hk,rfl,h,HN⟩:=hrel;by_cases b0:k<u.ns
    ·have a0:k<p.sems.length:=by rw[HP.o.ls];exact b0
     obtain⟨b1,o1,e1,g'⟩:=HP.o.rs.int jq;have g1:=g' k a0;obtain⟨x0,hx⟩:=jy (p.sems.getD k 0);rw[<-hx] at g1;have c0:uH ((xB p u.nt (k+1) 0 0 0)={(xB p u.nt k 0 0 0) with sems:=(xB p u.nt k 0 0 0).sems++[⟨x0,x0,[]⟩]}):=zd (by unfold xB;rw[Yh _ p.sems 0 a0,<-hx]);replace g1:=ze h.bel g1;have d0:uH (V.se.n=k):=zd (by rw[h.st.nse];show((p.sems.take k).map _).length=k;rw[yG,jO];omega);have h2:=h.alloc #[uy x0,uy x0,uk] 74;have co:=h.c9 0 rfl;clear g' a0 hx;go_upto_region 16 with fail;clear e1;go_wp2_with (at_builtin;refine h2.app_se (x:=⟨x0,x0,[]⟩) (q:=zR) rfl _ _ rfl rfl rfl (Rd.of_blk (h2.fr.blk 0 rfl)) (yc.nil _ _) (jQ d0.out) ?_;intro r W5 h5;have co:=h5.c9 1 rfl;have h6:=(h5.set 1 rfl 2 r.val).sub (l':=QQ w G {V with se:=r} u) (.cons _ (.refl _)))
     go_roundw
     case rel=>exact⟨k+1,_,_,jq,by go_num,by rw[c0.out];exact h6,HN.se1 (.inl rfl)⟩
     case measure=>exact uq
    ·obtain rfl:k=u.ns:=jq;clear b0 hk;have cp:=h.c5 2 rfl;go_wp2;clear cp
     go_loopw [63] (λi wr=>∃(k:Nat) (V:zu) (L:zQ),k<=u.ng/\i=uy k/\Sf w wr (QQ w G V u) V L (xB p u.nt u.ns k 0 0)/\yz w.heap.size L) (λi _=>u.ng-(intOf i).toNat)
     case atStart=>exact⟨0,_,_,jq,rfl,h,HN⟩
     case round=>
      clear h HN;obtain⟨k,V,L,hk,rfl,h,HN⟩:=hrel;by_cases b0:k<u.ng
      ·have a0:k<p.groups.length:=by rw[HP.o.lg];exact b0
       obtain⟨b1,o1,e1,g'⟩:=HP.o.rg.int jq;have g1:=g' k a0;obtain⟨x0,hx⟩:=jy (p.groups.getD k 0);rw[<-hx] at g1;have c0:uH ((xB p u.nt u.ns (k+1) 0 0)={(xB p u.nt u.ns k 0 0) with groups:=(xB p u.nt u.ns k 0 0).groups++[⟨x0,[]⟩]}):=zd (by unfold xB;rw[Yh _ p.groups 0 a0,<-hx]);replace g1:=ze h.bel g1;have d0:uH (V.gr.n=k):=zd (by rw[h.st.ngr];show((p.groups.take k).map _).length=k;rw[yG,jO];omega);have h2:=h.alloc #[uy x0,uk] 87;have co:=h.c9 0 rfl;clear g' a0 hx;go_upto_region 21 with fail;clear e1;go_wp2_with (at_builtin;refine h2.app_gr (x:=⟨x0,[]⟩) (q:=zR) rfl _ _ rfl rfl rfl (Rd.of_blk (h2.fr.blk 0 rfl)) (yc.nil _ _) (jQ d0.out) ?_;intro r W5 h5;have co:=h5.c9 1 rfl;have h6:=(h5.set 1 rfl 4 r.val).sub (l':=QQ w G {V with gr:=r} u) (.cons _ (.refl _)))
       go_roundw
       case rel=>exact⟨k+1,_,_,jq,by go_num,by rw[c0.out];exact h6,HN.gr1 (.inl rfl)⟩
       case measure=>exact uq
      ·obtain rfl:k=u.ng:=jq;clear b0 hk;have cp:=h.c5 2 rfl;go_wp2;clear cp
       go_loopw [78] (λi wr=>∃(k:Nat) (V:zu) (L:zQ),k<=u.nb/\i=uy k/\Sf w wr (QQ w G V u) V L (xB p u.nt u.ns u.ng k 0)/\yz w.heap.size L) (λi _=>u.nb-(intOf i).toNat)
       case atStart=>exact⟨0,_,_,jq,rfl,h,HN⟩
       case round=>
        clear h HN;obtain⟨k,V,L,hk,rfl,h,HN⟩:=hrel;by_cases b0:k<u.nb
        ·have a0:k<p.barriers.length:=by rw[HP.o.lb];exact b0
         obtain⟨b1,o1,e1,g'⟩:=HP.o.rb.int jq;have g1:=g' k a0;obtain⟨x0,hx⟩:=jy (p.barriers.getD k 0);rw[<-hx] at g1;have c0:uH ((xB p u.nt u.ns u.ng (k+1) 0)={(xB p u.nt u.ns u.ng k 0) with bars:=(xB p u.nt u.ns u.ng k 0).bars++[⟨x0,0,[]⟩]}):=zd (by unfold xB;rw[Yh _ p.barriers 0 a0,<-hx]);replace g1:=ze h.bel g1;have d0:uH (V.ba.n=k):=zd (by rw[h.st.nba];show((p.barriers.take k).map _).length=k;rw[yG,jO];omega);have h2:=h.alloc #[uy x0,uy 0,uk] 93;have co:=h.c9 0 rfl;clear g' a0 hx;go_upto_region 26 with fail;clear e1;go_wp2_with (at_builtin;refine h2.app_ba (x:=⟨x0,0,[]⟩) (q:=zR) rfl _ _ rfl rfl rfl (Rd.of_blk (h2.fr.blk 0 rfl)) (yc.nil _ _) (jQ d0.out) ?_;intro r W5 h5;have co:=h5.c9 1 rfl;have h6:=(h5.set 1 rfl 5 r.val).sub (l':=QQ w G {V with ba:=r} u) (.cons _ (.refl _)))
         go_roundw
         case rel=>exact⟨k+1,_,_,jq,by go_num,by rw[c0.out];exact h6,HN.ba1 (.inl rfl)⟩
         case measure=>exact uq
        ·obtain rfl:k=u.nb:=jq;clear b0 hk;have cp:=h.c5 2 rfl;go_wp2;clear cp
         go_loopw [93] (λi wr=>∃(k:Nat) (V:zu) (L:zQ),k<=u.nr/\i=uy k/\Sf w wr (QQ w G V u) V L (xB p u.nt u.ns u.ng u.nb k)/\yz w.heap.size L) (λi _=>u.nr-(intOf i).toNat)
         case atStart=>exact⟨0,_,_,jq,rfl,h,HN⟩
         case round=>
          clear h HN;obtain⟨k,V,L,hk,rfl,h,HN⟩:=hrel;by_cases b0:k<u.nr
          ·have a0:k<p.rooms.length:=by rw[HP.o.lr];exact b0
           obtain⟨b1,o1,e1,g'⟩:=HP.o.rr.int jq;have g1:=g' k a0;obtain⟨x0,hx⟩:=jy (p.rooms.getD k 0);rw[<-hx] at g1;have c0:uH ((xB p u.nt u.ns u.ng u.nb (k+1))={(xB p u.nt u.ns u.ng u.nb k) with chans:=(xB p u.nt u.ns u.ng u.nb k).chans++[⟨x0,[],[],[],false⟩]}):=zd (by unfold xB;rw[Yh _ p.rooms 0 a0,<-hx]);replace g1:=ze h.bel g1;have d0:uH (V.ch.n=k):=zd (by rw[h.st.nch];show((p.rooms.take k).map _).length=k;rw[yG,jO];omega);have h2:=h.alloc #[uy x0,uk,uk,uk,.bool false] 98;have co:=h.c9 0 rfl;clear g' a0 hx;go_upto_region 31 with fail;clear e1;go_wp2_with (at_builtin;refine h2.app_ch (x:=⟨x0,[],[],[],false⟩) (q:=(zR,zR,zR)) rfl _ _ rfl rfl rfl (Rd.of_blk (h2.fr.blk 0 rfl)) ⟨yc.nil _ _,yc.nil _ _,yc.nil _ _⟩ (jQ d0.out) ?_;intro r W5 h5;have co:=h5.c9 1 rfl;have h6:=(h5.set 1 rfl 6 r.val).sub (l':=QQ w G {V with ch:=r} u) (.cons _ (.refl _)))
           go_roundw
           case rel=>exact⟨k+1,_,_,jq,by go_num,by rw[c0.out];exact h6,HN.ch1 ⟨.inl rfl,.inl rfl,.inl rfl⟩⟩
           case measure=>exact uq
          ·obtain rfl:k=u.nr:=jq;clear b0 hk;have j0:xB p u.nt u.ns u.ng u.nb u.nr=zI p:=by rw[<-HP.o.lt,<-HP.o.ls,<-HP.o.lg,<-HP.o.lb,<-HP.o.lr];exact gl p
           rw[j0] at h;have co:=h.c9 0 rfl;have cr:=h.c9 1 rfl;have h7:=h.setV 1 rfl V;go_wp2;exact zM (v:= .tuple #[V.val,.bool true]) (by simp[results,Tryz.results105,go_sem,h7.c9 1 rfl]) rfl ⟨V,L,rfl,h7.st.sub jv,HN,h7.bel⟩
theorem tW (u:PV) (p:Pg) (w:World) (hp:yK w u p) (hz:xH u p) (hv:zD p=false):
  Calls Tryz.prog 105 #[.agg (zF u)] w λe w'=>e= .returned (.tuple #[.agg zC,.bool false])/\xW w w':=by
 have HP:=zd hp;have HV:=zd hv;have HZ:=zd hz;clear hp hv hz;have F:=((Fr.start w).alloc (zF u) 26).alloc zC 38;simp only[yY] at F;have cp:=F.c5 1 rfl;have cz:=F.c9 0 rfl;go_enter Tryz.func105,Tryz.ntmps105;go_wp2_with fail;refine(Yo u p _ (HP.o.below F.bel) HZ.o).mono ?_;rintro e w1 ⟨rfl,hb⟩;replace F:=F.call hb;replace cp:=F.c5 1 rfl;replace cz:=F.c9 0 rfl;clear hb;rw[HV.o];clear cp;have F2:=F.setZ 0 rfl;go_wp2;exact zM (v:= .tuple #[.agg zC,.bool false]) (by simp[results,Tryz.results105,go_sem,F2.c9 0 rfl]) rfl ⟨rfl,F2.bel⟩
end Go.Proofs.YtfclolgfegdfjaaGreat
