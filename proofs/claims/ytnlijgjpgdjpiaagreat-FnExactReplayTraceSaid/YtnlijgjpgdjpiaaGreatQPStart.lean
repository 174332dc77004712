/- Part of a proof: Sf2 IStart. -/
import Derived.Test.YtnlijgjpgdjpiaaGreatQPIFit
set_option maxRecDepth 100000
set_option maxHeartbeats 16000000
namespace Go.Proofs.YtnlijgjpgdjpiaaGreat
open Go.RowKit
theorem StO.push_pl {X:List Nat} {B:Nat} {w w':World} {v:StV} {L:StL} {s:StD} (h:StO X B w v L s) {r:SlV} (G:w.grownBy w' (ze v.pl.a)) (hn:∀k,ze r.a=some k->ze v.pl.a=some k\/w.heap.size<=k) {ps:List Int} (hl:r.n=ps.length) (ho:w'.ownsRow B 3 1 r.val r.n (ints ps)):StO X B w' {v with pl:=r} L {s with places:=ps}:=by
 have hB0:∀b∈StV.blks {v with pl:=r},b∈v.blks\/w.heap.size<=b:=by
  intro b hm;unfold StV.blks at hm⊢;obtain⟨y,hy,hyk⟩:=xDc.1 hm;simp only[List.mem_cons,xDm,or_false] at hy;rcases hy with rfl|rfl|rfl|rfl|rfl|rfl|rfl|rfl
  ·rcases hn b hyk with h1|h1
   ·exact .inl (xDc.2 ⟨v.pl.a,by simp,h1⟩)
   ·exact .inr h1
  ·exact .inl (xDc.2 ⟨_,by simp,hyk⟩)
  ·exact .inl (xDc.2 ⟨_,by simp,hyk⟩)
  ·exact .inl (xDc.2 ⟨_,by simp,hyk⟩)
  ·exact .inl (xDc.2 ⟨_,by simp,hyk⟩)
  ·exact .inl (xDc.2 ⟨_,by simp,hyk⟩)
  ·exact .inl (xDc.2 ⟨_,by simp,hyk⟩)
  ·exact .inl (xDc.2 ⟨_,by simp,hyk⟩)
 have hB:∀b∈X++StV.blks {v with pl:=r},b∈X++v.blks\/w.heap.size<=b:=by
  intro b hm;rcases xP1 hm with hm|hm
  ·exact .inl (xQ1 (.inl hm))
  ·exact(hB0 b hm).imp (λh=>xQ1 (.inr h)) id
 have hT:zi (X++v.blks) w w':=zi.of_grown G λk hk=>xQ1 (.inr (StV.mem_pl hk));have hX:∀k∈X,k<w'.heap.size/\k∉StV.blks {v with pl:=r}:=λk hk=>⟨Nat.lt_of_lt_of_le (h.xs k hk).1 G.size,λhm=>by
  rcases hB0 k hm with h1|h1
  ·exact(h.xs k hk).2 h1
  ·have:=(h.xs k hk).1;omega⟩
 refine⟨ho,hl,zo h.st G (λk hk hq=>h.dps k hq hk),h.nst,zo h.se G (λk hk hq=>zm h.se h.pl (by decide) _ hk hq),h.nse,zo h.on G (λk hk hq=>zm h.on h.pl (by decide) _ hk hq),h.non,zo h.gr G (λk hk hq=>zm h.gr h.pl (by decide) _ hk hq),h.ngr,zo h.ba G (λk hk hq=>zm h.ba h.pl (by decide) _ hk hq),h.nba,zo h.ch G (λk hk hq=>zm h.ch h.pl (by decide) _ hk hq),h.nch,zo h.sa G (λk hk hq=>h.dpa k hq hk),h.nsa,h.fl,?_,?_,h.dsa,hX,(h.inn.wide hT hB).to ⟨rfl,rfl,rfl,rfl,rfl⟩⟩
 ·intro k hk hq;rcases hn k hk with h1|h1
  ·exact h.dps k h1 hq
  ·have:=(zp h.st k hq).2;omega
 ·intro k hk hq;rcases hn k hk with h1|h1
  ·exact h.dpa k h1 hq
  ·have:=(zp h.sa k hq).2;omega
theorem StO.push_st {X:List Nat} {B:Nat} {w w':World} {v:StV} {L:StL} {s:StD} (h:StO X B w v L s) {r:SlV} (G:w.grownBy w' (ze v.st.a)) (hn:∀k,ze r.a=some k->ze v.st.a=some k\/w.heap.size<=k) {ps:List Int} (hl:r.n=ps.length) (ho:w'.ownsRow B 3 1 r.val r.n (ints ps)):StO X B w' {v with st:=r} L {s with status:=ps}:=by
 have hB0:∀b∈StV.blks {v with st:=r},b∈v.blks\/w.heap.size<=b:=by
  intro b hm;unfold StV.blks at hm⊢;obtain⟨y,hy,hyk⟩:=xDc.1 hm;simp only[List.mem_cons,xDm,or_false] at hy;rcases hy with rfl|rfl|rfl|rfl|rfl|rfl|rfl|rfl
  ·exact .inl (xDc.2 ⟨_,by simp,hyk⟩)
  ·rcases hn b hyk with h1|h1
   ·exact .inl (xDc.2 ⟨v.st.a,by simp,h1⟩)
   ·exact .inr h1
  ·exact .inl (xDc.2 ⟨_,by simp,hyk⟩)
  ·exact .inl (xDc.2 ⟨_,by simp,hyk⟩)
  ·exact .inl (xDc.2 ⟨_,by simp,hyk⟩)
  ·exact .inl (xDc.2 ⟨_,by simp,hyk⟩)
  ·exact .inl (xDc.2 ⟨_,by simp,hyk⟩)
  ·exact .inl (xDc.2 ⟨_,by simp,hyk⟩)
 have hB:∀b∈X++StV.blks {v with st:=r},b∈X++v.blks\/w.heap.size<=b:=by
  intro b hm;rcases xP1 hm with hm|hm
  ·exact .inl (xQ1 (.inl hm))
  ·exact(hB0 b hm).imp (λh=>xQ1 (.inr h)) id
 have hT:zi (X++v.blks) w w':=zi.of_grown G λk hk=>xQ1 (.inr (StV.mem_st hk));have hX:∀k∈X,k<w'.heap.size/\k∉StV.blks {v with st:=r}:=λk hk=>⟨Nat.lt_of_lt_of_le (h.xs k hk).1 G.size,λhm=>by
  rcases hB0 k hm with h1|h1
  ·exact(h.xs k hk).2 h1
  ·have:=(h.xs k hk).1;omega⟩
 refine⟨zo h.pl G (λk hk hq=>h.dps k hk hq),h.npl,ho,hl,zo h.se G (λk hk hq=>zm h.se h.st (by decide) _ hk hq),h.nse,zo h.on G (λk hk hq=>zm h.on h.st (by decide) _ hk hq),h.non,zo h.gr G (λk hk hq=>zm h.gr h.st (by decide) _ hk hq),h.ngr,zo h.ba G (λk hk hq=>zm h.ba h.st (by decide) _ hk hq),h.nba,zo h.ch G (λk hk hq=>zm h.ch h.st (by decide) _ hk hq),h.nch,zo h.sa G (λk hk hq=>h.dsa k hq hk),h.nsa,h.fl,?_,h.dpa,?_,hX,(h.inn.wide hT hB).to ⟨rfl,rfl,rfl,rfl,rfl⟩⟩
 ·intro k hk hq;rcases hn k hq with h1|h1
  ·exact h.dps k hk h1
  ·have:=(zp h.pl k hk).2;omega
 ·intro k hk hq;rcases hn k hk with h1|h1
  ·exact h.dsa k h1 hq
  ·have:=(zp h.sa k hq).2;omega
section
variable {w W:World} {l:List It} {v:StV} {L:StL} {s:StD} {ops:Array Oper} {rest:List Oper} {o:Oper} {ac:Act} {Q:Exit->Act->World->Prop}
theorem Sf.app_pl (h:Sf w W l v L s) (hgd:o.guard=none) (y z:Operand) (ho:o.op= .call {callee:= .builtin .append,args:= #[y,z],argTypes:= #[22,22]}) (hs:ac.eval y=v.pl.val) {a2:Option Addr} {c2:Nat} {x:Int} (hx:ac.eval z= .slice a2 1 c2) (hr:Rd W a2 (ints [x])) (hn:v.pl.n+1<=1048576)
  (K:∀(r:SlV) W',Sf w W' l {v with pl:=r} L {s with places:=s.places++[x]}->wpList Tryz.prog ops Q rest (ac.put o.dst r.val) W'):wpList Tryz.prog ops Q (o::rest) ac W:=
 zad hgd y z _ ho Tryz.underlying22 zM rfl (by decide) hs h.st.pl hx rfl hr (zaa [x]) (by omega) (by decide) h.fr.bel.size λa' c' W' ho' hg hn'=>
  K ⟨a',v.pl.n+1,c'⟩ W' (h.upd (zi.of_grown hg λk hk=>StV.mem_pl hk) (h.st.push_pl hg hn' (by show v.pl.n+1=_;rw[xDh,h.st.npl];rfl) (by rw[zaw];exact ho')))
theorem Sf.app_st (h:Sf w W l v L s) (hgd:o.guard=none) (y z:Operand) (ho:o.op= .call {callee:= .builtin .append,args:= #[y,z],argTypes:= #[22,22]}) (hs:ac.eval y=v.st.val) {a2:Option Addr} {c2:Nat} {x:Int} (hx:ac.eval z= .slice a2 1 c2) (hr:Rd W a2 (ints [x])) (hn:v.st.n+1<=1048576)
  (K:∀(r:SlV) W',Sf w W' l {v with st:=r} L {s with status:=s.status++[x]}->wpList Tryz.prog ops Q rest (ac.put o.dst r.val) W'):wpList Tryz.prog ops Q (o::rest) ac W:=
 zad hgd y z _ ho Tryz.underlying22 zM rfl (by decide) hs h.st.st hx rfl hr (zaa [x]) (by omega) (by decide) h.fr.bel.size λa' c' W' ho' hg hn'=>
  K ⟨a',v.st.n+1,c'⟩ W' (h.upd (zi.of_grown hg λk hk=>StV.mem_st hk) (h.st.push_st hg hn' (by show v.st.n+1=_;rw[xDh,h.st.nst];rfl) (by rw[zaw];exact ho')))
end
def z12:List Value:=[.int .i64 0,.int .i64 0,.int .i64 0,.slice none 0 0,.int .i64 0,.int .i64 0,.int .i64 0,.slice none 0 0,.int .i64 0,.int .i64 0,.int .i64 0,.slice none 0 0]
abbrev stV0 (q:SlV):StV:=⟨nilV,nilV,nilV,q,nilV,nilV,nilV,nilV,0⟩
abbrev stL0:StL:=⟨[],List.replicate 3 (zq,nilV),[],[],[]⟩
abbrev stD0:StD:=⟨[],[],[],List.replicate 3 zq,[],[],[],[],0⟩
theorem NewB.start (B:Nat):NewB B stL0:=⟨by simp,λz hz=>by obtain rfl:=(List.mem_replicate.1 hz).2;exact .inl rfl,by simp,by simp,by simp⟩
theorem Sf.fresh {w W W':World} {l:List It} {q:SlV} (F:Fr w W l) (hb:xW W W') (ho:W'.ownsRow W.heap.size 78 4 q.val q.n z12) (h3:q.n=3):Sf w W' l (stV0 q) stL0 stD0:=by
 have hX:∀k∈zv l,k<W.heap.size:=λk hk=>(F.inside k hk).2;have hz:(List.replicate 3 (zq,nilV)).flatMap zbo=z12:=rfl;refine⟨F.call hb,xDi _ _ _ _,rfl,xDi _ _ _ _,rfl,xDi _ _ _ _,rfl,by rw[hz];exact zl ho F.bel.size,h3,xDi _ _ _ _,rfl,xDi _ _ _ _,rfl,xDi _ _ _ _,rfl,xDi _ _ _ _,rfl,rfl,λk hk=>(by cases hk),λk hk=>(by cases hk),λk hk=>(by cases hk),λk hk=>⟨Nat.lt_of_lt_of_le (hX k hk) hb.size,λhm=> ?_⟩,⟨InL.nil,⟨rfl,λx hx=>by obtain rfl:=(List.mem_replicate.1 hx).2;exact SlR.nil _ _⟩,InL.nil,InL.nil,InL.nil⟩⟩;unfold StV.blks at hm;obtain⟨y,hy,hyk⟩:=xDc.1 hm;simp only[List.mem_cons,xDm,or_false] at hy;have hq:ze q.a=some k->False:=λe=>by
  have h1:=(zp ho k e).1;have:=hX k hk;omega
 rcases hy with rfl|rfl|rfl|rfl|rfl|rfl|rfl|rfl<;>first|exact hq hyk|cases hyk
def zam (p:Pg) (a b c d e:Nat):StD:=⟨(p.threads.take a).map λ_=>0,(p.threads.take a).map λt=>if t.length=0 then 3 else 0,(p.sems.take b).map λn=>⟨n,n,[]⟩,List.replicate 3 zq,(p.groups.take c).map λn=>⟨n,[]⟩,(p.barriers.take d).map λn=>⟨n,0,[]⟩,(p.rooms.take e).map λn=>⟨n,[],[],[],false⟩,[],0⟩
theorem ziN (p:Pg):zam p p.threads.length p.sems.length p.groups.length p.barriers.length p.rooms.length=zae p:=by unfold zam zae;simp only[List.take_length]
abbrev bs3 (w:World) (G:Nat) (V:StV) (u:PV):List It:=[.blk G (svC V) 33,.blk (w.heap.size+1) zC 33,.blk w.heap.size (pvC u) 40]
theorem zcE {α β:Type} (g:α->β) (l:List α) (d:α) {j:Nat} (hj:j<l.length):(l.take (j+1)).map g=(l.take j).map g++[g (l.getD j d)]:=by rw[<-zas l d hj,xDr];rfl
theorem zhY (u:PV) (p:Pg) (w:World) (hp:RdP w u p) (hv:zu p=true):
  Calls Tryz.prog 59 #[.agg (pvC u)] w λe w'=>∃(v:StV) (L:StL),e= .returned (.tuple #[v.val,.bool true])/\StO [] w.heap.size w' v L (zae p)/\NewB w.heap.size L/\xW w w':=by
 obtain⟨i0,hi0,hz0,hz1,hz2⟩:=info_parts zff;have HP:=xH1 hp;have HV:=xH1 hv;have HZ:=xH1 (zbK hv hp);have hvs:=zR hv;have VS:=xH1 hvs;have n1:u.nt<=4:=by rw[<-hp.lt];omega
 have n2:u.ns<=3:=by rw[<-hp.ls];omega
 have n3:u.ng<=3:=by rw[<-hp.lg];omega
 have n4:u.nb<=3:=by rw[<-hp.lb];omega
 have n5:u.nr<=3:=by rw[<-hp.lr];omega
 clear hp hv hvs;have F:=((Fr.start w).alloc (pvC u) 40).alloc zC 33;simp only[xDe] at F;have cp:=F.c5 1 rfl;go_enter Tryz.func59,Tryz.ntmps59;go_wp2_with fail;refine(zcN u p _ (HP.out.below F.bel) HZ.out).mono ?_;rintro e w1 ⟨rfl,hb⟩;replace F:=F.call hb;replace cp:=F.c5 1 rfl;clear hb;rw[HV.out];clear cp;go_upto_region 4 with (refine wpList_make_full _ rfl _ _ 28 rfl _ 78 i0 _ 4 Tryz.underlying28 hi0 hz0 hz1 _ _ _ _ 3 rfl rfl rfl rfl (by rw[hz2];omega) (by unfold maxLen;omega) xL1 ?_;intro w2 hown1 hgr1)
 have hmk:(madeCells (Value.agg #[.int .i64 0,.int .i64 0,.int .i64 0,.slice none 0 0]).cells (3*4)).toList=z12:=by kernel_rfl
 rw[hmk] at hown1;have h0:=(Sf.fresh (q:=⟨some ⟨w1.heap.size,0,none⟩,3,3⟩) F (zA hgr1 xL1 (by simp)) hown1 rfl).alloc #[.slice none 0 0,.slice none 0 0,.slice none 0 0,.slice (some ⟨w1.heap.size,0,none⟩) 3 3,.slice none 0 0,.slice none 0 0,.slice none 0 0,.slice none 0 0,.int .i64 0] 33;obtain⟨G,hG⟩:∃g,g=w2.heap.size:=⟨_,rfl⟩
 obtain⟨wz,hw,h⟩:=h0.named;rw[<-hw];rw[<-hG] at h⊢;replace h:Sf w wz (bs3 w G (stV0 ⟨some ⟨w1.heap.size,0,none⟩,3,3⟩) u) (stV0 ⟨some ⟨w1.heap.size,0,none⟩,3,3⟩) stL0 (zam p 0 0 0 0 0):=h;clear hw hG hmk hown1 hgr1 h0 F;have HN:=NewB.start w.heap.size;have cp:=h.c5 2 rfl;go_wp2;clear cp
 go_loopw [25] (λi wr=>∃(k:Nat) (V:StV),k<=u.nt/\i= .int .i64 k/\Sf w wr (bs3 w G V u) V stL0 (zam p k 0 0 0 0)) (λi _=>u.nt-(intOf i).toNat)
 case atStart=>exact⟨0,_,by omega,rfl,h⟩
 case round=>
  clear h;obtain⟨k,V,hk,rfl,h⟩:=hrel;by_cases hlt:k<u.nt
  ·have hkp:k<p.threads.length:=by rw[HP.out.lt];exact hlt
   obtain⟨bt,ot,et,hth⟩:=HP.out.thr (by omega);obtain⟨a2,c2,ct,r2⟩:=hth k hkp;obtain⟨t,ht⟩:∃t,t=p.threads.getD k []:=⟨_,rfl⟩
   rw[<-ht] at ct;have HPK:Hid (zam p (k+1) 0 0 0 0={zam p k 0 0 0 0 with places:=(zam p k 0 0 0 0).places++[0],status:=(zam p k 0 0 0 0).status++[if t.length=0 then 3 else 0]}):=xH1 (by unfold zam;rw[zcE _ p.threads [] hkp,zcE _ p.threads [] hkp,<-ht]);replace ct:=zd h.bel ct;have HVN:Hid (V.pl.n=k/\V.st.n=k):=xH1 ⟨by rw[h.st.npl];show((p.threads.take k).map _).length=k;rw[xDf,xDp];omega,by rw[h.st.nst];show((p.threads.take k).map _).length=k;rw[xDf,xDp];omega⟩;obtain⟨m,hm⟩:∃m,m=t.length:=⟨_,rfl⟩
   rw[<-hm] at ct HPK;have h2:=h.alloc #[.int .i64 0] 3;have co:=h.c9 0 rfl;clear hth r2 hkp ht hm;go_upto_region 7 with fail;clear et;go_upto_region 8 with (at_builtin;refine h2.app_pl rfl _ _ rfl rfl rfl (Rd.of_blk (h2.fr.blk 0 rfl)) (by have:=HVN.out;omega) ?_;intro r W5 h5;have co:=h5.c9 1 rfl;have h6:=(h5.set 1 rfl 0 r.val).sub (l':=bs3 w G {V with pl:=r} u) (.cons _ (.refl _)))
   obtain⟨W6,hw6,h7⟩:=h6.named;rw[<-hw6];clear hw6 h6 h5 co h2 h ct;rcases Nat.eq_zero_or_pos m with rfl|hm0
   ·have h8:=h7.alloc #[.int .i64 3] 3;have co:=h7.c9 0 rfl;go_wp2_with (at_builtin;refine h8.app_st rfl _ _ rfl rfl rfl (Rd.of_blk (h8.fr.blk 0 rfl)) (by have:=HVN.out;show V.st.n+1<=_;omega) ?_;intro r' W5 h5;have co:=h5.c9 1 rfl;have h6:=(h5.set 1 rfl 1 r'.val).sub (l':=bs3 w G {V with pl:=r,st:=r'} u) (.cons _ (.refl _)))
    go_roundw
    case rel=>exact⟨k+1,_,by omega,by go_num,by rw[HPK.out,if_pos rfl];exact h6⟩
    case measure=>simp[intOf];omega
   ·have h8:=h7.alloc #[.int .i64 0] 3;have co:=h7.c9 0 rfl;go_wp2_with (at_builtin;refine h8.app_st rfl _ _ rfl rfl rfl (Rd.of_blk (h8.fr.blk 0 rfl)) (by have:=HVN.out;show V.st.n+1<=_;omega) ?_;intro r' W5 h5;have co:=h5.c9 1 rfl;have h6:=(h5.set 1 rfl 1 r'.val).sub (l':=bs3 w G {V with pl:=r,st:=r'} u) (.cons _ (.refl _)))
    go_roundw
    case rel=>exact⟨k+1,_,by omega,by go_num,by rw[HPK.out,if_neg (by omega)];exact h6⟩
    case measure=>simp[intOf];omega
  ·obtain rfl:k=u.nt:=by omega
   clear hlt hk;have HN:=NewB.start w.heap.size;have cp:=h.c5 2 rfl;go_wp2;clear cp
   go_loopw [47] (λi wr=>∃(k:Nat) (V:StV) (L:StL),k<=u.ns/\i= .int .i64 k/\Sf w wr (bs3 w G V u) V L (zam p u.nt k 0 0 0)/\NewB w.heap.size L) (λi _=>u.ns-(intOf i).toNat)
   case atStart=>exact⟨0,_,_,by omega,rfl,h,HN⟩
   case round=>
    clear h HN;obtain⟨k,V,L,hk,rfl,h,HN⟩:=hrel;by_cases hlt:k<u.ns
    ·have hkp:k<p.sems.length:=by rw[HP.out.ls];exact hlt
     obtain⟨b1,o1,e1,g'⟩:=HP.out.rs.int (by omega);have g1:=g' k hkp;obtain⟨x0,hx⟩:∃x,x=p.sems.getD k 0:=⟨_,rfl⟩
     rw[<-hx] at g1;have HPK:Hid ((zam p u.nt (k+1) 0 0 0)={(zam p u.nt k 0 0 0) with sems:=(zam p u.nt k 0 0 0).sems++[⟨x0,x0,[]⟩]}):=xH1 (by unfold zam;rw[zcE _ p.sems 0 hkp,<-hx]);replace g1:=zd h.bel g1;have HVN:Hid (V.se.n=k):=xH1 (by rw[h.st.nse];show((p.sems.take k).map _).length=k;rw[xDf,xDp];omega);have h2:=h.alloc #[.int .i64 x0,.int .i64 x0,.slice none 0 0] 74;have co:=h.c9 0 rfl;clear g' hkp hx;go_upto_region 16 with fail;clear e1;go_wp2_with (at_builtin;refine h2.app_se (x:=⟨x0,x0,[]⟩) (q:=nilV) rfl _ _ rfl rfl rfl (Rd.of_blk (h2.fr.blk 0 rfl)) (SlR.nil _ _) (by have:=HVN.out;omega) ?_;intro r W5 h5;have co:=h5.c9 1 rfl;have h6:=(h5.set 1 rfl 2 r.val).sub (l':=bs3 w G {V with se:=r} u) (.cons _ (.refl _)))
     go_roundw
     case rel=>exact⟨k+1,_,_,by omega,by go_num,by rw[HPK.out];exact h6,HN.se1 (.inl rfl)⟩
     case measure=>simp[intOf];omega
    ·obtain rfl:k=u.ns:=by omega
     clear hlt hk;have cp:=h.c5 2 rfl;go_wp2;clear cp
     go_loopw [63] (λi wr=>∃(k:Nat) (V:StV) (L:StL),k<=u.ng/\i= .int .i64 k/\Sf w wr (bs3 w G V u) V L (zam p u.nt u.ns k 0 0)/\NewB w.heap.size L) (λi _=>u.ng-(intOf i).toNat)
     case atStart=>exact⟨0,_,_,by omega,rfl,h,HN⟩
     case round=>
      clear h HN;obtain⟨k,V,L,hk,rfl,h,HN⟩:=hrel;by_cases hlt:k<u.ng
      ·have hkp:k<p.groups.length:=by rw[HP.out.lg];exact hlt
       obtain⟨b1,o1,e1,g'⟩:=HP.out.rg.int (by omega);have g1:=g' k hkp;obtain⟨x0,hx⟩:∃x,x=p.groups.getD k 0:=⟨_,rfl⟩
       rw[<-hx] at g1;have HPK:Hid ((zam p u.nt u.ns (k+1) 0 0)={(zam p u.nt u.ns k 0 0) with groups:=(zam p u.nt u.ns k 0 0).groups++[⟨x0,[]⟩]}):=xH1 (by unfold zam;rw[zcE _ p.groups 0 hkp,<-hx]);replace g1:=zd h.bel g1;have HVN:Hid (V.gr.n=k):=xH1 (by rw[h.st.ngr];show((p.groups.take k).map _).length=k;rw[xDf,xDp];omega);have h2:=h.alloc #[.int .i64 x0,.slice none 0 0] 80;have co:=h.c9 0 rfl;clear g' hkp hx;go_upto_region 21 with fail;clear e1;go_wp2_with (at_builtin;refine h2.app_gr (x:=⟨x0,[]⟩) (q:=nilV) rfl _ _ rfl rfl rfl (Rd.of_blk (h2.fr.blk 0 rfl)) (SlR.nil _ _) (by have:=HVN.out;omega) ?_;intro r W5 h5;have co:=h5.c9 1 rfl;have h6:=(h5.set 1 rfl 4 r.val).sub (l':=bs3 w G {V with gr:=r} u) (.cons _ (.refl _)))
       go_roundw
       case rel=>exact⟨k+1,_,_,by omega,by go_num,by rw[HPK.out];exact h6,HN.gr1 (.inl rfl)⟩
       case measure=>simp[intOf];omega
      ·obtain rfl:k=u.ng:=by omega
       clear hlt hk;have cp:=h.c5 2 rfl;go_wp2;clear cp
       go_loopw [78] (λi wr=>∃(k:Nat) (V:StV) (L:StL),k<=u.nb/\i= .int .i64 k/\Sf w wr (bs3 w G V u) V L (zam p u.nt u.ns u.ng k 0)/\NewB w.heap.size L) (λi _=>u.nb-(intOf i).toNat)
       case atStart=>exact⟨0,_,_,by omega,rfl,h,HN⟩
       case round=>
        clear h HN;obtain⟨k,V,L,hk,rfl,h,HN⟩:=hrel;by_cases hlt:k<u.nb
        ·have hkp:k<p.barriers.length:=by rw[HP.out.lb];exact hlt
         obtain⟨b1,o1,e1,g'⟩:=HP.out.rb.int (by omega);have g1:=g' k hkp;obtain⟨x0,hx⟩:∃x,x=p.barriers.getD k 0:=⟨_,rfl⟩
         rw[<-hx] at g1;have HPK:Hid ((zam p u.nt u.ns u.ng (k+1) 0)={(zam p u.nt u.ns u.ng k 0) with bars:=(zam p u.nt u.ns u.ng k 0).bars++[⟨x0,0,[]⟩]}):=xH1 (by unfold zam;rw[zcE _ p.barriers 0 hkp,<-hx]);replace g1:=zd h.bel g1;have HVN:Hid (V.ba.n=k):=xH1 (by rw[h.st.nba];show((p.barriers.take k).map _).length=k;rw[xDf,xDp];omega);have h2:=h.alloc #[.int .i64 x0,.int .i64 0,.slice none 0 0] 82;have co:=h.c9 0 rfl;clear g' hkp hx;go_upto_region 26 with fail;clear e1;go_wp2_with (at_builtin;refine h2.app_ba (x:=⟨x0,0,[]⟩) (q:=nilV) rfl _ _ rfl rfl rfl (Rd.of_blk (h2.fr.blk 0 rfl)) (SlR.nil _ _) (by have:=HVN.out;omega) ?_;intro r W5 h5;have co:=h5.c9 1 rfl;have h6:=(h5.set 1 rfl 5 r.val).sub (l':=bs3 w G {V with ba:=r} u) (.cons _ (.refl _)))
         go_roundw
         case rel=>exact⟨k+1,_,_,by omega,by go_num,by rw[HPK.out];exact h6,HN.ba1 (.inl rfl)⟩
         case measure=>simp[intOf];omega
        ·obtain rfl:k=u.nb:=by omega
         clear hlt hk;have cp:=h.c5 2 rfl;go_wp2;clear cp
         go_loopw [93] (λi wr=>∃(k:Nat) (V:StV) (L:StL),k<=u.nr/\i= .int .i64 k/\Sf w wr (bs3 w G V u) V L (zam p u.nt u.ns u.ng u.nb k)/\NewB w.heap.size L) (λi _=>u.nr-(intOf i).toNat)
         case atStart=>exact⟨0,_,_,by omega,rfl,h,HN⟩
         case round=>
          clear h HN;obtain⟨k,V,L,hk,rfl,h,HN⟩:=hrel;by_cases hlt:k<u.nr
          ·have hkp:k<p.rooms.length:=by rw[HP.out.lr];exact hlt
           obtain⟨b1,o1,e1,g'⟩:=HP.out.rr.int (by omega);have g1:=g' k hkp;obtain⟨x0,hx⟩:∃x,x=p.rooms.getD k 0:=⟨_,rfl⟩
           rw[<-hx] at g1;have HPK:Hid ((zam p u.nt u.ns u.ng u.nb (k+1))={(zam p u.nt u.ns u.ng u.nb k) with chans:=(zam p u.nt u.ns u.ng u.nb k).chans++[⟨x0,[],[],[],false⟩]}):=xH1 (by unfold zam;rw[zcE _ p.rooms 0 hkp,<-hx]);replace g1:=zd h.bel g1;have HVN:Hid (V.ch.n=k):=xH1 (by rw[h.st.nch];show((p.rooms.take k).map _).length=k;rw[xDf,xDp];omega);have h2:=h.alloc #[.int .i64 x0,.slice none 0 0,.slice none 0 0,.slice none 0 0,.bool false] 87;have co:=h.c9 0 rfl;clear g' hkp hx;go_upto_region 31 with fail;clear e1;go_wp2_with (at_builtin;refine h2.app_ch (x:=⟨x0,[],[],[],false⟩) (q:=(nilV,nilV,nilV)) rfl _ _ rfl rfl rfl (Rd.of_blk (h2.fr.blk 0 rfl)) ⟨SlR.nil _ _,SlR.nil _ _,SlR.nil _ _⟩ (by have:=HVN.out;omega) ?_;intro r W5 h5;have co:=h5.c9 1 rfl;have h6:=(h5.set 1 rfl 6 r.val).sub (l':=bs3 w G {V with ch:=r} u) (.cons _ (.refl _)))
           go_roundw
           case rel=>exact⟨k+1,_,_,by omega,by go_num,by rw[HPK.out];exact h6,HN.ch1 ⟨.inl rfl,.inl rfl,.inl rfl⟩⟩
           case measure=>simp[intOf];omega
          ·obtain rfl:k=u.nr:=by omega
           clear hlt hk;have hall:zam p u.nt u.ns u.ng u.nb u.nr=zae p:=by rw[<-HP.out.lt,<-HP.out.ls,<-HP.out.lg,<-HP.out.lb,<-HP.out.lr];exact ziN p
           rw[hall] at h;have co:=h.c9 0 rfl;have cr:=h.c9 1 rfl;have h7:=h.setV 1 rfl V;go_wp2;exact xDd (v:= .tuple #[V.val,.bool true]) (by simp[results,Tryz.results59,go_sem,h7.c9 1 rfl]) rfl ⟨V,L,rfl,h7.st.sub (by simp),HN,h7.bel⟩
theorem zh3 (u:PV) (p:Pg) (w:World) (hp:RdP w u p) (hz:zbB u p) (hv:zu p=false):
  Calls Tryz.prog 59 #[.agg (pvC u)] w λe w'=>e= .returned (.tuple #[.agg zC,.bool false])/\xW w w':=by
 have HP:=xH1 hp;have HV:=xH1 hv;have HZ:=xH1 hz;clear hp hv hz;have F:=((Fr.start w).alloc (pvC u) 40).alloc zC 33;simp only[xDe] at F;have cp:=F.c5 1 rfl;have cz:=F.c9 0 rfl;go_enter Tryz.func59,Tryz.ntmps59;go_wp2_with fail;refine(zcN u p _ (HP.out.below F.bel) HZ.out).mono ?_;rintro e w1 ⟨rfl,hb⟩;replace F:=F.call hb;replace cp:=F.c5 1 rfl;replace cz:=F.c9 0 rfl;clear hb;rw[HV.out];clear cp;have F2:=F.setZ 0 rfl;go_wp2;exact xDd (v:= .tuple #[.agg zC,.bool false]) (by simp[results,Tryz.results59,go_sem,F2.c9 0 rfl]) rfl ⟨rfl,F2.bel⟩
end Go.Proofs.YtnlijgjpgdjpiaaGreat
