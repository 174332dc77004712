/- Part of a proof: RunFr RunU. -/
import Derived.Test.YtnlijgjpgdjpiaaGreatQPIRunC
import Derived.Test.YtnlijgjpgdjpiaaGreatQPMark
set_option maxRecDepth 100000
set_option maxHeartbeats 16000000
namespace Go.Proofs.YtnlijgjpgdjpiaaGreat
open Go.RowKit
theorem zjS {w W:World} {l:List It} {T:TypeId} (F:Fr w W l) (hl:∀i∈l,∃a n c E sz cs,i= .row a n c E sz cs/\E≠T) {q:Nat} {cs:Array Value} {fr:Nat×Nat} (hq:W.heap[q]? =some (.cells cs T fr)):q∉zv l:=by
 intro hm;obtain⟨i,hi,hf⟩:=List.mem_flatMap.1 hm;have hh:=F.has i hi;obtain⟨a,n,c,E,sz,xs,rfl,hE⟩:=hl i hi;obtain⟨cur,fr',e⟩:=zbU (show W.ownsRow _ E sz (.slice a n c) n xs from hh) q (by simpa[It.foot] using hf);rw[hq] at e;exact hE (by simpa using congrArg (λo:Option Obj=>match o with|some (.cells _ t _)=>t|_=>E) e.symm)
theorem zbp {l:List It} {T:TypeId} {a:Option Addr} {n c sz:Nat} {E:TypeId} {cs:List Value} (h:E≠T) (hl:∀i∈l,∃a n c E sz cs,i= .row a n c E sz cs/\E≠T):∀i∈(It.row a n c E sz cs::l),∃a n c E sz cs,i= .row a n c E sz cs/\E≠T:=λi hi=>by
 rcases List.mem_cons.1 hi with rfl|hi
 ·exact⟨_,_,_,_,_,_,rfl,h⟩
 ·exact hl i hi
theorem Fr.addT {w W:World} {l:List It} (F:Fr w W l) {a:Option Addr} {n c sz:Nat} {E:TypeId} {cs:List Value} (ho:W.ownsRow w.heap.size E sz (.slice a n c) n cs) (hl:∀i∈l,∃a n c E' sz cs,i= .row a n c E' sz cs/\E'≠E):Fr w W (.row a n c E sz cs::l):=
 F.add ho λq hq=>by
  obtain⟨cur,fr,e⟩:=zbU ho q (by simpa[It.foot] using hq);exact zjS F hl e
theorem Fr.addB {w W:World} {l:List It} (F:Fr w W l) {b:Nat} {cs:Array Value} {T:TypeId} (hb:Blk W b cs T) (h0:w.heap.size<=b) (hl:∀i∈l,∃a n c E sz cs,i= .row a n c E sz cs/\E≠T):Fr w W (.blk b cs T::l):=
 F.add ⟨h0,hb⟩ λq hq=>by
  obtain rfl:=xS1 hq;exact zjS F hl hb
theorem zeT {α:Type} (f:α->It) (l:List α):l.map f=l.flatMap λz=>[f z]:=by
 induction l with
 |nil=>rfl
 |cons x l ih=>simp[ih]
theorem ord8 (s3 s4 s5 s6 s7 t p q r:It) (X:List It):(s3::s4::s5::s6::s7::t::p::q::r::X).Perm (p::q::s3::s4::s5::s6::s7::r::(X++[t])):=by
 have h1:([s3,s4,s5,s6,s7]++([t]++([p,q]++(r::X)))).Perm ([p,q]++([s3,s4,s5,s6,s7]++((r::X)++[t]))):=by
  have a1:([t]++([p,q]++(r::X))).Perm ([p,q]++((r::X)++[t])):=by
   have:=List.perm_append_comm (l₁:=[t]) (l₂:=[p,q]++(r::X));simpa only[xDg] using this
  have h2:∀(A B C:List It),(A++(B++C)).Perm (B++(A++C)):=λA B C=>by
   rw[<-xDg,<-xDg];exact List.perm_append_comm.append_right _
  exact(a1.append_left _).trans (h2 _ _ _)
 exact h1
theorem RunO.fr {w w':World} {v:StV} {L:StL} {a:Option Addr} {c:Nat} {s:StD} {tr:List Int} (h:RunO w.heap.size w' v L a c s tr) (hb:xW w w') {b:Nat} {cs:Array Value} (hk:Blk w' b cs 35) (h0:w.heap.size<=b):Fr w w' (lst0 (.blk b cs 35) v L s [.row a tr.length c 3 1 (ints tr)]):=by
 have F0:Fr w w' (tI a tr.length c tr v s L):=⟨hb,h.inn.has,h.inn.ap⟩
 have t0:∀T:TypeId,zeR T->∀i∈tI a tr.length c tr v s L,∃a n c E sz cs,i= .row a n c E sz cs/\E≠T:=λT hT i hi=>by
  obtain⟨a,n,c,E,sz,xs,rfl,hE⟩:=zhO hi;refine⟨_,_,_,_,_,_,rfl,?_⟩;rcases hE with rfl|rfl|rfl
  ·exact hT.1.symm
  ·exact hT.2.1.symm
  ·exact hT.2.2.symm
 have F1:=F0.addT h.st.ch (t0 _ ⟨by decide,by decide,by decide⟩);have F2:=F1.addT h.st.ba (zbp (by decide) (t0 _ ⟨by decide,by decide,by decide⟩));have F3:=F2.addT h.st.gr (zbp (by decide) (zbp (by decide) (t0 _ ⟨by decide,by decide,by decide⟩)));have F4:=F3.addT h.st.on (zbp (by decide) (zbp (by decide) (zbp (by decide) (t0 _ ⟨by decide,by decide,by decide⟩))));have F5:=F4.addT h.st.se (zbp (by decide) (zbp (by decide) (zbp (by decide) (zbp (by decide) (t0 _ ⟨by decide,by decide,by decide⟩)))));have F6:=F5.addB hk h0 (zbp (by decide) (zbp (by decide) (zbp (by decide) (zbp (by decide) (zbp (by decide) (t0 _ ⟨by decide,by decide,by decide⟩))))));have e:innI L=L.se.flatMap rwSe++(L.on.flatMap rwOn++(L.gr.flatMap rwGr++(L.ba.flatMap rwBa++L.ch.flatMap rwCh))):=by
  unfold innI;rw[zeT,zeT,zeT,zeT];rfl
 unfold tI xI at F6;rw[e] at F6;refine F6.perm (List.Perm.cons _ ?_);obtain⟨X,hX⟩:∃X,X=L.se.flatMap rwSe++(L.on.flatMap rwOn++(L.gr.flatMap rwGr++(L.ba.flatMap rwBa++L.ch.flatMap rwCh))):=⟨_,rfl⟩
 rw[<-hX];have e2:L.se.flatMap rwSe++(L.on.flatMap rwOn++(L.gr.flatMap rwGr++(L.ba.flatMap rwBa++(L.ch.flatMap rwCh++[.row a tr.length c 3 1 (ints tr)]))))=X++[.row a tr.length c 3 1 (ints tr)]:=by rw[hX];simp only[xDg]
 rw[e2];exact ord8 _ _ _ _ _ _ _ _ _ X
theorem zeE {α:Type} (sz:α->Nat) (m:Nat):∀(xs:List α),(∀z∈xs,sz z<=m)->tot sz xs<=xs.length*m
 |[],_=>by simp[tot]
 |x::xs,h=>by
  have h1:=h x (by simp);have h2:=zeE sz m xs λz hz=>h z (by simp[hz]);simp only[tot,List.length_cons,Nat.add_mul];omega
theorem SmM.of {w:World} {v:StV} {L:StL} {p:Pg} {s:StD} (h:StR w v L s) (hf:Fits p s):SmM v L:=by
 obtain⟨h1,h2,h3,h4,⟨h5,h6⟩,h7⟩:=zR hf.prog;have np:=hf.np;have ns:=hf.nst;have na:=hf.nsa;have n3:=hf.nse;have n4:=hf.non;have n5:=hf.ngr;have n6:=hf.nba;have n7:=hf.nch;have l1:=h.pl.len;have l2:=h.st.len;have l8:=h.sa.len;have l3:=h.se.len;have l4:=h.on.len;have l5:=h.gr.len;have l6:=h.ba.len;have l7:=h.ch.len;have e3:=h.inn.se.len;have e4:=h.inn.on.len;have e5:=h.inn.gr.len;have e6:=h.inn.ba.len;have e7:=h.inn.ch.len;have sm:=hf.sm;have key:∀{α β:Type} {R:World->α->β->Prop} {K:List (α×β)} {xs:List α} (I:InL R w K xs) (f:α->Nat) (m:Nat) (d:α),(∀i,f (xs.getD i d)<=m)->∀z∈K,f z.1<=m:=λ{α β R K xs} I f m d hm z hz=>by
  obtain⟨i,hi,rfl⟩:=List.mem_iff_getElem.1 hz;have h1:=hm i;rw[<-I.e] at h1;simpa[List.getD,hi] using h1
 have q3:∀z∈L.se,z.2.n=z.1.queue.length/\z.2.n<=6:=λz hz=>by
  have a1:=(h.inn.se.r z hz).len;have a2:=key h.inn.se (λx:SemD=>x.queue.length) 6 zG (λi=>by
   by_cases hi:i<s.sems.length
   ·have:=(hf.se i hi).1.2.2.2.1.1;simpa using this
   ·rw[xDa,List.getElem?_eq_none (by omega)];simp[zG]) z hz
  exact⟨a1,by rw[a1];exact a2⟩
 have q4:∀z∈L.on,z.2.n=z.1.waits.length/\z.2.n<=6:=λz hz=>by
  have a1:=(h.inn.on.r z hz).len;have a2:=key h.inn.on (λx:zaj=>x.waits.length) 6 zq (λi=>by
   by_cases hi:i<s.onces.length
   ·rcases hf.on i hi with ⟨-,-,-,e⟩|⟨-,-,-,e,-⟩|⟨-,-,-,e⟩
    ·rw[e];simp
    ·exact e.1
    ·rw[e];simp
   ·rw[xDa,List.getElem?_eq_none (by omega)];simp[zq]) z hz
  exact⟨a1,by rw[a1];exact a2⟩
 have q5:∀z∈L.gr,z.2.n=z.1.waits.length/\z.2.n<=6:=λz hz=>by
  have a1:=(h.inn.gr.r z hz).len;have a2:=key h.inn.gr (λx:GrpD=>x.waits.length) 6 zQ (λi=>by
   by_cases hi:i<s.groups.length
   ·exact(hf.gr i hi).2.1.1
   ·rw[xDa,List.getElem?_eq_none (by omega)];simp[zQ]) z hz
  exact⟨a1,by rw[a1];exact a2⟩
 have q6:∀z∈L.ba,z.2.n=z.1.waits.length/\z.2.n<=6:=λz hz=>by
  have a1:=(h.inn.ba.r z hz).len;have a2:=key h.inn.ba (λx:BarD=>x.waits.length) 6 zE (λi=>by
   by_cases hi:i<s.bars.length
   ·exact(hf.ba i hi).1.2.2.1.1
   ·rw[xDa,List.getElem?_eq_none (by omega)];simp[zE]) z hz
  exact⟨a1,by rw[a1];exact a2⟩
 have q7:∀z∈L.ch,z.2.1.n<=6/\z.2.2.1.n<=6/\z.2.2.2.n<=6:=λz hz=>by
  have a1:=h.inn.ch.r z hz;have hi:∀i,(s.chans.getD i zH).items.length<=6/\(s.chans.getD i zH).senders.length+(s.chans.getD i zH).getters.length<=6:=λi=>by
   by_cases hi:i<s.chans.length
   ·have a3:=(hf.ch i hi).1;have a4:=a3.2.2.2.2.1.1;rw[xDh,xDf] at a4;have a5:=a3.2.1;have a6:=a3.1.2;exact⟨by omega,a4⟩
   ·rw[xDa,List.getElem?_eq_none (by omega)];simp[zH]
  have b1:=key h.inn.ch (λx:ChnD=>x.items.length) 6 zH (λi=>(hi i).1) z hz;have b2:=key h.inn.ch (λx:ChnD=>x.senders.length+x.getters.length) 6 zH (λi=>(hi i).2) z hz;refine⟨by rw[a1.1.len];exact b1,by rw[a1.2.1.len];omega,by rw[a1.2.2.len];omega⟩
 have s3:=zeE szSe 14 L.se λz hz=>by have:=(q3 z hz).2;unfold szSe;omega
 have s4:=zeE szOn 9 L.on λz hz=>by have:=(q4 z hz).2;unfold szOn;omega
 have s5:=zeE szGr 7 L.gr λz hz=>by have:=(q5 z hz).2;unfold szGr;omega
 have s6:=zeE szBa 8 L.ba λz hz=>by have:=(q6 z hz).2;unfold szBa;omega
 have s7:=zeE szCh 26 L.ch λz hz=>by have:=q7 z hz;unfold szCh;omega
 exact⟨by omega,by omega,by omega,⟨by omega,by omega⟩,⟨by omega,by omega⟩,⟨by omega,by omega⟩,⟨by omega,by omega⟩,⟨by omega,by omega⟩,λz hz=>⟨(q3 z hz).1,by have:=(q3 z hz).2;omega⟩,λz hz=>⟨(q4 z hz).1,by have:=(q4 z hz).2;omega⟩,λz hz=>⟨(q5 z hz).1,by have:=(q5 z hz).2;omega⟩,λz hz=>⟨(q6 z hz).1,by have:=(q6 z hz).2;omega⟩,λz hz=>by have:=q7 z hz;omega,by unfold sumS;omega⟩
theorem SlR.kept {S S':List Nat} {B:Nat} {w w':World} {q:SlV} {cs:List Value} {k:Nat} (h:SlR S w q cs k) (hn:newS B cs q) (T:zi S' w w') (hS:∀k∈S',k<B):SlR S w' q cs k:=by
 refine⟨h.len,?_,h.far,h.cap⟩;rcases h.rd with h0|⟨b,o,e,hc⟩
 ·exact .inl h0
 ·rcases hn with h0|hf
  ·exact .inl h0
  ·exact .inr ⟨b,o,e,λj hj=>zB T (hc j hj) (λhb=>by have:=hf b (by rw[e];rfl);have:=hS b hb;omega)⟩
theorem RunO.keep {B B':Nat} {w w':World} {S:List Nat} {v:StV} {L:StL} {a:Option Addr} {c:Nat} {s:StD} {tr:List Int} (h:RunO B w v L a c s tr) (T:zi S w w') (hS:∀k∈S,k<B) (hB:B'<=B):RunO B' w' v L a c s tr:=by
 have ow:∀{e:TypeId} {sz n c:Nat} {a:Option Addr} {cs:List Value},w.ownsRow B e sz (.slice a n c) n cs->w'.ownsRow B' e sz (.slice a n c) n cs:=λh=>zl (zj h T λk hk hm=>by have:=(zp h k hk).1;have:=hS k hm;omega) hB;refine⟨⟨ow h.st.pl,h.st.npl,ow h.st.st,h.st.nst,ow h.st.se,h.st.nse,ow h.st.on,h.st.non,ow h.st.gr,h.st.ngr,ow h.st.ba,h.st.nba,ow h.st.ch,h.st.nch,ow h.st.sa,h.st.nsa,h.st.fl,h.st.dps,h.st.dpa,h.st.dsa,λk hk=>⟨Nat.lt_of_lt_of_le (h.st.xs k hk).1 T.size,(h.st.xs k hk).2⟩,⟨⟨h.st.inn.se.e,λz hz=>SlR.kept (h.st.inn.se.r z hz) (h.nw.se z hz) T hS⟩,⟨h.st.inn.on.e,λz hz=>SlR.kept (h.st.inn.on.r z hz) (h.nw.on z hz) T hS⟩,⟨h.st.inn.gr.e,λz hz=>SlR.kept (h.st.inn.gr.r z hz) (h.nw.gr z hz) T hS⟩,⟨h.st.inn.ba.e,λz hz=>SlR.kept (h.st.inn.ba.r z hz) (h.nw.ba z hz) T hS⟩,⟨h.st.inn.ch.e,λz hz=>⟨SlR.kept (h.st.inn.ch.r z hz).1 (h.nw.ch z hz).1 T hS,SlR.kept (h.st.inn.ch.r z hz).2.1 (h.nw.ch z hz).2.1 T hS,SlR.kept (h.st.inn.ch.r z hz).2.2 (h.nw.ch z hz).2.2 T hS⟩⟩⟩⟩,h.nw.lower hB,ow h.tr,⟨λi hi=> ?_,h.inn.ap⟩⟩;have hh:=h.inn.has i hi;have hk:=It.keep hh λk hk=>T.block k (It.inside hh k hk).2 λhm=>by have:=(It.inside hh k hk).1;have:=hS k hm;omega
 obtain⟨a,n,c,E,sz,xs,rfl,-⟩:=zhO hi;exact zl (show w'.ownsRow B E sz (.slice a n c) n xs from hk) hB
theorem RunO.below {B:Nat} {w w':World} {v:StV} {L:StL} {a:Option Addr} {c:Nat} {s:StD} {tr:List Int} (h:RunO B w v L a c s tr) (hb:xW w w'):RunO B w' v L a c s tr:=h.keep (zi.of_below (S:=[]) hb) (by simp) xL1
def zS:StD:=⟨[],[],[],[],[],[],[],[],0⟩
def zV:StV:=⟨nilV,nilV,nilV,nilV,nilV,nilV,nilV,nilV,0⟩
def zL:StL:=⟨[],[],[],[],[]⟩
theorem RunO.zero (w:World):RunO w.heap.size w zV zL none 0 zS []:=
 ⟨⟨xDi _ _ _ _,rfl,xDi _ _ _ _,rfl,xDi _ _ _ _,rfl,xDi _ _ _ _,rfl,xDi _ _ _ _,rfl,xDi _ _ _ _,rfl,xDi _ _ _ _,rfl,xDi _ _ _ _,rfl,rfl,λ_ h=>by(cases h),λ_ h=>by(cases h),λ_ h=>by(cases h),λ_ h=>by(cases h),⟨⟨rfl,λ_ h=>by(cases h)⟩,⟨rfl,λ_ h=>by(cases h)⟩,⟨rfl,λ_ h=>by(cases h)⟩,⟨rfl,λ_ h=>by(cases h)⟩,⟨rfl,λ_ h=>by(cases h)⟩⟩⟩,NewB.nil _,xDi _ _ _ _,⟨λi hi=>by
  have e:i= .row none 0 0 3 1 []:=by
   rcases List.mem_cons.1 hi with rfl|hi
   ·rfl
   rcases List.mem_cons.1 hi with rfl|hi
   ·rfl
   rcases List.mem_cons.1 hi with rfl|hi
   ·rfl
   rcases List.mem_cons.1 hi with rfl|hi
   ·rfl
   cases hi
  subst e;exact xDi _ _ _ _,List.nodup_nil⟩⟩
theorem SmM.zero:SmM zV zL:=⟨by decide,by decide,by decide,⟨rfl,by decide⟩,⟨rfl,by decide⟩,⟨rfl,by decide⟩,⟨rfl,by decide⟩,⟨rfl,by decide⟩,λ_ h=>by(cases h),λ_ h=>by(cases h),λ_ h=>by(cases h),λ_ h=>by(cases h),λ_ h=>by(cases h),by decide⟩
theorem SmE.zero:SmE zS:=⟨by decide,by decide,by decide,by decide,by decide,by decide,by decide,by decide,λi=>by simp[zS,zG],λi=>by simp[zS,zq],λi=>by simp[zS,zQ],λi=>by simp[zS,zE],λi=>by simp[zS,zH]⟩
def outR (o:Option (StD×List Int)):StD×List Int:=o.getD (zS,[])
theorem zkx {o:Option (StD×List Int)} {w w':World} {e:Ending} {s:StD} {tr:List Int} {b:Bool} (h:rsF o w [] e w') (hb:o.isSome=b) (hs:(outR o).1=s) (ht:(outR o).2=tr):∃(v:StV) (L:StL) (a:Option Addr) (c:Nat),e= .returned (.tuple #[.agg (rC v a tr.length c),.bool b])/\xW w w'/\StR w' v L s/\Rd w' a (ints tr):=by
 subst hb hs ht;rcases h with ⟨rfl,rfl,F⟩|⟨s,tr,v,L,a,c,rfl,rfl,h⟩
 ·exact⟨zV,zL,none,0,rfl,F.bel,(RunO.zero w').st.rd,.inl rfl⟩
 ·exact⟨v,L,a,c,rfl,h.fr.bel,h.st.rd,h.fr.rdRow 0 rfl⟩
theorem zi8 {o:Option (StD×List Int)} {w w':World} {e:Ending} {s:StD} {tr:List Int} {b:Bool} (h:rsW o w e w') (hb:o.isSome=b) (hs:(outR o).1=s) (ht:(outR o).2=tr):∃(v:StV) (L:StL) (a:Option Addr) (c:Nat),e= .returned (.tuple #[.agg (rC v a tr.length c),.bool b])/\xW w w'/\RunO w.heap.size w' v L a c s tr/\SmM v L/\SmE s/\tr.length<=100:=by
 subst hb hs ht;obtain⟨hb,⟨rfl,rfl⟩|⟨p,s,tr,v,L,a,c,rfl,hl,rfl,h,hr⟩⟩:=h
 ·exact⟨zV,zL,none,0,rfl,hb,(RunO.zero w').keep (zi.refl [] _) (by simp) hb.size,SmM.zero,SmE.zero,by decide⟩
 ·exact⟨v,L,a,c,rfl,hb,h,SmM.of h.st.rd hr.fits,hr.fits.sm.e,hl⟩
end Go.Proofs.YtnlijgjpgdjpiaaGreat
