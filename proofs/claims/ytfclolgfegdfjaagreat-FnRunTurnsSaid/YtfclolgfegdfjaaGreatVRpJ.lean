/- Part of a proof: RpJ. -/
import Derived.Test.YtfclolgfegdfjaaGreatVPRk
set_option maxRecDepth 100000
set_option maxHeartbeats 16000000
namespace Go.Proofs.YtfclolgfegdfjaaGreat
open Go.RowKit
variable {w W:World} {s:zp} {g:Nat} {v:zu} {L:zQ} {T:TypeId}
theorem Kv (bx l:List It) (k:Nat):(bx++l)[bx.length+k]? =l[k]? :=by rw[List.getElem?_append_right jq];congr 1;omega
structure jP (c:Nat) (T:TypeId) (Z:Array Value) (w0 B:World) (fl:List It) (K:List Value) (ok:Bool) (N:Array Value->List It->World->Prop) (L:Nat->Bool) (σ:Nat->Value) (w:World):Prop where
 k:∀i,i<c->L i=true->σ i=K.getD i undef
 d8:L (c+2)=true\/L (c+3)=true->L (c+1)=true
 d7:L (c+1)=true\/L (c+5)=true->L c=true
 d11:L (c+5)=true->L (c+4)=true
 m:∃(cs:Array Value) (bx:List It),(L (c+4)=true->∃g,σ (c+4)= .pointer (some ⟨g,0,none⟩)/\bx=[.blk g (if L (c+5)=true then cs else Z) T])/\(L (c+4)=false->bx=[])/\(L (c+1)=true->σ (c+1)= .tuple #[.agg cs,.bool ok])/\(L (c+2)=true->σ (c+2)= .agg cs)/\(L (c+3)=true->σ (c+3)= .bool ok)/\(L c=true->σ c= .tuple #[.agg cs,.bool ok]/\N cs bx w)/\(L c=false->Fr w0 w (bx++fl)/\xW B w)
section
variable {c:Nat} {T:TypeId} {Z:Array Value} {w0 B:World} {fl:List It} {K:uZ} {ok:Bool} {N:Array Value->List It->World->Prop} {L:Nat->Bool} {σ:Nat->Value} {w:World}
theorem jP.cong (n:Nat) (hn:c+6<=n):∀L L' σ σ' w,(∀j,j<n->L j=L' j)->(∀j,j<n->L j=true->σ j=σ' j)->jP c T Z w0 B fl K ok N L σ w->jP c T Z w0 B fl K ok N L' σ' w:=by
 intro L L' σ σ' w hL hs h;obtain⟨k,d8,d7,d11,cs,bx,d0,c0,m7,m8,m9,m6,f0⟩:=h;have e6:=hL c jq;have e7:=hL (c+1) jq;have e8:=hL (c+2) jq;have e9:=hL (c+3) jq;have a0:=hL (c+4) jq;have b0:=hL (c+5) jq;refine⟨λi hi e=> ?_,by rw[<-e7,<-e8,<-e9];exact d8,by rw[<-e6,<-e7,<-b0];exact d7,by rw[<-a0,<-b0];exact d11,cs,bx,?_,by rw[<-a0];exact c0,?_,?_,?_,?_,by rw[<-e6];exact f0⟩
 ·rw[<-hL i jq] at e;exact(hs i jq e).symm.trans (k i hi e)
 ·rw[<-a0,<-b0];exact λe=>by rw[<-hs _ jq e];exact d0 e
 ·rw[<-e7];exact λe=>(hs _ jq e).symm.trans (m7 e)
 ·rw[<-e8];exact λe=>(hs _ jq e).symm.trans (m8 e)
 ·rw[<-e9];exact λe=>(hs _ jq e).symm.trans (m9 e)
 ·rw[<-e6];exact λe=>⟨(hs _ jq e).symm.trans (m6 e).1,(m6 e).2⟩
theorem jP.start (σ:Nat->Value) (F:Fr w0 B fl):jP c T Z w0 B fl K ok N (λ_=>false) σ B.drew:=⟨nofun,nofun,nofun,nofun,#[],[],nofun,λ_=>rfl,nofun,nofun,nofun,nofun,λ_=>⟨F.drew,xd.drew⟩⟩
theorem jP.fr (h:jP c T Z w0 B fl K ok N L σ w) (hN:∀cs bx w,N cs bx w->Fr w0 w (bx++fl)):∃bx,Fr w0 w (bx++fl):=by
 obtain⟨k,d8,d7,d11,cs,bx,c0,a0,m7,m8,m9,m6,b0⟩:=h
 cases e:L c with
 |true=>exact⟨bx,hN _ _ _ (m6 e).2⟩
 |false=>exact⟨bx,(b0 e).1⟩
theorem jP.val (h:jP c T Z w0 B fl K ok N L σ w) (k:Nat) (u:Value) (hk:k<c) (hu:u=K.getD k undef):jP c T Z w0 B fl K ok N (λj=>decide (j=k)||L j) (λj=>if j=k then u else σ j) w:=by
 obtain⟨k1,d8,d7,d11,cs,bx,m⟩:=h;have q6:∀j,¬c+j=k:=λj=>jq;have q0:¬c=k:=jq;refine⟨λi hi e=> ?_,by simpa[q6,q0] using d8,by simpa[q6,q0] using d7,by simpa[q6,q0] using d11,cs,bx,by simpa[q6,q0] using m⟩;by_cases ei:i=k
 ·rw[if_pos ei,hu,ei]
 ·rw[if_neg ei];exact k1 i hi (by simpa[ei] using e)
theorem jP.cl (h:jP c T Z w0 B fl K ok N L σ w) (e6:L c=false):∃bx,Fr w0 w (bx++fl)/\xW B w/\∀cs w',N cs bx w'->jP c T Z w0 B fl K ok N (λj=>decide (j=c)||L j) (λj=>if j=c then .tuple #[.agg cs,.bool ok] else σ j) w':=by
 obtain⟨k1,d8,d7,d11,f0,bx,d0,a0,m7,m8,m9,m6,b0⟩:=h;have f7:∀P:Prop,L (c+1)=true\/L (c+5)=true->P:=λP h=>by rw[d7 h] at e6;cases e6
 have c0:L (c+5)=false:=by cases h:L (c+5) with
  |false=>rfl
  |true=>exact f7 _ (.inr h)
 have e7:L (c+1)=false:=by cases h:L (c+1) with
  |false=>rfl
  |true=>exact f7 _ (.inl h)
 have f8:∀P:Prop,L (c+2)=true\/L (c+3)=true->P:=λP h=>by rw[d8 h] at e7;cases e7
 refine⟨bx,(b0 e6).1,(b0 e6).2,λcs w' hn=>⟨λi hi e=> ?_,by simpa using d8,jv,by simpa using d11,cs,bx,?_,by simpa using a0,by simp[e7],λe=>f8 _ (.inl (by simpa using e)),λe=>f8 _ (.inr (by simpa using e)),λ_=>⟨if_pos rfl,hn⟩,jv⟩⟩
 ·rw[if_neg jq];exact k1 i hi (by simpa[show¬i=c by omega] using e)
 ·simpa[c0] using d0
theorem jP.mv (h:jP c T Z w0 B fl K ok N L σ w) (e6:L c=true):∃cs,σ c= .tuple #[.agg cs,.bool ok]/\jP c T Z w0 B fl K ok N (λj=>decide (j=c+1)||L j) (λj=>if j=c+1 then .tuple #[.agg cs,.bool ok] else σ j) w:=by
 obtain⟨k1,d8,d7,d11,cs,bx,b0,a0,m7,m8,m9,m6,c0⟩:=h;refine⟨cs,(m6 e6).1,λi hi e=> ?_,jv,by simp[e6],by simpa using d11,cs,bx,by simpa using b0,by simpa using a0,jv,by simpa using m8,by simpa using m9,by simpa using m6,by simpa using c0⟩;rw[if_neg jq];exact k1 i hi (by simpa[show¬i=c+1 by omega] using e)
theorem jP.ex (h:jP c T Z w0 B fl K ok N L σ w) (e7:L (c+1)=true):∃cs,σ (c+1)= .tuple #[.agg cs,.bool ok]/\jP c T Z w0 B fl K ok N (λj=>decide (j=c+2)||L j) (λj=>if j=c+2 then .agg cs else σ j) w/\jP c T Z w0 B fl K ok N (λj=>decide (j=c+3)||L j) (λj=>if j=c+3 then .bool ok else σ j) w:=by
 obtain⟨k1,d8,d7,d11,cs,bx,b0,a0,m7,m8,m9,m6,c0⟩:=h;refine⟨cs,m7 e7,⟨λi hi e=> ?_,by simp[e7],by simpa using d7,by simpa using d11,cs,bx,by simpa using b0,by simpa using a0,by simpa using m7,jv,by simpa using m9,by simpa using m6,by simpa using c0⟩,λi hi e=> ?_,by simp[e7],by simpa using d7,by simpa using d11,cs,bx,by simpa using b0,by simpa using a0,by simpa using m7,by simpa using m8,jv,by simpa using m6,by simpa using c0⟩
 ·rw[if_neg jq];exact k1 i hi (by simpa[show¬i=c+2 by omega] using e)
 ·rw[if_neg jq];exact k1 i hi (by simpa[show¬i=c+3 by omega] using e)
theorem jP.al (h:jP c T Z w0 B fl K ok N L σ w) (a0:L (c+4)=false) (hN:∀cs w,N cs [] w->N cs [.blk w.heap.size Z T] (w.alloc (.cells Z T))):jP c T Z w0 B fl K ok N (λj=>decide (j=c+4)||L j) (λj=>if j=c+4 then .pointer (some ⟨w.heap.size,0,none⟩) else σ j) (w.alloc (.cells Z T)):=by
 obtain⟨k1,d8,d7,d11,cs,bx,f0,b0,m7,m8,m9,m6,c0⟩:=h;obtain rfl:=b0 a0;have d0:L (c+5)=false:=by cases h:L (c+5) with
  |false=>rfl
  |true=>rw[d11 h] at a0;cases a0
 refine⟨λi hi e=> ?_,by simpa using d8,by simpa using d7,jv,cs,[.blk w.heap.size Z T],λ_=>⟨_,if_pos rfl,by simp[d0]⟩,jv,by simpa using m7,by simpa using m8,by simpa using m9,λe=>⟨by simpa using(m6 (by simpa using e)).1,hN _ _ (m6 (by simpa using e)).2⟩,λe=>⟨(c0 (by simpa using e)).1.alloc _ _,(c0 (by simpa using e)).2.alloc (c0 (by simpa using e)).2.size _⟩⟩;rw[if_neg jq];exact k1 i hi (by simpa[show¬i=c+4 by omega] using e)
theorem jP.st (h:jP c T Z w0 B fl K ok N L σ w) (e6:L c=true) (e8:L (c+2)=true) (a0:L (c+4)=true) (c0:L (c+5)=false) (hN:∀g cs w,N cs [.blk g Z T] w->N cs [.blk g cs T] (w.setRow g cs)):∃cs g,σ (c+2)= .agg cs/\σ (c+4)= .pointer (some ⟨g,0,none⟩)/\N cs [.blk g Z T] w/\∀u,jP c T Z w0 B fl K ok N (λj=>decide (j=c+5)||L j) (λj=>if j=c+5 then u else σ j) (w.setRow g cs):=by
 obtain⟨k1,d8,d7,d11,cs,bx,d0,f0,m7,m8,m9,m6,g0⟩:=h;obtain⟨g,eg,b0⟩:=d0 a0;rw[c0,if_neg nofun] at b0;subst b0;refine⟨cs,g,m8 e8,eg,(m6 e6).2,λu=>⟨λi hi e=> ?_,by simpa using d8,by simp[e6],by simp[a0],cs,[.blk g cs T],λ_=>⟨g,by simpa using eg,jv⟩,by simp[a0],by simpa using m7,by simpa using m8,by simpa using m9,λ_=>⟨by simpa using(m6 e6).1,hN _ _ _ (m6 e6).2⟩,by simp[e6]⟩⟩;rw[if_neg jq];exact k1 i hi (by simpa[show¬i=c+5 by omega] using e)
theorem jP.fin (h:jP c T Z w0 B fl K ok N (λ_=>true) σ w):∃cs g,σ (c+3)= .bool ok/\σ (c+4)= .pointer (some ⟨g,0,none⟩)/\N cs [.blk g cs T] w:=by
 obtain⟨k1,d8,d7,d11,cs,bx,a0,b0,m7,m8,m9,m6,c0⟩:=h;obtain⟨g,eg,rfl⟩:=a0 rfl;exact⟨cs,g,m9 rfl,eg,(m6 rfl).2⟩
end
theorem U9 (W:World) (b:Nat) (cs:Array Value):zo [b] W (W.setRow b cs):=⟨rfl,rfl,rfl,jv,λk _ hn=>setRow_other _ _ _ _ λe=>hn (by simp[e])⟩
theorem Sf.over {fl:List It} {c0 cs:Array Value} (h:Sf w W (.blk g c0 T::fl) v L s):Sf w (W.setRow g cs) (.blk g cs T::fl) v L s:=
 h.step 0 rfl (U9 W g cs) (i':= .blk g cs T) ⟨(h.fr.has _ (List.mem_cons_self ..)).1,setRow_heap _ _ _ _ _ _ (h.fr.blk 0 rfl)⟩ rfl
theorem Fr.ovr {fl:List It} {c0 cs:Array Value} (h:Fr w W (.blk g c0 T::fl)):Fr w (W.setRow g cs) (.blk g cs T::fl):=
 h.step 0 rfl (U9 W g cs) (i':= .blk g cs T) ⟨(h.has _ (List.mem_cons_self ..)).1,setRow_heap _ _ _ _ _ _ (h.blk 0 rfl)⟩ λ_ hq=> .inl hq
end Go.Proofs.YtfclolgfegdfjaaGreat
