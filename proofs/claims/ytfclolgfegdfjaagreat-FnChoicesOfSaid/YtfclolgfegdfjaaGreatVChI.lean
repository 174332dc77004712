/- Part of a proof: ChI. -/
import Derived.Test.YtfclolgfegdfjaaGreatVPRA
import Derived.Test.YtfclolgfegdfjaaGreatVRpJ
set_option maxRecDepth 100000
set_option maxHeartbeats 16000000
namespace Go.Proofs.YtfclolgfegdfjaaGreat
open Go.RowKit
variable {w':World} {k c:Nat} {a:uQ} {z:Value}
theorem Ub {K:List (Option Value)} {L:Nat->Bool} {σ:Nat->Value} (h:∀j u,K.getD j none=some u->L j=true->σ j=u) (hk:∀x,K.getD k none=some x->z=x):∀j u,K.getD j none=some u->(decide (j=k)||L j)=true->(if j=k then z else σ j)=u:=λj u hu e=>by
 by_cases ej:j=k
 ·subst ej;rw[if_pos rfl];exact hk u hu
 ·rw[if_neg ej];exact h j u hu (by simpa[ej] using e)
theorem Ph {K:List (Option Value)} {L L':Nat->Bool} {σ σ':Nat->Value} (m:Nat) (hK:K.length=m) (hL:∀j,j<m->L j=L' j) (hs:∀j,j<m->L j=true->σ j=σ' j) (h:∀j u,K.getD j none=some u->L j=true->σ j=u):∀j u,K.getD j none=some u->L' j=true->σ' j=u:=λj u hu e=>by
 have hj:j<m:=Nat.lt_of_not_le λh=>by
  rw[xm,List.getElem?_eq_none jq] at hu
  cases hu
 rw[<-hL j hj] at e;exact(hs j hj e).symm.trans (h j u hu e)
structure Zn (w0 B:World) (fl:List It) (K:List (Option Value)) (a0:Option Addr) (n c0:Nat) (xs:List Int) (y:Int) (rl:List Int) (v:zu) (Z:zQ) (z:zp) (L:Nat->Bool) (σ:Nat->Value) (w:World):Prop where
 k:∀j u,K.getD j none=some u->L j=true->σ j=u
 d8:L 8=true->L 7=true
 d9:L 9=true->L 8=true
 b:L 9=false->xW B w
 m:∃R:It,Sf w0 w (R::fl) v Z z/\(L 9=false->R= .row a0 n c0 3 1 (zf xs))/\(L 2=true->L 9=false->∃a c,σ 2= .slice a rl.length c/\Rd w a (zf rl))/\(L 8=true->L 9=false->∃g,σ 8= .slice (some ⟨g,0,none⟩) 1 1/\Rd w (some ⟨g,0,none⟩) (zf [y]))/\(L 9=true->∃a c,σ 9= .slice a (n+1) c/\R= .row a (n+1) c 3 1 (zf (xs++[y])))
section
variable {w0 B:World} {fl:List It} {K:List (Option Value)} {a0:uQ} {n c0:Nat} {xs:List Int} {y:Int} {rl:List Int} {v:zu} {Z:zQ} {z:zp} {L:Nat->Bool} {σ:Nat->Value} {w:World}
theorem Zn.cong (hK:K.length=10):∀L L' σ σ' w,(∀j,j<10->L j=L' j)->(∀j,j<10->L j=true->σ j=σ' j)->Zn w0 B fl K a0 n c0 xs y rl v Z z L σ w->Zn w0 B fl K a0 n c0 xs y rl v Z z L' σ' w:=by
 intro L L' σ σ' w hL hs h;obtain⟨k,d8,d9,b,R,F,m0,m2,m8,m9⟩:=h;have l2:=hL 2 jq;have l7:=hL 7 jq;have l8:=hL 8 jq;have l9:=hL 9 jq;refine⟨Ph 10 hK hL hs k,λe=>l7.symm.trans (d8 (l8.trans e)),λe=>l8.symm.trans (d9 (l9.trans e)),λe=>b (l9.trans e),R,F,λe=>m0 (l9.trans e),λe e'=> ?_,λe e'=> ?_,λe=> ?_⟩
 ·rw[<-hs 2 jq (l2.trans e)];exact m2 (l2.trans e) (l9.trans e')
 ·rw[<-hs 8 jq (l8.trans e)];exact m8 (l8.trans e) (l9.trans e')
 ·rw[<-hs 9 jq (l9.trans e)];exact m9 (l9.trans e)
theorem Zn.start (F:Sf w0 B (.row a0 n c0 3 1 (zf xs)::fl) v Z z) (σ:Nat->Value):Zn w0 B fl K a0 n c0 xs y rl v Z z (λ_=>false) σ B.drew:=⟨nofun,nofun,nofun,λ_=>xd.drew,_,F.drew,λ_=>rfl,nofun,nofun,nofun⟩
theorem Zn.val (h:Zn w0 B fl K a0 n c0 xs y rl v Z z L σ w) (k:Nat) (u:Value) (hk:k≠2/\k≠8/\k≠9) (hu:∀x,K.getD k none=some x->u=x):Zn w0 B fl K a0 n c0 xs y rl v Z z (λj=>decide (j=k)||L j) (λj=>if j=k then u else σ j) w:=by
 obtain⟨k1,d8,d9,b,R,F,m⟩:=h;obtain⟨h2,h8,h9⟩:=hk;exact⟨Ub k1 hu,λe=>by simp[d8 (by simpa[h8.symm] using e)],by simpa[h8.symm,h9.symm] using d9,by simpa[h9.symm] using b,R,F,by simpa[h2.symm,h8.symm,h9.symm] using m⟩
theorem Zn.fr (h:Zn w0 B fl K a0 n c0 xs y rl v Z z L σ w):∃R,Sf w0 w (R::fl) v Z z:=by
 obtain⟨k,d8,d9,b,R,F,-⟩:=h;exact⟨R,F⟩
theorem Zn.rd2 (h:Zn w0 B fl K a0 n c0 xs y rl v Z z L σ w) (hk:K.getD 2 none=none) (e7:L 7=false) (hb:xW w w') (hr:Rd w' a (zf rl)):Zn w0 B fl K a0 n c0 xs y rl v Z z (λj=>decide (j=2)||L j) (λj=>if j=2 then .slice a rl.length c else σ j) w':=by
 obtain⟨k,d8,d9,b,R,F,m0,m2,m8,m9⟩:=h;have e8:L 8=false:=by
  cases e:L 8 with
  |false=>rfl
  |true=>rw[d8 e] at e7;cases e7
 have e9:L 9=false:=by
  cases e:L 9 with
  |false=>rfl
  |true=>rw[d9 e] at e8;cases e8
 exact⟨Ub k (λx e=>by rw[hk] at e;cases e),by simpa using d8,by simpa using d9,λe=>(b e9).trans (hb.mono (b e9).size),R,F.call hb,by simpa using m0,λ_ _=>⟨a,c,rfl,hr⟩,by simp[e8],by simp[e9]⟩
theorem Zn.at2 (h:Zn w0 B fl K a0 n c0 xs y rl v Z z L σ w) (e2:L 2=true) (e9:L 9=false):∃a c,σ 2= .slice a rl.length c/\Rd w a (zf rl):=by
 obtain⟨k,d8,d9,b,R,F,m0,m2,m8,m9⟩:=h;exact m2 e2 e9
theorem Zn.al8 (h:Zn w0 B fl K a0 n c0 xs y rl v Z z L σ w) (hk:K.getD 8 none=none) (e7:L 7=true) (e9:L 9=false):Zn w0 B fl K a0 n c0 xs y rl v Z z (λj=>decide (j=8)||L j) (λj=>if j=8 then .slice (some ⟨w.heap.size,0,none⟩) 1 1 else σ j) (w.alloc (.cells #[uy y] 3)):=by
 obtain⟨k,d8,d9,b,R,F,m0,m2,m8,m9⟩:=h;have hb:=(Below.refl w.heap.size w).alloc yk (.cells #[uy y] 3);exact⟨Ub k (λx e=>by rw[hk] at e;cases e),by simp[e7],jv,λe=>(b e9).trans (hb.mono (b e9).size),R,F.call hb,by simpa using m0,λe e'=>by
  obtain⟨a,c,s2,hr⟩:=m2 (by simpa using e) e9;exact⟨a,c,by simpa using s2,hr.below hb⟩,λ_ _=>⟨_,rfl,Rd.of_blk (zm.new _ _ _)⟩,by simp[e9]⟩
theorem Zn.ap9 (h:Zn w0 B fl K a0 n c0 xs y rl v Z z L σ w) (hk:K.getD 9 none=none) (e8:L 8=true) (e9:L 9=false):∃g:Nat,σ 8= .slice (some ⟨g,0,none⟩) 1 1/\Rd w (some ⟨g,0,none⟩) (zf [y])/\w.ownsRow w0.heap.size 3 1 (.slice a0 n c0) n (zf xs)/\w0.heap.size<=w.heap.size/\∀(a':uQ) (c':Nat) (w':World),w'.ownsRow w0.heap.size 3 1 (.slice a' (n+1) c') (n+1) (zf (xs++[y]))->w.grownBy w' (zj a0)->(∀q,zj a'=some q->zj a0=some q\/w.heap.size<=q)->Zn w0 B fl K a0 n c0 xs y rl v Z z (λj=>decide (j=9)||L j) (λj=>if j=9 then .slice a' (n+1) c' else σ j) w':=by
 obtain⟨k,d8,d9,b,R,F,m0,m2,m8,m9⟩:=h;obtain rfl:=m0 e9;obtain⟨g,s8,hr⟩:=m8 e8 e9;exact⟨g,s8,hr,F.fr.own 0 rfl,F.bel.size,λa' c' w' h' hg hn=>⟨Ub k (λx e=>by rw[hk] at e;cases e),by simpa using d8,by simp[e8],jv,_,F.appRow 0 rfl hg h' hn,jv,jv,jv,λ_=>⟨a',c',rfl,rfl⟩⟩⟩
theorem Zn.fin (h:Zn w0 B fl K a0 n c0 xs y rl v Z z (λ_=>true) σ w):∃a c,σ 9= .slice a (n+1) c/\Sf w0 w (.row a (n+1) c 3 1 (zf (xs++[y]))::fl) v Z z:=by
 obtain⟨k,d8,d9,b,R,F,m0,m2,m8,m9⟩:=h;obtain⟨a,c,e,rfl⟩:=m9 rfl;exact⟨a,c,e,F⟩
end
structure um (w0 B:World) (M:Nat) (fl:List It) (K:List (Option Value)) (v:zu) (z:zp) (L:Nat->Bool) (σ:Nat->Value) (w:World):Prop where
 k:∀j u,K.getD j none=some u->L j=true->σ j=u
 m:(L 6=false/\L 7=false/\L 8=false/\L 9=false/\L 10=false/\Fr w0 w (.blk M (yN v) 38::fl)/\xW B w)\/(L 6=true/\∃(x:zu) (Z:zQ),Sf w0 w (.blk M (yN (if L 10=true then x else v)) 38::fl) x Z z/\σ 6= .tuple #[x.val,.bool true]/\(L 7=true->σ 7= .tuple #[x.val,.bool true])/\(L 8=true->σ 8=x.val)/\(L 9=true->σ 9= .bool true))
section
variable {w0 B:World} {M:Nat} {fl:List It} {K:List (Option Value)} {v:zu} {z:zp} {L:Nat->Bool} {σ:Nat->Value} {w:World}
theorem um.cong (hK:K.length=11):∀L L' σ σ' w,(∀j,j<11->L j=L' j)->(∀j,j<11->L j=true->σ j=σ' j)->um w0 B M fl K v z L σ w->um w0 B M fl K v z L' σ' w:=by
 intro L L' σ σ' w hL hs h;obtain⟨k,m⟩:=h;have l6:=hL 6 jq;have l7:=hL 7 jq;have l8:=hL 8 jq;have l9:=hL 9 jq;have a0:=hL 10 jq;refine⟨Ph 11 hK hL hs k,?_⟩;rw[<-l6,<-l7,<-l8,<-l9,<-a0];rcases m with m|⟨e6,x,Z,F,m6,m7,m8,m9⟩
 ·exact .inl m
 ·exact .inr ⟨e6,x,Z,F,by rw[<-hs 6 jq e6];exact m6,λe=>by rw[<-hs 7 jq e];exact m7 e,λe=>by rw[<-hs 8 jq e];exact m8 e,λe=>by rw[<-hs 9 jq e];exact m9 e⟩
theorem um.start (F:Fr w0 B (.blk M (yN v) 38::fl)) (σ:Nat->Value):um w0 B M fl K v z (λ_=>false) σ B.drew:=⟨nofun,.inl ⟨rfl,rfl,rfl,rfl,rfl,F.drew,xd.drew⟩⟩
theorem um.val (h:um w0 B M fl K v z L σ w) (k:Nat) (u:Value) (hk:k<6) (hu:∀x,K.getD k none=some x->u=x):um w0 B M fl K v z (λj=>decide (j=k)||L j) (λj=>if j=k then u else σ j) w:=by
 obtain⟨k1,m⟩:=h;have h6:¬6=k:=jq;have h7:¬7=k:=jq;have h8:¬8=k:=jq;have h9:¬9=k:=jq;have a0:¬10=k:=jq;exact⟨Ub k1 hu,by simpa[h6,h7,h8,h9,a0] using m⟩
theorem um.fr (h:um w0 B M fl K v z L σ w):∃y,Fr w0 w (.blk M (yN y) 38::fl):=by
 obtain⟨k,⟨_,_,_,_,_,F,_⟩|⟨e6,x,Z,F,_⟩⟩:=h
 ·exact⟨_,F⟩
 ·exact⟨_,F.fr⟩
theorem um.six (h:um w0 B M fl K v z L σ w) (e7:L 7=true):L 6=true:=by
 obtain⟨k,⟨_,e,_⟩|⟨e,_⟩⟩:=h
 ·rw[e7] at e;cases e
 ·exact e
theorem um.pre (h:um w0 B M fl K v z L σ w) (e6:L 6=false):Fr w0 w (.blk M (yN v) 38::fl)/\xW B w/\((hk:∀x,K.getD 6 none≠some x)->∀(x:zu) (Z:zQ) (w':World),Sf w0 w' (.blk M (yN v) 38::fl) x Z z->um w0 B M fl K v z (λj=>decide (j=6)||L j) (λj=>if j=6 then .tuple #[x.val,.bool true] else σ j) w'):=by
 obtain⟨k,⟨_,e7,e8,e9,a0,F,hb⟩|⟨e,_⟩⟩:=h
 ·exact⟨F,hb,λhk x Z w' F'=>⟨Ub k (λy e=>absurd e (hk y)),.inr ⟨jv,x,Z,by simpa[a0] using F',rfl,by simp[e7],by simp[e8],by simp[e9]⟩⟩⟩
 ·rw[e6] at e;cases e
theorem um.aft (h:um w0 B M fl K v z L σ w) (e6:L 6=true) (h7:K.getD 7 none=none) (h8:K.getD 8 none=none) (h9:K.getD 9 none=none):∃x:zu,σ 6= .tuple #[x.val,.bool true]/\um w0 B M fl K v z (λj=>decide (j=7)||L j) (λj=>if j=7 then .tuple #[x.val,.bool true] else σ j) w/\(L 7=true->σ 7= .tuple #[x.val,.bool true])/\um w0 B M fl K v z (λj=>decide (j=8)||L j) (λj=>if j=8 then x.val else σ j) w/\um w0 B M fl K v z (λj=>decide (j=9)||L j) (λj=>if j=9 then .bool true else σ j) w:=by
 obtain⟨k,⟨e,_⟩|⟨_,x,Z,F,m6,m7,m8,m9⟩⟩:=h
 ·rw[e6] at e;cases e
 ·exact⟨x,m6,⟨Ub k (λy e=>by rw[h7] at e;cases e),.inr ⟨by simpa using e6,x,Z,by simpa using F,by simpa using m6,jv,by simpa using m8,by simpa using m9⟩⟩,m7,⟨Ub k (λy e=>by rw[h8] at e;cases e),.inr ⟨by simpa using e6,x,Z,by simpa using F,by simpa using m6,by simpa using m7,jv,by simpa using m9⟩⟩,⟨Ub k (λy e=>by rw[h9] at e;cases e),.inr ⟨by simpa using e6,x,Z,by simpa using F,by simpa using m6,by simpa using m7,by simpa using m8,jv⟩⟩⟩
theorem um.st (h:um w0 B M fl K v z L σ w) (e6:L 6=true) (e8:L 8=true) (a0:L 10=false) (hk:K.getD 10 none=none):∃cs:Array Value,σ 8= .agg cs/\cs.size=9/\cs.all (·.oneCell')=true/\zm w M (yN v) 38/\∀u,um w0 B M fl K v z (λj=>decide (j=10)||L j) (λj=>if j=10 then u else σ j) (w.setRow M cs):=by
 obtain⟨k,⟨e,_⟩|⟨_,x,Z,F,m6,m7,m8,m9⟩⟩:=h
 ·rw[e6] at e;cases e
 ·rw[a0,if_neg nofun] at F;exact⟨yN x,m8 e8,rfl,by simp[yN,Value.oneCell'],F.fr.blk 0 rfl,λu=>⟨Ub k (λy e=>by rw[hk] at e;cases e),.inr ⟨by simpa using e6,x,Z,by simpa using F.over (cs:=yN x),by simpa using m6,by simpa using m7,by simpa using m8,by simpa using m9⟩⟩⟩
theorem um.fin (h:um w0 B M fl K v z (λ_=>true) σ w):∃(x:zu) (Z:zQ),σ 9= .bool true/\Sf w0 w (.blk M (yN x) 38::fl) x Z z:=by
 obtain⟨k,⟨e,_⟩|⟨_,x,Z,F,m6,m7,m8,m9⟩⟩:=h
 ·cases e
 ·exact⟨x,Z,m9 rfl,F⟩
end
end Go.Proofs.YtfclolgfegdfjaaGreat
