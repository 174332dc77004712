/- Part of a proof: ShI. -/
import Derived.Test.YtfclolgfegdfjaaGreatVRpJ
set_option maxRecDepth 100000
set_option maxHeartbeats 16000000
namespace Go.Proofs.YtfclolgfegdfjaaGreat
open Go.RowKit
variable {w':World} {k:Nat}
structure qv (B:World) (K:List (Option Value)) (n:Nat) (tr:List Int) (i:Int) (L:Nat->Bool) (σ:Nat->Value) (w:World):Prop where
 k:∀j u,K.getD j none=some u->L j=true->σ j=u
 d:L 7=true->L 4=true
 m:∃R S U:It,Fr B w [R,S,U]/\(L 1=true->L 4=false->∃a,σ 1= .slice a 0 0/\R= .row a 0 0 3 1 [])/\(L 4=true->L 7=false->∃a c,σ 4= .slice a n c/\R= .row a n c 3 1 (zf tr))/\(L 7=true->∃a c,σ 7= .slice a (n+1) c/\R= .row a (n+1) c 3 1 (zf (tr++[i])))/\(L 6=true->∃g,σ 6= .slice (some ⟨g,0,none⟩) 1 1/\S= .blk g #[.int .i64 i] 3)/\(L 12=true->∃g,σ 12= .pointer (some ⟨g,0,none⟩)/\U= .blk g yS 40)
section
variable {B:World} {K:List (Option Value)} {n:Nat} {tr:List Int} {i:Int} {L:Nat->Bool} {σ:Nat->Value} {w:World}
theorem qv.cong (hK:K.length=14):∀L L' σ σ' w,(∀j,j<14->L j=L' j)->(∀j,j<14->L j=true->σ j=σ' j)->qv B K n tr i L σ w->qv B K n tr i L' σ' w:=by
 intro L L' σ σ' w hL hs h;obtain⟨k,d,R,S,U,F,m4,m5,m7,m6,b0⟩:=h;have l1:=hL 1 jq;have l4:=hL 4 jq;have l6:=hL 6 jq;have l7:=hL 7 jq;have a0:=hL 12 jq;refine⟨λj u hu e=> ?_,λe=>l4.symm.trans (d (l7.trans e)),R,S,U,F,λe e'=> ?_,λe e'=> ?_,λe=> ?_,λe=> ?_,λe=> ?_⟩
 ·have hj:j<14:=Nat.lt_of_not_le λh=>by
   rw[xm,List.getElem?_eq_none jq] at hu
   cases hu
  rw[<-hL j hj] at e;exact(hs j hj e).symm.trans (k j u hu e)
 ·rw[<-hs 1 jq (l1.trans e)];exact m4 (l1.trans e) (l4.trans e')
 ·rw[<-hs 4 jq (l4.trans e)];exact m5 (l4.trans e) (l7.trans e')
 ·rw[<-hs 7 jq (l7.trans e)];exact m7 (l7.trans e)
 ·rw[<-hs 6 jq (l6.trans e)];exact m6 (l6.trans e)
 ·rw[<-hs 12 jq (a0.trans e)];exact b0 (a0.trans e)
theorem qv.start (σ:Nat->Value):qv B K n tr i (λ_=>false) σ B.drew:=⟨nofun,nofun,_,_,_,(((Fr.start B).drew.nil 3 1).nil 3 1).nil 3 1,nofun,nofun,nofun,nofun,nofun⟩
theorem qv.bel (h:qv B K n tr i L σ w):xW B w:=by
 obtain⟨k,d,R,S,U,F,-⟩:=h;exact F.bel
theorem qv.call (h:qv B K n tr i L σ w) (hb:xW w w'):qv B K n tr i L σ w':=by
 obtain⟨k,d,R,S,U,F,m⟩:=h;exact⟨k,d,R,S,U,F.call hb,m⟩
theorem qv.val (h:qv B K n tr i L σ w) (k:Nat) (u:Value) (hk:k≠1/\k≠4/\k≠6/\k≠7/\k≠12) (hu:∀x,K.getD k none=some x->u=x):qv B K n tr i (λj=>decide (j=k)||L j) (λj=>if j=k then u else σ j) w:=by
 obtain⟨k1,d,R,S,U,F,m⟩:=h;obtain⟨h1,h4,h6,h7,a0⟩:=hk;refine⟨λj x hx e=> ?_,by simpa[h4.symm,h7.symm] using d,R,S,U,F,by simpa[h1.symm,h4.symm,h6.symm,h7.symm,a0.symm] using m⟩;by_cases ej:j=k
 ·subst ej;rw[if_pos rfl];exact hu x hx
 ·rw[if_neg ej];exact k1 j x hx (by simpa[ej] using e)
theorem qv.kk (h:∀j u,K.getD j none=some u->L j=true->σ j=u) (hk:K.getD k none=none) (z:Value):∀j u,K.getD j none=some u->(decide (j=k)||L j)=true->(if j=k then z else σ j)=u:=λj u hu e=>by
 by_cases ej:j=k
 ·subst ej;rw[hk] at hu;cases hu
 ·rw[if_neg ej];exact h j u hu (by simpa[ej] using e)
theorem qv.al1 (h:qv B K n tr i L σ w) (hk:K.getD 1 none=none) (e4:L 4=false):qv B K n tr i (λj=>decide (j=1)||L j) (λj=>if j=1 then .slice (some ⟨w.heap.size,0,none⟩) 0 0 else σ j) (w.alloc (.cells #[] 3)):=by
 obtain⟨k,d,R,S,U,F,m4,m5,m7,m6,a0⟩:=h;have e7:L 7=false:=by
  cases e:L 7 with
  |false=>rfl
  |true=>rw[d e] at e4;cases e4
 exact⟨qv.kk k hk _,by simpa using d,_,S,U,(F.more (zY) (i:= .row (some ⟨w.heap.size,0,none⟩) 0 0 3 1 []) (yg w 3 1)).sub (.cons_cons _ (.cons _ (.refl _))),λ_ _=>⟨_,rfl,rfl⟩,by simp[e4],by simp[e7],by simpa using m6,by simpa using a0⟩
theorem qv.ap4 (h:qv B K n tr i L σ w) (hk:K.getD 4 none=none) (e1:L 1=true) (e4:L 4=false) (e7:L 7=false):∃a,σ 1= .slice a 0 0/\w.ownsRow B.heap.size 3 1 (.slice a 0 0) 0 []/\∀(a':uQ) (c':Nat) (w':World),w'.ownsRow B.heap.size 3 1 (.slice a' n c') n (zf tr)->w.grownBy w' (zj a)->(∀q,zj a'=some q->zj a=some q\/w.heap.size<=q)->qv B K n tr i (λj=>decide (j=4)||L j) (λj=>if j=4 then .slice a' n c' else σ j) w':=by
 obtain⟨k,d,R,S,U,F,m4,m5,m7,m6,a0⟩:=h;obtain⟨a,s1,rfl⟩:=m4 e1 e4;exact⟨a,s1,F.own 0 rfl,λa' c' w' h' hg hn=>⟨qv.kk k hk _,jv,_,S,U,F.app 0 rfl hg h' hn,jv,λ_ _=>⟨a',c',rfl,rfl⟩,by simp[e7],by simpa using m6,by simpa using a0⟩⟩
theorem qv.al6 (h:qv B K n tr i L σ w) (hk:K.getD 6 none=none) (e7:L 7=false):qv B K n tr i (λj=>decide (j=6)||L j) (λj=>if j=6 then .slice (some ⟨w.heap.size,0,none⟩) 1 1 else σ j) (w.alloc (.cells #[uy i] 3)):=by
 obtain⟨k,d,R,S,U,F,m4,m5,m7,m6,a0⟩:=h;exact⟨qv.kk k hk _,by simpa using d,R,_,U,((F.alloc #[uy i] 3).pull 1 rfl).sub (.cons_cons _ (.cons_cons _ (.cons _ (.refl _)))),by simpa using m4,by simpa using m5,by simp[e7],λ_=>⟨_,rfl,rfl⟩,by simpa using a0⟩
theorem qv.ap7 (h:qv B K n tr i L σ w) (hk:K.getD 7 none=none) (e4:L 4=true) (e6:L 6=true) (e7:L 7=false):∃(a:uQ) (c g:Nat),σ 4= .slice a n c/\σ 6= .slice (some ⟨g,0,none⟩) 1 1/\w.ownsRow B.heap.size 3 1 (.slice a n c) n (zf tr)/\Rd w (some ⟨g,0,none⟩) (zf [i])/\∀(a':uQ) (c':Nat) (w':World),w'.ownsRow B.heap.size 3 1 (.slice a' (n+1) c') (n+1) (zf (tr++[i]))->w.grownBy w' (zj a)->(∀q,zj a'=some q->zj a=some q\/w.heap.size<=q)->qv B K n tr i (λj=>decide (j=7)||L j) (λj=>if j=7 then .slice a' (n+1) c' else σ j) w':=by
 obtain⟨k,d,R,S,U,F,m4,m5,m7,m6,a0⟩:=h;obtain⟨a,c,s4,rfl⟩:=m5 e4 e7;obtain⟨g,s6,rfl⟩:=m6 e6;exact⟨a,c,g,s4,s6,F.own 0 rfl,Rd.of_blk (F.blk 1 rfl),λa' c' w' h' hg hn=>⟨qv.kk k hk _,by simp[e4],_,_,U,F.app 0 rfl hg h' hn,by simp[e4],jv,λ_=>⟨a',c',rfl,rfl⟩,by simpa using m6,by simpa using a0⟩⟩
theorem qv.row7 (h:qv B K n tr i L σ w) (e7:L 7=true):∃(a:uQ) (c:Nat),σ 7= .slice a (n+1) c/\w.ownsRow B.heap.size 3 1 (.slice a (n+1) c) (n+1) (zf (tr++[i])):=by
 obtain⟨k,d,R,S,U,F,m4,m5,m7,m6,a0⟩:=h;obtain⟨a,c,s7,rfl⟩:=m7 e7;exact⟨a,c,s7,F.own 0 rfl⟩
theorem qv.al12 (h:qv B K n tr i L σ w) (hk:K.getD 12 none=none):qv B K n tr i (λj=>decide (j=12)||L j) (λj=>if j=12 then .pointer (some ⟨w.heap.size,0,none⟩) else σ j) (w.alloc (.cells yS 40)):=by
 obtain⟨k,d,R,S,U,F,m4,m5,m7,m6,a0⟩:=h;exact⟨qv.kk k hk _,by simpa using d,R,S,_,(((F.alloc yS 40).pull 1 rfl).pull 2 rfl).sub (l':=[S,R,.blk w.heap.size yS 40]) (.cons_cons _ (.cons_cons _ (.cons_cons _ (.cons _ .slnil))))|>.pull 1 rfl,by simpa using m4,by simpa using m5,by simpa using m7,by simpa using m6,λ_=>⟨_,rfl,rfl⟩⟩
theorem qv.st (h:qv B K n tr i L σ w) (hk:K.getD 13 none=none) (b0:L 12=true):∃g:Nat,σ 12= .pointer (some ⟨g,0,none⟩)/\zm w g yS 40/\∀u,qv B K n tr i (λj=>decide (j=13)||L j) (λj=>if j=13 then u else σ j) (w.setRow g yS):=by
 obtain⟨k,d,R,S,U,F,m4,m5,m7,m6,a0⟩:=h;obtain⟨g,c0,rfl⟩:=a0 b0;exact⟨g,c0,F.blk 2 rfl,λu=>⟨qv.kk k hk _,by simpa using d,R,S,_,((F.pull 2 rfl).ovr (cs:=yS)).pull 2 rfl|>.pull 2 rfl,by simpa using m4,by simpa using m5,by simpa using m7,by simpa using m6,by simpa using a0⟩⟩
end
end Go.Proofs.YtfclolgfegdfjaaGreat
