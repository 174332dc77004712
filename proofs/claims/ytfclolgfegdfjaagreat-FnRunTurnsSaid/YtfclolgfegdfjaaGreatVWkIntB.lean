/- Part of a proof: WkIntB. -/
import Derived.Test.YtfclolgfegdfjaaGreatVBaseA
set_option maxRecDepth 100000
set_option maxHeartbeats 16000000
namespace Go.Proofs.YtfclolgfegdfjaaGreat
open Go.RowKit
variable {α:Type}
theorem dh (d:α) {xs ys:List α} (hl:xs.length=ys.length) (h:∀j,j<xs.length->xs.getD j d=ys.getD j d):xs=ys:=by
 refine List.ext_getElem hl λj h1 h2=> ?_;have:=h j h1;simpa[List.getD,h1,h2] using this
theorem dt (a1 a2:uQ) (n c1 c2:Nat) (xs ys:List Int) (w:World) (hn:n<=1099511627776) (hl:xs.length=n) (g0:ys.length=n) (h1:Rd w a1 (zf xs)) (h2:Rd w a2 (zf ys)):
  Calls Tryz.prog 15 #[.slice a1 n c1,.slice a2 n c2] w λe w'=>e= .returned (.bool (decide (xs=ys)))/\∃n,w'=w.drewN n:=by
 have HL:=zd hl;have c0:=zd g0;clear hl g0;go_enter Tryz.func15,Tryz.ntmps15;go_wp2
 go_loopw [5] (λi wr=>∃k:Nat,k<=n/\i=uy k/\uH (∀j,j<k->xs.getD j 0=ys.getD j 0)/\∃d,wr=w.drewN d) (λi _=>n-(intOf i).toNat)
 case atStart=>exact⟨0,jq,rfl,zd jq,0,rfl⟩
 case round=>
  obtain⟨k,hk,rfl,a0,d,rfl⟩:=hrel;by_cases l0:k<n
  ·obtain⟨b1,o1,rfl,d0⟩:=h1.int (jQ HL.o);obtain⟨b2,o2,rfl,f0⟩:=h2.int (jQ c0.out);have h0:=d0 k (jQ HL.o);have i0:=f0 k (jQ c0.out);obtain⟨x,hx⟩:=jy (xs.getD k 0);obtain⟨y,hy⟩:=jy (ys.getD k 0);rw[<-hx] at h0;rw[<-hy] at i0;have HX:=zd hx;have HY:=zd hy;clear d0 f0 hx hy;go_wp2
   go_quiet (fail)
   go_wp2
   ·go_ret;refine⟨?_,d+nq,World.drewN_drewN _ _ _⟩;have b0:(x !=y)=true:=(by assumption);refine zT (xr ?_).symm;intro e;rw[HX.o,HY.o,e] at b0;simp at b0
   ·have b0:(x !=y)=false:=(by assumption);have he:x=y:=(by simpa using b0);refine⟨⟨k+1,jq,by go_num,zd ?_,d+nq,rfl⟩,by simp[intOf];omega⟩;intro j hj;by_cases j0:j=k
    ·rw[j0,<-HX.o,<-HY.o,he]
    ·exact a0.out j jq
  ·have k0:k=n:=jq;subst k0;go_wp2;go_ret;exact⟨zT (xK (dh 0 (by rw[HL.o,c0.out]) (λj hj=>a0.out j (by rw[HL.o] at hj;exact hj)))).symm,d,rfl⟩
theorem Xd (a b:uQ) (n c d:Nat) (xs:List Int) (w:World) (hn:n<=1048576) (hl:xs.length=n) (h1:Rd w a (zf xs)) (h2:Rd w b (zf xs)):
  Calls Tryz.prog 15 #[.slice a n c,.slice b n d] w λe w'=>e= .returned (.bool true)/\xW w w':=
 (dt a b n c d xs xs w jq hl hl h1 h2).mono λ_ _ ⟨h,m,hw⟩=>⟨by rw[h];simp,by rw[hw];exact j7 _ _⟩
end Go.Proofs.YtfclolgfegdfjaaGreat
