/- Part of a proof: RPick. -/
import Derived.IntWalk
import Derived.Test.YtfclolgfegdfjaaGreatVRRun
set_option maxRecDepth 100000
set_option maxHeartbeats 16000000
namespace Go.Proofs.YtfclolgfegdfjaaGreat
open Go.RowKit
theorem Km (u:PV) (p:Pg) (a:uQ) (n c:Nat) (cs:List Int) (w:World) (hp:yK w u p) (hv:zD p=true) (hr:Rd w a (zf cs)) (hl:cs.length=n) (hn:n<=1048576):
  Calls Tryz.prog 32 #[.agg (zF u),.slice a n c] w (Vz (qL p cs) w []):=by
 have HP:=zd hp;have HV:=zd hv;have HR:=zd hr;have HL:=zd hl;clear hp hv hr hl;have F:=((Fr.start w).alloc (zF u) 26).alloc yS 40;simp only[yY] at F;have cp:=F.c5 1 rfl;go_enter Tryz.func32,Tryz.ntmps32;go_wp2_with fail;refine(Xj u p _ (HP.o.below F.bel) HV.o).mono ?_;rintro e w1 ⟨v0,L0,rfl,ho,l0,hb⟩;have h0:=(Sf.gain F ho l0 hb).alloc (yN v0) 38;clear F ho l0 hb cp;go_upto_region 2 with fail;obtain⟨W1,hw,h2⟩:=h0.named;rw[<-hw];obtain⟨M,hM⟩:=jy w1.heap.size;rw[<-hM] at h2⊢;clear hw hM h0;by_cases d0:100<n
 ·have u0:(100:Int)<(n:Int):=jq;have q0:uH (qL p cs=none):=zd (if_neg (by rw[HL.o];omega));have c10:=h2.fr.c10 1 rfl;have F2:=h2.fr.setY 1 rfl;clear d0;go_wp2;exact zM (v:= .tuple #[.agg yS,.bool false]) (by simp[results,Tryz.results32,go_sem,F2.c10 1 rfl]) rfl (.inl ⟨q0.out,rfl,F2.sub (List.nil_sublist _)⟩)
 have u0:¬((100:Int)<(n:Int)):=jq;go_upto_region 5 with fail;have h3:=h2.row (zY) (yg W1 3 1);have h:=(h3.pull 1 rfl).sub (l':=Qu w M v0 (some ⟨W1.heap.size,0,none⟩) 0 0 [] u) (.refl _);clear h2 h3;have a0:=xF.start HV.o;go_wp2
 go_loopw [8,9] (λq i wr=>∃(k:Nat) (v:zu) (L:zQ) (s:zp) (a':uQ) (m c':Nat) (tr:List Int),k<=n/\q= .slice a' m c'/\i=uy k/\xF p s/\Sf w wr (Qu w M v a' m c' tr u) v L s/\uH (tr.length=m/\m<=k/\(m=k\/(zq s).length=0)/\(∀j,j<k->0<=cs.getD j 0)/\xg p (qo cs) 101 (zI p) []=xg p (qo cs) (101-m) s tr)) (λ_ i _=>n-(intOf i).toNat)
 case atStart=>exact⟨0,_,_,_,_,_,_,[],jq,rfl,rfl,a0,h,zd ⟨rfl,Nat.le_refl _,.inl rfl,jq,rfl⟩⟩
 case round=>
  clear h a0;obtain⟨k,v,L,s,a',m,c',tr,hk,rfl,rfl,a0,h,HW⟩:=hrel;have hm:=HW.o.2.1;have HF:=zd a0;clear a0;have c9:=h.c9 0 rfl;by_cases x0:k<n
  ·obtain⟨b1,o1,rfl,g'⟩:=HR.o.int (jQ HL.o);have g:=ze h.bel (g' k (jQ HL.o));obtain⟨x,hx⟩:=jy (cs.getD k 0);rw[<-hx] at g;have HX:=zd hx;have i0:(0:Int)<=(k:Int):=jq;have i1:(k:Int)<(n:Int):=jq;clear g' hx;go_wp2_with fail;refine(Yy v L s _ h.rd (by have:=HF.o.fits.nst;have:=(yf HV.o).2.2.2.2.1;omega)).mono ?_;rintro e w2 ⟨a2,c2,rfl,ho,hb⟩;have h2:=h.row hb ho;replace g:=ze hb g;clear hb ho h c9;obtain⟨w3,hw,h3⟩:=h2.named;rw[<-hw] at g⊢;clear hw h2;have c9:=h3.c9 1 rfl;have c10:=h3.fr.c10 3 rfl;by_cases o0:x<0
   ·have F2:=h3.fr.setY 3 rfl;have j0:=zd o0;clear i0 i1;have i0:(0:Int)<=(k:Int):=jq;have i1:(k:Int)<(n:Int):=jq;go_wp2;exact zM (v:= .tuple #[.agg yS,.bool false]) (by simp[results,Tryz.results32,go_sem,F2.c10 3 rfl]) rfl (.inl ⟨by unfold qL;rw[if_neg (λh=>by have h1:=List.all_eq_true.1 h.2 _ (Ur (l:=cs) (i:=k) (by rw[HL.o];omega));rw[<-HX.o] at h1;have:=j0.out;simp at h1;omega)],rfl,F2.sub (List.nil_sublist _)⟩)
   have j0:=zd o0;have b0:uH (∀j,j<k+1->0<=cs.getD j 0):=zd (λj hj=>by
    rcases Nat.lt_or_ge j k with h1|h1
    ·exact HW.o.2.2.2.1 j h1
    ·obtain rfl:j=k:=jq;rw[<-HX.o];omega)
   have y0:=HF.o.fits.nst;by_cases c0:(zq s).length=0
   ·have t0:(((zq s).length:Int)==0)=true:=by rw[c0];rfl
    have r0:=zd c0;have s0:=Xa v a' m c' w3;have F2:=h3.fr.setR 3 rfl v a' m c';clear c0;go_wp2;exact⟨⟨k+1,v,L,s,a',m,c',tr,jq,rfl,by go_num,HF.o,h3.sub (.cons _ (.refl _)),zd ⟨HW.o.1,jq,.inr r0.out,b0.out,HW.o.2.2.2.2⟩⟩,by simp[intOf];omega⟩
   have lp:0<(zq s).length:=jq;have f0:m=k:=by rcases HW.o.2.2.1 with h1|h1<;>omega
   have t0:(((zq s).length:Int)==0)=false:=(by simpa using c0);obtain⟨j,hj⟩:∃j:Nat,x.tmod ((zq s).length:Int)=(j:Int):=⟨(x.tmod ((zq s).length:Int)).toNat,by have:=Int.tmod_nonneg (a:=x) ((zq s).length:Int) jq;omega⟩
   have m0:j<(zq s).length:=by have:=Int.tmod_lt_of_pos x (b:=((zq s).length:Int)) jq;omega
   have HJ:uH (j=x.toNat%(zq s).length):=zd (by
    obtain⟨y,rfl⟩:=Int.eq_ofNat_of_zero_le (show 0<=x by omega);have h1:((y:Int).tmod ((zq s).length:Int))=((y%(zq s).length:Nat):Int):=by rw[Int.tmod_eq_emod_of_nonneg jq];exact(Int.natCast_emod _ _).symm
    rw[h1] at hj;simp only[Int.toNat_natCast];omega)
   obtain⟨b2,o2,e2,k0⟩:=(h3.fr.rdRow 0 rfl).int (by simpa using lp);have g2:=k0 j (by simpa using m0);obtain⟨t,ht⟩:=jy ((zq s).getD j 0);rw[<-ht] at g2;have HT:uH (t∈zq s):=zd (by rw[ht];exact Ur m0);have HC:uH (qo cs s tr=some t):=zd (by unfold qo;rw[if_neg (jZ HW.o.1 HL.o),ht,HJ.o,HX.o,HW.o.1,f0]);have p0:=zd f0;clear f0;subst e2;have i2:(0:Int)<=(j:Int):=jq;have i3:(j:Int)<((zq s).length:Int):=jq;clear k0 ht c0;have c5:=h3.c5 4 rfl;go_wp2_with fail;clear c9 c10 c5 g g2;refine(Ys u p v L s t w w3 _ h3.fr HP.o h3.rd HF.o HT.o).mono ?_;rintro e w4 ⟨v',L',rfl,h4⟩;have h5:=(h4.alloc (yN v') 38).sub (l':= .blk w4.heap.size (yN v') 38::Qu w M v a' m c' tr u) (.cons_cons _ (.cons _ (.refl _)));clear h4 h3;have c9:=h5.c9 0 rfl;have c8:=h5.c9 1 rfl;go_upto_region 17 with fail;have h6:=(h5.setV 1 rfl v').sub (l':=Qu w M v' a' m c' tr u) (.cons _ (.refl _));obtain⟨w5,hw,h7⟩:=h6.named;rw[<-hw];clear hw h6 h5 c9 c8 hj i0 i1;have h8:=h7.alloc #[uy t] 3;go_wp2_with (at_builtin;refine h8.appI 2 rfl _ _ rfl rfl rfl [t] rfl rfl (Rd.of_blk (h8.fr.blk 0 rfl)) jq ?_;intro a9 c9 w6 h9)
   go_roundw
   case rel=>exact⟨k+1,v',L',zJ p s t,a9,m+1,c9,tr++[t],jq,rfl,by go_num,HF.o.step (HF.o.fits.turn HT.o),h9.sub (l':=Qu w M v' a9 (m+1) c9 (tr++[t]) u) (.cons _ (.refl _)),zd ⟨by rw[xp,HW.o.1];rfl,jq,.inl (jQ p0.out),b0.out,by rw[HW.o.2.2.2.2];exact Q5 HC.o HT.o jq⟩⟩
   case measure=>exact uq
  ·have n0:k=n:=jq;have s0:=Xa v a' m c' wr;have c10:=h.fr.c10 2 rfl;have h9:=h.setR 2 rfl v a' m c';have HE:uH (qL p cs=some (s,tr)):=zd (by
    obtain⟨h1,h2,h3,h4,h5⟩:=HW.o;unfold qL xn;rw[if_pos ⟨by rw[HL.o];omega,List.all_eq_true.2 λy hy=>by
     obtain⟨i,hi,rfl⟩:=List.mem_iff_getElem.1 hy;have:=h4 i (by rw[n0,<-HL.o];exact hi);simpa[List.getD,hi] using this⟩,if_pos HV.o,h5]
    exact Jy (if_pos (by rw[h1,HL.o];omega)) jq)
   have g0:=zd HW.o.1;clear n0;go_wp2;exact zM (v:= .tuple #[.agg (rC v a' m c'),.bool true]) (by simp[results,Tryz.results32,go_sem,h9.fr.c10 2 rfl]) rfl (.inr ⟨s,tr,v,L,a',c',HE.o,by rw[g0.out],by rw[g0.out];exact h9.sub (.cons _ (.cons_cons _ (List.nil_sublist _)))⟩)
theorem Vn (u:PV) (p:Pg) (a:uQ) (n c:Nat) (cs:List Int) (w:World) (hp:yK w u p) (hz:xH u p) (hr:Rd w a (zf cs)) (hl:cs.length=n) (hn:n<=1048576):
  Calls Tryz.prog 32 #[.agg (zF u),.slice a n c] w (Vz (qL p cs) w []):=by
 cases hv:zD p with
 |true=>exact Km u p a n c cs w hp hv hr hl hn
 |false=>
  have HP:=zd hp;have HV:=zd hv;have HZ:=zd hz;have F:=((Fr.start w).alloc (zF u) 26).alloc yS 40;simp only[yY] at F;have a0:uH (qL p cs=none):=zd (by unfold qL xn;rw[hv];simp);clear hp hv hz hr;have cp:=F.c5 1 rfl;go_enter Tryz.func32,Tryz.ntmps32;go_wp2_with fail;refine(JI u p _ (HP.o.below F.bel) HZ.o HV.o).mono ?_;rintro e w1 ⟨rfl,hb⟩;have F1:=(F.call hb).alloc zC 38;clear F hb cp;go_upto_region 2 with fail;obtain⟨W1,hw,F2⟩:=F1.named;rw[<-hw];clear hw F1;have c10:=F2.c10 1 rfl;have F3:=F2.setY 1 rfl;go_wp2;exact zM (v:= .tuple #[.agg yS,.bool false]) (by simp[results,Tryz.results32,go_sem,F3.c10 1 rfl]) rfl (.inl ⟨a0.out,rfl,F3.sub (List.nil_sublist _)⟩)
end Go.Proofs.YtfclolgfegdfjaaGreat
