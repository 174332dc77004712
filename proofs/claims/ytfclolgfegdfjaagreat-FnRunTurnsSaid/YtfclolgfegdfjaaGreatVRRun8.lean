/- Part of a proof: RRun8. -/
import Derived.IntWalk
import Derived.Test.YtfclolgfegdfjaaGreatVRRun
set_option maxRecDepth 100000
set_option maxHeartbeats 16000000
namespace Go.Proofs.YtfclolgfegdfjaaGreat
open Go.RowKit
def pI:Value->Nat
 | .slice _ n _=>n
 |_=>0
theorem Us (u:PV) (p:Pg) (b:Bool) (w0 w:World) (l0:List It) (G0:Fr w0 w l0) (hp:yK w0 u p) (hv:zD p=true):
  Calls Tryz.prog 46 #[.agg (zF u),.bool b] w (Vz (xn p (xh b)) w0 l0):=by
 have HP:=zd hp;have HV:=zd hv;have F:=(G0.alloc (zF u) 26).alloc yS 40;simp only[yY] at F;clear hp hv G0;have cp:=F.c5 1 rfl;go_enter Tryz.func46,Tryz.ntmps46;go_wp2_with fail;refine(Xj u p _ (HP.o.below F.bel) HV.o).mono ?_;rintro e w1 ⟨v0,L0,rfl,ho,n0,hb⟩;have h0:=(Sf.gain F ho n0 hb).alloc (yN v0) 38;clear F ho n0 hb cp;go_upto_region 2 with fail;obtain⟨W1,hw,h2⟩:=h0.named;rw[<-hw];obtain⟨M,hM⟩:=jy w1.heap.size;rw[<-hM] at h2⊢;clear hw hM h0;go_upto_region 5 with fail;have h3:=h2.row (zY) (yg W1 3 1);have h:=(h3.pull 1 rfl).sub (l':=Qu w M v0 (some ⟨W1.heap.size,0,none⟩) 0 0 [] u++l0) (.refl _);clear h2 h3;have a0:=xF.start HV.o;go_wp2
 go_loopw [8,9] (λq i wr=>∃(v:zu) (L:zQ) (s:zp) (a':uQ) (m c':Nat) (tr:List Int),q= .slice a' m c'/\i=uy (Xe tr)/\xF p s/\Sf w0 wr (Qu w M v a' m c' tr u++l0) v L s/\uH (tr.length=m/\m<=100/\xg p (xh b) 101 (zI p) []=xg p (xh b) (101-m) s tr)) (λq _ _=>101-pI q)
 case atStart=>exact⟨_,_,_,_,_,_,[],rfl,rfl,a0,h,zd ⟨rfl,jq,rfl⟩⟩
 case round=>
  clear h a0;obtain⟨v,L,s,a',m,c',tr,rfl,rfl,a0,h,HW⟩:=hrel;have HF:=zd a0;clear a0;obtain⟨F0,g0⟩:=jy (Xe tr);rw[<-g0];have q0:=zd g0;clear g0;by_cases i0:m<100
  ·have k0:(m:Int)<100:=jq;have c9:=h.c9 0 rfl;go_wp2_with fail;refine(Yy v L s _ h.rd (by have:=HF.o.fits.nst;have:=(yf HV.o).2.2.2.2.1;omega)).mono ?_;rintro e w2 ⟨a2,c2,rfl,ho,hb⟩;have h2:=h.row hb ho;clear hb ho h c9;obtain⟨w3,hw,h3⟩:=h2.named;rw[<-hw];clear hw h2;have p0:(zq s).length<=1000:=by
    have h1:=HF.o.fits.nst;have h2:=(yf HV.o).2.2.2.2.1;rw[vh];split
    ·have:=vW s s.status.length;omega
    ·simp
   by_cases d0:(zq s).length=0
   ·have t0:(((zq s).length:Int)==0)=true:=by rw[d0];rfl
    have r0:=zd d0;clear d0;have u0:=Xa v a' m c' w3;have c9:=h3.c9 1 rfl;have c10:=h3.fr.c10 3 rfl;have h9:=h3.setR 3 rfl v a' m c';have HE:uH (xn p (xh b)=some (s,tr)):=zd (by
     unfold xn;rw[if_pos HV.o,HW.o.2.2];exact Jy (if_pos (.inl r0.out)) HW.o.2.1)
    have c0:=zd HW.o.1;go_wp2;exact zM (v:= .tuple #[.agg (rC v a' m c'),.bool true]) (by simp[results,Tryz.results46,go_sem,h9.fr.c10 3 rfl]) rfl (.inr ⟨s,tr,v,L,a',c',HE.o,by rw[c0.out],by rw[c0.out];exact h9.sub (.cons _ (.cons _ (.cons_cons _ (.cons _ (.cons _ (.refl _))))))⟩)
   have lp:0<(zq s).length:=jq;have t0:(((zq s).length:Int)==0)=false:=(by simpa using d0);obtain⟨b2,o2,e2,g2⟩:=(h3.fr.rdRow 0 rfl).int (by simpa using lp);have m0:=zd g2;have gz:=g2 0 (by simpa using lp);simp only[Nat.add_zero] at gz;subst e2;obtain⟨l,hl⟩:=jy (zq s);have b0:=zd hl;rw[<-hl] at p0 lp t0 m0 gz h3⊢;obtain⟨N,hN⟩:=jy l.length;have HN:=zd hN;rw[<-hN] at p0 lp t0 h3⊢;obtain⟨z,hz⟩:=jy (l.getD 0 0);have f0:=zd hz;rw[<-hz] at gz;clear g2 hl hN hz d0;have z0:(0:Int)<(N:Int):=jq;have A0:IntKind.i64.wrap ((N:Int)-1)=(N:Int)-1:=IntWalk.i64_in _ jq
   cases b with
   |false=>
    have e1:(0:Int)<=(N:Int)-1:=jq;go_wp2
    go_loopw [11,12] (λt i wr=>t=uy z/\i=uy ((N:Int)-1)/\wr=w3) (λ_ _ _=>0)
    case atStart=>exact⟨rfl,rfl,rfl⟩
    case round=>
     obtain⟨rfl,rfl,rfl⟩:=hrel;have HT:uH (z∈zq s):=zd (by rw[f0.out,b0.out];exact fj (by rw[<-b0.out,<-HN.o];omega));have HC:uH (xh false s tr=some z):=zd (by unfold xh;rw[if_neg (by have:=HW.o.1;have:=HN.o;have h5:=b0.out;rw[<-h5];omega),f0.out,b0.out];rfl);obtain⟨t,rfl⟩:=jy z;obtain⟨w3,rfl⟩:=jy wr;have s0:0<=t/\t<=4:=by have h9:=(HF.o.fits.turn HT.o).rg;have h8:=(yf HV.o).2.2.2.2.1;omega
     have y0:IntKind.i64.wrap (t+1)=t+1:=IntWalk.i64_in _ jq;have c5:=h3.c5 4 rfl;have c9:=h3.c9 1 rfl;have c10:=h3.fr.c10 3 rfl;go_wp2_with fail;clear c9 c10 c5;refine(Ys u p v L s t w0 w3 _ h3.fr HP.o h3.rd HF.o HT.o).mono ?_;rintro e w4 ⟨v',L',rfl,h4⟩;have h5:=(h4.alloc (yN v') 38).sub (l':= .blk w4.heap.size (yN v') 38::Qu w M v a' m c' tr u++l0) (.cons_cons _ (.cons _ (.refl _)));clear h4 h3;have c9:=h5.c9 0 rfl;have c8:=h5.c9 1 rfl;go_upto_region 19 with fail;have h6:=(h5.setV 1 rfl v').sub (l':=Qu w M v' a' m c' tr u++l0) (.cons _ (.refl _));obtain⟨w5,hw,h7⟩:=h6.named;rw[<-hw];clear hw h6 h5 c9 c8;have h8:=h7.alloc #[uy t] 3;go_wp2_with (at_builtin;refine h8.appI 2 rfl _ _ rfl rfl rfl [t] rfl rfl (Rd.of_blk (h8.fr.blk 0 rfl)) jq ?_;intro a9 c9 w6 h9)
     go_roundw
     case rel=>exact⟨v',L',zJ p s t,a9,m+1,c9,tr++[t],rfl,by rw[Qn],HF.o.step (HF.o.fits.turn HT.o),h9.sub (l':=Qu w M v' a9 (m+1) c9 (tr++[t]) u++l0) (.cons _ (.refl _)),zd ⟨by rw[xp,HW.o.1];rfl,jq,by rw[HW.o.2.2];exact Q5 HC.o HT.o i0⟩⟩
     case measure=>simp[pI];omega
   |true=>
    go_wp2
    go_loopw [11,12] (λt i wr=>∃k:Nat,k<=N/\t=uy ((ja F0 (l.drop k)).getD z)/\i=uy ((k:Int)-1)/\wr=w3) (λ_ i _=>(intOf i+1).toNat)
    case atStart=>exact⟨N,Nat.le_refl _,by rw[HN.o,List.drop_length];rfl,rfl,rfl⟩
    case round=>
     obtain⟨k,hk,rfl,rfl,rfl⟩:=hrel;by_cases x0:0<k
     ·obtain⟨j,rfl⟩:∃j,k=j+1:=⟨k-1,jq⟩
      have ej:(((j+1:Nat):Int)-1)=(j:Int):=jq;rw[ej];have gj:=m0.out j (by simpa using(by have:=HN.o;omega:j<l.length));obtain⟨x,hx⟩:=jy (l.getD j 0);rw[<-hx] at gj;have HX:=zd hx;have j0:(0:Int)<=(j:Int):=jq;have j1:(j:Int)<(N:Int):=jq;have B0:IntKind.i64.wrap ((j:Int)-1)=(j:Int)-1:=IntWalk.i64_in _ jq;have HD:uH ((ja F0 (l.drop j)).getD z=if F0<=x then x else (ja F0 (l.drop (j+1))).getD z):=zd (by
       rw[tK (jQ HN.o),<-HX.o];split<;>rfl)
      obtain⟨y,hy⟩:=jy ((ja F0 (l.drop (j+1))).getD z);rw[<-hy] at HD⊢;clear hx hy ej;by_cases o0:F0<=x
      ·go_wp2
       go_roundw
       case rel=>exact⟨j,jq,by rw[HD.o,if_pos o0],rfl,trivial⟩
       case measure=>simp[intOf]
      ·go_wp2
       go_roundw
       case rel=>exact⟨j,jq,by rw[HD.o,if_neg o0],rfl,trivial⟩
       case measure=>simp[intOf]
     ·obtain rfl:k=0:=jq;obtain⟨t,ht⟩:=jy ((ja F0 (l.drop 0)).getD z);rw[<-ht];have HC:uH (xh true s tr=some t):=zd (by unfold xh;rw[if_neg (by have:=HW.o.1;have:=HN.o;have h5:=b0.out;rw[<-h5];omega),if_pos rfl,ht,List.drop_zero,q0.out,f0.out,b0.out]);have HT:uH (t∈zq s):=zd (Gz HC.o);obtain⟨w3,rfl⟩:=jy wr;clear ht hk x0;have s0:0<=t/\t<=4:=by have h9:=(HF.o.fits.turn HT.o).rg;have h8:=(yf HV.o).2.2.2.2.1;omega
      have y0:IntKind.i64.wrap (t+1)=t+1:=IntWalk.i64_in _ jq;have c5:=h3.c5 4 rfl;have c9:=h3.c9 1 rfl;have c10:=h3.fr.c10 3 rfl;go_wp2_with fail;clear c9 c10 c5;refine(Ys u p v L s t w0 w3 _ h3.fr HP.o h3.rd HF.o HT.o).mono ?_;rintro e w4 ⟨v',L',rfl,h4⟩;have h5:=(h4.alloc (yN v') 38).sub (l':= .blk w4.heap.size (yN v') 38::Qu w M v a' m c' tr u++l0) (.cons_cons _ (.cons _ (.refl _)));clear h4 h3;have c9:=h5.c9 0 rfl;have c8:=h5.c9 1 rfl;go_upto_region 19 with fail;have h6:=(h5.setV 1 rfl v').sub (l':=Qu w M v' a' m c' tr u++l0) (.cons _ (.refl _));obtain⟨w5,hw,h7⟩:=h6.named;rw[<-hw];clear hw h6 h5 c9 c8;have h8:=h7.alloc #[uy t] 3;go_wp2_with (at_builtin;refine h8.appI 2 rfl _ _ rfl rfl rfl [t] rfl rfl (Rd.of_blk (h8.fr.blk 0 rfl)) jq ?_;intro a9 c9 w6 h9)
      go_roundw
      case rel=>exact⟨v',L',zJ p s t,a9,m+1,c9,tr++[t],rfl,by rw[Qn],HF.o.step (HF.o.fits.turn HT.o),h9.sub (l':=Qu w M v' a9 (m+1) c9 (tr++[t]) u++l0) (.cons _ (.refl _)),zd ⟨by rw[xp,HW.o.1];rfl,jq,by rw[HW.o.2.2];exact Q5 HC.o HT.o i0⟩⟩
      case measure=>simp[pI];omega
  ·have HM:=zd (show m=100 by have:=HW.o.2.1;omega);have k0:¬((m:Int)<100):=by have:=HM.o;omega
   clear i0;have u0:=Xa v a' m c' wr;have c9:=h.c9 0 rfl;have c10:=h.fr.c10 2 rfl;have h9:=h.setR 2 rfl v a' m c';have HE:uH (xn p (xh b)=some (s,tr)):=zd (by
    unfold xn;rw[if_pos HV.o,HW.o.2.2];exact Jy (if_pos (.inr (jZ HW.o.1 HM.o))) HW.o.2.1)
   have c0:=zd HW.o.1;go_wp2;exact zM (v:= .tuple #[.agg (rC v a' m c'),.bool true]) (by simp[results,Tryz.results46,go_sem,h9.fr.c10 2 rfl]) rfl (.inr ⟨s,tr,v,L,a',c',HE.o,by rw[c0.out],by rw[c0.out];exact h9.sub (.cons _ (.cons_cons _ (.cons _ (.cons _ (.refl _)))))⟩)
theorem Uu (u:PV) (p:Pg) (b:Bool) (w0 w:World) (l0:List It) (G0:Fr w0 w l0) (hp:yK w0 u p) (hz:xH u p) (hv:zD p=false):
  Calls Tryz.prog 46 #[.agg (zF u),.bool b] w (Vz (xn p (xh b)) w0 l0):=by
 have HP:=zd hp;have HV:=zd hv;have HZ:=zd hz;have F:=(G0.alloc (zF u) 26).alloc yS 40;simp only[yY] at F;clear hp hv hz G0;have cp:=F.c5 1 rfl;go_enter Tryz.func46,Tryz.ntmps46;go_wp2_with fail;refine(JI u p _ (HP.o.below F.bel) HZ.o HV.o).mono ?_;rintro e w1 ⟨rfl,hb⟩;have F1:=(F.call hb).alloc zC 38;clear F hb cp;go_upto_region 2 with fail;obtain⟨W1,hw,F2⟩:=F1.named;rw[<-hw];clear hw F1;have c10:=F2.c10 1 rfl;have F3:=F2.setY 1 rfl;go_wp2;exact zM (v:= .tuple #[.agg yS,.bool false]) (by simp[results,Tryz.results46,go_sem,F3.c10 1 rfl]) rfl (.inl ⟨by unfold xn;rw[HV.o];rfl,rfl,F3.sub (.cons _ (.cons _ (.cons _ (.refl _))))⟩)
theorem XC (u:PV) (p:Pg) (w:World) (hp:yK w u p) (hz:xH u p):
  Calls Tryz.prog 24 #[.agg (zF u)] w (Vz (xn p (xh true)) w []):=by
 have F:=((Fr.start w).alloc (zF u) 26).alloc yS 40;simp only[yY] at F;have hc:∀W,Fr w W [.blk (w.heap.size+1) yS 40,.blk w.heap.size (zF u) 26]->Calls Tryz.prog 46 #[.agg (zF u),.bool true] W (Vz (xn p (xh true)) w [.blk (w.heap.size+1) yS 40,.blk w.heap.size (zF u) 26]):=λW F=>by
  cases hv:zD p with
  |true=>exact Us u p true w W _ F hp hv
  |false=>exact Uu u p true w W _ F hp hz hv
 have HC:=zd hc;clear hc hp hz;have cp:=F.c5 1 rfl;go_enter Tryz.func24,Tryz.ntmps24;go_wp2_with fail;refine(HC.o _ F).mono ?_;rintro e w1 (⟨hn,rfl,F1⟩|⟨s,tr,v,L,a,c,ho,rfl,h1⟩)
 ·have HN:=zd hn;have cz:=F1.c10 0 rfl;have F2:=F1.setY 0 rfl;clear F cp hn;go_wp2;exact zM (v:= .tuple #[.agg yS,.bool false]) (by simp[results,Tryz.results24,go_sem,F2.c10 0 rfl]) rfl (.inl ⟨HN.o,rfl,F2.sub (.cons _ (.cons _ (.refl _)))⟩)
 ·have HO:=zd ho;have cz:=h1.fr.c10 1 rfl;have h2:=h1.setR 1 rfl v a tr.length c;clear F cp ho;go_wp2;exact zM (v:= .tuple #[.agg (rC v a tr.length c),.bool true]) (by simp[results,Tryz.results24,go_sem,h2.fr.c10 1 rfl]) rfl (.inr ⟨s,tr,v,L,a,c,HO.o,rfl,h2.sub (.cons_cons _ (.cons _ (.cons _ (.refl _))))⟩)
theorem QR (u:PV) (p:Pg) (w:World) (hp:yK w u p) (hz:xH u p):
  Calls Tryz.prog 20 #[.agg (zF u)] w (Vz (xn p (xh false)) w []):=by
 have F:=((Fr.start w).alloc (zF u) 26).alloc yS 40;simp only[yY] at F;have hc:∀W,Fr w W [.blk (w.heap.size+1) yS 40,.blk w.heap.size (zF u) 26]->Calls Tryz.prog 46 #[.agg (zF u),.bool false] W (Vz (xn p (xh false)) w [.blk (w.heap.size+1) yS 40,.blk w.heap.size (zF u) 26]):=λW F=>by
  cases hv:zD p with
  |true=>exact Us u p false w W _ F hp hv
  |false=>exact Uu u p false w W _ F hp hz hv
 have HC:=zd hc;clear hc hp hz;have cp:=F.c5 1 rfl;go_enter Tryz.func20,Tryz.ntmps20;go_wp2_with fail;refine(HC.o _ F).mono ?_;rintro e w1 (⟨hn,rfl,F1⟩|⟨s,tr,v,L,a,c,ho,rfl,h1⟩)
 ·have HN:=zd hn;have cz:=F1.c10 0 rfl;have F2:=F1.setY 0 rfl;clear F cp hn;go_wp2;exact zM (v:= .tuple #[.agg yS,.bool false]) (by simp[results,Tryz.results20,go_sem,F2.c10 0 rfl]) rfl (.inl ⟨HN.o,rfl,F2.sub (.cons _ (.cons _ (.refl _)))⟩)
 ·have HO:=zd ho;have cz:=h1.fr.c10 1 rfl;have h2:=h1.setR 1 rfl v a tr.length c;clear F cp ho;go_wp2;exact zM (v:= .tuple #[.agg (rC v a tr.length c),.bool true]) (by simp[results,Tryz.results20,go_sem,h2.fr.c10 1 rfl]) rfl (.inr ⟨s,tr,v,L,a,c,HO.o,rfl,h2.sub (.cons_cons _ (.cons _ (.cons _ (.refl _))))⟩)
end Go.Proofs.YtfclolgfegdfjaaGreat
