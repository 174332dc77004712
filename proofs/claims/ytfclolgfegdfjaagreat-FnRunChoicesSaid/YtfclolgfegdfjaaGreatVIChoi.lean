/- Part of a proof: IChoi. -/
import Derived.Test.YtfclolgfegdfjaaGreatVIRw
set_option maxRecDepth 100000
set_option maxHeartbeats 16000000
namespace Go.Proofs.YtfclolgfegdfjaaGreat
open Go.RowKit
variable {s:zp} {p:Pg} {tr:List Int}
theorem gK (x:Int) (w:World):
  Calls Tryz.prog 82 #[uy x] w λe w'=>e= .returned (.bool (decide (x<0)))/\w'=w:=by
 go_enter Tryz.func82,Tryz.ntmps82;go_wp2;go_ret;exact⟨rfl,rfl⟩
theorem K9 (a:uQ) (n c:Nat) (l:List Int) (w:World) (hl:l.length=n) (hn:n<=100) (hr:Rd w a (zf l)):
  Calls Tryz.prog 48 #[.slice a n c,.func (.func 82) #[] #[]] w λe w'=>w'=w/\((e= .returned (uy (-1))/\∀j,j<n->¬l.getD j 0<0)\/∃k:Nat,e= .returned (uy k)/\k<n/\l.getD k 0<0):=by
 have HL:=zd hl;clear hl;go_enter Tryz.func48,Tryz.ntmps48;go_wp2
 go_loopw [8] (λi wr=>∃k:Nat,k<=n/\i=uy k/\uH (∀j,j<k->¬l.getD j 0<0)/\wr=w) (λi _=>n-(intOf i).toNat)
 case atStart=>exact⟨0,jq,rfl,zd jq,rfl⟩
 case round=>
  obtain⟨k,hk,rfl,a0,rfl⟩:=hrel;by_cases d0:k<n
  ·obtain⟨b,o,rfl,b0⟩:=hr.int (jQ HL.o);have g:=b0 k (jQ HL.o);obtain⟨x,hx⟩:=jy (l.getD k 0);rw[<-hx] at g;have HX:=zd hx;clear b0 hx;go_wp2_with fail;refine(gK x _).mono ?_;rintro e wz ⟨rfl,hw⟩;obtain rfl:=hw;by_cases e:x<0
   ·rw[xK e];have HE:=zd e;clear e;go_wp2;go_ret;exact⟨rfl,.inr ⟨k,rfl,d0,by have h1:=HX.o;have h2:=HE.o;rw[xm] at h1;omega⟩⟩
   ·rw[xr e];have HE:=zd e;clear e;go_wp2
    go_roundw
    case rel=>exact⟨k+1,jq,by go_num,zd (λj hj=>by
      rcases Nat.lt_or_ge j k with h|h
      ·have:=a0.out j h;omega
      ·have:j=k:=jq;subst this;have h1:=HX.o;have h2:=HE.o;omega),trivial⟩
    case measure=>exact uq
  ·have c0:k=n:=jq;subst c0;go_wp2;go_ret;exact⟨rfl,.inl ⟨rfl,a0.out⟩⟩
theorem KH (a:uQ) (n c:Nat) (l:List Int) (w:World) (hl:l.length=n) (hn:n<=100) (hr:Rd w a (zf l)):
  Calls Tryz.prog 81 #[.slice a n c,.func (.func 82) #[] #[]] w λe w'=>w'=w/\e= .returned (.bool (!l.all (λx=>decide (0<=x)))):=by
 have HL:=zd hl;clear hl;go_enter Tryz.func81,Tryz.ntmps81;go_wp2_with fail;refine(K9 a n c l w HL.o hn hr).mono ?_;rintro e wz ⟨hw,h⟩;obtain rfl:=hw;rcases h with ⟨rfl,a0⟩|⟨k,rfl,hk,b0⟩
 ·have t1:l.all (λx=>decide (0<=x))=true:=by
   rw[List.all_eq_true];intro x hx;obtain⟨j,hj,rfl⟩:=List.mem_iff_getElem.1 hx;have:=a0 j (jQ HL.o);rw[xm,xV hj] at this;simpa using this
  have T1:=zd t1;clear t1 a0;go_wp2;go_ret;exact⟨rfl,by rw[T1.o];rfl⟩
 ·have t1:l.all (λx=>decide (0<=x))=false:=by
   rw[List.all_eq_false];have hj:k<l.length:=by have:=HL.o;omega
   rw[xm,xV hj] at b0;exact⟨_,List.getElem_mem hj,by simpa using b0⟩
  have T1:=zd t1;have k0:(0:Int)<=(k:Int):=jq;clear t1 b0;go_wp2;go_ret;exact⟨rfl,by rw[T1.o];rfl⟩
theorem U6 (T:List Int) (B N c0:Nat) (a0:uQ) (w:World) (p:Pg) (hb:w.cell? ⟨B,0,none⟩=some (.slice a0 N c0)) (hT:Rd w a0 (zf T)) (i0:T.length=N) (hN:N<=100) (h0:∀i,i<N->0<=T.getD i 0):Qx w 83 #[.pointer (some ⟨B,0,none⟩)] p (qo T) (λtr=>tr.length<=N):=by
 intro v L s a b n c m d tr W d0 hs hr hl o0 hJ p0 hm q0 f0;show Calls Tryz.prog 83 #[.agg (rC v a n c),.slice b m d,.pointer (some ⟨B,0,none⟩)] W _;obtain⟨l,el⟩:=jy (zq s);unfold qo;rw[<-el] at hm f0⊢;have F:=(Fr.start W).alloc (rC v a n c) 40;have cr:=F.c10 0 rfl;have HB:=zd F.bel;have hc:=ze HB.o (ze d0 hb);have HT:=zd ((hT.below d0).below HB.o);have n0:=zd (f0.below HB.o);have HL:=zd hl;have b0:=zd i0;have HM:=zd hm;have H0:=zd h0;clear hs hr p0 hm f0 hb hT d0 hl i0 F el h0;replace hJ:tr.length<=N:=hJ;go_enter Tryz.func83,Tryz.ntmps83;by_cases h0:m=0
 ·subst h0;rw[if_pos (.inl HM.o)];go_wp2;exact zM (v:= .tuple #[uy 0,.bool false]) (by simp[results,Tryz.results83,go_sem]) rfl ⟨rfl,HB.o⟩
 have t0:((m:Int)==0)=false:=by simpa using h0
 by_cases hn:n=N
 ·have t1:((n:Int)==(N:Int))=true:=by simp;omega
  rw[if_pos (.inr (by rw[HL.o,b0.out,hn]))];clear hn h0;go_wp2;exact zM (v:= .tuple #[uy 0,.bool false]) (by simp[results,Tryz.results83,go_sem]) rfl ⟨rfl,HB.o⟩
 ·have t1:((n:Int)==(N:Int))=false:=by simp;omega
  have j0:n<N:=by have:=HL.o;omega
  rw[if_neg (by have:=HL.o;have:=b0.out;have:=HM.o;omega),HL.o];obtain⟨b1,o1,rfl,g'⟩:=HT.o.int (jQ b0.out);have g:World.cell? _ ⟨b1,o1+n,none⟩=some (uy (T.getD n 0)):=g' n (jQ b0.out);have k0:=H0.o n j0;obtain⟨x,hx⟩:=jy (T.getD n 0);rw[<-hx] at g k0⊢;clear hx g';obtain⟨y,rfl⟩:∃y:Nat,x=y:=⟨x.toNat,jq⟩
  rw[HM.o];have hy:y% m<m:=Nat.mod_lt _ jq;obtain⟨b2,o2,rfl,g0⟩:=n0.out.int (jQ HM.o);have g2:World.cell? _ ⟨b2,o2+y% m,none⟩=some (uy (l.getD (y% m) 0)):=g0 (y% m) (jQ HM.o);obtain⟨z,hz⟩:=jy (l.getD (y% m) 0);rw[<-hz] at g2;have l0:(0:Int)<=(n:Int):=jq;have l1:(n:Int)<(N:Int):=jq;have m0:((m:Int)=0)=False:=by simp;omega
  have HZ:=zd hz;clear hn h0 k0 g0 hz j0 hJ;have e1:Int.tmod (y:Int) (m:Int)=((y% m:Nat):Int):=rfl;have l2:(0:Int)<=((y% m:Nat):Int):=jq;have l3:((y% m:Nat):Int)<(m:Int):=jq;go_wp2;exact zM (v:= .tuple #[uy z,.bool true]) (by simp[results,Tryz.results83,go_sem]) rfl ⟨by rw[HZ.o];rfl,HB.o⟩
theorem fw {T:List Int} (hT:T.length<=100) (h:xg p (qo T) 101 (zI p) []=some (s,tr)):tr.length<=100:=by
 have key:∀(n:Nat) (s0:zp) (t0:List Int),xg p (qo T) n s0 t0=some (s,tr)->t0.length<=T.length->tr.length<=T.length:=by
  intro n
  induction n with
  |zero=>intro s0 t0 h;cases h
  |succ n ih=>
   intro s0 t0 h hl;unfold xg at h;split at h
   ·obtain⟨-,rfl⟩:=Prod.mk.inj (Option.some.inj h);exact hl
   ·next t e=>
    split at h
    ·refine ih _ _ h ?_;unfold qo at e;split at e
     ·cases e
     ·next hq=>rw[xp];show t0.length+1<=T.length;omega
    ·cases h
 exact Nat.le_trans (key 101 _ _ h (Nat.zero_le _)) hT
theorem Vg (u:PV) (p:Pg) (a0:uQ) (N c0:Nat) (T:List Int) (w:World) (hp:yK w u p) (hz:xH u p) (hT:Rd w a0 (zf T)) (hl:T.length=N) (hN:N<=1048576):
  Calls Tryz.prog 31 #[.agg (zF u),.slice a0 N c0] w (De (qL p T) w):=by
 have HP:=zd hp;have HZ:=zd hz;have F:=(((Fr.start w).alloc (zF u) 26).alloc #[.slice a0 N c0] 23).alloc yS 40;simp only[yY] at F;have HT:=zd (hT.below F.bel);have HL:=zd hl;have cp:=F.c5 2 rfl;have ct:=F.cell 1 0 rfl rfl;clear hp hz hT hl;have cz:=F.c10 0 rfl;have F0:=F.setY 0 rfl;by_cases l0:100<N
 ·have t1:decide ((100:Int)<(N:Int))=true:=xK jq;have d0:qL p T=none:=if_neg (jQ HL.o);have f0:=zd d0;clear d0 F0;go_enter Tryz.func31,Tryz.ntmps31;go_wp2;exact zM (v:= .tuple #[.agg yS,.bool false]) (by simp[results,Tryz.results31,go_sem,F.c10 0 rfl]) rfl ⟨F.bel,.inl ⟨f0.out,rfl⟩⟩
 have t1:decide ((100:Int)<(N:Int))=false:=xr jq;go_enter Tryz.func31,Tryz.ntmps31;go_wp2_with fail;refine(KH a0 N c0 T _ HL.o jq HT.o).mono ?_;rintro e wz ⟨hw,rfl⟩;obtain rfl:=hw
 cases hall:T.all (λx=>decide (0<=x)) with
 |false=>
  have d0:qL p T=none:=if_neg (by rw[hall];simp);have f0:=zd d0;clear d0 F0 hall;go_wp2;exact zM (v:= .tuple #[.agg yS,.bool false]) (by simp[results,Tryz.results31,go_sem,F.c10 0 rfl]) rfl ⟨F.bel,.inl ⟨f0.out,rfl⟩⟩
 |true=>
  have h0:∀i,i<N->0<=T.getD i 0:=λi hi=>by
   have hj:i<T.length:=by rw[HL.o];exact hi
   rw[xm,xV hj];simpa using List.all_eq_true.1 hall _ (List.getElem_mem hj)
  have b0:qL p T=xn p (qo T):=if_pos ⟨by rw[HL.o];omega,hall⟩;have HY:=zd b0;have H0:=zd h0;clear b0 hall h0 F0 cz;go_wp2_with fail
  cases hv:zD p with
  |false=>
   have d0:qL p T=none:=by rw[HY.o];unfold xn;rw[hv];rfl
   have f0:=zd d0;have HV:=zd hv;clear d0 hv;refine(XK u p _ _ (HP.o.below F.bel) HZ.o HV.o).mono ?_;rintro e w1 ⟨rfl,hb⟩;have F1:=F.call hb;clear F hb cp ct;have cz:=F1.c10 0 rfl;have F0:=F1.setY 0 rfl;go_wp2;exact zM (v:= .tuple #[.agg yS,.bool false]) (by simp[results,Tryz.results31,go_sem,F0.c10 0 rfl]) rfl ⟨F0.bel,.inl ⟨f0.out,rfl⟩⟩
  |true=>
   have b0:qL p T=xg p (qo T) 101 (zI p) []:=by rw[HY.o];unfold xn;rw[if_pos hv]
   have HW:=zd b0;have HV:=zd hv;clear b0 hv;refine(XG u p _ 83 #[.pointer (some ⟨w.heap.size+1,0,none⟩)] (qo T) (HP.o.below F.bel) HV.o (λ_ _=>rfl) (λtr=>tr.length<=N) (Nat.zero_le _) (λs tr t h1 h2=> ?_) (U6 T _ N c0 a0 _ p ct HT.o HL.o jq H0.o) (λs tr h1 h2=>if_pos (.inr (by have:=HL.o;replace h1:tr.length<=N:=h1;omega)))).mono ?_
   ·replace h1:tr.length<=N:=h1;show(tr++[t]).length<=N;have:=HL.o;unfold qo at h2;split at h2
    ·cases h2
    ·next hq=>rw[xp];show tr.length+1<=N;omega
   rintro e w1 ⟨hb,⟨hn,rfl⟩|⟨s,tr,v,L,a,c,g0,rfl,ho,hr⟩⟩
   ·have f0:=zd (HW.o.trans hn);have F1:=F.call hb;clear F hb hn cp ct;have cz:=F1.c10 0 rfl;have F0:=F1.setY 0 rfl;go_wp2;exact zM (v:= .tuple #[.agg yS,.bool false]) (by simp[results,Tryz.results31,go_sem,F0.c10 0 rfl]) rfl ⟨F0.bel,.inl ⟨f0.out,rfl⟩⟩
   have k0:=zd (HW.o.trans g0);have HR:=zd hr;have j0:=zd (fw (jQ HL.o) g0);have HN:=zd (yz.lower ho.nw F.bel.size);have G:=Sf.gainR F hb ho.tr ho.st ho.nw;have i0:=zd ((ho.inn.lower F.bel.size).set (G.fr.blk 1 rfl) ⟨jk,jk,jk⟩ (((((((((((zo.refl _ _).set (j:=0) (v:= .slice v.pl.a v.pl.n v.pl.c) yl).set (j:=1) (v:= .slice v.st.a v.st.n v.st.c) yl).set (j:=2) (v:= .slice v.se.a v.se.n v.se.c) yl).set (j:=3) (v:= .slice v.on.a v.on.n v.on.c) yl).set (j:=4) (v:= .slice v.gr.a v.gr.n v.gr.c) yl).set (j:=5) (v:= .slice v.ba.a v.ba.n v.ba.c) yl).set (j:=6) (v:= .slice v.ch.a v.ch.n v.ch.c) yl).set (j:=7) (v:= .slice v.sa.a v.sa.n v.sa.c) yl).set (j:=8) (v:=uy v.fl) yl).set (j:=9) (v:= .slice a tr.length c) yl));clear hb g0 ho hr F cp ct;have cz:=G.fr.c10 1 rfl;have G2:=G.setR 1 rfl v a tr.length c;go_wp2;exact zM (v:= .tuple #[.agg (rC v a tr.length c),.bool true]) (by simp[results,Tryz.results31,go_sem,G2.fr.c10 1 rfl]) rfl ⟨G2.bel,.inr ⟨p,s,tr,v,L,a,c,k0.out,j0.out,rfl,⟨G2.st.sub λq hq=>yW (.inl hq),HN.o,G2.fr.own 0 rfl,i0.out⟩,HR.o⟩⟩
end Go.Proofs.YtfclolgfegdfjaaGreat
