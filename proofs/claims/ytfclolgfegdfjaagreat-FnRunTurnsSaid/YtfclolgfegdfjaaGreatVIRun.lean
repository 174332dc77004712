/- Part of a proof: IRun. -/
import Derived.Test.YtfclolgfegdfjaaGreatVPRunC
import Derived.Test.YtfclolgfegdfjaaGreatVPIRunC
set_option maxRecDepth 100000
set_option maxHeartbeats 16000000
namespace Go.Proofs.YtfclolgfegdfjaaGreat
open Go.RowKit
def uv (x:Int):List Int->Option Int
 |[]=>none
 |t::l=>if x<t then some t else uv x l
def tc (l tr:List Int):Int:=if tr.length=0 then l.getD 0 0 else (uv (tr.getD (tr.length-1) 0) l).getD (l.getD 0 0)
def Yk (s:zp) (tr:List Int):Option Int:=if (zq s).length=0\/100<=tr.length then none else some ((zq s).getD 0 0)
def Yf (s:zp) (tr:List Int):Option Int:=if (zq s).length=0\/100<=tr.length then none else some (tc (zq s) tr)
theorem Uv {x:Int}:∀{l:List Int} {t:Int},uv x l=some t->t∈l
 |[],_,h=>by cases h
 |y::l,t,h=>by
  unfold uv at h;split at h
  ·obtain rfl:=Option.some.inj h;simp
  ·exact List.mem_cons_of_mem _ (Uv h)
theorem Kg {x:Int}:∀{l:List Int},(∀j,j<l.length->l.getD j 0<=x)->uv x l=none
 |[],_=>rfl
 |y::l,h=>by
  have h0:y<=x:=h 0 jv;unfold uv;rw[if_neg jq];exact Kg λj hj=>h (j+1) (by simpa using hj)
theorem Ks {x:Int}:∀{l:List Int} {k:Nat},k<l.length->x<l.getD k 0->(∀j,j<k->l.getD j 0<=x)->uv x l=some (l.getD k 0)
 |[],_,h,_,_=>by cases h
 |y::l,0,_,h,_=>by unfold uv;exact if_pos h
 |y::l,k+1,hk,h,hall=>by
  have h0:y<=x:=hall 0 jq;unfold uv;rw[if_neg jq];exact Ks (by simpa using hk) h λj hj=>hall (j+1) jq
theorem tZ {l:List Int} (h:l.length≠0):l.getD 0 0∈l:=by
 cases l with
 |nil=>exact absurd rfl h
 |cons a l=>simp
theorem gN:∀s tr t,Yk s tr=some t->t∈zq s:=λs tr t h=>by
 unfold Yk at h;split at h
 ·cases h
 ·next hn=>
  obtain rfl:=Option.some.inj h;exact tZ λe=>hn (.inl e)
theorem gT:∀s tr t,Yf s tr=some t->t∈zq s:=λs tr t h=>by
 unfold Yf at h;split at h
 ·cases h
 ·next hn=>
  obtain rfl:=Option.some.inj h;have h0:=tZ (l:=zq s) λe=>hn (.inl e);unfold tc;split
  ·exact h0
  ·cases e:uv (tr.getD (tr.length-1) 0) (zq s) with
   |none=>exact h0
   |some t=>exact Uv e
theorem Qp:∀s tr,100<=tr.length->Yk s tr=none:=λ_ _ h=>if_pos (.inr h)
theorem Qo:∀s tr,100<=tr.length->Yf s tr=none:=λ_ _ h=>if_pos (.inr h)
theorem fU (x y:Int) (B:Nat) (w:World) (hc:w.cell? ⟨B,0,none⟩=some (uy y)):
  Calls Tryz.prog 49 (#[uy x]++ #[.pointer (some ⟨B,0,none⟩)]) w λe w'=>e= .returned (.bool (decide (y<x)))/\w'=w:=by
 show Calls Tryz.prog 49 #[uy x,.pointer (some ⟨B,0,none⟩)] w _;go_enter Tryz.func49,Tryz.ntmps49;go_wp2;go_ret;exact⟨rfl,rfl⟩
theorem GH (a:uQ) (n c:Nat) (l:List Int) (y:Int) (B:Nat) (w:World) (hl:l.length=n) (hn:n<=8) (hr:Rd w a (zf l)) (hc:w.cell? ⟨B,0,none⟩=some (uy y)):
  Calls Tryz.prog 48 #[.slice a n c,.func (.func 49) #[] #[.pointer (some ⟨B,0,none⟩)]] w λe w'=>w'=w/\((e= .returned (uy (-1))/\∀j,j<n->l.getD j 0<=y)\/∃k:Nat,e= .returned (uy k)/\k<n/\y<l.getD k 0/\∀j,j<k->l.getD j 0<=y):=by
 have HL:=zd hl;have HC:=zd hc;clear hl hc;go_enter Tryz.func48,Tryz.ntmps48;go_wp2
 go_loopw [8] (λi wr=>∃k:Nat,k<=n/\i=uy k/\uH (∀j,j<k->l.getD j 0<=y)/\wr=w) (λi _=>n-(intOf i).toNat)
 case atStart=>exact⟨0,jq,rfl,zd jq,rfl⟩
 case round=>
  obtain⟨k,hk,rfl,a0,rfl⟩:=hrel;by_cases d0:k<n
  ·obtain⟨b,o,rfl,b0⟩:=hr.int (jQ HL.o);have g:=b0 k (jQ HL.o);obtain⟨x,hx⟩:=jy (l.getD k 0);rw[<-hx] at g;have HX:=zd hx;clear b0 hx;go_wp2_with fail;refine(fU x y B _ HC.o).mono ?_;rintro e wz ⟨rfl,hw⟩;obtain rfl:=hw;by_cases e:y<x
   ·rw[xK e];have HE:=zd e;clear e;go_wp2;go_ret;exact⟨rfl,.inr ⟨k,rfl,d0,by rw[<-HX.o];exact HE.o,a0.out⟩⟩
   ·rw[xr e];have HE:=zd e;clear e;go_wp2
    go_roundw
    case rel=>exact⟨k+1,jq,by go_num,zd (λj hj=>by
      rcases Nat.lt_or_ge j k with h|h
      ·exact a0.out j h
      ·have:j=k:=jq;subst this;rw[<-HX.o];have:=HE.o;omega),trivial⟩
    case measure=>exact uq
  ·have c0:k=n:=jq;subst c0;go_wp2;go_ret;exact⟨rfl,.inl ⟨rfl,a0.out⟩⟩
theorem UA (w:World) (p:Pg):Qx w 45 #[] p Yk (λ_=>True):=by
 intro v L s a b n c m d tr W hb hs hr hl d0 _ b0 hm g0 a0;show Calls Tryz.prog 45 #[.agg (rC v a n c),.slice b m d] W _;obtain⟨l,el⟩:=jy (zq s);unfold Yk;rw[<-el] at hm a0⊢;have HL:=zd hl;have HM:=zd hm;have f0:=zd b0;have c0:=zd a0;clear hb hs hr hl b0 hm a0 el;have F:=(Fr.start W).alloc (rC v a n c) 40;have cr:=F.c10 0 rfl;have HB:=zd F.bel;go_enter Tryz.func45,Tryz.ntmps45;by_cases h0:m=0
 ·subst h0;rw[if_pos (.inl HM.o)];clear F;go_wp2;exact zM (v:= .tuple #[uy 0,.bool false]) (by simp[results,Tryz.results45,go_sem]) rfl ⟨rfl,HB.o⟩
 by_cases h1:n=100
 ·subst h1;rw[if_pos (.inr (by rw[HL.o];omega))];clear F;go_wp2;exact zM (v:= .tuple #[uy 0,.bool false]) (by simp[results,Tryz.results45,go_sem]) rfl ⟨rfl,HB.o⟩
 rw[if_neg (jZ HM.o HL.o)];have t1:((m:Int)==0)=false:=by simpa using h0
 have t2:((n:Int)==100)=false:=by simp;omega
 obtain⟨b1,o1,rfl,g'⟩:=(c0.out.below HB.o).int (jQ HM.o);have g:World.cell? _ ⟨b1,o1,none⟩=some (uy (l.getD 0 0)):=g' 0 (jQ HM.o);clear F g';have m0:((0:Int)<(m:Int)):=jq;go_wp2;exact zM (v:= .tuple #[uy (l.getD 0 0),.bool true]) (by simp[results,Tryz.results45,go_sem]) rfl ⟨rfl,HB.o⟩
theorem UP (w:World) (p:Pg):Qx w 47 #[] p Yf (λ_=>True):=by
 intro v L s a b n c m d tr W hb hs hr hl l0 _ i0 hm n0 f0;show Calls Tryz.prog 47 #[.agg (rC v a n c),.slice b m d] W _;obtain⟨l,el⟩:=jy (zq s);unfold Yf;rw[<-el] at hm f0⊢;have HL:=zd hl;have HM:=zd hm;have k0:=zd i0;have d0:=zd f0;clear hb hs hr hl i0 hm f0 el;have F:=(Fr.start W).alloc (rC v a n c) 40;have cr:=F.c10 0 rfl;have HB:=zd F.bel;go_enter Tryz.func47,Tryz.ntmps47;by_cases h0:m=0
 ·subst h0;rw[if_pos (.inl HM.o)];clear F;go_wp2;exact zM (v:= .tuple #[uy 0,.bool false]) (by simp[results,Tryz.results47,go_sem]) rfl ⟨rfl,HB.o⟩
 by_cases h1:n=100
 ·subst h1;rw[if_pos (.inr (by rw[HL.o];omega))];clear F;go_wp2;exact zM (v:= .tuple #[uy 0,.bool false]) (by simp[results,Tryz.results47,go_sem]) rfl ⟨rfl,HB.o⟩
 rw[if_neg (jZ HM.o HL.o)];have t1:((m:Int)==0)=false:=by simpa using h0
 have t2:((n:Int)==100)=false:=by simp;omega
 unfold tc;by_cases h2:n=0
 ·subst h2;rw[if_pos HL.o];obtain⟨b1,o1,rfl,g'⟩:=(d0.out.below HB.o).int (jQ HM.o);have g:World.cell? _ ⟨b1,o1,none⟩=some (uy (l.getD 0 0)):=g' 0 (jQ HM.o);clear F g';have m0:((0:Int)<(m:Int)):=jq;go_wp2;exact zM (v:= .tuple #[uy (l.getD 0 0),.bool true]) (by simp[results,Tryz.results47,go_sem]) rfl ⟨rfl,HB.o⟩
 rw[if_neg (jQ HL.o)];obtain⟨b1,o1,rfl,g'⟩:=(k0.out.below HB.o).int (jQ HL.o);have g:=g' (tr.length-1) (jQ HL.o);rw[HL.o] at g⊢;obtain⟨y,hy⟩:=jy (tr.getD (n-1) 0);rw[<-hy] at g⊢;obtain⟨n',rfl⟩:∃n',n=n'+1:=⟨n-1,jq⟩
 rw[show n'+1-1=n' from rfl] at g;have F2:=F.alloc #[uy y] 3;simp only[yY] at F2;have b0:=zd F2.bel;have j0:=zd (F2.c1 0 rfl).1;rw[show((n'+1:Nat):Int)=(n':Int)+1 by simp] at t2;clear F g' hy F2;go_wp2_with fail;refine(GH b m d l y _ _ HM.o n0 (d0.out.below b0.out) j0.out).mono ?_;rintro e wz ⟨hw,h⟩;obtain rfl:=hw;obtain⟨b2,o2,rfl,g2⟩:=(d0.out.below b0.out).int (jQ HM.o);rcases h with ⟨rfl,a0⟩|⟨k,rfl,hk,g0,a0⟩
 ·have g3:World.cell? _ ⟨b2,o2,none⟩=some (uy (l.getD 0 0)):=g2 0 (jQ HM.o);have c0:=zd (Kg (x:=y) λj hj=>a0 j (jQ HM.o));have m0:((0:Int)<(m:Int)):=jq;clear a0 g2;go_wp2;exact zM (v:= .tuple #[uy (l.getD 0 0),.bool true]) (by simp[results,Tryz.results47,go_sem]) rfl ⟨by rw[c0.out];rfl,b0.out⟩
 ·have g3:=g2 k (jQ HM.o);have c0:=zd (Ks (x:=y) (jQ HM.o) g0 a0);clear a0 g2 g0;go_wp2;exact zM (v:= .tuple #[uy (l.getD k 0),.bool true]) (by simp[results,Tryz.results47,go_sem]) rfl ⟨by rw[c0.out];rfl,b0.out⟩
theorem UZ (u:PV) (p:Pg) (w:World) (hp:yK w u p) (hv:zD p=true):
  Calls Tryz.prog 19 #[.agg (zF u)] w λe w'=>xW w w'/\∃(s:zp) (tr:List Int) (v:zu) (L:zQ) (a:uQ) (c:Nat),xg p Yk 101 (zI p) []=some (s,tr)/\e= .returned (.tuple #[.agg (rC v a tr.length c),.bool true])/\Jb w.heap.size w' v L a c s tr/\xF p s:=by
 have HP:=zd hp;have HV:=zd hv;clear hp hv;have F:=((Fr.start w).alloc (zF u) 26).alloc yS 40;simp only[yY] at F;have cp:=F.c5 1 rfl;go_enter Tryz.func19,Tryz.ntmps19;go_wp2_with fail;refine(XG u p _ 45 #[] Yk (HP.o.below F.bel) HV.o (λ_ _=>rfl) (λ_=>True) trivial (λ_ _ _ _ _=>trivial) (UA _ p) (λs tr _=>Qp s tr)).mono ?_;rintro e w1 ⟨hb,⟨hn,-⟩|⟨s,tr,v,L,a,c,a0,rfl,ho,hr⟩⟩
 ·obtain⟨r,hr⟩:=JZ (p:=p) gN Qp 101 (zI p) [] rfl jv;rw[hn] at hr
  cases hr
 have c0:=zd a0;have HR:=zd hr;have HN:=zd (yz.lower ho.nw F.bel.size);have G:=Sf.gainR F hb ho.tr ho.st ho.nw;have b0:=zd ((ho.inn.lower F.bel.size).set (G.fr.blk 1 rfl) ⟨jk,jk,jk⟩ (((((((((((zo.refl _ _).set (j:=0) (v:= .slice v.pl.a v.pl.n v.pl.c) yl).set (j:=1) (v:= .slice v.st.a v.st.n v.st.c) yl).set (j:=2) (v:= .slice v.se.a v.se.n v.se.c) yl).set (j:=3) (v:= .slice v.on.a v.on.n v.on.c) yl).set (j:=4) (v:= .slice v.gr.a v.gr.n v.gr.c) yl).set (j:=5) (v:= .slice v.ba.a v.ba.n v.ba.c) yl).set (j:=6) (v:= .slice v.ch.a v.ch.n v.ch.c) yl).set (j:=7) (v:= .slice v.sa.a v.sa.n v.sa.c) yl).set (j:=8) (v:=uy v.fl) yl).set (j:=9) (v:= .slice a tr.length c) yl));clear hb a0 ho hr F cp;have cz:=G.fr.c10 1 rfl;have G2:=G.setR 1 rfl v a tr.length c;go_wp2;exact zM (v:= .tuple #[.agg (rC v a tr.length c),.bool true]) (by simp[results,Tryz.results19,go_sem,G2.fr.c10 1 rfl]) rfl ⟨G2.bel,s,tr,v,L,a,c,c0.out,rfl,⟨G2.st.sub λq hq=>yW (.inl hq),HN.o,G2.fr.own 0 rfl,b0.out⟩,HR.o⟩
theorem Kq (u:PV) (p:Pg) (w:World) (hp:yK w u p) (hv:zD p=true):
  Calls Tryz.prog 22 #[.agg (zF u)] w λe w'=>xW w w'/\∃(s:zp) (tr:List Int) (v:zu) (L:zQ) (a:uQ) (c:Nat),xg p Yf 101 (zI p) []=some (s,tr)/\e= .returned (.tuple #[.agg (rC v a tr.length c),.bool true])/\Jb w.heap.size w' v L a c s tr/\xF p s:=by
 have HP:=zd hp;have HV:=zd hv;clear hp hv;have F:=((Fr.start w).alloc (zF u) 26).alloc yS 40;simp only[yY] at F;have cp:=F.c5 1 rfl;go_enter Tryz.func22,Tryz.ntmps22;go_wp2_with fail;refine(XG u p _ 47 #[] Yf (HP.o.below F.bel) HV.o (λ_ _=>rfl) (λ_=>True) trivial (λ_ _ _ _ _=>trivial) (UP _ p) (λs tr _=>Qo s tr)).mono ?_;rintro e w1 ⟨hb,⟨hn,-⟩|⟨s,tr,v,L,a,c,a0,rfl,ho,hr⟩⟩
 ·obtain⟨r,hr⟩:=JZ (p:=p) gT Qo 101 (zI p) [] rfl jv;rw[hn] at hr
  cases hr
 have c0:=zd a0;have HR:=zd hr;have HN:=zd (yz.lower ho.nw F.bel.size);have G:=Sf.gainR F hb ho.tr ho.st ho.nw;have b0:=zd ((ho.inn.lower F.bel.size).set (G.fr.blk 1 rfl) ⟨jk,jk,jk⟩ (((((((((((zo.refl _ _).set (j:=0) (v:= .slice v.pl.a v.pl.n v.pl.c) yl).set (j:=1) (v:= .slice v.st.a v.st.n v.st.c) yl).set (j:=2) (v:= .slice v.se.a v.se.n v.se.c) yl).set (j:=3) (v:= .slice v.on.a v.on.n v.on.c) yl).set (j:=4) (v:= .slice v.gr.a v.gr.n v.gr.c) yl).set (j:=5) (v:= .slice v.ba.a v.ba.n v.ba.c) yl).set (j:=6) (v:= .slice v.ch.a v.ch.n v.ch.c) yl).set (j:=7) (v:= .slice v.sa.a v.sa.n v.sa.c) yl).set (j:=8) (v:=uy v.fl) yl).set (j:=9) (v:= .slice a tr.length c) yl));clear hb a0 ho hr F cp;have cz:=G.fr.c10 1 rfl;have G2:=G.setR 1 rfl v a tr.length c;go_wp2;exact zM (v:= .tuple #[.agg (rC v a tr.length c),.bool true]) (by simp[results,Tryz.results22,go_sem,G2.fr.c10 1 rfl]) rfl ⟨G2.bel,s,tr,v,L,a,c,c0.out,rfl,⟨G2.st.sub λq hq=>yW (.inl hq),HN.o,G2.fr.own 0 rfl,b0.out⟩,HR.o⟩
end Go.Proofs.YtfclolgfegdfjaaGreat
