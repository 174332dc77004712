/- Part of a proof: RChoF. -/
import Derived.Test.YtfclolgfegdfjaaGreatVGoN
import Derived.Test.YtfclolgfegdfjaaGreatVIChoF
import Derived.Test.YtfclolgfegdfjaaGreatVChI
set_option maxRecDepth 100000
set_option maxHeartbeats 16000000
namespace Go.Proofs.YtfclolgfegdfjaaGreat
open Go.RowKit
variable {k:Nat} {p:Pg}
theorem ph {T:List Int} {y:zp} (h:xx p (T.take k)=some (y,T.take k)) (hk:k<T.length):(jm p (zI p) T).getD k 0=yO (zq y) (T.getD k 0):=by
 have e:=congrArg (λl=>l.getD k 0) (Vs h hk);have hl:((jm p (zI p) T).take k).length=k:=by rw[jO,Zt];omega
 simp only[xm] at e⊢;rw[List.getElem?_take_of_lt jq,List.getElem?_append_right jq,hl,Nat.sub_self] at e;exact e
theorem UT (u:PV) (p:Pg) (a:uQ) (n c:Nat) (T:List Int) (w:World) (hp:yK w u p) (hz:xH u p) (hr:Rd w a (zf T)) (hl:T.length=n) (hn:n<=1048576) (a0:xx p T=none):
  Calls Tryz.prog 14 #[.agg (zF u),.slice a n c] w λe w'=>∃a',e= .returned (.tuple #[.slice a' 0 0,.bool false])/\xW w w':=by
 have F:=(Fr.start w).alloc (zF u) 26;have HP:=zd (hp.below F.bel);have HR:=zd (hr.below F.bel);have HZ:=zd hz;have HL:=zd hl;have b0:=zd a0;clear hp hr hz hl a0;have q:=F.c5 0 rfl;go_enter Tryz.func14,Tryz.ntmps14;go_wp2_with fail;refine(Y4 u p a n c T _ HP.o HZ.o HR.o HL.o hn).mono ?_;rintro e w1 hq;rw[b0.out] at hq;rcases hq with ⟨-,rfl,G⟩|⟨_,_,_,_,_,_,h,-⟩
 ·have HB:=zd (((F.call G.bel).alloc yS 40).alloc #[] 3).bel;clear G F q;go_wp2;exact zM (v:= .tuple #[.slice (some ⟨w1.heap.size+1,0,none⟩) 0 0,.bool false]) (by simp[results,Tryz.results14,go_sem]) rfl ⟨_,rfl,HB.o⟩
 ·cases h
theorem UF (u:PV) (p:Pg) (a:uQ) (n c:Nat) (T:List Int) (s:zp) (w:World) (hp:yK w u p) (hz:xH u p) (hr:Rd w a (zf T)) (hl:T.length=n) (c0:xx p T=some (s,T)):
  Calls Tryz.prog 14 #[.agg (zF u),.slice a n c] w λe w'=>∃(a':uQ) (c':Nat),e= .returned (.tuple #[.slice a' n c',.bool true])/\w'.ownsRow w.heap.size 3 1 (.slice a' n c') n (zf (jm p (zI p) T))/\xW w w':=by
 have F:=(Fr.start w).alloc (zF u) 26;have HP:=zd hp;have HR:=zd hr;have HZ:=zd hz;have HL:=zd hl;have k0:=zd c0;have HV:=zd (xf c0).2.2.1;have n0:uH (xx p (T.take 0)=some (zI p,T.take 0)):=zd (by
  obtain⟨y,hy,-⟩:=Zk c0 0;have:=(xf hy).2.2.2;rw[List.take_zero] at this hy⊢;obtain rfl:=Option.some.inj this;exact hy)
 have hn:n<=100:=by have:=(xf c0).2.1;omega
 clear hp hr hz hl c0;have q:=F.c5 0 rfl;go_enter Tryz.func14,Tryz.ntmps14;go_wp2_with fail;refine(Y4 u p a n c T _ (HP.o.below F.bel) HZ.o (HR.o.below F.bel) HL.o jq).mono ?_;rintro e w1 hq;rw[k0.out] at hq;obtain⟨gv,GL,ga,gc,rfl,hb,-,-⟩:=Yc hq (show(some (s,T)).isSome=true from rfl) (show _=s from rfl) (show _=T from rfl);have F1:=((F.call hb).alloc (rC gv ga T.length gc) 40).sub (l':=[.blk w.heap.size (zF u) 26]) (.cons _ (.refl _));clear hb F q hq;go_upto_region 2 with fail;obtain⟨W1,hW,F1⟩:=F1.named;rw[<-hW];clear hW;replace F1:=F1.more (xd.alloc yk (.cells #[] 3)) (i:= .row (some ⟨W1.heap.size,0,none⟩) 0 0 3 1 []) (yg W1 3 1);have q:=F1.c5 1 rfl;go_wp2_with fail;refine(Xj u p _ (HP.o.below F1.bel) HV.o).mono ?_;rintro e w2 ⟨v0,L0,rfl,ho,m0,hb⟩;have h0:=(Sf.gain F1 ho m0 hb).alloc (yN v0) 38;clear F1 ho m0 hb q;go_upto_region 6 with fail;obtain⟨W2,hw,h2⟩:=h0.named;rw[<-hw];obtain⟨M,hM⟩:=jy w2.heap.size;rw[<-hM] at h2⊢;clear hw hM h0;replace h2:=h2.pull 1 rfl;obtain⟨A1,l0⟩:∃A1:uQ,A1=some ⟨W1.heap.size,0,none⟩:=⟨_,rfl⟩
 rw[<-l0] at h2⊢;clear l0;go_wp2
 go_loopw [8,11] (λo i wr=>∃(k:Nat) (a':uQ) (c':Nat) (v:zu) (L:zQ) (z:zp),k<=n/\o= .slice a' k c'/\i=uy k/\xx p (T.take k)=some (z,T.take k)/\Sf w wr [.row a' k c' 3 1 (zf ((jm p (zI p) T).take k)),.blk M (yN v) 38,.blk w.heap.size (zF u) 26] v L z) (λ_ i _=>n-(intOf i).toNat)
 case atStart=>exact⟨0,A1,0,v0,L0,zI p,jq,rfl,rfl,n0.out,h2⟩
 case round=>
  clear h2;obtain⟨k,a',c',v,L,z,hk,rfl,rfl,hz,h⟩:=hrel;by_cases z0:k<n
  ·obtain⟨b1,o1,rfl,g'⟩:=HR.o.int (jQ HL.o);have G0:=zd (g' k (jQ HL.o));obtain⟨hm,f0⟩:=VI k0.out (jQ HL.o) hz;have d0:uH (xF p z):=zd (uA (T.take k) (xF.start HV.o) (xf hz).2.2.2);have j0:uH ((jm p (zI p) T).take (k+1)=(jm p (zI p) T).take k++[yO (zq z) (T.getD k 0)]):=zd (Vs hz (jQ HL.o));have y0:z.status.length<=8:=by have:=d0.out.fits.nst;have:=(yf d0.out.fits.prog).2.2.2.2.1;omega
   have r8:(zq z).length<=8:=by
    rw[vh];split
    ·have:=vW z z.status.length;omega
    ·simp
   obtain⟨x,hx⟩:=jy (T.getD k 0);rw[<-hx] at G0 hm f0 j0;have HM:=zd hm;have o0:=zd f0;have i0:(0:Int)<=(k:Int):=jq;have i1:(k:Int)<(n:Int):=jq;clear g' hx hm f0 hz;go_upto_region 9 with fail;obtain⟨W3,hw,h3⟩:=h.named;rw[<-hw];clear hw h;refine jd 10 (Zn w W3 [.blk M (yN v) 38,.blk w.heap.size (zF u) 26] [some (.slice a' k c'),some (v.val),none,some (.slice (some ⟨b1,o1,none⟩) n c),some (uy (k:Int)),some (.pointer (some ⟨b1,o1+k,none⟩)),some (uy x),some (uy (yO (zq z) x)),none,none] a' k c' ((jm p (zI p) T).take k) (yO (zq z) x) (zq z) v L z) (Zn.cong rfl) (Zn.start h3) ?_ ?_
   ·refine⟨?_,?_,?_,?_,?_,?_,?_,?_,?_,?_,trivial⟩<;>intro ρ w2 L2 hI hw hny ho
    ·have d:ρ (.tmp 8)=_:=ho (.tmp 8) rfl;exact zh (by go_simp<;>rfl) (hI.val 0 _ jk (λ_ h=>Option.some.inj h))
    ·obtain⟨R,F⟩:=hI.fr;have c:=F.c9 1 rfl;have d:ρ (.tmp 9)=_:=ho (.tmp 9) rfl;exact zh (by go_simp<;>rfl) (hI.val 1 _ jk (λ_ h=>Option.some.inj h))
    ·have d:ρ (.tmp 34)=_:=hI.k 1 _ rfl (hw 1 jk);have df:ρ (.func 40)=_:=ho (.func 40) rfl;obtain⟨R,F⟩:=hI.fr;exact zU (by go_simp<;>rfl) ((Yy v L z _ F.rd jq).mono λe w' h=>by
      obtain⟨a4,c4,rfl,ow,hb⟩:=h;exact⟨_,rfl,hI.rd2 rfl (hny 7 _ rfl rfl) hb (Rd.of_owns ow)⟩)
    ·have d:ρ (.tmp 1)=_:=ho (.tmp 1) rfl;exact zh (by go_simp<;>rfl) (hI.val 3 _ jk (λ_ h=>Option.some.inj h))
    ·have d:ρ (.tmp 11)=_:=ho (.tmp 11) rfl;exact zh (by go_simp<;>rfl) (hI.val 4 _ jk (λ_ h=>Option.some.inj h))
    ·have d:ρ (.tmp 36)=_:=hI.k 3 _ rfl (hw 3 jk);have d':ρ (.tmp 37)=_:=hI.k 4 _ rfl (hw 4 jk);exact zh (by go_simp<;>rfl) (hI.val 5 _ jk (λ_ h=>Option.some.inj h))
    ·obtain⟨R,F⟩:=hI.fr;have g:=ze F.bel G0.o;have d:ρ (.tmp 38)=_:=hI.k 5 _ rfl (hw 5 jk);exact zh (by go_simp<;>rfl) (hI.val 6 _ jk (λ_ h=>Option.some.inj h))
    ·obtain⟨a4,c4,s2,s0⟩:=hI.at2 (hw 2 jk) (hny 9 _ rfl rfl);have d:ρ (.tmp 35)=_:=s2;have d':ρ (.tmp 39)=_:=hI.k 6 _ rfl (hw 6 jk);have df:ρ (.func 39)=_:=ho (.func 39) rfl;exact zU (by go_simp<;>rfl) ((jM a4 _ c4 (zq z) x w2 rfl (by unfold maxLen;omega) s0).mono λe w' h=>by
      obtain⟨rfl,rfl⟩:=h;exact⟨_,rfl,hI.val 7 _ jk (λ_ h=>Option.some.inj h)⟩)
    ·have d:ρ (.tmp 40)=_:=hI.k 7 _ rfl (hw 7 jk);exact zh (by go_simp<;>rfl) (hI.al8 rfl (hw 7 jk) (hny 9 _ rfl rfl))
    ·obtain⟨g,s8,t0,ow,u0,a0⟩:=hI.ap9 rfl (hw 8 jk) (hny 9 _ rfl rfl);have d:ρ (.tmp 33)=_:=hI.k 0 _ rfl (hw 0 jk);have d':ρ (.tmp 41)=_:=s8;obtain⟨a9,c9,w',hr,r0,hg,q0⟩:=uw (P:=Tryz.prog) (c2:=1) 23 23 Tryz.underlying23 yb rfl jk ow (a2:=some ⟨g,0,none⟩) (m:=1) (news:=zf [yO (zq z) x]) rfl t0 (yA [yO (zq z) x]) jq jk u0;refine zh (u:= .slice a9 (k+1) c9) (w':=w') ?_ (a0 a9 c9 w' (by rw[xy];exact r0) hg q0);unfold execOp;simp only[resolve,invoke,builtin,Sem.run_bind,Sem.run_pure,Result.andThen_ok,List.map_toArray,List.map_cons,List.map_nil,d,d',hr]
   intro vs w3 b0 hI;obtain⟨x0,x1,x2,x3,x4,x5,x6,x7,x8,x9,rfl⟩:∃x0 x1 x2 x3 x4 x5 x6 x7 x8 x9,vs=[x0,x1,x2,x3,x4,x5,x6,x7,x8,x9]:=by
    match vs,b0 with
    |[x0,x1,x2,x3,x4,x5,x6,x7,x8,x9],_=>exact⟨_,_,_,_,_,_,_,_,_,_,rfl⟩
   obtain⟨a9,c9,e9,h4⟩:=hI.fin;replace e9:x9=_:=e9;subst e9;clear hI b0;refine yv ?_;go_upto_region 10 with fail;obtain⟨W4,hw,h5⟩:=h4.named;rw[<-hw];clear hw h3;replace h5:=h5.pull 1 rfl;clear h4;have h4:=h5;refine jd 11 (um w W4 M [.row a9 (k+1) c9 3 1 (zf ((jm p (zI p) T).take k++[yO (zq z) x])),.blk w.heap.size (zF u) 26] [some (.agg (zF u)),some (v.val),some (.slice (some ⟨b1,o1,none⟩) n c),some (uy (k:Int)),some (.pointer (some ⟨b1,o1+k,none⟩)),some (uy x),none,none,none,none,none] v (zJ p z x)) (um.cong rfl) (um.start h5.fr) ?_ ?_
   ·refine⟨?_,?_,?_,?_,?_,?_,?_,?_,?_,?_,?_,trivial⟩<;>intro ρ w2 L2 hI hw hny ho
    ·obtain⟨y,F⟩:=hI.fr;have c:=F.c5 2 rfl;have d:ρ (.tmp 2)=_:=ho (.tmp 2) rfl;exact zh (by go_simp<;>rfl) (hI.val 0 _ jk (λ_ h=>Option.some.inj h))
    ·obtain⟨F,-,-⟩:=hI.pre (hny 6 _ rfl rfl);have c:=F.c9 0 rfl;have d:ρ (.tmp 9)=_:=ho (.tmp 9) rfl;exact zh (by go_simp<;>rfl) (hI.val 1 _ jk (λ_ h=>Option.some.inj h))
    ·have d:ρ (.tmp 1)=_:=ho (.tmp 1) rfl;exact zh (by go_simp<;>rfl) (hI.val 2 _ jk (λ_ h=>Option.some.inj h))
    ·have d:ρ (.tmp 11)=_:=ho (.tmp 11) rfl;exact zh (by go_simp<;>rfl) (hI.val 3 _ jk (λ_ h=>Option.some.inj h))
    ·have d:ρ (.tmp 46)=_:=hI.k 2 _ rfl (hw 2 jk);have d':ρ (.tmp 47)=_:=hI.k 3 _ rfl (hw 3 jk);exact zh (by go_simp<;>rfl) (hI.val 4 _ jk (λ_ h=>Option.some.inj h))
    ·obtain⟨y,F⟩:=hI.fr;have g:=ze F.bel G0.o;have d:ρ (.tmp 48)=_:=hI.k 4 _ rfl (hw 4 jk);exact zh (by go_simp<;>rfl) (hI.val 5 _ jk (λ_ h=>Option.some.inj h))
    ·obtain⟨F,hB,a0⟩:=hI.pre (hny 6 _ rfl rfl);have d:ρ (.tmp 44)=_:=hI.k 0 _ rfl (hw 0 jk);have d1:ρ (.tmp 45)=_:=hI.k 1 _ rfl (hw 1 jk);have d2:ρ (.tmp 49)=_:=hI.k 5 _ rfl (hw 5 jk);have df:ρ (.func 41)=_:=ho (.func 41) rfl;exact zU (by go_simp<;>rfl) ((Ys u p v L z x w w2 _ F HP.o (h4.rd.below hB) d0.out HM.o).mono λe w' h=>by
      obtain⟨v',L',rfl,h⟩:=h;exact⟨_,rfl,a0 nofun v' L' w' h⟩)
    ·obtain⟨y,s6,a0,-⟩:=hI.aft (hw 6 jk) rfl rfl rfl;have d:ρ (.tmp 50)=_:=s6;exact zh (by go_simp<;>rfl) a0
    ·obtain⟨y,-,-,s7,a0,-⟩:=hI.aft (um.six hI (hw 7 jk)) rfl rfl rfl;have d:ρ (.tmp 43)=_:=s7 (hw 7 jk);exact zh (by go_simp<;>rfl) a0
    ·obtain⟨y,-,-,s7,-,a0⟩:=hI.aft (um.six hI (hw 7 jk)) rfl rfl rfl;have d:ρ (.tmp 43)=_:=s7 (hw 7 jk);exact zh (by go_simp<;>rfl) a0
    ·obtain⟨cs,s8,h9,h1,kb,a0⟩:=hI.st (hw 6 jk) (hw 8 jk) (hny 10 _ rfl rfl) rfl;have d:ρ (.tmp 51)=_:=s8;have d':ρ (.tmp 9)= .pointer (some ⟨M,0,none⟩):=ho (.tmp 9) rfl;refine qj (w':=w2.setRow M cs) ?_ (a0 _);simp[execOp,d,d',Instr.storeAt,Instr.sureAddr,run_storeVar_row (P:=Tryz.prog) w2 M 38 38 (yN v) cs kb (show(Tryz.prog.info? 38).map (·.size)=some cs.size by rw[h9];kernel_rfl) h9.symm h1]
   intro vs w3 b0 hI;obtain⟨x0,x1,x2,x3,x4,x5,x6,x7,x8,x9,g0,rfl⟩:∃x0 x1 x2 x3 x4 x5 x6 x7 x8 x9 g0,vs=[x0,x1,x2,x3,x4,x5,x6,x7,x8,x9,g0]:=by
    match vs,b0 with
    |[x0,x1,x2,x3,x4,x5,x6,x7,x8,x9,g0],_=>exact⟨_,_,_,_,_,_,_,_,_,_,_,rfl⟩
   obtain⟨v',L',-,h6⟩:=hI.fin;clear hI b0;refine yv ?_;have h7:=h6.pull 1 rfl;rw[<-j0.out] at h7;clear h4 h5 h6;go_wp2
   go_roundw
   case rel=>exact⟨k+1,a9,c9,v',L',_,jq,rfl,by go_num,o0.out,h7⟩
   case measure=>exact uq
  ·have p0:k=n:=jq;subst p0;have HO:=zd (h.fr.own 0 rfl);have HB:=zd h.bel;clear h hz;go_wp2;exact zM (v:= .tuple #[.slice a' k c',.bool true]) (by simp[results,Tryz.results14,go_sem]) rfl ⟨_,_,rfl,by have:=HO.o;rw[Jh (by rw[Zt,HL.o];omega)] at this;exact this,HB.o⟩
end Go.Proofs.YtfclolgfegdfjaaGreat
