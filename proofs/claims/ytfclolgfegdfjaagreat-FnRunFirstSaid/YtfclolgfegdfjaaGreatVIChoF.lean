/- Part of a proof: IChoF. -/
import Derived.Test.YtfclolgfegdfjaaGreatVRunV
import Derived.Test.YtfclolgfegdfjaaGreatVGoD
import Derived.Test.YtfclolgfegdfjaaGreatVSlTo
import Derived.Test.YtfclolgfegdfjaaGreatVRpJ
import Derived.Test.YtfclolgfegdfjaaGreatVIPlay
set_option maxRecDepth 100000
set_option maxHeartbeats 16000000
namespace Go.Proofs.YtfclolgfegdfjaaGreat
open Go.RowKit
variable {k:Nat} {p:Pg}
theorem Vs {T:List Int} {y:zp} (h:xx p (T.take k)=some (y,T.take k)) (hk:k<T.length):(jm p (zI p) T).take (k+1)=(jm p (zI p) T).take k++[yO (zq y) (T.getD k 0)]:=by
 have g:=(xf h).2.2.2;have e:T=T.take k++(T.getD k 0::T.drop (k+1)):=by
  rw[xm,xV hk];simp
 have hl:(jm p (zI p) (T.take k)).length=k:=by rw[Zt,jO];omega
 have e2:jm p (zI p) T=jm p (zI p) (T.take k)++(yO (zq y) (T.getD k 0)::jm p (zJ p y (T.getD k 0)) (T.drop (k+1))):=by
  conv=>lhs;rw[e]
  exact Ul _ _ _ _ g
 obtain⟨A,hA⟩:=jy (jm p (zI p) (T.take k));rw[<-hA] at hl e2;rw[e2];clear e2 hA e g h hk;subst hl;rw[List.take_length_add_append,List.take_left];rfl
theorem UR (u:PV) (p:Pg) (a:uQ) (n c:Nat) (T:List Int) (w:World) (hp:yK w u p) (hz:xH u p) (hr:Rd w a (zf T)) (hl:T.length=n) (hn:n<=1048576) (a0:xx p T=none):
  Calls Tryz.prog 13 #[.agg (zF u),.slice a n c] w λe w'=>e= .returned (.tuple #[uk,.bool false])/\xW w w':=by
 have F:=(Fr.start w).alloc (zF u) 26;have HP:=zd (hp.below F.bel);have HR:=zd (hr.below F.bel);have HZ:=zd hz;have HL:=zd hl;have b0:=zd a0;clear hp hr hz hl a0;have q:=F.c5 0 rfl;go_enter Tryz.func13,Tryz.ntmps13;go_wp2_with fail;refine(jA u p a n c T _ HP.o HZ.o HR.o HL.o hn).mono ?_;rintro e w1 hq;rw[b0.out] at hq;obtain⟨hb,⟨-,rfl⟩|⟨_,_,_,_,_,_,_,h,-⟩⟩:=hq
 ·have HB:=zd ((F.call hb).alloc yS 40).bel;clear hb F q;go_wp2;exact zM (v:= .tuple #[uk,.bool false]) (by simp[results,Tryz.results13,go_sem]) rfl ⟨rfl,HB.o⟩
 ·cases h
theorem YH (u:PV) (p:Pg) (a:uQ) (n c:Nat) (T:List Int) (s:zp) (w:World) (hp:yK w u p) (hz:xH u p) (hr:Rd w a (zf T)) (hl:T.length=n) (hc:n<=c) (h0:xx p T=some (s,T)):
  Calls Tryz.prog 13 #[.agg (zF u),.slice a n c] w λe w'=>∃(a':uQ) (c':Nat),e= .returned (.tuple #[.slice a' n c',.bool true])/\w'.ownsRow w.heap.size 3 1 (.slice a' n c') n (zf (jm p (zI p) T))/\xW w w':=by
 have F:=(Fr.start w).alloc (zF u) 26;have HP:=zd hp;have HR:=zd hr;have HZ:=zd hz;have HL:=zd hl;have k0:=zd h0;have hn:n<=100:=by have:=(xf h0).2.1;omega
 clear hp hr hz hl h0;have q:=F.c5 0 rfl;go_enter Tryz.func13,Tryz.ntmps13;go_wp2_with fail;refine(jA u p a n c T _ (HP.o.below F.bel) HZ.o (HR.o.below F.bel) HL.o jq).mono ?_;rintro e w1 hq;rw[k0.out] at hq;obtain⟨hb,⟨h,-⟩|⟨p2,s2,m0,x,M,ax,cx,h,-,rfl,hx,-⟩⟩:=hq
 ·cases h
 have F1:=((F.call hb).alloc (rC x ax m0.length cx) 40).sub (l':=[.blk w.heap.size (zF u) 26]) (.cons _ (.refl _));clear hb F q h hx;go_upto_region 2 with fail;obtain⟨W1,hW,F1⟩:=F1.named;rw[<-hW];clear hW;have F2:=F1.nil 3 1;clear F1;go_wp2
 go_loopw [8,23] (λo i wr=>∃(k:Nat) (a':uQ) (c':Nat),k<=n/\o= .slice a' k c'/\i=uy k/\Fr w wr [.row a' k c' 3 1 (zf ((jm p (zI p) T).take k)),.blk w.heap.size (zF u) 26]) (λ_ i _=>n-(intOf i).toNat)
 case atStart=>exact⟨0,none,0,jq,rfl,rfl,F2⟩
 case round=>
  clear F2;obtain⟨k,a',c',hk,rfl,rfl,h⟩:=hrel;by_cases u0:k<n
  ·obtain⟨b1,o1,ea,g'⟩:=HR.o.int (jQ HL.o);have g:=ze h.bel (g' k (jQ HL.o));obtain⟨y,hy,-⟩:=Zk k0.out k;obtain⟨tk,b0⟩:=jy (T.take k);rw[<-b0] at hy;have j0:uH (tk.length=k):=zd (by rw[b0,jO];have:=HL.o;omega);have r0:uH (Rd w a (zf tk)):=zd (by rw[b0];exact HR.o.takei k);have o0:=zd hy;have c0:uH ((jm p (zI p) T).take (k+1)=(jm p (zI p) T).take k++[yO (zq y) (T.getD k 0)]):=zd (by rw[b0] at hy;exact Vs hy (jQ HL.o));have l0:uH (xF p y):=zd (uA tk (xF.start (xf hy).2.2.1) (xf hy).2.2.2);obtain⟨x,hx⟩:=jy (T.getD k 0);rw[<-hx] at g c0;have HX:=zd hx;have i0:(0:Int)<=(k:Int):=jq;have i1:(k:Int)<(n:Int):=jq;have q0:uH (∀W:World,(Instr.slice 23 (.slice a n c) none (some (uy (k:Int))) none).run Tryz.prog W= .ok (.slice a k c) W):=zd (λW=>XB a n c k jq hc W);have s0:y.status.length<=8:=by have:=l0.out.fits.nst;have:=(yf l0.out.fits.prog).2.2.2.2.1;omega
   clear g' hx hy b0;subst ea;go_upto_region 8 with fail;obtain⟨W2,hW,h2⟩:=h.named;rw[<-hW];clear hW h g;refine jd 10 (jP 4 40 yS W2 W2 ([]) [.agg (zF u),.slice (some ⟨b1,o1,none⟩) n c,uy (k:Int),.slice (some ⟨b1,o1,none⟩) k c] true (λcs bx w'=>∃(v':zu) (L':zQ) (a3:uQ) (c3:Nat),cs=rC v' a3 (k) c3/\Sf W2 w' (.row a3 (k) c3 3 1 (zf tk)::(bx++[])) v' L' y)) (jP.cong 10 jk) (λσ=>jP.start σ (Fr.start W2)) ?_ ?_
   ·refine⟨?_,?_,?_,?_,?_,?_,?_,?_,?_,?_,trivial⟩<;>intro ρ w2 L2 hI hw hny ho
    ·obtain⟨bx,F⟩:=hI.fr (λ_ _ _ h=>by obtain⟨_,_,_,_,_,h⟩:=h;exact h.fr.sub (.cons _ (.refl _)));have c:=(h2.call F.bel).c5 1 rfl;have d:ρ (.tmp 2)=_:=ho (.tmp 2) rfl;exact zh (by go_simp<;>rfl) (hI.val 0 _ jk rfl)
    ·have d:ρ (.tmp 1)=_:=ho (.tmp 1) rfl;exact zh (by go_simp<;>rfl) (hI.val 1 _ jk rfl)
    ·have d:ρ (.tmp 9)=_:=ho (.tmp 9) rfl;exact zh (by go_simp<;>rfl) (hI.val 2 _ jk rfl)
    ·have d1:ρ (.tmp 30)=_:=hI.k 1 jk (hw 1 jk);have d2:ρ (.tmp 31)=_:=hI.k 2 jk (hw 2 jk);simp only[List.getD_cons_zero,List.getD_cons_succ] at d1 d2;have v0:=q0.out w2;exact zh (by go_simp) (hI.val 3 _ jk rfl)
    ·obtain⟨bx,F,hB,hk⟩:=hI.cl (hny 4 _ rfl rfl);have d0:ρ (.tmp 29)=_:=hI.k 0 jk (hw 0 jk);have d3:ρ (.tmp 32)=_:=hI.k 3 jk (hw 3 jk);have df:ρ (.func 16)=_:=ho (.func 16) rfl;simp only[List.getD_cons_zero,List.getD_cons_succ] at d0 d3;exact zU (by go_simp<;>rfl) ((jA u p (some ⟨b1,o1,none⟩) (k) c tk w2 (HP.o.below (h2.call hB).bel) HZ.o (r0.out.below (h2.call hB).bel) j0.out jq).mono λe w' h=>by
      rw[o0.out] at h;obtain⟨hb,⟨h,-⟩|⟨p2,s2,m0,v',L',a3,c3,h,-,rfl,ho,-⟩⟩:=h
      ·cases h
      obtain⟨rfl,rfl⟩:=Prod.mk.inj (Option.some.inj h);have G:=Sf.gainR F hb ho.tr ho.st ho.nw;rw[j0.out] at G⊢;exact⟨_,rfl,hk _ w' ⟨v',L',a3,c3,rfl,G⟩⟩)
    ·obtain⟨cs,d,hk⟩:=hI.mv (hw 4 jk);replace d:ρ (.tmp 33)=_:=d;exact zh (by go_simp<;>rfl) hk
    ·obtain⟨cs,d,hk,-⟩:=hI.ex (hw 5 jk);replace d:ρ (.tmp 28)=_:=d;exact zh (by go_simp<;>rfl) hk
    ·obtain⟨cs,d,-,hk⟩:=hI.ex (hw 5 jk);replace d:ρ (.tmp 28)=_:=d;exact zh (by go_simp<;>rfl) hk
    ·exact zh (by go_simp<;>rfl) (hI.al (hny 8 _ rfl rfl) (λ_ _ h=>by obtain⟨v',L',a3,c3,e,h⟩:=h;exact⟨v',L',a3,c3,e,(h.alloc yS 40).pull 1 rfl⟩))
    ·obtain⟨cs,g,d8,f0,hn,hk⟩:=hI.st (hw 4 jk) (hw 6 jk) (hw 8 jk) (hny 9 _ rfl rfl) (λ_ _ _ h=>by obtain⟨v',L',a3,c3,e,h⟩:=h;exact⟨v',L',a3,c3,e,(Sf.over (h.pull 1 rfl)).pull 1 rfl⟩);replace d8:ρ (.tmp 34)=_:=d8;replace f0:ρ (.tmp 11)=_:=f0;obtain⟨kb,h9,h1⟩:zm w2 g yS 40/\cs.size=10/\cs.all (·.oneCell')=true:=by
      obtain⟨v',L',a3,c3,rfl,h⟩:=hn;exact⟨h.fr.blk 1 rfl,rfl,by simp[rC,Value.oneCell']⟩
     refine qj (w':=w2.setRow g cs) ?_ (hk _);simp[execOp,d8,f0,Instr.storeAt,Instr.sureAddr,run_storeVar_row (P:=Tryz.prog) w2 g 40 40 yS cs kb (show(Tryz.prog.info? 40).map (·.size)=some cs.size by rw[h9];kernel_rfl) h9.symm h1]
   intro n0 W3 a0 hI;obtain⟨x0,x1,x2,x3,x4,x5,x6,x7,x8,x9,rfl⟩:∃x0 x1 x2 x3 x4 x5 x6 x7 x8 x9,n0=[x0,x1,x2,x3,x4,x5,x6,x7,x8,x9]:=by
    match n0,a0 with
    |[x0,x1,x2,x3,x4,x5,x6,x7,x8,x9],_=>exact⟨_,_,_,_,_,_,_,_,_,_,rfl⟩
   obtain⟨cs,g,e9,g0,hn⟩:=hI.fin;replace e9:x7=_:=e9;replace g0:x8=_:=g0;subst e9 g0;clear hI a0;refine yv ?_;obtain⟨v',L',a3,c3,rfl,h⟩:=hn;have r8:(zq y).length<=8:=by
    rw[vh];split
    ·have:=vW y y.status.length;omega
    ·simp
   have q:=h.fr.c10 1 rfl;go_wp2_with fail;refine(uY v' L' y _ h.rd s0).mono ?_;rintro e W4 ⟨a4,c4,rfl,ho,hb⟩;have h3:=(h2.call h.bel).call hb;have p0:=zd (Rd.of_owns ho);clear hb ho h q h2;go_wp2_with fail;refine(Vi a4 _ c4 (zq y) x _ rfl (by unfold maxLen;omega) p0.out).mono ?_;rintro e W5 ⟨rfl,rfl⟩;obtain⟨z,hz⟩:=jy (yO (zq y) x);rw[<-hz] at c0⊢;have h8:=h3.alloc #[uy z] 3;clear h3 hz;go_wp2_with (at_builtin;refine h8.appI 1 rfl _ _ rfl rfl rfl [z] rfl rfl (Rd.of_blk (h8.blk 0 rfl)) jq ?_;intro a9 c9 w6 h9)
   go_roundw
   case rel=>exact⟨k+1,a9,c9,jq,rfl,by go_num,by rw[c0.out];simpa using h9.sub (.cons _ (.refl _))⟩
   case measure=>exact uq
  ·have t0:k=n:=jq;subst t0;have HE:uH ((jm p (zI p) T).take k=jm p (zI p) T):=zd (Jh (by rw[Zt,HL.o];omega));rw[HE.o] at h;go_wp2;exact zM (v:= .tuple #[.slice a' k c',.bool true]) (by simp[results,Tryz.results13,go_sem]) rfl ⟨a',c',rfl,h.own 0 rfl,h.bel⟩
end Go.Proofs.YtfclolgfegdfjaaGreat
