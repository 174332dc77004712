/- Part of a proof: RPlay. -/
import Derived.IntWalk
import Derived.Test.YtfclolgfegdfjaaGreatVRRun
import Derived.Test.YtfclolgfegdfjaaGreatVRpJ
set_option maxRecDepth 100000
set_option maxHeartbeats 16000000
namespace Go.Proofs.YtfclolgfegdfjaaGreat
open Go.RowKit
variable {s:zp} {k:Nat}
theorem fS {T:List Int} (h:k<T.length):jW T s (T.take k)=some (T.getD k 0):=by
 have:(T.take k).length=k:=by rw[jO];omega
 unfold jW;rw[this,if_neg jq]
theorem gY {T:List Int} (h:k<T.length):T.take (k+1)=T.take k++[T.getD k 0]:=by
 rw[List.take_succ_eq_append_getElem h,xm,xV h];rfl
theorem KQ (u:PV) (p:Pg) (a:uQ) (n c:Nat) (T:List Int) (w:World) (hp:yK w u p) (hv:zD p=true) (hr:Rd w a (zf T)) (hl:T.length=n) (hn:n<=1048576):
  Calls Tryz.prog 27 #[.agg (zF u),.slice a n c] w (Vz (xx p T) w []):=by
 have HP:=zd hp;have HV:=zd hv;have HR:=zd hr;have HL:=zd hl;clear hp hv hr hl;have F:=((Fr.start w).alloc (zF u) 26).alloc yS 40;simp only[yY] at F;have cp:=F.c5 1 rfl;go_enter Tryz.func27,Tryz.ntmps27;go_wp2_with fail;refine(Xj u p _ (HP.o.below F.bel) HV.o).mono ?_;rintro e w1 ⟨v0,L0,rfl,ho,m0,hb⟩;have h0:=(Sf.gain F ho m0 hb).alloc (yN v0) 38;clear F ho m0 hb cp;go_upto_region 2 with fail;obtain⟨W1,hw,h2⟩:=h0.named;rw[<-hw];obtain⟨M,hM⟩:=jy w1.heap.size;rw[<-hM] at h2⊢;clear hw hM h0;by_cases l0:100<n
 ·have o0:(100:Int)<(n:Int):=jq;have k0:uH (xx p T=none):=zd (if_neg (by rw[HL.o];omega));have c10:=h2.fr.c10 1 rfl;have F2:=h2.fr.setY 1 rfl;clear l0;go_wp2;exact zM (v:= .tuple #[.agg yS,.bool false]) (by simp[results,Tryz.results27,go_sem,F2.c10 1 rfl]) rfl (.inl ⟨k0.out,rfl,F2.sub (List.nil_sublist _)⟩)
 have o0:¬((100:Int)<(n:Int)):=jq;have b0:=xF.start HV.o;go_wp2
 go_loopw [8] (λi wr=>∃(k:Nat) (v:zu) (L:zQ) (s:zp),k<=n/\i=uy k/\xF p s/\Sf w wr [.blk M (yN v) 38,.blk (w.heap.size+1) yS 40,.blk w.heap.size (zF u) 26] v L s/\uH (xg p (jW T) 101 (zI p) []=xg p (jW T) (101-k) s (T.take k))) (λi _=>n-(intOf i).toNat)
 case atStart=>exact⟨0,v0,L0,_,jq,rfl,b0,h2,zd rfl⟩
 case round=>
  clear h2 b0;obtain⟨k,v,L,s,hk,rfl,b0,h,HW⟩:=hrel;have HF:=zd b0;clear b0;by_cases s0:k<n
  ·obtain⟨b1,o1,rfl,g'⟩:=HR.o.int (jQ HL.o);have G0:=zd (g' k (jQ HL.o));have HC:uH (jW T s (T.take k)=some (T.getD k 0)):=zd (fS (jQ HL.o));have HK:uH (T.take (k+1)=T.take k++[T.getD k 0]):=zd (gY (jQ HL.o));obtain⟨x,hx⟩:=jy (T.getD k 0);rw[<-hx] at G0 HC HK;have i0:(0:Int)<=(k:Int):=jq;have i1:(k:Int)<(n:Int):=jq;clear g' hx;go_upto_region 7 with fail;obtain⟨W2,hw,h3⟩:=h.named;rw[<-hw];clear hw h;by_cases ht:x∈zq s
   ·have HT:=zd ht;clear ht;refine jd 12 (jP 6 38 zC w W2 [.blk M (yN v) 38,.blk (w.heap.size+1) yS 40,.blk w.heap.size (zF u) 26] [.agg (zF u),v.val,.slice (some ⟨b1,o1,none⟩) n c,uy (k:Int),.pointer (some ⟨b1,o1+k,none⟩),uy x] true (λcs bx w'=>∃(v':zu) (L':zQ),cs=yN v'/\Sf w w' (bx++[.blk M (yN v) 38,.blk (w.heap.size+1) yS 40,.blk w.heap.size (zF u) 26]) v' L' (zJ p s x))) (jP.cong 12 jk) (λσ=>jP.start σ h3.fr) ?_ ?_
    ·refine⟨?_,?_,?_,?_,?_,?_,?_,?_,?_,?_,?_,?_,trivial⟩<;>intro ρ w2 L' hI hw hny ho
     ·obtain⟨bx,F⟩:=hI.fr (λ_ _ _ h=>by obtain⟨_,_,_,h⟩:=h;exact h.fr);have c:=F.c5 _ ((Kv bx _ 2).trans rfl);have d:ρ (.tmp 2)=_:=ho (.tmp 2) rfl;exact zh (by go_simp<;>rfl) (hI.val 0 _ jk rfl)
     ·obtain⟨bx,F⟩:=hI.fr (λ_ _ _ h=>by obtain⟨_,_,_,h⟩:=h;exact h.fr);have c:=F.c9 _ ((Kv bx _ 0).trans rfl);have d:ρ (.tmp 6)=_:=ho (.tmp 6) rfl;exact zh (by go_simp<;>rfl) (hI.val 1 _ jk rfl)
     ·have d:ρ (.tmp 1)=_:=ho (.tmp 1) rfl;exact zh (by go_simp<;>rfl) (hI.val 2 _ jk rfl)
     ·have d:ρ (.tmp 8)=_:=ho (.tmp 8) rfl;exact zh (by go_simp<;>rfl) (hI.val 3 _ jk rfl)
     ·have d:ρ (.tmp 33)=_:=hI.k 2 jk (hw 2 jk);have d':ρ (.tmp 34)=_:=hI.k 3 jk (hw 3 jk);simp only[List.getD_cons_zero,List.getD_cons_succ] at d d';exact zh (by go_simp<;>rfl) (hI.val 4 _ jk rfl)
     ·obtain⟨bx,F⟩:=hI.fr (λ_ _ _ h=>by obtain⟨_,_,_,h⟩:=h;exact h.fr);have g:=ze F.bel G0.o;have d:ρ (.tmp 35)=_:=hI.k 4 jk (hw 4 jk);simp only[List.getD_cons_zero,List.getD_cons_succ] at d;exact zh (by go_simp<;>rfl) (hI.val 5 _ jk rfl)
     ·obtain⟨bx,F,hB,hk⟩:=hI.cl (hny 6 _ rfl rfl);have d0:ρ (.tmp 31)=_:=hI.k 0 jk (hw 0 jk);have d1:ρ (.tmp 32)=_:=hI.k 1 jk (hw 1 jk);have d5:ρ (.tmp 36)=_:=hI.k 5 jk (hw 5 jk);have df:ρ (.func 41)=_:=ho (.func 41) rfl;simp only[List.getD_cons_zero,List.getD_cons_succ] at d0 d1 d5;exact zU (by go_simp<;>rfl) ((Ys u p v L s x w w2 _ F HP.o (h3.rd.below hB) HF.o HT.o).mono λe w' h=>by
       obtain⟨v',L',rfl,h⟩:=h;exact⟨_,rfl,hk (yN v') w' ⟨v',L',rfl,h⟩⟩)
     ·obtain⟨cs,d,hk⟩:=hI.mv (hw 6 jk);replace d:ρ (.tmp 37)=_:=d;exact zh (by go_simp<;>rfl) hk
     ·obtain⟨cs,d,hk,-⟩:=hI.ex (hw 7 jk);replace d:ρ (.tmp 30)=_:=d;exact zh (by go_simp<;>rfl) hk
     ·obtain⟨cs,d,-,hk⟩:=hI.ex (hw 7 jk);replace d:ρ (.tmp 30)=_:=d;exact zh (by go_simp<;>rfl) hk
     ·exact zh (by go_simp<;>rfl) (hI.al (hny 10 _ rfl rfl) (λ_ _ h=>by obtain⟨v',L',e,h⟩:=h;exact⟨v',L',e,h.alloc zC 38⟩))
     ·obtain⟨cs,g,d8,f0,hn,hk⟩:=hI.st (hw 6 jk) (hw 8 jk) (hw 10 jk) (hny 11 _ rfl rfl) (λ_ _ _ h=>by obtain⟨v',L',e,h⟩:=h;exact⟨v',L',e,Sf.over h⟩);replace d8:ρ (.tmp 38)=_:=d8;replace f0:ρ (.tmp 9)=_:=f0;obtain⟨kb,h9,h1⟩:zm w2 g zC 38/\cs.size=9/\cs.all (·.oneCell')=true:=(by obtain⟨v',L',rfl,h⟩:=hn;exact⟨h.fr.blk 0 rfl,rfl,by simp[yN,Value.oneCell']⟩)
      refine qj (w':=w2.setRow g cs) ?_ (hk _);simp[execOp,d8,f0,Instr.storeAt,Instr.sureAddr,run_storeVar_row (P:=Tryz.prog) w2 g 38 38 zC cs kb (show(Tryz.prog.info? 38).map (·.size)=some cs.size by rw[h9];kernel_rfl) h9.symm h1]
    intro vs w3 a0 hI;obtain⟨x0,x1,x2,x3,x4,x5,x6,x7,x8,x9,c0,j0,rfl⟩:∃x0 x1 x2 x3 x4 x5 x6 x7 x8 x9 c0 j0,vs=[x0,x1,x2,x3,x4,x5,x6,x7,x8,x9,c0,j0]:=by
     match vs,a0 with
     |[x0,x1,x2,x3,x4,x5,x6,x7,x8,x9,c0,j0],_=>exact⟨_,_,_,_,_,_,_,_,_,_,_,_,rfl⟩
    obtain⟨cs,g,e9,g0,hn⟩:=hI.fin;replace e9:x9=_:=e9;replace g0:c0=_:=g0;subst e9 g0;clear hI a0;refine yv ?_;obtain⟨v',L',rfl,h4⟩:=hn;have c9:=h4.c9 0 rfl;have c8:=h4.c9 1 rfl;have h5:=(h4.setV 1 rfl v').sub (l':=[.blk M (yN v') 38,.blk (w.heap.size+1) yS 40,.blk w.heap.size (zF u) 26]) (.cons _ (.refl _));clear h3 h4;go_wp2;exact⟨⟨k+1,v',L',zJ p s x,jq,by go_num,HF.o.step (HF.o.fits.turn HT.o),h5,zd (by rw[HW.o,HK.o];exact Q5 HC.o HT.o jq)⟩,by simp[intOf];omega⟩
   ·have HT:=zd ht;have k0:uH (xx p T=none):=zd (by
     unfold xx xn;rw[if_pos (by rw[HL.o];omega),if_pos HV.o,HW.o,show 101-k=(100-k)+1 by omega];exact JE HC.o ht)
    clear ht;refine jd 12 (jP 6 38 zC w W2 [.blk M (yN v) 38,.blk (w.heap.size+1) yS 40,.blk w.heap.size (zF u) 26] [.agg (zF u),v.val,.slice (some ⟨b1,o1,none⟩) n c,uy (k:Int),.pointer (some ⟨b1,o1+k,none⟩),uy x] false (λcs bx w'=>cs=zC/\Fr w w' (bx++[.blk M (yN v) 38,.blk (w.heap.size+1) yS 40,.blk w.heap.size (zF u) 26]))) (jP.cong 12 jk) (λσ=>jP.start σ h3.fr) ?_ ?_
    ·refine⟨?_,?_,?_,?_,?_,?_,?_,?_,?_,?_,?_,?_,trivial⟩<;>intro ρ w2 L' hI hw hny ho
     ·obtain⟨bx,F⟩:=hI.fr (λ_ _ _ h=>h.2);have c:=F.c5 _ ((Kv bx _ 2).trans rfl);have d:ρ (.tmp 2)=_:=ho (.tmp 2) rfl;exact zh (by go_simp<;>rfl) (hI.val 0 _ jk rfl)
     ·obtain⟨bx,F⟩:=hI.fr (λ_ _ _ h=>h.2);have c:=F.c9 _ ((Kv bx _ 0).trans rfl);have d:ρ (.tmp 6)=_:=ho (.tmp 6) rfl;exact zh (by go_simp<;>rfl) (hI.val 1 _ jk rfl)
     ·have d:ρ (.tmp 1)=_:=ho (.tmp 1) rfl;exact zh (by go_simp<;>rfl) (hI.val 2 _ jk rfl)
     ·have d:ρ (.tmp 8)=_:=ho (.tmp 8) rfl;exact zh (by go_simp<;>rfl) (hI.val 3 _ jk rfl)
     ·have d:ρ (.tmp 33)=_:=hI.k 2 jk (hw 2 jk);have d':ρ (.tmp 34)=_:=hI.k 3 jk (hw 3 jk);simp only[List.getD_cons_zero,List.getD_cons_succ] at d d';exact zh (by go_simp<;>rfl) (hI.val 4 _ jk rfl)
     ·obtain⟨bx,F⟩:=hI.fr (λ_ _ _ h=>h.2);have g:=ze F.bel G0.o;have d:ρ (.tmp 35)=_:=hI.k 4 jk (hw 4 jk);simp only[List.getD_cons_zero,List.getD_cons_succ] at d;exact zh (by go_simp<;>rfl) (hI.val 5 _ jk rfl)
     ·obtain⟨bx,F,hB,hk⟩:=hI.cl (hny 6 _ rfl rfl);have d0:ρ (.tmp 31)=_:=hI.k 0 jk (hw 0 jk);have d1:ρ (.tmp 32)=_:=hI.k 1 jk (hw 1 jk);have d5:ρ (.tmp 36)=_:=hI.k 5 jk (hw 5 jk);have df:ρ (.func 41)=_:=ho (.func 41) rfl;simp only[List.getD_cons_zero,List.getD_cons_succ] at d0 d1 d5;exact zU (by go_simp<;>rfl) ((gk u p v L s x w2 (HP.o.below F.bel) (h3.rd.below hB) HF.o.fits HT.o).mono λe w' h=>by
       obtain⟨rfl,hb⟩:=h;exact⟨_,rfl,hk zC w' ⟨rfl,F.call hb⟩⟩)
     ·obtain⟨cs,d,hk⟩:=hI.mv (hw 6 jk);replace d:ρ (.tmp 37)=_:=d;exact zh (by go_simp<;>rfl) hk
     ·obtain⟨cs,d,hk,-⟩:=hI.ex (hw 7 jk);replace d:ρ (.tmp 30)=_:=d;exact zh (by go_simp<;>rfl) hk
     ·obtain⟨cs,d,-,hk⟩:=hI.ex (hw 7 jk);replace d:ρ (.tmp 30)=_:=d;exact zh (by go_simp<;>rfl) hk
     ·exact zh (by go_simp<;>rfl) (hI.al (hny 10 _ rfl rfl) (λ_ _ h=>⟨h.1,h.2.alloc zC 38⟩))
     ·obtain⟨cs,g,d8,f0,hn,hk⟩:=hI.st (hw 6 jk) (hw 8 jk) (hw 10 jk) (hny 11 _ rfl rfl) (λ_ _ _ h=>⟨h.1,Fr.ovr h.2⟩);replace d8:ρ (.tmp 38)=_:=d8;replace f0:ρ (.tmp 9)=_:=f0;obtain⟨kb,h9,h1⟩:zm w2 g zC 38/\cs.size=9/\cs.all (·.oneCell')=true:=(by obtain⟨rfl,h⟩:=hn;exact⟨h.blk 0 rfl,rfl,by simp[zC,Value.oneCell']⟩)
      refine qj (w':=w2.setRow g cs) ?_ (hk _);simp[execOp,d8,f0,Instr.storeAt,Instr.sureAddr,run_storeVar_row (P:=Tryz.prog) w2 g 38 38 zC cs kb (show(Tryz.prog.info? 38).map (·.size)=some cs.size by rw[h9];kernel_rfl) h9.symm h1]
    intro vs w3 a0 hI;obtain⟨x0,x1,x2,x3,x4,x5,x6,x7,x8,x9,c0,j0,rfl⟩:∃x0 x1 x2 x3 x4 x5 x6 x7 x8 x9 c0 j0,vs=[x0,x1,x2,x3,x4,x5,x6,x7,x8,x9,c0,j0]:=by
     match vs,a0 with
     |[x0,x1,x2,x3,x4,x5,x6,x7,x8,x9,c0,j0],_=>exact⟨_,_,_,_,_,_,_,_,_,_,_,_,rfl⟩
    obtain⟨cs,g,e9,g0,hn⟩:=hI.fin;replace e9:x9=_:=e9;replace g0:c0=_:=g0;subst e9 g0;clear hI a0;refine yv ?_;obtain⟨rfl,F1⟩:=hn;have c10:=F1.c10 2 rfl;have F2:=F1.setY 2 rfl;clear h3;go_wp2;exact zM (v:= .tuple #[.agg yS,.bool false]) (by simp[results,Tryz.results27,go_sem,F2.c10 2 rfl]) rfl (.inl ⟨k0.out,rfl,F2.sub (List.nil_sublist _)⟩)
  ·have p0:k=n:=jq;have HE:uH (xx p T=some (s,T)):=zd (by
    have e:T.take k=T:=Jh (jQ HL.o);unfold xx xn;rw[if_pos (by rw[HL.o];omega),if_pos HV.o,HW.o,e];exact Jy (by unfold jW;rw[if_pos rfl]) jq)
   clear p0;go_upto_region 11 with fail;obtain⟨u2,hu⟩:∃u2:World,u2=wr:=⟨_,rfl⟩
   rw[<-hu] at h⊢;clear hu;have h3:=h;clear h;apply xZ 4 [.k _,.r (Zl u2.heap.size 3 1),.k _,.r (Xi u2.heap.size 3 1 n (zf T))] ⟨Xr,Vj,trivial⟩ ?s1 ?e1
   case s1=>
    repeat' apply And.intro
    all_goals first|trivial|(intro ρ w1 hG hfr hd;obtain⟨fc,ff⟩:=xu hfr;have f6:=hfr (.tmp 6) rfl;have f1:=hfr (.tmp 1) rfl;have F1:=h3.fr.call hG;have c9:=F1.c9 0 rfl)
    exact yj;exact VB;exact yj
    ·have d:ρ (.tmp _)=_:=hd.2.1;exact ky hG _ _ 23 rfl Tryz.underlying23 yb rfl jk hd.1 d (by rw[yG,HL.o,Nat.mul_one]) (HR.o.below F1.bel) (yA T) jq jk (λ_ _ h=>h)
   intro w2 hG;refine yv ?_;intro e0 n0 u0 q0;obtain⟨a5,c5,rfl,ho,-⟩:=q0;have h4:=h3.row hG ho;have r0:=Xa v a5 n c5 w2;have c10:=h4.fr.c10 2 rfl;have h9:=h4.setR 2 rfl v a5 n c5;clear h3 n0 hG ho;go_wp2;exact zM (v:= .tuple #[.agg (rC v a5 n c5),.bool true]) (by simp[results,Tryz.results27,go_sem,h9.fr.c10 2 rfl]) rfl (.inr ⟨s,T,v,L,a5,c5,HE.o,by rw[HL.o],by rw[HL.o];exact h9.sub (.cons_cons _ (List.nil_sublist _))⟩)
theorem Y4 (u:PV) (p:Pg) (a:uQ) (n c:Nat) (T:List Int) (w:World) (hp:yK w u p) (hz:xH u p) (hr:Rd w a (zf T)) (hl:T.length=n) (hn:n<=1048576):
  Calls Tryz.prog 27 #[.agg (zF u),.slice a n c] w (Vz (xx p T) w []):=by
 cases hv:zD p with
 |true=>exact KQ u p a n c T w hp hv hr hl hn
 |false=>
  have HP:=zd hp;have HV:=zd hv;have HZ:=zd hz;have F:=((Fr.start w).alloc (zF u) 26).alloc yS 40;simp only[yY] at F;have a0:uH (xx p T=none):=zd (by unfold xx xn;rw[hv];simp);clear hp hv hz hr;have cp:=F.c5 1 rfl;go_enter Tryz.func27,Tryz.ntmps27;go_wp2_with fail;refine(JI u p _ (HP.o.below F.bel) HZ.o HV.o).mono ?_;rintro e w1 ⟨rfl,hb⟩;have F1:=(F.call hb).alloc zC 38;clear F hb cp;go_upto_region 2 with fail;obtain⟨W1,hw,F2⟩:=F1.named;rw[<-hw];clear hw F1;have c10:=F2.c10 1 rfl;have F3:=F2.setY 1 rfl;go_wp2;exact zM (v:= .tuple #[.agg yS,.bool false]) (by simp[results,Tryz.results27,go_sem,F3.c10 1 rfl]) rfl (.inl ⟨a0.out,rfl,F3.sub (List.nil_sublist _)⟩)
end Go.Proofs.YtfclolgfegdfjaaGreat
