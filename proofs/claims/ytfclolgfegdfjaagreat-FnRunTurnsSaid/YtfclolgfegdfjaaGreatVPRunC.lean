/- Part of a proof: RStart RunX. -/
import Derived.Test.YtfclolgfegdfjaaGreatVPMFit
import Derived.Test.YtfclolgfegdfjaaGreatVPStart
set_option maxRecDepth 100000
set_option maxHeartbeats 16000000
namespace Go.Proofs.YtfclolgfegdfjaaGreat
open Go.RowKit
variable {w W w':World} {s:zp} {n i j:Nat} {l:List It} {p:Pg} {q:zP} {S:List Nat} {t:Int} {α:Type} {tr:List Int}
def xC (p:Pg) (a b o c d e:Nat):zp:=⟨(p.threads.take a).map λ_=>0,(p.threads.take a).map λt=>if t.length=0 then 3 else 0,(p.sems.take b).map λn=>⟨n,n,[]⟩,List.replicate o zH,(p.groups.take c).map λn=>⟨n,[]⟩,(p.barriers.take d).map λn=>⟨n,0,[]⟩,(p.rooms.take e).map λn=>⟨n,[],[],[],false⟩,[],0⟩
theorem fD (p:Pg):xC p p.threads.length p.sems.length 3 p.groups.length p.barriers.length p.rooms.length=zI p:=by unfold xC zI;simp only[List.take_length]
abbrev bR (w:World) (V:zu) (u:PV):List It:=[.blk (w.heap.size+1+1) (yN V) 38,.blk (w.heap.size+1) zC 38,.blk w.heap.size (zF u) 26]
abbrev kv:zu:=⟨zR,zR,zR,zR,zR,zR,zR,zR,0⟩
theorem Ya {β:Type} (g:α->β) (l:List α) (d:α) (hj:j<l.length):(l.take (j+1)).map g=(l.take j).map g++[g (l.getD j d)]:=by rw[<-xQ l d hj,vQ];rfl
theorem yc.none {S':List Nat} (h:yc S w q [] 0):yc S' w' q [] 0:=⟨h.len,.inl rfl,.inl rfl,h.cap⟩
theorem Sf.zero (F:Fr w W l):Sf w W l kv ⟨[],[],[],[],[]⟩ ⟨[],[],[],[],[],[],[],[],0⟩:=
 ⟨F,jf _ _ _ _,rfl,jf _ _ _ _,rfl,jf _ _ _ _,rfl,jf _ _ _ _,rfl,jf _ _ _ _,rfl,jf _ _ _ _,rfl,jf _ _ _ _,rfl,jf _ _ _ _,rfl,rfl,nofun,nofun,nofun,λq hq=>⟨(F.inside q hq).2,λhm=>by
  obtain⟨z,hz,a0⟩:=xc.1 hm;simp only[zR,List.mem_cons,jw,or_false] at hz;rcases hz with rfl|rfl|rfl|rfl|rfl|rfl|rfl|rfl<;>cases a0⟩,⟨qJ.nil,qJ.nil,qJ.nil,qJ.nil,qJ.nil⟩⟩
theorem Xj (u:PV) (p:Pg) (w:World) (hp:yK w u p) (hv:zD p=true):
  Calls Tryz.prog 38 #[.agg (zF u)] w λe w'=>∃(v:zu) (L:zQ),e= .returned (.tuple #[v.val,.bool true])/\yr [] w.heap.size w' v L (zI p)/\yz w.heap.size L/\xW w w':=by
 have HP:=zd hp;have HV:=zd hv;have HZ:=zd (vx hv hp);have o0:=yf hv;have VS:=zd o0;have n1:u.nt<=4:=by rw[<-hp.lt];omega
 have n2:u.ns<=3:=by rw[<-hp.ls];omega
 have n3:u.ng<=3:=by rw[<-hp.lg];omega
 have n4:u.nb<=3:=by rw[<-hp.lb];omega
 have n5:u.nr<=3:=by rw[<-hp.lr];omega
 clear hp hv o0;have F:=(((Fr.start w).alloc (zF u) 26).alloc zC 38).alloc zC 38;simp only[yY] at F;have cp:=F.c5 2 rfl;go_enter Tryz.func38,Tryz.ntmps38;go_wp2_with fail;refine(jX u p _ (HP.o.below F.bel) HZ.o).mono ?_;rintro e w1 ⟨rfl,hb⟩;replace F:=F.call hb;replace cp:=F.c5 2 rfl;clear hb;rw[HV.o];clear cp;have h:Sf w w1 (bR w kv u) kv ⟨[],[],[],[],[]⟩ (xC p 0 0 0 0 0 0):=Sf.zero F;clear F;have HN:=yz.nil w.heap.size;have cp:=h.c5 2 rfl;go_wp2;clear cp
 go_loopw [5] (λi wr=>∃(k:Nat) (V:zu),k<=u.nt/\i=uy k/\Sf w wr (bR w V u) V ⟨[],[],[],[],[]⟩ (xC p k 0 0 0 0 0)) (λi _=>u.nt-(intOf i).toNat)
 case atStart=>exact⟨0,_,jq,rfl,h⟩
 case round=>
  clear h;obtain⟨k,V,hk,rfl,h⟩:=hrel;have cp:=h.c5 2 rfl;by_cases b0:k<u.nt
  ·have a0:k<p.threads.length:=by rw[HP.o.lt];exact b0
   obtain⟨t,ht⟩:=jy (p.threads.getD k []);have f0:uH (xC p (k+1) 0 0 0 0 0={xC p k 0 0 0 0 0 with places:=(xC p k 0 0 0 0 0).places++[0],status:=(xC p k 0 0 0 0 0).status++[rest p k 0]}):=zd (by
    have e:rest p k 0=if t.length=0 then 3 else 0:=by
     unfold rest vJ;rw[show((k:Nat):Int).toNat=k from rfl,<-ht];by_cases h0:t.length=0
     ·rw[if_pos h0,if_pos jq]
     ·rw[if_neg h0,if_neg jq]
    unfold xC;rw[Ya _ p.threads [] a0,Ya _ p.threads [] a0,<-ht,e])
   have c0:uH (V.pl.n=k/\V.st.n=k):=zd ⟨by rw[h.st.npl];show((p.threads.take k).map _).length=k;rw[yG,jO];omega,by rw[h.st.nst];show((p.threads.take k).map _).length=k;rw[yG,jO];omega⟩;have r0:uH (0<=(k:Int)/\(k:Int)<p.threads.length):=zd ⟨jq,jq⟩;have h2:=h.alloc #[uy 0] 3;have co:=h.c9 0 rfl;clear a0 ht;go_upto_region 7 with fail;go_upto_region 8 with (at_builtin;refine h2.app_pl rfl _ _ rfl rfl rfl (Rd.of_blk (h2.fr.blk 0 rfl)) (jQ c0.out) ?_;intro r W5 h5;have co:=h5.c9 1 rfl;have h6:=(h5.set 1 rfl 0 r.val).sub (l':=bR w {V with pl:=r} u) (.cons _ (.refl _)))
   obtain⟨W6,p0,h7⟩:=h6.named;rw[<-p0];clear p0 h6 h5 co h2 h cp;apply xZ 6 [.k _,.k _,.k _,.k _,.r λdz uz wz=>(uz=uy (rest p k 0)),.r λdz uz wz=>(∃gz:Nat,uz= .slice (some ⟨gz,0,none⟩) 1 1/\zm wz gz #[uy (rest p k 0)] 3)] ⟨λ_ _ _ _ _ h=>h,λ_ _ _ _ hb ⟨g,e,h⟩=>⟨g,e,h.below hb⟩,trivial⟩ ?s1 ?e1
   case s1=>
    repeat' apply And.intro
    all_goals first|trivial|(intro ρ w1 hG hfr hd;obtain⟨fc,ff⟩:=xu hfr;have f4:=hfr (.tmp 4) rfl;have f1:=hfr (.tmp 1) rfl;have f5:=hfr (.tmp 5) rfl;have F1:=h7.fr.call hG;have co:=F1.c9 0 rfl;have cp:=F1.c5 2 rfl;clear F1)
    exact yj;exact yI;exact yj;exact yj
    ·obtain⟨d0,d1,-⟩:=hd;have d0:ρ (.tmp 36)=_:=d0;have d1:ρ (.tmp 37)=_:=d1;refine zU (by go_simp;exact⟨⟨rfl,rfl⟩,rfl⟩) ?_;refine(VP u p k 0 _ ((HP.o.below h7.bel).below hG) r0.out HZ.o).mono ?_;rintro e w2 ⟨rfl,hb⟩;exact⟨_,rfl,hb,rfl,yn,hG.trans (hb.mono hG.size)⟩
    ·obtain⟨d0,-⟩:=hd;have d0:((ρ (.tmp 38))=uy (rest p k 0)):=d0;refine zh (u:= .slice (some ⟨w1.heap.size,0,none⟩) 1 1) (w':=w1.alloc (.cells #[uy (rest p k 0)] 3)) (by go_simp) ⟨zY,⟨_,rfl,zm.new _ _ _⟩,yn,hG.alloc hG.size _⟩
   intro w2 hG;refine yv ?_;intro y0 s0 z0 t0;obtain⟨gz,rfl,kL⟩:=t0;have h8:=h7.call hG;clear h7 hG s0;go_wp2_with (at_builtin;refine h8.app_st rfl _ _ rfl rfl rfl (Rd.of_blk kL) (by have:=c0.out;show V.st.n+1<=_;omega) ?_;intro r' W5 h5;have co:=h5.c9 0 rfl;have h6:=(h5.set 0 rfl 1 r'.val).sub (l':=bR w {V with pl:=r,st:=r'} u) (.refl _))
   go_roundw
   case rel=>exact⟨k+1,_,jq,by go_num,by rw[f0.out];exact h6⟩
   case measure=>exact uq
  ·obtain rfl:k=u.nt:=jq;clear b0 hk;have HN:=yz.nil w.heap.size;clear cp;have cp:=h.c5 2 rfl;go_wp2;clear cp
   go_loopw [6] (λi wr=>∃(k:Nat) (V:zu) (L:zQ),k<=u.ns/\i=uy k/\Sf w wr (bR w V u) V L (xC p u.nt k 0 0 0 0)/\yz w.heap.size L) (λi _=>u.ns-(intOf i).toNat)
   case atStart=>exact⟨0,_,_,jq,rfl,h,HN⟩
   case round=>
    clear h HN;obtain⟨k,V,L,hk,rfl,h,HN⟩:=hrel;have cp:=h.c5 2 rfl;by_cases b0:k<u.ns
    ·have a0:k<p.sems.length:=by rw[HP.o.ls];exact b0
     obtain⟨b1,o1,e1,g'⟩:=HP.o.rs.int jq;have g1:=g' k a0;obtain⟨x0,hx⟩:=jy (p.sems.getD k 0);rw[<-hx] at g1;have f0:uH ((xC p u.nt (k+1) 0 0 0 0)={(xC p u.nt k 0 0 0 0) with sems:=(xC p u.nt k 0 0 0 0).sems++[⟨x0,x0,[]⟩]}):=zd (by unfold xC;rw[Ya _ p.sems 0 a0,<-hx]);have j0:uH (1<=x0/\x0<=9):=zd (by rw[hx];exact(yX (uK HV.o).1).2 k a0);replace g1:=ze h.bel g1;have c0:uH (V.se.n=k):=zd (by rw[h.st.nse];show((p.sems.take k).map _).length=k;rw[yG,jO];omega);have i0:(0:Int)<=(k:Int):=jq;have i1:(k:Int)<(u.ns:Int):=jq;rw[e1] at cp;clear g' a0 hx;clear e1;go_wp2_with fail;refine(GU x0 _ j0.out).mono ?_;rintro e w5 ⟨s1,rfl,g0,hb⟩;have hq:Xn (zO (bR w V u)++V.blks) w5 ⟨x0,x0,[]⟩ s1:=h.apart g0;have k0:=HN.se1 (x:=⟨x0,x0,[]⟩) (q:=s1) (jT.lower g0.new h.bel.size);replace h:=h.call hb;have HQ:=zd hq;clear hq g0 hb g1 cp;have h2:=h.alloc #[uy x0,uy x0,.slice s1.a s1.n s1.c] 74;have co:=h2.c9 1 rfl;have cx:=h2.c3 0 rfl;go_upto_region 13 with fail;obtain⟨w6,hw,h3⟩:=h2.named;rw[<-hw];clear hw h2 h co cx;have co:=h3.c9 1 rfl;have cx:=h3.c3 0 rfl;have h4:=h3.alloc #[uy x0,uy x0,.slice s1.a s1.n s1.c] 74
     go_wp2_with (at_builtin;refine h4.app_se (x:=⟨x0,x0,[]⟩) (q:=s1) rfl _ _ rfl rfl rfl (Rd.of_blk (h4.fr.blk 0 rfl)) (yc.none HQ.o) (jQ c0.out) ?_;intro r W5 h5;have co:=h5.c9 2 rfl;have h6:=(h5.set 2 rfl 2 r.val).sub (l':=bR w {V with se:=r} u) (.cons _ (.cons _ (.refl _))))
     go_roundw
     case rel=>exact⟨k+1,_,_,jq,by go_num,by rw[f0.out];exact h6,k0⟩
     case measure=>exact uq
    ·obtain rfl:k=u.ns:=jq;clear b0 hk;clear cp;have cp:=h.c5 2 rfl;go_wp2;clear cp
     go_loopw [9] (λi wr=>∃(k:Nat) (V:zu) (L:zQ),k<=3/\i=uy k/\Sf w wr (bR w V u) V L (xC p u.nt u.ns k 0 0 0)/\yz w.heap.size L) (λi _=>3-(intOf i).toNat)
     case atStart=>exact⟨0,_,_,jq,rfl,h,HN⟩
     case round=>
      clear h HN;obtain⟨k,V,L,hk,rfl,h,HN⟩:=hrel;have cp:=h.c5 2 rfl;by_cases b0:k<3
      ·have f0:uH ((xC p u.nt u.ns (k+1) 0 0 0)={(xC p u.nt u.ns k 0 0 0) with onces:=(xC p u.nt u.ns k 0 0 0).onces++[zH]}):=zd (by unfold xC;rw[List.replicate_succ']);have c0:uH (V.on.n=k):=zd (by rw[h.st.non];show(List.replicate k zH).length=k;rw[List.length_replicate]);have h2:=h.alloc #[uy 0,uy 0,uy 0,uk] 81;have co:=h.c9 0 rfl;go_upto_region 17 with fail;go_wp2_with (at_builtin;refine h2.app_on (x:=zH) (q:=zR) rfl _ _ rfl rfl rfl (Rd.of_blk (h2.fr.blk 0 rfl)) (yc.nil _ _) (jQ c0.out) ?_;intro r W5 h5;have co:=h5.c9 1 rfl;have h6:=(h5.set 1 rfl 3 r.val).sub (l':=bR w {V with on:=r} u) (.cons _ (.refl _)))
       go_roundw
       case rel=>exact⟨k+1,_,_,jq,by go_num,by rw[f0.out];exact h6,HN.on1 (.inl rfl)⟩
       case measure=>exact uq
      ·obtain⟨k3,e3⟩:=jy k;rw[<-e3] at h b0 hk⊢;have q0:uH (k3=3):=zd jq;clear hk e3 k;clear cp;have cp:=h.c5 2 rfl;go_wp2;clear cp;clear b0
       go_loopw [10] (λi wr=>∃(k:Nat) (V:zu) (L:zQ),k<=u.ng/\i=uy k/\Sf w wr (bR w V u) V L (xC p u.nt u.ns k3 k 0 0)/\yz w.heap.size L) (λi _=>u.ng-(intOf i).toNat)
       case atStart=>exact⟨0,_,_,jq,rfl,h,HN⟩
       case round=>
        clear h HN;obtain⟨k,V,L,hk,rfl,h,HN⟩:=hrel;have cp:=h.c5 2 rfl;by_cases b0:k<u.ng
        ·have a0:k<p.groups.length:=by rw[HP.o.lg];exact b0
         obtain⟨b1,o1,e1,g'⟩:=HP.o.rg.int jq;have g1:=g' k a0;obtain⟨x0,hx⟩:=jy (p.groups.getD k 0);rw[<-hx] at g1;have f0:uH ((xC p u.nt u.ns k3 (k+1) 0 0)={(xC p u.nt u.ns k3 k 0 0) with groups:=(xC p u.nt u.ns k3 k 0 0).groups++[⟨x0,[]⟩]}):=zd (by unfold xC;rw[Ya _ p.groups 0 a0,<-hx]);have j0:uH (0<=x0/\x0<=9):=zd (by rw[hx];exact(yX (uK HV.o).2.1).2 k a0);replace g1:=ze h.bel g1;have c0:uH (V.gr.n=k):=zd (by rw[h.st.ngr];show((p.groups.take k).map _).length=k;rw[yG,jO];omega);have i0:(0:Int)<=(k:Int):=jq;have i1:(k:Int)<(u.ng:Int):=jq;rw[e1] at cp;clear g' a0 hx;have co:=h.c9 0 rfl;have EP:=zd e1;clear e1;go_upto_region 21 with fail;apply xZ 9 [.k _,.k _,.k _,.k _,.k _,.k _,.k _,.k _,.r λdz uz wz=>(∃gz:Nat,uz= .slice (some ⟨gz,0,none⟩) 1 1/\zm wz gz #[uy x0,uk] 87)] ⟨λ_ _ _ _ hb ⟨g,e,h⟩=>⟨g,e,h.below hb⟩,trivial⟩ ?s2 ?e2
         case s2=>
          repeat' apply And.intro
          all_goals first|trivial|(intro ρ w1 hG hfr hd;obtain⟨fc,ff⟩:=xu hfr;have f4:=hfr (.tmp 4) rfl;have f1:=hfr (.tmp 1) rfl;have v0:=hfr (.tmp 10) rfl;have F1:=h.fr.call hG;have co:=F1.c9 0 rfl;have cp:=F1.c5 2 rfl;have g1:=(λ_=>ze hG g1) F1;clear F1)
          exact yj;exact yI;exact yj;exact yI;exact yj
          ·have d:ρ (.tmp _)=_:=hd.1;have d':ρ (.tmp _)=_:=hd.2.1;rw[EP.o] at d;exact yj
          exact yI;exact yI
          ·obtain⟨d0,-⟩:=hd;have d0:ρ (.tmp 88)=_:=d0;refine zh (u:= .slice (some ⟨w1.heap.size,0,none⟩) 1 1) (w':=w1.alloc (.cells #[uy x0,uk] 87)) (by go_simp) ⟨zY,⟨_,rfl,zm.new _ _ _⟩,yn,hG.alloc hG.size _⟩
         intro w2 hG;refine yv ?_;intro A0 u0;obtain⟨gz,rfl,kL⟩:=u0;have h2:=h.call hG;clear h hG;go_wp2_with (at_builtin;refine h2.app_gr (x:=⟨x0,[]⟩) (q:=zR) rfl _ _ rfl rfl rfl (Rd.of_blk kL) (yc.nil _ _) (jQ c0.out) ?_;intro r W5 h5;have co:=h5.c9 0 rfl;have h6:=(h5.set 0 rfl 4 r.val).sub (l':=bR w {V with gr:=r} u) (.refl _))
         go_roundw
         case rel=>exact⟨k+1,{V with gr:=r},{L with gr:=L.gr++[(⟨x0,[]⟩,zR)]},jq,by go_num,by rw[f0.out];exact h6,HN.gr1 (.inl rfl)⟩
         case measure=>exact uq
        ·obtain rfl:k=u.ng:=jq;clear b0 hk;clear cp;have cp:=h.c5 2 rfl;go_wp2;clear cp
         go_loopw [11] (λi wr=>∃(k:Nat) (V:zu) (L:zQ),k<=u.nb/\i=uy k/\Sf w wr (bR w V u) V L (xC p u.nt u.ns k3 u.ng k 0)/\yz w.heap.size L) (λi _=>u.nb-(intOf i).toNat)
         case atStart=>exact⟨0,_,_,jq,rfl,h,HN⟩
         case round=>
          clear h HN;obtain⟨k,V,L,hk,rfl,h,HN⟩:=hrel;have cp:=h.c5 2 rfl;by_cases b0:k<u.nb
          ·have a0:k<p.barriers.length:=by rw[HP.o.lb];exact b0
           obtain⟨b1,o1,e1,g'⟩:=HP.o.rb.int jq;have g1:=g' k a0;obtain⟨x0,hx⟩:=jy (p.barriers.getD k 0);rw[<-hx] at g1;have f0:uH ((xC p u.nt u.ns k3 u.ng (k+1) 0)={(xC p u.nt u.ns k3 u.ng k 0) with bars:=(xC p u.nt u.ns k3 u.ng k 0).bars++[⟨x0,0,[]⟩]}):=zd (by unfold xC;rw[Ya _ p.barriers 0 a0,<-hx]);have j0:uH (1<=x0/\x0<=6):=zd (by rw[hx];exact(yX (uK HV.o).2.2.1).2 k a0);replace g1:=ze h.bel g1;have c0:uH (V.ba.n=k):=zd (by rw[h.st.nba];show((p.barriers.take k).map _).length=k;rw[yG,jO];omega);have i0:(0:Int)<=(k:Int):=jq;have i1:(k:Int)<(u.nb:Int):=jq;rw[e1] at cp;clear g' a0 hx;clear e1;go_wp2_with fail;refine(GZ x0 _ j0.out).mono ?_;rintro e w5 ⟨s1,rfl,g0,hb⟩;have hq:Qj (zO (bR w V u)++V.blks) w5 ⟨x0,0,[]⟩ s1:=h.apart g0;have k0:=HN.ba1 (x:=⟨x0,0,[]⟩) (q:=s1) (jT.lower g0.new h.bel.size);replace h:=h.call hb;have HQ:=zd hq;clear hq g0 hb g1 cp;have h2:=h.alloc #[uy x0,uy 0,.slice s1.a s1.n s1.c] 93;have co:=h2.c9 1 rfl;have cx:=h2.c3 0 rfl;go_upto_region 26 with fail;obtain⟨w6,hw,h3⟩:=h2.named;rw[<-hw];clear hw h2 h co cx;have co:=h3.c9 1 rfl;have cx:=h3.c3 0 rfl;have h4:=h3.alloc #[uy x0,uy 0,.slice s1.a s1.n s1.c] 93
           go_wp2_with (at_builtin;refine h4.app_ba (x:=⟨x0,0,[]⟩) (q:=s1) rfl _ _ rfl rfl rfl (Rd.of_blk (h4.fr.blk 0 rfl)) (yc.none HQ.o) (jQ c0.out) ?_;intro r W5 h5;have co:=h5.c9 2 rfl;have h6:=(h5.set 2 rfl 5 r.val).sub (l':=bR w {V with ba:=r} u) (.cons _ (.cons _ (.refl _))))
           go_roundw
           case rel=>exact⟨k+1,_,_,jq,by go_num,by rw[f0.out];exact h6,k0⟩
           case measure=>exact uq
          ·obtain rfl:k=u.nb:=jq;clear b0 hk;clear cp;have cp:=h.c5 2 rfl;go_wp2;clear cp
           go_loopw [14] (λi wr=>∃(k:Nat) (V:zu) (L:zQ),k<=u.nr/\i=uy k/\Sf w wr (bR w V u) V L (xC p u.nt u.ns k3 u.ng u.nb k)/\yz w.heap.size L) (λi _=>u.nr-(intOf i).toNat)
           case atStart=>exact⟨0,_,_,jq,rfl,h,HN⟩
           case round=>
            clear h HN;obtain⟨k,V,L,hk,rfl,h,HN⟩:=hrel;have cp:=h.c5 2 rfl;by_cases b0:k<u.nr
            ·have a0:k<p.rooms.length:=by rw[HP.o.lr];exact b0
             obtain⟨b1,o1,e1,g'⟩:=HP.o.rr.int jq;have g1:=g' k a0;obtain⟨x0,hx⟩:=jy (p.rooms.getD k 0);rw[<-hx] at g1;have f0:uH ((xC p u.nt u.ns k3 u.ng u.nb (k+1))={(xC p u.nt u.ns k3 u.ng u.nb k) with chans:=(xC p u.nt u.ns k3 u.ng u.nb k).chans++[⟨x0,[],[],[],false⟩]}):=zd (by unfold xC;rw[Ya _ p.rooms 0 a0,<-hx]);have j0:uH (0<=x0/\x0<=4):=zd (by rw[hx];exact(yX (uK HV.o).2.2.2).2 k a0);replace g1:=ze h.bel g1;have c0:uH (V.ch.n=k):=zd (by rw[h.st.nch];show((p.rooms.take k).map _).length=k;rw[yG,jO];omega);have i0:(0:Int)<=(k:Int):=jq;have i1:(k:Int)<(u.nr:Int):=jq;rw[e1] at cp;clear g' a0 hx;clear e1;go_wp2_with fail;refine(KY x0 _ j0.out).mono ?_;rintro e w5 ⟨s1,s2,s3,rfl,g0,m0,n0,hb⟩;have hq:Xp (zO (bR w V u)++V.blks) w5 ⟨x0,[],[],[],false⟩ (s1,s2,s3):=⟨h.apart g0,h.apart m0,h.apart n0⟩
             have k0:=HN.ch1 (x:=⟨x0,[],[],[],false⟩) (q:=(s1,s2,s3)) (⟨jT.lower g0.new h.bel.size,jT.lower m0.new h.bel.size,jT.lower n0.new h.bel.size⟩);replace h:=h.call hb;have HQ:=zd hq;clear hq g0 m0 n0 hb g1 cp;have h2:=h.alloc #[uy x0,.slice s1.a s1.n s1.c,.slice s2.a s2.n s2.c,.slice s3.a s3.n s3.c,.bool false] 98;have co:=h2.c9 1 rfl;have cx:=h2.c5 0 rfl;go_upto_region 31 with fail;obtain⟨w6,hw,h3⟩:=h2.named;rw[<-hw];clear hw h2 h co cx;have co:=h3.c9 1 rfl;have cx:=h3.c5 0 rfl;have h4:=h3.alloc #[uy x0,.slice s1.a s1.n s1.c,.slice s2.a s2.n s2.c,.slice s3.a s3.n s3.c,.bool false] 98;go_wp2_with (at_builtin;refine h4.app_ch (x:=⟨x0,[],[],[],false⟩) (q:=(s1,s2,s3)) rfl _ _ rfl rfl rfl (Rd.of_blk (h4.fr.blk 0 rfl)) ⟨yc.none HQ.o.1,yc.none HQ.o.2.1,yc.none HQ.o.2.2⟩ (jQ c0.out) ?_;intro r W5 h5;have co:=h5.c9 2 rfl;have h6:=(h5.set 2 rfl 6 r.val).sub (l':=bR w {V with ch:=r} u) (.cons _ (.cons _ (.refl _))))
             go_roundw
             case rel=>exact⟨k+1,_,_,jq,by go_num,by rw[f0.out];exact h6,k0⟩
             case measure=>exact uq
            ·obtain rfl:k=u.nr:=jq;clear b0 hk;have l0:xC p u.nt u.ns k3 u.ng u.nb u.nr=zI p:=by rw[q0.out,<-HP.o.lt,<-HP.o.ls,<-HP.o.lg,<-HP.o.lb,<-HP.o.lr];exact fD p
             rw[l0] at h;have co:=h.c9 0 rfl;have cr:=h.c9 1 rfl;have h7:=h.setV 1 rfl V;go_wp2;exact zM (v:= .tuple #[V.val,.bool true]) (by simp[results,Tryz.results38,go_sem,h7.c9 1 rfl]) rfl ⟨V,L,rfl,h7.st.sub jv,HN,h7.bel⟩
theorem JI (u:PV) (p:Pg) (w:World) (hp:yK w u p) (hz:xH u p) (hv:zD p=false):
  Calls Tryz.prog 38 #[.agg (zF u)] w λe w'=>e= .returned (.tuple #[.agg zC,.bool false])/\xW w w':=by
 have HP:=zd hp;have HV:=zd hv;have HZ:=zd hz;clear hp hv hz;have F:=(((Fr.start w).alloc (zF u) 26).alloc zC 38).alloc zC 38;simp only[yY] at F;have cp:=F.c5 2 rfl;have cz:=F.c9 1 rfl;have cy:=F.c9 0 rfl;go_enter Tryz.func38,Tryz.ntmps38;go_wp2_with fail;refine(jX u p _ (HP.o.below F.bel) HZ.o).mono ?_;rintro e w1 ⟨rfl,hb⟩;replace F:=F.call hb;replace cp:=F.c5 2 rfl;replace cz:=F.c9 1 rfl;replace cy:=F.c9 0 rfl;clear hb;rw[HV.o];clear cp;have F2:=F.setZ 1 rfl;go_wp2;exact zM (v:= .tuple #[.agg zC,.bool false]) (by simp[results,Tryz.results38,go_sem,F2.c9 1 rfl]) rfl ⟨rfl,F2.bel⟩
def qo (cs:List Int) (s:zp) (tr:List Int):Option Int:=if (zq s).length=0\/tr.length=cs.length then none else some ((zq s).getD ((cs.getD tr.length 0).toNat%(zq s).length) 0)
def jW (T:List Int) (_:zp) (tr:List Int):Option Int:=if tr.length=T.length then none else some (T.getD tr.length 0)
def ja (x:Int):List Int->Option Int
 |[]=>none
 |t::l=>if x<=t then some t else ja x l
def Xe (tr:List Int):Int:=if tr.length=0 then 0 else tr.getD (tr.length-1) 0+1
def xh (b:Bool) (s:zp) (tr:List Int):Option Int:=if (zq s).length=0\/100<=tr.length then none else some (if b=true then (ja (Xe tr) (zq s)).getD ((zq s).getD 0 0) else (zq s).getD 0 0)
theorem tK {x:Int} {l:List Int} (hi:i<l.length):ja x (l.drop i)=if x<=l.getD i 0 then some (l.getD i 0) else ja x (l.drop (i+1)):=by
 rw[List.drop_eq_getElem_cons hi];have e:l.getD i 0=l[i]:=by simp[List.getD,hi]
 rw[e];rfl
theorem Ud {x:Int}:∀{l:List Int} {t:Int},ja x l=some t->t∈l
 |[],_,h=>by cases h
 |y::l,t,h=>by
  unfold ja at h;split at h
  ·obtain rfl:=Option.some.inj h;simp
  ·exact List.mem_cons.2 (.inr (Ud h))
theorem fj {l:List Int} (h:l.length≠0):l.getD 0 0∈l:=by
 cases l with
 |nil=>exact absurd rfl h
 |cons a l=>simp
theorem Gz {b:Bool} (h:xh b s tr=some t):t∈zq s:=by
 unfold xh at h;split at h
 ·cases h
 ·next hn=>
  obtain rfl:=Option.some.inj h;have h0:=fj (l:=zq s) jq
  cases b with
  |false=>exact h0
  |true=>
   show(ja (Xe tr) (zq s)).getD ((zq s).getD 0 0)∈zq s
   cases e:ja (Xe tr) (zq s) with
   |none=>exact h0
   |some t=>exact Ud e
theorem Qn (tr:List Int) (t:Int):Xe (tr++[t])=t+1:=by
 unfold Xe;rw[if_neg jv];simp
theorem Ur {l:List Int} (h:i<l.length):l.getD i 0∈l:=by simp[List.getD,h]
theorem JZ {ch:zp->List Int->Option Int} (b0:∀s tr t,ch s tr=some t->t∈zq s) (a0:∀s tr,100<=tr.length->ch s tr=none):∀(n:Nat) (s:zp) (tr:List Int),n+tr.length=101->tr.length<=100->∃r,xg p ch n s tr=some r
 |0,s,tr,h1,h2=>jq
 |n+1,s,tr,h1,h2=>by
  cases e:ch s tr with
  |none=>exact⟨_,ZQ e⟩
  |some t=>
   rw[Zs e (b0 s tr t e)];have hl:(tr++[t]).length=tr.length+1:=by rw[xp];rfl
   refine JZ b0 a0 n _ _ (by rw[hl];omega) ?_;rw[hl];refine Nat.lt_of_not_le λh3=> ?_;rw[a0 s tr h3] at e
   cases e
def xn (p:Pg) (ch:zp->List Int->Option Int):Option (zp×List Int):=if zD p=true then xg p ch 101 (zI p) [] else none
def qL (p:Pg) (cs:List Int):Option (zp×List Int):=if cs.length<=100/\cs.all (λx=>decide (0<=x))=true then xn p (qo cs) else none
def xx (p:Pg) (T:List Int):Option (zp×List Int):=if T.length<=100 then xn p (jW T) else none
theorem Jy {ch:zp->List Int->Option Int} (h:ch s tr=none) (hn:n<=100):xg p ch (101-n) s tr=some (s,tr):=by
 rw[show 101-n=(100-n)+1 by omega];exact ZQ h
theorem Q5 {ch:zp->List Int->Option Int} (h:ch s tr=some t) (hr:t∈zq s) (hn:n<100):xg p ch (101-n) s tr=xg p ch (101-(n+1)) (zJ p s t) (tr++[t]):=by
 rw[show 101-n=(101-(n+1))+1 by omega];exact Zs h hr
end Go.Proofs.YtfclolgfegdfjaaGreat
