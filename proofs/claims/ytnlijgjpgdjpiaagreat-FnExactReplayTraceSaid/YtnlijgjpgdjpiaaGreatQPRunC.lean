/- Part of a proof: RStart RunX RRun RRun8 RPick RPlay. -/
import Derived.Test.YtnlijgjpgdjpiaaGreatQPStart
import Derived.Test.YtnlijgjpgdjpiaaGreatQPRA
import Derived.IntWalk
set_option maxRecDepth 100000
set_option maxHeartbeats 16000000
namespace Go.Proofs.YtnlijgjpgdjpiaaGreat
open Go.RowKit
theorem Sf.setR {w W:World} {l:List It} {v:StV} {L:StL} {s:StD} (h:Sf w W l v L s) (k:Nat) {b:Nat} {u0 u1 u2 u3 u4 u5 u6 u7 u8 u9:Value} {T:TypeId} (hi:l[k]? =some (.blk b #[u0,u1,u2,u3,u4,u5,u6,u7,u8,u9] T)) (y:StV) (a:Option Addr) (m c:Nat):Sf w ((((((((((W.setCell ⟨b,0,none⟩ (.slice y.pl.a y.pl.n y.pl.c)).setCell ⟨b,1,none⟩ (.slice y.st.a y.st.n y.st.c)).setCell ⟨b,2,none⟩ (.slice y.se.a y.se.n y.se.c)).setCell ⟨b,3,none⟩ (.slice y.on.a y.on.n y.on.c)).setCell ⟨b,4,none⟩ (.slice y.gr.a y.gr.n y.gr.c)).setCell ⟨b,5,none⟩ (.slice y.ba.a y.ba.n y.ba.c)).setCell ⟨b,6,none⟩ (.slice y.ch.a y.ch.n y.ch.c)).setCell ⟨b,7,none⟩ (.slice y.sa.a y.sa.n y.sa.c)).setCell ⟨b,8,none⟩ (.int .i64 y.fl)).setCell ⟨b,9,none⟩ (.slice a m c)) (l.set k (.blk b (rC y a m c) T)) v L s:=h.set10 k hi _ _ _ _ _ _ _ _ _ _
theorem Sf.setY {w W:World} {l:List It} {v:StV} {L:StL} {s:StD} (h:Sf w W l v L s) (k:Nat) {b:Nat} {u0 u1 u2 u3 u4 u5 u6 u7 u8 u9:Value} {T:TypeId} (hi:l[k]? =some (.blk b #[u0,u1,u2,u3,u4,u5,u6,u7,u8,u9] T)):Sf w ((((((((((W.setCell ⟨b,0,none⟩ (.slice none 0 0)).setCell ⟨b,1,none⟩ (.slice none 0 0)).setCell ⟨b,2,none⟩ (.slice none 0 0)).setCell ⟨b,3,none⟩ (.slice none 0 0)).setCell ⟨b,4,none⟩ (.slice none 0 0)).setCell ⟨b,5,none⟩ (.slice none 0 0)).setCell ⟨b,6,none⟩ (.slice none 0 0)).setCell ⟨b,7,none⟩ (.slice none 0 0)).setCell ⟨b,8,none⟩ (.int .i64 0)).setCell ⟨b,9,none⟩ (.slice none 0 0)) (l.set k (.blk b z10 T)) v L s:=h.set10 k hi _ _ _ _ _ _ _ _ _ _
def zan (p:Pg) (a b o c d e:Nat):StD:=⟨(p.threads.take a).map λ_=>0,(p.threads.take a).map λt=>if t.length=0 then 3 else 0,(p.sems.take b).map λn=>⟨n,n,[]⟩,List.replicate o zq,(p.groups.take c).map λn=>⟨n,[]⟩,(p.barriers.take d).map λn=>⟨n,0,[]⟩,(p.rooms.take e).map λn=>⟨n,[],[],[],false⟩,[],0⟩
theorem zjz (p:Pg):zan p p.threads.length p.sems.length 3 p.groups.length p.barriers.length p.rooms.length=zae p:=by unfold zan zae;simp only[List.take_length]
abbrev bR (w:World) (V:StV) (u:PV):List It:=[.blk (w.heap.size+1+1) (svC V) 33,.blk (w.heap.size+1) zC 33,.blk w.heap.size (pvC u) 40]
abbrev stVZ:StV:=⟨nilV,nilV,nilV,nilV,nilV,nilV,nilV,nilV,0⟩
theorem zcG {α β:Type} (g:α->β) (l:List α) (d:α) {j:Nat} (hj:j<l.length):(l.take (j+1)).map g=(l.take j).map g++[g (l.getD j d)]:=by rw[<-zas l d hj,xDr];rfl
theorem SlR.none {S S':List Nat} {w w':World} {q:SlV} (h:SlR S w q [] 0):SlR S' w' q [] 0:=⟨h.len,.inl rfl,.inl rfl,h.cap⟩
theorem Sf.zero {w W:World} {l:List It} (F:Fr w W l):Sf w W l stVZ ⟨[],[],[],[],[]⟩ ⟨[],[],[],[],[],[],[],[],0⟩:=
 ⟨F,xDi _ _ _ _,rfl,xDi _ _ _ _,rfl,xDi _ _ _ _,rfl,xDi _ _ _ _,rfl,xDi _ _ _ _,rfl,xDi _ _ _ _,rfl,xDi _ _ _ _,rfl,xDi _ _ _ _,rfl,rfl,nofun,nofun,nofun,λq hq=>⟨(F.inside q hq).2,λhm=>by
  obtain⟨z,hz,hzk⟩:=xDc.1 hm;simp only[nilV,List.mem_cons,xDm,or_false] at hz;rcases hz with rfl|rfl|rfl|rfl|rfl|rfl|rfl|rfl<;>cases hzk⟩,⟨InL.nil,InL.nil,InL.nil,InL.nil,InL.nil⟩⟩
theorem zib (u:PV) (p:Pg) (w:World) (hp:RdP w u p) (hv:zu p=true):
  Calls Tryz.prog 27 #[.agg (pvC u)] w λe w'=>∃(v:StV) (L:StL),e= .returned (.tuple #[v.val,.bool true])/\StO [] w.heap.size w' v L (zae p)/\NewB w.heap.size L/\xW w w':=by
 have HP:=xH1 hp;have HV:=xH1 hv;have HZ:=xH1 (zbK hv hp);have hvs:=zR hv;have VS:=xH1 hvs;have n1:u.nt<=4:=by rw[<-hp.lt];omega
 have n2:u.ns<=3:=by rw[<-hp.ls];omega
 have n3:u.ng<=3:=by rw[<-hp.lg];omega
 have n4:u.nb<=3:=by rw[<-hp.lb];omega
 have n5:u.nr<=3:=by rw[<-hp.lr];omega
 clear hp hv hvs;have F:=(((Fr.start w).alloc (pvC u) 40).alloc zC 33).alloc zC 33;simp only[xDe] at F;have cp:=F.c5 2 rfl;go_enter Tryz.func27,Tryz.ntmps27;go_wp2_with fail;refine(zcM u p _ (HP.out.below F.bel) HZ.out).mono ?_;rintro e w1 ⟨rfl,hb⟩;replace F:=F.call hb;replace cp:=F.c5 2 rfl;clear hb;rw[HV.out];clear cp;have h:Sf w w1 (bR w stVZ u) stVZ ⟨[],[],[],[],[]⟩ (zan p 0 0 0 0 0 0):=Sf.zero F;clear F;have HN:=NewB.nil w.heap.size;have cp:=h.c5 2 rfl;go_wp2;clear cp
 go_loopw [5] (λi wr=>∃(k:Nat) (V:StV),k<=u.nt/\i= .int .i64 k/\Sf w wr (bR w V u) V ⟨[],[],[],[],[]⟩ (zan p k 0 0 0 0 0)) (λi _=>u.nt-(intOf i).toNat)
 case atStart=>exact⟨0,_,by omega,rfl,h⟩
 case round=>
  clear h;obtain⟨k,V,hk,rfl,h⟩:=hrel;have cp:=h.c5 2 rfl;by_cases hlt:k<u.nt
  ·have hkp:k<p.threads.length:=by rw[HP.out.lt];exact hlt
   obtain⟨t,ht⟩:∃t,t=p.threads.getD k []:=⟨_,rfl⟩
   have HPK:Hid (zan p (k+1) 0 0 0 0 0={zan p k 0 0 0 0 0 with places:=(zan p k 0 0 0 0 0).places++[0],status:=(zan p k 0 0 0 0 0).status++[rest p k 0]}):=xH1 (by
    have e:rest p k 0=if t.length=0 then 3 else 0:=by
     unfold rest zbY;rw[show((k:Nat):Int).toNat=k from rfl,<-ht];by_cases h0:t.length=0
     ·rw[if_pos h0,if_pos (by omega)]
     ·rw[if_neg h0,if_neg (by omega)]
    unfold zan;rw[zcG _ p.threads [] hkp,zcG _ p.threads [] hkp,<-ht,e])
   have HVN:Hid (V.pl.n=k/\V.st.n=k):=xH1 ⟨by rw[h.st.npl];show((p.threads.take k).map _).length=k;rw[xDf,xDp];omega,by rw[h.st.nst];show((p.threads.take k).map _).length=k;rw[xDf,xDp];omega⟩;have HTK:Hid (0<=(k:Int)/\(k:Int)<p.threads.length):=xH1 ⟨by omega,by omega⟩;have h2:=h.alloc #[.int .i64 0] 3;have co:=h.c9 0 rfl;clear hkp ht;go_upto_region 7 with fail;go_upto_region 8 with (at_builtin;refine h2.app_pl rfl _ _ rfl rfl rfl (Rd.of_blk (h2.fr.blk 0 rfl)) (by have:=HVN.out;omega) ?_;intro r W5 h5;have co:=h5.c9 1 rfl;have h6:=(h5.set 1 rfl 0 r.val).sub (l':=bR w {V with pl:=r} u) (.cons _ (.refl _)))
   obtain⟨W6,hw6,h7⟩:=h6.named;rw[<-hw6];clear hw6 h6 h5 co h2 h cp;apply zbc 6 [.k _,.k _,.k _,.k _,.r λdz uz wz=>(uz= .int .i64 (rest p k 0)),.r λdz uz wz=>(∃gz:Nat,uz= .slice (some ⟨gz,0,none⟩) 1 1/\Blk wz gz #[.int .i64 (rest p k 0)] 3)] ⟨λ_ _ _ _ _ h=>h,λ_ _ _ _ hb ⟨g,e,h⟩=>⟨g,e,h.below hb⟩,trivial⟩ ?s1 ?e1
   case s1=>
    repeat' apply And.intro
    all_goals first|trivial|(intro ρ w1 hG hfr hd;obtain⟨fc,ff⟩:=fcff hfr;have f4:=hfr (.tmp 4) rfl;have f1:=hfr (.tmp 1) rfl;have f5:=hfr (.tmp 5) rfl;have F1:=h7.fr.call hG;have co:=F1.c9 0 rfl;have cp:=F1.c5 2 rfl;clear F1)
    exact rk0;exact rk1;exact rk0;exact rk0
    ·obtain⟨d0,d1,-⟩:=hd;have d0:ρ (.tmp 36)=_:=d0;have d1:ρ (.tmp 37)=_:=d1;refine zac (by go_simp;exact⟨⟨rfl,rfl⟩,rfl⟩) ?_;refine(zfl u p k 0 _ ((HP.out.below h7.bel).below hG) HTK.out HZ.out).mono ?_;rintro e w2 ⟨rfl,hb⟩;exact⟨_,rfl,hb,rfl,xN1,hG.trans (hb.mono hG.size)⟩
    ·obtain⟨d0,-⟩:=hd;have d0:((ρ (.tmp 38))= .int .i64 (rest p k 0)):=d0;refine zh (u:= .slice (some ⟨w1.heap.size,0,none⟩) 1 1) (w':=w1.alloc (.cells #[.int .i64 (rest p k 0)] 3)) (by go_simp) ⟨xA1,⟨_,rfl,Blk.new _ _ _⟩,xN1,hG.alloc hG.size _⟩
   intro w2 hG;refine zao ?_;intro xv4 hv4 xv5 hv5;obtain⟨gz,rfl,kL⟩:=hv5;have h8:=h7.call hG;clear h7 hG hv4;go_wp2_with (at_builtin;refine h8.app_st rfl _ _ rfl rfl rfl (Rd.of_blk kL) (by have:=HVN.out;show V.st.n+1<=_;omega) ?_;intro r' W5 h5;have co:=h5.c9 0 rfl;have h6:=(h5.set 0 rfl 1 r'.val).sub (l':=bR w {V with pl:=r,st:=r'} u) (.refl _))
   go_roundw
   case rel=>exact⟨k+1,_,by omega,by go_num,by rw[HPK.out];exact h6⟩
   case measure=>simp[intOf];omega
  ·obtain rfl:k=u.nt:=by omega
   clear hlt hk;have HN:=NewB.nil w.heap.size;clear cp;have cp:=h.c5 2 rfl;go_wp2;clear cp
   go_loopw [6] (λi wr=>∃(k:Nat) (V:StV) (L:StL),k<=u.ns/\i= .int .i64 k/\Sf w wr (bR w V u) V L (zan p u.nt k 0 0 0 0)/\NewB w.heap.size L) (λi _=>u.ns-(intOf i).toNat)
   case atStart=>exact⟨0,_,_,by omega,rfl,h,HN⟩
   case round=>
    clear h HN;obtain⟨k,V,L,hk,rfl,h,HN⟩:=hrel;have cp:=h.c5 2 rfl;by_cases hlt:k<u.ns
    ·have hkp:k<p.sems.length:=by rw[HP.out.ls];exact hlt
     obtain⟨b1,o1,e1,g'⟩:=HP.out.rs.int (by omega);have g1:=g' k hkp;obtain⟨x0,hx⟩:∃x,x=p.sems.getD k 0:=⟨_,rfl⟩
     rw[<-hx] at g1;have HPK:Hid ((zan p u.nt (k+1) 0 0 0 0)={(zan p u.nt k 0 0 0 0) with sems:=(zan p u.nt k 0 0 0 0).sems++[⟨x0,x0,[]⟩]}):=xH1 (by unfold zan;rw[zcG _ p.sems 0 hkp,<-hx]);have HXB:Hid (1<=x0/\x0<=9):=xH1 (by rw[hx];exact(zdd (zdD HV.out).1).2 k hkp);replace g1:=zd h.bel g1;have HVN:Hid (V.se.n=k):=xH1 (by rw[h.st.nse];show((p.sems.take k).map _).length=k;rw[xDf,xDp];omega);have i0:(0:Int)<=(k:Int):=(by omega);have i1:(k:Int)<(u.ns:Int):=(by omega);rw[e1] at cp;clear g' hkp hx;clear e1;go_wp2_with fail;refine(zhK x0 _ HXB.out).mono ?_;rintro e w5 ⟨s1,rfl,hs0,hb⟩;have hq:semR (zv (bR w V u)++V.blks) w5 ⟨x0,x0,[]⟩ s1:=h.apart hs0;have HN2:=HN.se1 (x:=⟨x0,x0,[]⟩) (q:=s1) (newS.lower hs0.new h.bel.size);replace h:=h.call hb;have HQ:=xH1 hq;clear hq hs0 hb g1 cp;have h2:=h.alloc #[.int .i64 x0,.int .i64 x0,.slice s1.a s1.n s1.c] 74;have co:=h2.c9 1 rfl;have cx:=h2.c3 0 rfl;go_upto_region 13 with fail;obtain⟨w6,hw,h3⟩:=h2.named;rw[<-hw];clear hw h2 h co cx;have co:=h3.c9 1 rfl;have cx:=h3.c3 0 rfl;have h4:=h3.alloc #[.int .i64 x0,.int .i64 x0,.slice s1.a s1.n s1.c] 74
     go_wp2_with (at_builtin;refine h4.app_se (x:=⟨x0,x0,[]⟩) (q:=s1) rfl _ _ rfl rfl rfl (Rd.of_blk (h4.fr.blk 0 rfl)) (SlR.none HQ.out) (by have:=HVN.out;omega) ?_;intro r W5 h5;have co:=h5.c9 2 rfl;have h6:=(h5.set 2 rfl 2 r.val).sub (l':=bR w {V with se:=r} u) (.cons _ (.cons _ (.refl _))))
     go_roundw
     case rel=>exact⟨k+1,_,_,by omega,by go_num,by rw[HPK.out];exact h6,HN2⟩
     case measure=>simp[intOf];omega
    ·obtain rfl:k=u.ns:=by omega
     clear hlt hk;clear cp;have cp:=h.c5 2 rfl;go_wp2;clear cp
     go_loopw [9] (λi wr=>∃(k:Nat) (V:StV) (L:StL),k<=3/\i= .int .i64 k/\Sf w wr (bR w V u) V L (zan p u.nt u.ns k 0 0 0)/\NewB w.heap.size L) (λi _=>3-(intOf i).toNat)
     case atStart=>exact⟨0,_,_,by omega,rfl,h,HN⟩
     case round=>
      clear h HN;obtain⟨k,V,L,hk,rfl,h,HN⟩:=hrel;have cp:=h.c5 2 rfl;by_cases hlt:k<3
      ·have HPK:Hid ((zan p u.nt u.ns (k+1) 0 0 0)={(zan p u.nt u.ns k 0 0 0) with onces:=(zan p u.nt u.ns k 0 0 0).onces++[zq]}):=xH1 (by unfold zan;rw[List.replicate_succ']);have HVN:Hid (V.on.n=k):=xH1 (by rw[h.st.non];show(List.replicate k zq).length=k;rw[List.length_replicate]);have h2:=h.alloc #[.int .i64 0,.int .i64 0,.int .i64 0,.slice none 0 0] 78;have co:=h.c9 0 rfl;go_upto_region 17 with fail;go_wp2_with (at_builtin;refine h2.app_on (x:=zq) (q:=nilV) rfl _ _ rfl rfl rfl (Rd.of_blk (h2.fr.blk 0 rfl)) (SlR.nil _ _) (by have:=HVN.out;omega) ?_;intro r W5 h5;have co:=h5.c9 1 rfl;have h6:=(h5.set 1 rfl 3 r.val).sub (l':=bR w {V with on:=r} u) (.cons _ (.refl _)))
       go_roundw
       case rel=>exact⟨k+1,_,_,by omega,by go_num,by rw[HPK.out];exact h6,HN.on1 (.inl rfl)⟩
       case measure=>simp[intOf];omega
      ·obtain⟨k3,e3⟩:∃x,x=k:=⟨_,rfl⟩
       rw[<-e3] at h hlt hk⊢;have HK3:Hid (k3=3):=xH1 (by omega);clear hk e3 k;clear cp;have cp:=h.c5 2 rfl;go_wp2;clear cp;clear hlt
       go_loopw [10] (λi wr=>∃(k:Nat) (V:StV) (L:StL),k<=u.ng/\i= .int .i64 k/\Sf w wr (bR w V u) V L (zan p u.nt u.ns k3 k 0 0)/\NewB w.heap.size L) (λi _=>u.ng-(intOf i).toNat)
       case atStart=>exact⟨0,_,_,by omega,rfl,h,HN⟩
       case round=>
        clear h HN;obtain⟨k,V,L,hk,rfl,h,HN⟩:=hrel;have cp:=h.c5 2 rfl;by_cases hlt:k<u.ng
        ·have hkp:k<p.groups.length:=by rw[HP.out.lg];exact hlt
         obtain⟨b1,o1,e1,g'⟩:=HP.out.rg.int (by omega);have g1:=g' k hkp;obtain⟨x0,hx⟩:∃x,x=p.groups.getD k 0:=⟨_,rfl⟩
         rw[<-hx] at g1;have HPK:Hid ((zan p u.nt u.ns k3 (k+1) 0 0)={(zan p u.nt u.ns k3 k 0 0) with groups:=(zan p u.nt u.ns k3 k 0 0).groups++[⟨x0,[]⟩]}):=xH1 (by unfold zan;rw[zcG _ p.groups 0 hkp,<-hx]);have HXB:Hid (0<=x0/\x0<=9):=xH1 (by rw[hx];exact(zdd (zdD HV.out).2.1).2 k hkp);replace g1:=zd h.bel g1;have HVN:Hid (V.gr.n=k):=xH1 (by rw[h.st.ngr];show((p.groups.take k).map _).length=k;rw[xDf,xDp];omega);have i0:(0:Int)<=(k:Int):=(by omega);have i1:(k:Int)<(u.ng:Int):=(by omega);rw[e1] at cp;clear g' hkp hx;have co:=h.c9 0 rfl;have EP:=xH1 e1;clear e1;go_upto_region 21 with fail;apply zbc 9 [.k _,.k _,.k _,.k _,.k _,.k _,.k _,.k _,.r λdz uz wz=>(∃gz:Nat,uz= .slice (some ⟨gz,0,none⟩) 1 1/\Blk wz gz #[.int .i64 x0,.slice none 0 0] 80)] ⟨λ_ _ _ _ hb ⟨g,e,h⟩=>⟨g,e,h.below hb⟩,trivial⟩ ?s2 ?e2
         case s2=>
          repeat' apply And.intro
          all_goals first|trivial|(intro ρ w1 hG hfr hd;obtain⟨fc,ff⟩:=fcff hfr;have f4:=hfr (.tmp 4) rfl;have f1:=hfr (.tmp 1) rfl;have f10:=hfr (.tmp 10) rfl;have F1:=h.fr.call hG;have co:=F1.c9 0 rfl;have cp:=F1.c5 2 rfl;have g1:=(λ_=>zd hG g1) F1;clear F1)
          exact rk0;exact rk1;exact rk0;exact rk1;exact rk0
          ·have d:ρ (.tmp _)=_:=hd.1;have d':ρ (.tmp _)=_:=hd.2.1;rw[EP.out] at d;exact rk0
          exact rk1;exact rk1
          ·obtain⟨d0,-⟩:=hd;have d0:ρ (.tmp 88)=_:=d0;refine zh (u:= .slice (some ⟨w1.heap.size,0,none⟩) 1 1) (w':=w1.alloc (.cells #[.int .i64 x0,.slice none 0 0] 80)) (by go_simp) ⟨xA1,⟨_,rfl,Blk.new _ _ _⟩,xN1,hG.alloc hG.size _⟩
         intro w2 hG;refine zao ?_;intro xv8 hv8;obtain⟨gz,rfl,kL⟩:=hv8;have h2:=h.call hG;clear h hG;go_wp2_with (at_builtin;refine h2.app_gr (x:=⟨x0,[]⟩) (q:=nilV) rfl _ _ rfl rfl rfl (Rd.of_blk kL) (SlR.nil _ _) (by have:=HVN.out;omega) ?_;intro r W5 h5;have co:=h5.c9 0 rfl;have h6:=(h5.set 0 rfl 4 r.val).sub (l':=bR w {V with gr:=r} u) (.refl _))
         go_roundw
         case rel=>exact⟨k+1,{V with gr:=r},{L with gr:=L.gr++[(⟨x0,[]⟩,nilV)]},by omega,by go_num,by rw[HPK.out];exact h6,HN.gr1 (.inl rfl)⟩
         case measure=>simp[intOf];omega
        ·obtain rfl:k=u.ng:=by omega
         clear hlt hk;clear cp;have cp:=h.c5 2 rfl;go_wp2;clear cp
         go_loopw [11] (λi wr=>∃(k:Nat) (V:StV) (L:StL),k<=u.nb/\i= .int .i64 k/\Sf w wr (bR w V u) V L (zan p u.nt u.ns k3 u.ng k 0)/\NewB w.heap.size L) (λi _=>u.nb-(intOf i).toNat)
         case atStart=>exact⟨0,_,_,by omega,rfl,h,HN⟩
         case round=>
          clear h HN;obtain⟨k,V,L,hk,rfl,h,HN⟩:=hrel;have cp:=h.c5 2 rfl;by_cases hlt:k<u.nb
          ·have hkp:k<p.barriers.length:=by rw[HP.out.lb];exact hlt
           obtain⟨b1,o1,e1,g'⟩:=HP.out.rb.int (by omega);have g1:=g' k hkp;obtain⟨x0,hx⟩:∃x,x=p.barriers.getD k 0:=⟨_,rfl⟩
           rw[<-hx] at g1;have HPK:Hid ((zan p u.nt u.ns k3 u.ng (k+1) 0)={(zan p u.nt u.ns k3 u.ng k 0) with bars:=(zan p u.nt u.ns k3 u.ng k 0).bars++[⟨x0,0,[]⟩]}):=xH1 (by unfold zan;rw[zcG _ p.barriers 0 hkp,<-hx]);have HXB:Hid (1<=x0/\x0<=6):=xH1 (by rw[hx];exact(zdd (zdD HV.out).2.2.1).2 k hkp);replace g1:=zd h.bel g1;have HVN:Hid (V.ba.n=k):=xH1 (by rw[h.st.nba];show((p.barriers.take k).map _).length=k;rw[xDf,xDp];omega);have i0:(0:Int)<=(k:Int):=(by omega);have i1:(k:Int)<(u.nb:Int):=(by omega);rw[e1] at cp;clear g' hkp hx;clear e1;go_wp2_with fail;refine(zhw x0 _ HXB.out).mono ?_;rintro e w5 ⟨s1,rfl,hs0,hb⟩;have hq:barR (zv (bR w V u)++V.blks) w5 ⟨x0,0,[]⟩ s1:=h.apart hs0;have HN2:=HN.ba1 (x:=⟨x0,0,[]⟩) (q:=s1) (newS.lower hs0.new h.bel.size);replace h:=h.call hb;have HQ:=xH1 hq;clear hq hs0 hb g1 cp;have h2:=h.alloc #[.int .i64 x0,.int .i64 0,.slice s1.a s1.n s1.c] 82;have co:=h2.c9 1 rfl;have cx:=h2.c3 0 rfl;go_upto_region 26 with fail;obtain⟨w6,hw,h3⟩:=h2.named;rw[<-hw];clear hw h2 h co cx;have co:=h3.c9 1 rfl;have cx:=h3.c3 0 rfl;have h4:=h3.alloc #[.int .i64 x0,.int .i64 0,.slice s1.a s1.n s1.c] 82
           go_wp2_with (at_builtin;refine h4.app_ba (x:=⟨x0,0,[]⟩) (q:=s1) rfl _ _ rfl rfl rfl (Rd.of_blk (h4.fr.blk 0 rfl)) (SlR.none HQ.out) (by have:=HVN.out;omega) ?_;intro r W5 h5;have co:=h5.c9 2 rfl;have h6:=(h5.set 2 rfl 5 r.val).sub (l':=bR w {V with ba:=r} u) (.cons _ (.cons _ (.refl _))))
           go_roundw
           case rel=>exact⟨k+1,_,_,by omega,by go_num,by rw[HPK.out];exact h6,HN2⟩
           case measure=>simp[intOf];omega
          ·obtain rfl:k=u.nb:=by omega
           clear hlt hk;clear cp;have cp:=h.c5 2 rfl;go_wp2;clear cp
           go_loopw [14] (λi wr=>∃(k:Nat) (V:StV) (L:StL),k<=u.nr/\i= .int .i64 k/\Sf w wr (bR w V u) V L (zan p u.nt u.ns k3 u.ng u.nb k)/\NewB w.heap.size L) (λi _=>u.nr-(intOf i).toNat)
           case atStart=>exact⟨0,_,_,by omega,rfl,h,HN⟩
           case round=>
            clear h HN;obtain⟨k,V,L,hk,rfl,h,HN⟩:=hrel;have cp:=h.c5 2 rfl;by_cases hlt:k<u.nr
            ·have hkp:k<p.rooms.length:=by rw[HP.out.lr];exact hlt
             obtain⟨b1,o1,e1,g'⟩:=HP.out.rr.int (by omega);have g1:=g' k hkp;obtain⟨x0,hx⟩:∃x,x=p.rooms.getD k 0:=⟨_,rfl⟩
             rw[<-hx] at g1;have HPK:Hid ((zan p u.nt u.ns k3 u.ng u.nb (k+1))={(zan p u.nt u.ns k3 u.ng u.nb k) with chans:=(zan p u.nt u.ns k3 u.ng u.nb k).chans++[⟨x0,[],[],[],false⟩]}):=xH1 (by unfold zan;rw[zcG _ p.rooms 0 hkp,<-hx]);have HXB:Hid (0<=x0/\x0<=4):=xH1 (by rw[hx];exact(zdd (zdD HV.out).2.2.2).2 k hkp);replace g1:=zd h.bel g1;have HVN:Hid (V.ch.n=k):=xH1 (by rw[h.st.nch];show((p.rooms.take k).map _).length=k;rw[xDf,xDp];omega);have i0:(0:Int)<=(k:Int):=(by omega);have i1:(k:Int)<(u.nr:Int):=(by omega);rw[e1] at cp;clear g' hkp hx;clear e1;go_wp2_with fail;refine(zgR x0 _ HXB.out).mono ?_;rintro e w5 ⟨s1,s2,s3,rfl,hs0,hs1,hs2,hb⟩;have hq:chnR (zv (bR w V u)++V.blks) w5 ⟨x0,[],[],[],false⟩ (s1,s2,s3):=⟨h.apart hs0,h.apart hs1,h.apart hs2⟩
             have HN2:=HN.ch1 (x:=⟨x0,[],[],[],false⟩) (q:=(s1,s2,s3)) (⟨newS.lower hs0.new h.bel.size,newS.lower hs1.new h.bel.size,newS.lower hs2.new h.bel.size⟩);replace h:=h.call hb;have HQ:=xH1 hq;clear hq hs0 hs1 hs2 hb g1 cp;have h2:=h.alloc #[.int .i64 x0,.slice s1.a s1.n s1.c,.slice s2.a s2.n s2.c,.slice s3.a s3.n s3.c,.bool false] 87;have co:=h2.c9 1 rfl;have cx:=h2.c5 0 rfl;go_upto_region 31 with fail;obtain⟨w6,hw,h3⟩:=h2.named;rw[<-hw];clear hw h2 h co cx;have co:=h3.c9 1 rfl;have cx:=h3.c5 0 rfl;have h4:=h3.alloc #[.int .i64 x0,.slice s1.a s1.n s1.c,.slice s2.a s2.n s2.c,.slice s3.a s3.n s3.c,.bool false] 87;go_wp2_with (at_builtin;refine h4.app_ch (x:=⟨x0,[],[],[],false⟩) (q:=(s1,s2,s3)) rfl _ _ rfl rfl rfl (Rd.of_blk (h4.fr.blk 0 rfl)) ⟨SlR.none HQ.out.1,SlR.none HQ.out.2.1,SlR.none HQ.out.2.2⟩ (by have:=HVN.out;omega) ?_;intro r W5 h5;have co:=h5.c9 2 rfl;have h6:=(h5.set 2 rfl 6 r.val).sub (l':=bR w {V with ch:=r} u) (.cons _ (.cons _ (.refl _))))
             go_roundw
             case rel=>exact⟨k+1,_,_,by omega,by go_num,by rw[HPK.out];exact h6,HN2⟩
             case measure=>simp[intOf];omega
            ·obtain rfl:k=u.nr:=by omega
             clear hlt hk;have hall:zan p u.nt u.ns k3 u.ng u.nb u.nr=zae p:=by rw[HK3.out,<-HP.out.lt,<-HP.out.ls,<-HP.out.lg,<-HP.out.lb,<-HP.out.lr];exact zjz p
             rw[hall] at h;have co:=h.c9 0 rfl;have cr:=h.c9 1 rfl;have h7:=h.setV 1 rfl V;go_wp2;exact xDd (v:= .tuple #[V.val,.bool true]) (by simp[results,Tryz.results27,go_sem,h7.c9 1 rfl]) rfl ⟨V,L,rfl,h7.st.sub (by simp),HN,h7.bel⟩
theorem zis (u:PV) (p:Pg) (w:World) (hp:RdP w u p) (hz:zbB u p) (hv:zu p=false):
  Calls Tryz.prog 27 #[.agg (pvC u)] w λe w'=>e= .returned (.tuple #[.agg zC,.bool false])/\xW w w':=by
 have HP:=xH1 hp;have HV:=xH1 hv;have HZ:=xH1 hz;clear hp hv hz;have F:=(((Fr.start w).alloc (pvC u) 40).alloc zC 33).alloc zC 33;simp only[xDe] at F;have cp:=F.c5 2 rfl;have cz:=F.c9 1 rfl;have cy:=F.c9 0 rfl;go_enter Tryz.func27,Tryz.ntmps27;go_wp2_with fail;refine(zcM u p _ (HP.out.below F.bel) HZ.out).mono ?_;rintro e w1 ⟨rfl,hb⟩;replace F:=F.call hb;replace cp:=F.c5 2 rfl;replace cz:=F.c9 1 rfl;replace cy:=F.c9 0 rfl;clear hb;rw[HV.out];clear cp;have F2:=F.setZ 1 rfl;go_wp2;exact xDd (v:= .tuple #[.agg zC,.bool false]) (by simp[results,Tryz.results27,go_sem,F2.c9 1 rfl]) rfl ⟨rfl,F2.bel⟩
def zk2 (cs:List Int) (s:StD) (tr:List Int):Option Int:=if (zD s).length=0\/tr.length=cs.length then none else some ((zD s).getD ((cs.getD tr.length 0).toNat%(zD s).length) 0)
def zk1 (T:List Int) (_:StD) (tr:List Int):Option Int:=if tr.length=T.length then none else some (T.getD tr.length 0)
theorem zk8 {l:List Int} {i:Nat} (h:i<l.length):l.getD i 0∈l:=by simp[List.getD,h]
def runD (p:Pg) (ch:StD->List Int->Option Int):Option (StD×List Int):=if zu p=true then zbb p ch 101 (zae p) [] else none
def zk4 (p:Pg) (cs:List Int):Option (StD×List Int):=if cs.length<=100/\cs.all (λx=>decide (0<=x))=true then runD p (zk2 cs) else none
def zk3 (p:Pg) (T:List Int):Option (StD×List Int):=if T.length<=100 then runD p (zk1 T) else none
theorem zgw {p:Pg} {ch:StD->List Int->Option Int} {n:Nat} {s:StD} {tr:List Int} (h:ch s tr=none) (hn:n<=100):zbb p ch (101-n) s tr=some (s,tr):=by
 rw[show 101-n=(100-n)+1 by omega];exact zfg h
theorem zhQ {p:Pg} {ch:StD->List Int->Option Int} {n:Nat} {s:StD} {tr:List Int} {t:Int} (h:ch s tr=some t) (hr:t∈zD s) (hn:n<100):zbb p ch (101-n) s tr=zbb p ch (101-(n+1)) (zx p s t) (tr++[t]):=by
 rw[show 101-n=(101-(n+1))+1 by omega];exact zeW h hr
abbrev ch5 (w:World) (M:Nat) (v:StV) (a:Option Addr) (n c:Nat) (tr:List Int) (u:PV):List It:=[.blk M (svC v) 33,.row a n c 3 1 (ints tr),.blk (w.heap.size+1) z10 35,.blk w.heap.size (pvC u) 40]
theorem zgd (v:StV) (a:Option Addr) (n c:Nat) (w:World):(Instr.build 35 #[(0,v.val),(1,.slice a n c)]).run Tryz.prog w= .ok (.agg (rC v a n c)) w:=run_build w 35 _ _ (by kernel_rfl)
theorem zll (u:PV) (p:Pg) (v:StV) (L:StL) (s:StD) (t:Int) (w:World) (hp:RdP w u p) (hr:StR w v L s) (hf:Fits p s) (ht:t∉zD s):
  Calls Tryz.prog 29 #[.agg (pvC u),v.val,.int .i64 t] w λe w'=>e= .returned (.tuple #[.agg zC,.bool false])/\xW w w':=by
 have HS:=xH1 hr;have HP:=xH1 hp;have HF:=xH1 hf;have r8:(zD s).length<=8:=by
  have h1:=hf.nst;have h2:=(zR hf.prog).2.2.2.2.1;rw[zcl];split
  ·have:=zc8 s s.status.length;omega
  ·simp
 have hfi:zay (zD s) t= -1:=zcb ht;have F:=(((Fr.start w).alloc (pvC u) 40).alloc (svC v) 33).alloc zC 33;simp only[xDe] at F;clear hp hr hf ht;go_enter Tryz.func29,Tryz.ntmps29;go_upto_region 1 with fail;obtain⟨W,hw,F⟩:=F.named;rw[<-hw];clear hw;have cs:=F.c9 1 rfl;have cp:=F.c5 2 rfl;go_wp2_with fail;refine(ze8 u p v L s _ (HP.out.below F.bel) (HS.out.below F.bel) HF.out).mono ?_;rintro e w1 ⟨a1,c1,rfl,ho,hb⟩;replace F:=F.row hb ho;clear hb ho cs cp;go_wp2_with fail;refine(zaV a1 _ c1 (zD s) t _ rfl (by unfold maxLen;omega) (F.rdRow 0 rfl)).mono ?_;rintro e wz ⟨rfl,hw⟩;obtain rfl:=hw;rw[hfi];have cz:=F.c9 1 rfl;have F2:=F.setZ 1 rfl;go_wp2;exact xDd (v:= .tuple #[.agg zC,.bool false]) (by simp[results,Tryz.results29,go_sem,F2.c9 1 rfl]) rfl ⟨rfl,F2.bel⟩
def rsF (o:Option (StD×List Int)) (w0:World) (l0:List It) (e:Ending) (w':World):Prop:=(o=none/\e= .returned (.tuple #[.agg z10,.bool false])/\Fr w0 w' l0)\/∃(s:StD) (tr:List Int) (v:StV) (L:StL) (a:Option Addr) (c:Nat),o=some (s,tr)/\e= .returned (.tuple #[.agg (rC v a tr.length c),.bool true])/\Sf w0 w' (.row a tr.length c 3 1 (ints tr)::l0) v L s
theorem zlb (u:PV) (p:Pg) (a:Option Addr) (n c:Nat) (cs:List Int) (w:World) (hp:RdP w u p) (hv:zu p=true) (hr:Rd w a (ints cs)) (hl:cs.length=n) (hn:n<=1048576):
  Calls Tryz.prog 8 #[.agg (pvC u),.slice a n c] w (rsF (zk4 p cs) w []):=by
 have HP:=xH1 hp;have HV:=xH1 hv;have HR:=xH1 hr;have HL:=xH1 hl;clear hp hv hr hl;have F:=((Fr.start w).alloc (pvC u) 40).alloc z10 35;simp only[xDe] at F;have cp:=F.c5 1 rfl;go_enter Tryz.func8,Tryz.ntmps8;go_wp2_with fail;refine(zib u p _ (HP.out.below F.bel) HV.out).mono ?_;rintro e w1 ⟨v0,L0,rfl,ho,hb0,hb⟩;have h0:=(Sf.gain F ho hb0 hb).alloc (svC v0) 33;clear F ho hb0 hb cp;go_upto_region 2 with fail;obtain⟨W1,hw,h2⟩:=h0.named;rw[<-hw];obtain⟨M,hM⟩:∃M,M=w1.heap.size:=⟨_,rfl⟩
 rw[<-hM] at h2⊢;clear hw hM h0;by_cases h100:100<n
 ·have hgt:(100:Int)<(n:Int):=by omega
  have HNO:Hid (zk4 p cs=none):=xH1 (if_neg (by rw[HL.out];omega));have c10:=h2.fr.c10 1 rfl;have F2:=h2.fr.setY 1 rfl;clear h100;go_wp2;exact xDd (v:= .tuple #[.agg z10,.bool false]) (by simp[results,Tryz.results8,go_sem,F2.c10 1 rfl]) rfl (.inl ⟨HNO.out,rfl,F2.sub (List.nil_sublist _)⟩)
 have hgt:¬((100:Int)<(n:Int)):=by omega
 go_upto_region 5 with fail;have h3:=h2.row (xA1) (zJ W1 3 1);have h:=(h3.pull 1 rfl).sub (l':=ch5 w M v0 (some ⟨W1.heap.size,0,none⟩) 0 0 [] u) (.refl _);clear h2 h3;have hrun:=Run.start HV.out;go_wp2
 go_loopw [8,9] (λq i wr=>∃(k:Nat) (v:StV) (L:StL) (s:StD) (a':Option Addr) (m c':Nat) (tr:List Int),k<=n/\q= .slice a' m c'/\i= .int .i64 k/\Run p s/\Sf w wr (ch5 w M v a' m c' tr u) v L s/\Hid (tr.length=m/\m<=k/\(m=k\/(zD s).length=0)/\(∀j,j<k->0<=cs.getD j 0)/\zbb p (zk2 cs) 101 (zae p) []=zbb p (zk2 cs) (101-m) s tr)) (λ_ i _=>n-(intOf i).toNat)
 case atStart=>exact⟨0,_,_,_,_,_,_,[],by omega,rfl,rfl,hrun,h,xH1 ⟨rfl,Nat.le_refl _,.inl rfl,by omega,rfl⟩⟩
 case round=>
  clear h hrun;obtain⟨k,v,L,s,a',m,c',tr,hk,rfl,rfl,hrun,h,HW⟩:=hrel;have hm:=HW.out.2.1;have HF:=xH1 hrun;clear hrun;have c9:=h.c9 0 rfl;by_cases hlt:k<n
  ·obtain⟨b1,o1,rfl,g'⟩:=HR.out.int (by have:=HL.out;omega);have g:=zd h.bel (g' k (by have:=HL.out;omega));obtain⟨x,hx⟩:∃x,x=cs.getD k 0:=⟨_,rfl⟩
   rw[<-hx] at g;have HX:=xH1 hx;have i0:(0:Int)<=(k:Int):=(by omega);have i1:(k:Int)<(n:Int):=(by omega);clear g' hx;go_wp2_with fail;refine(ze4 v L s _ h.rd (by have:=HF.out.fits.nst;have:=(zR HV.out).2.2.2.2.1;omega)).mono ?_;rintro e w2 ⟨a2,c2,rfl,ho,hb⟩;have h2:=h.row hb ho;replace g:=zd hb g;clear hb ho h c9;obtain⟨w3,hw,h3⟩:=h2.named;rw[<-hw] at g⊢;clear hw h2;have c9:=h3.c9 1 rfl;have c10:=h3.fr.c10 3 rfl;by_cases hx0:x<0
   ·have F2:=h3.fr.setY 3 rfl;have HX0:=xH1 hx0;clear i0 i1;have i0:(0:Int)<=(k:Int):=(by omega);have i1:(k:Int)<(n:Int):=(by omega);go_wp2;exact xDd (v:= .tuple #[.agg z10,.bool false]) (by simp[results,Tryz.results8,go_sem,F2.c10 3 rfl]) rfl (.inl ⟨by unfold zk4;rw[if_neg (λh=>by have h1:=List.all_eq_true.1 h.2 _ (zk8 (l:=cs) (i:=k) (by rw[HL.out];omega));rw[<-HX.out] at h1;have:=HX0.out;simp at h1;omega)],rfl,F2.sub (List.nil_sublist _)⟩)
   have HX0:=xH1 hx0;have HALL:Hid (∀j,j<k+1->0<=cs.getD j 0):=xH1 (λj hj=>by
    rcases Nat.lt_or_ge j k with h1|h1
    ·exact HW.out.2.2.2.1 j h1
    ·obtain rfl:j=k:=by omega
     rw[<-HX.out];omega)
   have hr8:=HF.out.fits.nst;by_cases hr0:(zD s).length=0
   ·have t0:(((zD s).length:Int)==0)=true:=by rw[hr0];rfl
    have HR0:=xH1 hr0;have hbd:=zgd v a' m c' w3;have F2:=h3.fr.setR 3 rfl v a' m c';clear hr0;go_wp2;exact⟨⟨k+1,v,L,s,a',m,c',tr,by omega,rfl,by go_num,HF.out,h3.sub (.cons _ (.refl _)),xH1 ⟨HW.out.1,by omega,.inr HR0.out,HALL.out,HW.out.2.2.2.2⟩⟩,by simp[intOf];omega⟩
   have lp:0<(zD s).length:=(by omega);have hmk:m=k:=by rcases HW.out.2.2.1 with h1|h1<;>omega
   have t0:(((zD s).length:Int)==0)=false:=(by simpa using hr0);obtain⟨j,hj⟩:∃j:Nat,x.tmod ((zD s).length:Int)=(j:Int):=⟨(x.tmod ((zD s).length:Int)).toNat,by have:=Int.tmod_nonneg (a:=x) ((zD s).length:Int) (by omega);omega⟩
   have hj2:j<(zD s).length:=by have:=Int.tmod_lt_of_pos x (b:=((zD s).length:Int)) (by omega);omega
   have HJ:Hid (j=x.toNat%(zD s).length):=xH1 (by
    obtain⟨y,rfl⟩:=Int.eq_ofNat_of_zero_le (show 0<=x by omega);have h1:((y:Int).tmod ((zD s).length:Int))=((y%(zD s).length:Nat):Int):=by rw[Int.tmod_eq_emod_of_nonneg (by omega)];exact(Int.natCast_emod _ _).symm
    rw[h1] at hj;simp only[Int.toNat_natCast];omega)
   obtain⟨b2,o2,e2,g2'⟩:=(h3.fr.rdRow 0 rfl).int (by simpa using lp);have g2:=g2' j (by simpa using hj2);obtain⟨t,ht⟩:∃t,t=(zD s).getD j 0:=⟨_,rfl⟩
   rw[<-ht] at g2;have HT:Hid (t∈zD s):=xH1 (by rw[ht];exact zk8 hj2);have HC:Hid (zk2 cs s tr=some t):=xH1 (by unfold zk2;rw[if_neg (by have:=HW.out.1;have:=HL.out;omega),ht,HJ.out,HX.out,HW.out.1,hmk]);have HMK:=xH1 hmk;clear hmk;subst e2;have i2:(0:Int)<=(j:Int):=(by omega);have i3:(j:Int)<((zD s).length:Int):=(by omega);clear g2' ht hr0;have c5:=h3.c5 4 rfl;go_wp2_with fail;clear c9 c10 c5 g g2;refine(zfC u p v L s t w w3 _ h3.fr HP.out h3.rd HF.out HT.out).mono ?_;rintro e w4 ⟨v',L',rfl,h4⟩;have h5:=(h4.alloc (svC v') 33).sub (l':= .blk w4.heap.size (svC v') 33::ch5 w M v a' m c' tr u) (.cons_cons _ (.cons _ (.refl _)));clear h4 h3;have c9:=h5.c9 0 rfl;have c8:=h5.c9 1 rfl;go_upto_region 17 with fail;have h6:=(h5.setV 1 rfl v').sub (l':=ch5 w M v' a' m c' tr u) (.cons _ (.refl _));obtain⟨w5,hw,h7⟩:=h6.named;rw[<-hw];clear hw h6 h5 c9 c8 hj i0 i1;have h8:=h7.alloc #[.int .i64 t] 3;go_wp2_with (at_builtin;refine h8.appI 2 rfl _ _ rfl rfl rfl [t] rfl rfl (Rd.of_blk (h8.fr.blk 0 rfl)) (by omega) ?_;intro a9 c9 w6 h9)
   go_roundw
   case rel=>exact⟨k+1,v',L',zx p s t,a9,m+1,c9,tr++[t],by omega,rfl,by go_num,HF.out.step (HF.out.fits.turn HT.out),h9.sub (l':=ch5 w M v' a9 (m+1) c9 (tr++[t]) u) (.cons _ (.refl _)),xH1 ⟨by rw[xDh,HW.out.1];rfl,by omega,.inl (by have:=HMK.out;omega),HALL.out,by rw[HW.out.2.2.2.2];exact zhQ HC.out HT.out (by omega)⟩⟩
   case measure=>simp[intOf];omega
  ·have hkn:k=n:=(by omega);have hbd:=zgd v a' m c' wr;have c10:=h.fr.c10 2 rfl;have h9:=h.setR 2 rfl v a' m c';have HE:Hid (zk4 p cs=some (s,tr)):=xH1 (by
    obtain⟨h1,h2,h3,h4,h5⟩:=HW.out;unfold zk4 runD;rw[if_pos ⟨by rw[HL.out];omega,List.all_eq_true.2 λy hy=>by
     obtain⟨i,hi,rfl⟩:=List.mem_iff_getElem.1 hy;have:=h4 i (by rw[hkn,<-HL.out];exact hi);simpa[List.getD,hi] using this⟩,if_pos HV.out,h5]
    exact zgw (if_pos (by rw[h1,HL.out];omega)) (by omega))
   have HTL:=xH1 HW.out.1;clear hkn;go_wp2;exact xDd (v:= .tuple #[.agg (rC v a' m c'),.bool true]) (by simp[results,Tryz.results8,go_sem,h9.fr.c10 2 rfl]) rfl (.inr ⟨s,tr,v,L,a',c',HE.out,by rw[HTL.out],by rw[HTL.out];exact h9.sub (.cons _ (.cons_cons _ (List.nil_sublist _)))⟩)
theorem zlg (u:PV) (p:Pg) (a:Option Addr) (n c:Nat) (cs:List Int) (w:World) (hp:RdP w u p) (hz:zbB u p) (hr:Rd w a (ints cs)) (hl:cs.length=n) (hn:n<=1048576):
  Calls Tryz.prog 8 #[.agg (pvC u),.slice a n c] w (rsF (zk4 p cs) w []):=by
 cases hv:zu p with
 |true=>exact zlb u p a n c cs w hp hv hr hl hn
 |false=>
  have HP:=xH1 hp;have HV:=xH1 hv;have HZ:=xH1 hz;have F:=((Fr.start w).alloc (pvC u) 40).alloc z10 35;simp only[xDe] at F;have HNO:Hid (zk4 p cs=none):=xH1 (by unfold zk4 runD;rw[hv];simp);clear hp hv hz hr;have cp:=F.c5 1 rfl;go_enter Tryz.func8,Tryz.ntmps8;go_wp2_with fail;refine(zis u p _ (HP.out.below F.bel) HZ.out HV.out).mono ?_;rintro e w1 ⟨rfl,hb⟩;have F1:=(F.call hb).alloc zC 33;clear F hb cp;go_upto_region 2 with fail;obtain⟨W1,hw,F2⟩:=F1.named;rw[<-hw];clear hw F1;have c10:=F2.c10 1 rfl;have F3:=F2.setY 1 rfl;go_wp2;exact xDd (v:= .tuple #[.agg z10,.bool false]) (by simp[results,Tryz.results8,go_sem,F3.c10 1 rfl]) rfl (.inl ⟨HNO.out,rfl,F3.sub (List.nil_sublist _)⟩)
theorem zlh (bx l:List It) (k:Nat):(bx++l)[bx.length+k]? =l[k]? :=by rw[List.getElem?_append_right (by omega)];congr 1;omega
structure rpI (w0 B:World) (fl:List It) (K:List Value) (ok:Bool) (N:Array Value->List It->World->Prop) (L:Nat->Bool) (σ:Nat->Value) (w:World):Prop where
 k:∀i,i<6->L i=true->σ i=K.getD i undef
 d8:L 8=true\/L 9=true->L 7=true
 d7:L 7=true\/L 11=true->L 6=true
 d11:L 11=true->L 10=true
 m:∃(cs:Array Value) (bx:List It),(L 10=true->∃g,σ 10= .pointer (some ⟨g,0,none⟩)/\bx=[.blk g (if L 11=true then cs else zC) 33])/\(L 10=false->bx=[])/\(L 7=true->σ 7= .tuple #[.agg cs,.bool ok])/\(L 8=true->σ 8= .agg cs)/\(L 9=true->σ 9= .bool ok)/\(L 6=true->σ 6= .tuple #[.agg cs,.bool ok]/\N cs bx w)/\(L 6=false->Fr w0 w (bx++fl)/\xW B w)
section
variable {w0 B:World} {fl:List It} {K:List Value} {ok:Bool} {N:Array Value->List It->World->Prop} {L:Nat->Bool} {σ:Nat->Value} {w:World}
theorem rpI.cong:∀L L' σ σ' w,(∀j,j<12->L j=L' j)->(∀j,j<12->L j=true->σ j=σ' j)->rpI w0 B fl K ok N L σ w->rpI w0 B fl K ok N L' σ' w:=by
 intro L L' σ σ' w hL hs h;obtain⟨k,d8,d7,d11,cs,bx,m10,m10',m7,m8,m9,m6,m6'⟩:=h;have e6:=hL 6 (by omega);have e7:=hL 7 (by omega);have e8:=hL 8 (by omega);have e9:=hL 9 (by omega);have e10:=hL 10 (by omega);have e11:=hL 11 (by omega);refine⟨λi hi e=> ?_,by rw[<-e7,<-e8,<-e9];exact d8,by rw[<-e6,<-e7,<-e11];exact d7,by rw[<-e10,<-e11];exact d11,cs,bx,?_,by rw[<-e10];exact m10',?_,?_,?_,?_,by rw[<-e6];exact m6'⟩
 ·rw[<-hL i (by omega)] at e;exact(hs i (by omega) e).symm.trans (k i hi e)
 ·rw[<-e10,<-e11];exact λe=>by rw[<-hs 10 (by omega) e];exact m10 e
 ·rw[<-e7];exact λe=>(hs 7 (by omega) e).symm.trans (m7 e)
 ·rw[<-e8];exact λe=>(hs 8 (by omega) e).symm.trans (m8 e)
 ·rw[<-e9];exact λe=>(hs 9 (by omega) e).symm.trans (m9 e)
 ·rw[<-e6];exact λe=>⟨(hs 6 (by omega) e).symm.trans (m6 e).1,(m6 e).2⟩
theorem rpI.start (σ:Nat->Value) (F:Fr w0 B fl):rpI w0 B fl K ok N (λ_=>false) σ B.drew:=⟨nofun,nofun,nofun,nofun,#[],[],nofun,λ_=>rfl,nofun,nofun,nofun,nofun,λ_=>⟨F.drew,xB1.drew⟩⟩
theorem rpI.fr (h:rpI w0 B fl K ok N L σ w) (hN:∀cs bx w,N cs bx w->Fr w0 w (bx++fl)):∃bx,Fr w0 w (bx++fl):=by
 obtain⟨k,d8,d7,d11,cs,bx,m10,m10',m7,m8,m9,m6,m6'⟩:=h
 cases e:L 6 with
 |true=>exact⟨bx,hN _ _ _ (m6 e).2⟩
 |false=>exact⟨bx,(m6' e).1⟩
theorem rpI.val (h:rpI w0 B fl K ok N L σ w) (k:Nat) (u:Value) (hk:k<6) (hu:u=K.getD k undef):rpI w0 B fl K ok N (λj=>decide (j=k)||L j) (λj=>if j=k then u else σ j) w:=by
 obtain⟨k1,d8,d7,d11,cs,bx,m⟩:=h;have n6:∀j,6<=j->decide (j=k)=false:=λj hj=>xDj (by omega);have q6:∀j,6<=j->¬j=k:=λj hj=>by omega
 refine⟨λi hi e=> ?_,by simpa[n6] using d8,by simpa[n6] using d7,by simpa[n6] using d11,cs,bx,by simpa[n6,q6] using m⟩;by_cases ei:i=k
 ·rw[if_pos ei,hu,ei]
 ·rw[if_neg ei];exact k1 i hi (by simpa[ei] using e)
theorem rpI.cl (h:rpI w0 B fl K ok N L σ w) (e6:L 6=false):∃bx,Fr w0 w (bx++fl)/\xW B w/\∀cs w',N cs bx w'->rpI w0 B fl K ok N (λj=>decide (j=6)||L j) (λj=>if j=6 then .tuple #[.agg cs,.bool ok] else σ j) w':=by
 obtain⟨k1,d8,d7,d11,cs0,bx,m10,m10',m7,m8,m9,m6,m6'⟩:=h;have f7:∀P:Prop,L 7=true\/L 11=true->P:=λP h=>by rw[d7 h] at e6;cases e6
 have e11:L 11=false:=by cases h:L 11 with
  |false=>rfl
  |true=>exact f7 _ (.inr h)
 have e7:L 7=false:=by cases h:L 7 with
  |false=>rfl
  |true=>exact f7 _ (.inl h)
 have f8:∀P:Prop,L 8=true\/L 9=true->P:=λP h=>by rw[d8 h] at e7;cases e7
 refine⟨bx,(m6' e6).1,(m6' e6).2,λcs w' hn=>⟨λi hi e=> ?_,by simpa using d8,by simp,by simpa using d11,cs,bx,?_,by simpa using m10',by simp[e7],λe=>f8 _ (.inl (by simpa using e)),λe=>f8 _ (.inr (by simpa using e)),λ_=>⟨if_pos rfl,hn⟩,by simp⟩⟩
 ·rw[if_neg (by omega)];exact k1 i hi (by simpa[show¬i=6 by omega] using e)
 ·simpa[e11] using m10
theorem rpI.mv (h:rpI w0 B fl K ok N L σ w) (e6:L 6=true):∃cs,σ 6= .tuple #[.agg cs,.bool ok]/\rpI w0 B fl K ok N (λj=>decide (j=7)||L j) (λj=>if j=7 then .tuple #[.agg cs,.bool ok] else σ j) w:=by
 obtain⟨k1,d8,d7,d11,cs,bx,m10,m10',m7,m8,m9,m6,m6'⟩:=h;refine⟨cs,(m6 e6).1,λi hi e=> ?_,by simp,by simp[e6],by simpa using d11,cs,bx,by simpa using m10,by simpa using m10',by simp,by simpa using m8,by simpa using m9,by simpa using m6,by simpa using m6'⟩;rw[if_neg (by omega)];exact k1 i hi (by simpa[show¬i=7 by omega] using e)
theorem rpI.ex (h:rpI w0 B fl K ok N L σ w) (e7:L 7=true):∃cs,σ 7= .tuple #[.agg cs,.bool ok]/\rpI w0 B fl K ok N (λj=>decide (j=8)||L j) (λj=>if j=8 then .agg cs else σ j) w/\rpI w0 B fl K ok N (λj=>decide (j=9)||L j) (λj=>if j=9 then .bool ok else σ j) w:=by
 obtain⟨k1,d8,d7,d11,cs,bx,m10,m10',m7,m8,m9,m6,m6'⟩:=h;refine⟨cs,m7 e7,⟨λi hi e=> ?_,by simp[e7],by simpa using d7,by simpa using d11,cs,bx,by simpa using m10,by simpa using m10',by simpa using m7,by simp,by simpa using m9,by simpa using m6,by simpa using m6'⟩,λi hi e=> ?_,by simp[e7],by simpa using d7,by simpa using d11,cs,bx,by simpa using m10,by simpa using m10',by simpa using m7,by simpa using m8,by simp,by simpa using m6,by simpa using m6'⟩
 ·rw[if_neg (by omega)];exact k1 i hi (by simpa[show¬i=8 by omega] using e)
 ·rw[if_neg (by omega)];exact k1 i hi (by simpa[show¬i=9 by omega] using e)
theorem rpI.al (h:rpI w0 B fl K ok N L σ w) (e10:L 10=false) (hN:∀cs w,N cs [] w->N cs [.blk w.heap.size zC 33] (w.alloc (.cells zC 33))):rpI w0 B fl K ok N (λj=>decide (j=10)||L j) (λj=>if j=10 then .pointer (some ⟨w.heap.size,0,none⟩) else σ j) (w.alloc (.cells zC 33)):=by
 obtain⟨k1,d8,d7,d11,cs,bx,m10,m10',m7,m8,m9,m6,m6'⟩:=h;obtain rfl:=m10' e10;have e11:L 11=false:=by cases h:L 11 with
  |false=>rfl
  |true=>rw[d11 h] at e10;cases e10
 refine⟨λi hi e=> ?_,by simpa using d8,by simpa using d7,by simp,cs,[.blk w.heap.size zC 33],λ_=>⟨_,if_pos rfl,by simp[e11]⟩,by simp,by simpa using m7,by simpa using m8,by simpa using m9,λe=>⟨by simpa using(m6 (by simpa using e)).1,hN _ _ (m6 (by simpa using e)).2⟩,λe=>⟨(m6' (by simpa using e)).1.alloc _ _,(m6' (by simpa using e)).2.alloc (m6' (by simpa using e)).2.size _⟩⟩;rw[if_neg (by omega)];exact k1 i hi (by simpa[show¬i=10 by omega] using e)
theorem rpI.st (h:rpI w0 B fl K ok N L σ w) (e6:L 6=true) (e8:L 8=true) (e10:L 10=true) (e11:L 11=false) (hN:∀g cs w,N cs [.blk g zC 33] w->N cs [.blk g cs 33] (w.setRow g cs)):∃cs g,σ 8= .agg cs/\σ 10= .pointer (some ⟨g,0,none⟩)/\N cs [.blk g zC 33] w/\∀u,rpI w0 B fl K ok N (λj=>decide (j=11)||L j) (λj=>if j=11 then u else σ j) (w.setRow g cs):=by
 obtain⟨k1,d8,d7,d11,cs,bx,m10,m10',m7,m8,m9,m6,m6'⟩:=h;obtain⟨g,eg,hbx⟩:=m10 e10;rw[e11,if_neg nofun] at hbx;subst hbx;refine⟨cs,g,m8 e8,eg,(m6 e6).2,λu=>⟨λi hi e=> ?_,by simpa using d8,by simp[e6],by simp[e10],cs,[.blk g cs 33],λ_=>⟨g,by simpa using eg,by simp⟩,by simp[e10],by simpa using m7,by simpa using m8,by simpa using m9,λ_=>⟨by simpa using(m6 e6).1,hN _ _ _ (m6 e6).2⟩,by simp[e6]⟩⟩;rw[if_neg (by omega)];exact k1 i hi (by simpa[show¬i=11 by omega] using e)
theorem rpI.fin (h:rpI w0 B fl K ok N (λ_=>true) σ w):∃cs g,σ 9= .bool ok/\σ 10= .pointer (some ⟨g,0,none⟩)/\N cs [.blk g cs 33] w:=by
 obtain⟨k1,d8,d7,d11,cs,bx,m10,m10',m7,m8,m9,m6,m6'⟩:=h;obtain⟨g,eg,rfl⟩:=m10 rfl;exact⟨cs,g,m9 rfl,eg,(m6 rfl).2⟩
end
theorem zk9 (W:World) (b:Nat) (cs:Array Value):zi [b] W (W.setRow b cs):=⟨rfl,rfl,rfl,by simp,λk _ hn=>setRow_other _ _ _ _ λe=>hn (by simp[e])⟩
theorem Sf.over {w W:World} {fl:List It} {v:StV} {L:StL} {s:StD} {g:Nat} {c0 cs:Array Value} {T:TypeId} (h:Sf w W (.blk g c0 T::fl) v L s):Sf w (W.setRow g cs) (.blk g cs T::fl) v L s:=
 h.step 0 rfl (zk9 W g cs) (i':= .blk g cs T) ⟨(h.fr.has _ (List.mem_cons_self ..)).1,setRow_heap _ _ _ _ _ _ (h.fr.blk 0 rfl)⟩ rfl
theorem Fr.ovr {w W:World} {fl:List It} {g:Nat} {c0 cs:Array Value} {T:TypeId} (h:Fr w W (.blk g c0 T::fl)):Fr w (W.setRow g cs) (.blk g cs T::fl):=
 h.step 0 rfl (zk9 W g cs) (i':= .blk g cs T) ⟨(h.has _ (List.mem_cons_self ..)).1,setRow_heap _ _ _ _ _ _ (h.blk 0 rfl)⟩ λ_ hq=> .inl hq
theorem zlm {T:List Int} {s:StD} {k:Nat} (h:k<T.length):zk1 T s (T.take k)=some (T.getD k 0):=by
 have:(T.take k).length=k:=by rw[xDp];omega
 unfold zk1;rw[this,if_neg (by omega)]
theorem zlo {T:List Int} {k:Nat} (h:k<T.length):T.take (k+1)=T.take k++[T.getD k 0]:=by
 rw[List.take_succ_eq_append_getElem h,xDa,xDb h];rfl
theorem zlf (u:PV) (p:Pg) (a:Option Addr) (n c:Nat) (T:List Int) (w:World) (hp:RdP w u p) (hv:zu p=true) (hr:Rd w a (ints T)) (hl:T.length=n) (hn:n<=1048576):
  Calls Tryz.prog 23 #[.agg (pvC u),.slice a n c] w (rsF (zk3 p T) w []):=by
 have HP:=xH1 hp;have HV:=xH1 hv;have HR:=xH1 hr;have HL:=xH1 hl;clear hp hv hr hl;have F:=((Fr.start w).alloc (pvC u) 40).alloc z10 35;simp only[xDe] at F;have cp:=F.c5 1 rfl;go_enter Tryz.func23,Tryz.ntmps23;go_wp2_with fail;refine(zib u p _ (HP.out.below F.bel) HV.out).mono ?_;rintro e w1 ⟨v0,L0,rfl,ho,hb0,hb⟩;have h0:=(Sf.gain F ho hb0 hb).alloc (svC v0) 33;clear F ho hb0 hb cp;go_upto_region 2 with fail;obtain⟨W1,hw,h2⟩:=h0.named;rw[<-hw];obtain⟨M,hM⟩:∃M,M=w1.heap.size:=⟨_,rfl⟩
 rw[<-hM] at h2⊢;clear hw hM h0;by_cases h100:100<n
 ·have hgt:(100:Int)<(n:Int):=by omega
  have HNO:Hid (zk3 p T=none):=xH1 (if_neg (by rw[HL.out];omega));have c10:=h2.fr.c10 1 rfl;have F2:=h2.fr.setY 1 rfl;clear h100;go_wp2;exact xDd (v:= .tuple #[.agg z10,.bool false]) (by simp[results,Tryz.results23,go_sem,F2.c10 1 rfl]) rfl (.inl ⟨HNO.out,rfl,F2.sub (List.nil_sublist _)⟩)
 have hgt:¬((100:Int)<(n:Int)):=by omega
 have hrun:=Run.start HV.out;go_wp2
 go_loopw [8] (λi wr=>∃(k:Nat) (v:StV) (L:StL) (s:StD),k<=n/\i= .int .i64 k/\Run p s/\Sf w wr [.blk M (svC v) 33,.blk (w.heap.size+1) z10 35,.blk w.heap.size (pvC u) 40] v L s/\Hid (zbb p (zk1 T) 101 (zae p) []=zbb p (zk1 T) (101-k) s (T.take k))) (λi _=>n-(intOf i).toNat)
 case atStart=>exact⟨0,v0,L0,_,by omega,rfl,hrun,h2,xH1 rfl⟩
 case round=>
  clear h2 hrun;obtain⟨k,v,L,s,hk,rfl,hrun,h,HW⟩:=hrel;have HF:=xH1 hrun;clear hrun;by_cases hlt:k<n
  ·obtain⟨b1,o1,rfl,g'⟩:=HR.out.int (by have:=HL.out;omega);have G0:=xH1 (g' k (by have:=HL.out;omega));have HC:Hid (zk1 T s (T.take k)=some (T.getD k 0)):=xH1 (zlm (by have:=HL.out;omega));have HK:Hid (T.take (k+1)=T.take k++[T.getD k 0]):=xH1 (zlo (by have:=HL.out;omega));obtain⟨x,hx⟩:∃x,x=T.getD k 0:=⟨_,rfl⟩
   rw[<-hx] at G0 HC HK;have i0:(0:Int)<=(k:Int):=(by omega);have i1:(k:Int)<(n:Int):=(by omega);clear g' hx;go_upto_region 7 with fail;obtain⟨W2,hw,h3⟩:=h.named;rw[<-hw];clear hw h;by_cases ht:x∈zD s
   ·have HT:=xH1 ht;clear ht;refine zhq 12 (rpI w W2 [.blk M (svC v) 33,.blk (w.heap.size+1) z10 35,.blk w.heap.size (pvC u) 40] [.agg (pvC u),v.val,.slice (some ⟨b1,o1,none⟩) n c,.int .i64 (k:Int),.pointer (some ⟨b1,o1+k,none⟩),.int .i64 x] true (λcs bx w'=>∃(v':StV) (L':StL),cs=svC v'/\Sf w w' (bx++[.blk M (svC v) 33,.blk (w.heap.size+1) z10 35,.blk w.heap.size (pvC u) 40]) v' L' (zx p s x))) rpI.cong (λσ=>rpI.start σ h3.fr) ?_ ?_
    ·refine⟨?_,?_,?_,?_,?_,?_,?_,?_,?_,?_,?_,?_,trivial⟩<;>intro ρ w2 L' hI hw hny ho
     ·obtain⟨bx,F⟩:=hI.fr (λ_ _ _ h=>by obtain⟨_,_,_,h⟩:=h;exact h.fr);have c:=F.c5 _ ((zlh bx _ 2).trans rfl);have d:ρ (.tmp 2)=_:=ho (.tmp 2) rfl;exact zh (by go_simp<;>rfl) (hI.val 0 _ (by decide) rfl)
     ·obtain⟨bx,F⟩:=hI.fr (λ_ _ _ h=>by obtain⟨_,_,_,h⟩:=h;exact h.fr);have c:=F.c9 _ ((zlh bx _ 0).trans rfl);have d:ρ (.tmp 6)=_:=ho (.tmp 6) rfl;exact zh (by go_simp<;>rfl) (hI.val 1 _ (by decide) rfl)
     ·have d:ρ (.tmp 1)=_:=ho (.tmp 1) rfl;exact zh (by go_simp<;>rfl) (hI.val 2 _ (by decide) rfl)
     ·have d:ρ (.tmp 8)=_:=ho (.tmp 8) rfl;exact zh (by go_simp<;>rfl) (hI.val 3 _ (by decide) rfl)
     ·have d:ρ (.tmp 33)=_:=hI.k 2 (by decide) (hw 2 (by decide));have d':ρ (.tmp 34)=_:=hI.k 3 (by decide) (hw 3 (by decide));simp only[List.getD_cons_zero,List.getD_cons_succ] at d d';exact zh (by go_simp<;>rfl) (hI.val 4 _ (by decide) rfl)
     ·obtain⟨bx,F⟩:=hI.fr (λ_ _ _ h=>by obtain⟨_,_,_,h⟩:=h;exact h.fr);have g:=zd F.bel G0.out;have d:ρ (.tmp 35)=_:=hI.k 4 (by decide) (hw 4 (by decide));simp only[List.getD_cons_zero,List.getD_cons_succ] at d;exact zh (by go_simp<;>rfl) (hI.val 5 _ (by decide) rfl)
     ·obtain⟨bx,F,hB,hk⟩:=hI.cl (hny 6 _ rfl rfl);have d0:ρ (.tmp 31)=_:=hI.k 0 (by decide) (hw 0 (by decide));have d1:ρ (.tmp 32)=_:=hI.k 1 (by decide) (hw 1 (by decide));have d5:ρ (.tmp 36)=_:=hI.k 5 (by decide) (hw 5 (by decide));have df:ρ (.func 29)=_:=ho (.func 29) rfl;simp only[List.getD_cons_zero,List.getD_cons_succ] at d0 d1 d5;exact zac (by go_simp<;>rfl) ((zfC u p v L s x w w2 _ F HP.out (h3.rd.below hB) HF.out HT.out).mono λe w' h=>by
       obtain⟨v',L',rfl,h⟩:=h;exact⟨_,rfl,hk (svC v') w' ⟨v',L',rfl,h⟩⟩)
     ·obtain⟨cs,d,hk⟩:=hI.mv (hw 6 (by decide));replace d:ρ (.tmp 37)=_:=d;exact zh (by go_simp<;>rfl) hk
     ·obtain⟨cs,d,hk,-⟩:=hI.ex (hw 7 (by decide));replace d:ρ (.tmp 30)=_:=d;exact zh (by go_simp<;>rfl) hk
     ·obtain⟨cs,d,-,hk⟩:=hI.ex (hw 7 (by decide));replace d:ρ (.tmp 30)=_:=d;exact zh (by go_simp<;>rfl) hk
     ·exact zh (by go_simp<;>rfl) (hI.al (hny 10 _ rfl rfl) (λ_ _ h=>by obtain⟨v',L',e,h⟩:=h;exact⟨v',L',e,h.alloc zC 33⟩))
     ·obtain⟨cs,g,d8,d10,hn,hk⟩:=hI.st (hw 6 (by decide)) (hw 8 (by decide)) (hw 10 (by decide)) (hny 11 _ rfl rfl) (λ_ _ _ h=>by obtain⟨v',L',e,h⟩:=h;exact⟨v',L',e,Sf.over h⟩);replace d8:ρ (.tmp 38)=_:=d8;replace d10:ρ (.tmp 9)=_:=d10;obtain⟨kb,h9,h1⟩:Blk w2 g zC 33/\cs.size=9/\cs.all (·.oneCell')=true:=(by obtain⟨v',L',rfl,h⟩:=hn;exact⟨h.fr.blk 0 rfl,rfl,by simp[svC,Value.oneCell']⟩)
      refine zgy (w':=w2.setRow g cs) ?_ (hk _);simp[execOp,d8,d10,Instr.storeAt,Instr.sureAddr,run_storeVar_row (P:=Tryz.prog) w2 g 33 33 zC cs kb (show(Tryz.prog.info? 33).map (·.size)=some cs.size by rw[h9];kernel_rfl) h9.symm h1]
    intro vs w3 hlen hI;obtain⟨x0,x1,x2,x3,x4,x5,x6,x7,x8,x9,x10,x11,rfl⟩:∃x0 x1 x2 x3 x4 x5 x6 x7 x8 x9 x10 x11,vs=[x0,x1,x2,x3,x4,x5,x6,x7,x8,x9,x10,x11]:=by
     match vs,hlen with
     |[x0,x1,x2,x3,x4,x5,x6,x7,x8,x9,x10,x11],_=>exact⟨_,_,_,_,_,_,_,_,_,_,_,_,rfl⟩
    obtain⟨cs,g,e9,e10,hn⟩:=hI.fin;replace e9:x9=_:=e9;replace e10:x10=_:=e10;subst e9 e10;clear hI hlen;refine zao ?_;obtain⟨v',L',rfl,h4⟩:=hn;have c9:=h4.c9 0 rfl;have c8:=h4.c9 1 rfl;have h5:=(h4.setV 1 rfl v').sub (l':=[.blk M (svC v') 33,.blk (w.heap.size+1) z10 35,.blk w.heap.size (pvC u) 40]) (.cons _ (.refl _));clear h3 h4;go_wp2;exact⟨⟨k+1,v',L',zx p s x,by omega,by go_num,HF.out.step (HF.out.fits.turn HT.out),h5,xH1 (by rw[HW.out,HK.out];exact zhQ HC.out HT.out (by omega))⟩,by simp[intOf];omega⟩
   ·have HT:=xH1 ht;have HNO:Hid (zk3 p T=none):=xH1 (by
     unfold zk3 runD;rw[if_pos (by rw[HL.out];omega),if_pos HV.out,HW.out,show 101-k=(100-k)+1 by omega];exact zj7 HC.out ht)
    clear ht;refine zhq 12 (rpI w W2 [.blk M (svC v) 33,.blk (w.heap.size+1) z10 35,.blk w.heap.size (pvC u) 40] [.agg (pvC u),v.val,.slice (some ⟨b1,o1,none⟩) n c,.int .i64 (k:Int),.pointer (some ⟨b1,o1+k,none⟩),.int .i64 x] false (λcs bx w'=>cs=zC/\Fr w w' (bx++[.blk M (svC v) 33,.blk (w.heap.size+1) z10 35,.blk w.heap.size (pvC u) 40]))) rpI.cong (λσ=>rpI.start σ h3.fr) ?_ ?_
    ·refine⟨?_,?_,?_,?_,?_,?_,?_,?_,?_,?_,?_,?_,trivial⟩<;>intro ρ w2 L' hI hw hny ho
     ·obtain⟨bx,F⟩:=hI.fr (λ_ _ _ h=>h.2);have c:=F.c5 _ ((zlh bx _ 2).trans rfl);have d:ρ (.tmp 2)=_:=ho (.tmp 2) rfl;exact zh (by go_simp<;>rfl) (hI.val 0 _ (by decide) rfl)
     ·obtain⟨bx,F⟩:=hI.fr (λ_ _ _ h=>h.2);have c:=F.c9 _ ((zlh bx _ 0).trans rfl);have d:ρ (.tmp 6)=_:=ho (.tmp 6) rfl;exact zh (by go_simp<;>rfl) (hI.val 1 _ (by decide) rfl)
     ·have d:ρ (.tmp 1)=_:=ho (.tmp 1) rfl;exact zh (by go_simp<;>rfl) (hI.val 2 _ (by decide) rfl)
     ·have d:ρ (.tmp 8)=_:=ho (.tmp 8) rfl;exact zh (by go_simp<;>rfl) (hI.val 3 _ (by decide) rfl)
     ·have d:ρ (.tmp 33)=_:=hI.k 2 (by decide) (hw 2 (by decide));have d':ρ (.tmp 34)=_:=hI.k 3 (by decide) (hw 3 (by decide));simp only[List.getD_cons_zero,List.getD_cons_succ] at d d';exact zh (by go_simp<;>rfl) (hI.val 4 _ (by decide) rfl)
     ·obtain⟨bx,F⟩:=hI.fr (λ_ _ _ h=>h.2);have g:=zd F.bel G0.out;have d:ρ (.tmp 35)=_:=hI.k 4 (by decide) (hw 4 (by decide));simp only[List.getD_cons_zero,List.getD_cons_succ] at d;exact zh (by go_simp<;>rfl) (hI.val 5 _ (by decide) rfl)
     ·obtain⟨bx,F,hB,hk⟩:=hI.cl (hny 6 _ rfl rfl);have d0:ρ (.tmp 31)=_:=hI.k 0 (by decide) (hw 0 (by decide));have d1:ρ (.tmp 32)=_:=hI.k 1 (by decide) (hw 1 (by decide));have d5:ρ (.tmp 36)=_:=hI.k 5 (by decide) (hw 5 (by decide));have df:ρ (.func 29)=_:=ho (.func 29) rfl;simp only[List.getD_cons_zero,List.getD_cons_succ] at d0 d1 d5;exact zac (by go_simp<;>rfl) ((zll u p v L s x w2 (HP.out.below F.bel) (h3.rd.below hB) HF.out.fits HT.out).mono λe w' h=>by
       obtain⟨rfl,hb⟩:=h;exact⟨_,rfl,hk zC w' ⟨rfl,F.call hb⟩⟩)
     ·obtain⟨cs,d,hk⟩:=hI.mv (hw 6 (by decide));replace d:ρ (.tmp 37)=_:=d;exact zh (by go_simp<;>rfl) hk
     ·obtain⟨cs,d,hk,-⟩:=hI.ex (hw 7 (by decide));replace d:ρ (.tmp 30)=_:=d;exact zh (by go_simp<;>rfl) hk
     ·obtain⟨cs,d,-,hk⟩:=hI.ex (hw 7 (by decide));replace d:ρ (.tmp 30)=_:=d;exact zh (by go_simp<;>rfl) hk
     ·exact zh (by go_simp<;>rfl) (hI.al (hny 10 _ rfl rfl) (λ_ _ h=>⟨h.1,h.2.alloc zC 33⟩))
     ·obtain⟨cs,g,d8,d10,hn,hk⟩:=hI.st (hw 6 (by decide)) (hw 8 (by decide)) (hw 10 (by decide)) (hny 11 _ rfl rfl) (λ_ _ _ h=>⟨h.1,Fr.ovr h.2⟩);replace d8:ρ (.tmp 38)=_:=d8;replace d10:ρ (.tmp 9)=_:=d10;obtain⟨kb,h9,h1⟩:Blk w2 g zC 33/\cs.size=9/\cs.all (·.oneCell')=true:=(by obtain⟨rfl,h⟩:=hn;exact⟨h.blk 0 rfl,rfl,by simp[zC,Value.oneCell']⟩)
      refine zgy (w':=w2.setRow g cs) ?_ (hk _);simp[execOp,d8,d10,Instr.storeAt,Instr.sureAddr,run_storeVar_row (P:=Tryz.prog) w2 g 33 33 zC cs kb (show(Tryz.prog.info? 33).map (·.size)=some cs.size by rw[h9];kernel_rfl) h9.symm h1]
    intro vs w3 hlen hI;obtain⟨x0,x1,x2,x3,x4,x5,x6,x7,x8,x9,x10,x11,rfl⟩:∃x0 x1 x2 x3 x4 x5 x6 x7 x8 x9 x10 x11,vs=[x0,x1,x2,x3,x4,x5,x6,x7,x8,x9,x10,x11]:=by
     match vs,hlen with
     |[x0,x1,x2,x3,x4,x5,x6,x7,x8,x9,x10,x11],_=>exact⟨_,_,_,_,_,_,_,_,_,_,_,_,rfl⟩
    obtain⟨cs,g,e9,e10,hn⟩:=hI.fin;replace e9:x9=_:=e9;replace e10:x10=_:=e10;subst e9 e10;clear hI hlen;refine zao ?_;obtain⟨rfl,F1⟩:=hn;have c10:=F1.c10 2 rfl;have F2:=F1.setY 2 rfl;clear h3;go_wp2;exact xDd (v:= .tuple #[.agg z10,.bool false]) (by simp[results,Tryz.results23,go_sem,F2.c10 2 rfl]) rfl (.inl ⟨HNO.out,rfl,F2.sub (List.nil_sublist _)⟩)
  ·have hkn:k=n:=(by omega);have HE:Hid (zk3 p T=some (s,T)):=xH1 (by
    have e:T.take k=T:=xDt (by have:=HL.out;omega);unfold zk3 runD;rw[if_pos (by rw[HL.out];omega),if_pos HV.out,HW.out,e];exact zgw (by unfold zk1;rw[if_pos rfl]) (by omega))
   clear hkn;go_upto_region 11 with fail;obtain⟨u2,hu⟩:∃u2:World,u2=wr:=⟨_,rfl⟩
   rw[<-hu] at h⊢;clear hu;have h3:=h;clear h;apply zbc 4 [.k _,.r (rqE u2.heap.size 3 1),.k _,.r (rqA u2.heap.size 3 1 n (ints T))] ⟨stE,stA,trivial⟩ ?s1 ?e1
   case s1=>
    repeat' apply And.intro
    all_goals first|trivial|(intro ρ w1 hG hfr hd;obtain⟨fc,ff⟩:=fcff hfr;have f6:=hfr (.tmp 6) rfl;have f1:=hfr (.tmp 1) rfl;have F1:=h3.fr.call hG;have c9:=F1.c9 0 rfl)
    exact rk0;exact rkE;exact rk0
    ·have d:ρ (.tmp _)=_:=hd.2.1;exact gkA hG _ _ 22 rfl Tryz.underlying22 zM rfl (by decide) hd.1 d (by rw[xDf,HL.out,Nat.mul_one]) (HR.out.below F1.bel) (zaa T) (by omega) (by decide) (λ_ _ h=>h)
   intro w2 hG;refine zao ?_;intro e0 he0 u0 hu0;obtain⟨a5,c5,rfl,ho,-⟩:=hu0;have h4:=h3.row hG ho;have hbd:=zgd v a5 n c5 w2;have c10:=h4.fr.c10 2 rfl;have h9:=h4.setR 2 rfl v a5 n c5;clear h3 he0 hG ho;go_wp2;exact xDd (v:= .tuple #[.agg (rC v a5 n c5),.bool true]) (by simp[results,Tryz.results23,go_sem,h9.fr.c10 2 rfl]) rfl (.inr ⟨s,T,v,L,a5,c5,HE.out,by rw[HL.out],by rw[HL.out];exact h9.sub (.cons_cons _ (List.nil_sublist _))⟩)
theorem zli (u:PV) (p:Pg) (a:Option Addr) (n c:Nat) (T:List Int) (w:World) (hp:RdP w u p) (hz:zbB u p) (hr:Rd w a (ints T)) (hl:T.length=n) (hn:n<=1048576):
  Calls Tryz.prog 23 #[.agg (pvC u),.slice a n c] w (rsF (zk3 p T) w []):=by
 cases hv:zu p with
 |true=>exact zlf u p a n c T w hp hv hr hl hn
 |false=>
  have HP:=xH1 hp;have HV:=xH1 hv;have HZ:=xH1 hz;have F:=((Fr.start w).alloc (pvC u) 40).alloc z10 35;simp only[xDe] at F;have HNO:Hid (zk3 p T=none):=xH1 (by unfold zk3 runD;rw[hv];simp);clear hp hv hz hr;have cp:=F.c5 1 rfl;go_enter Tryz.func23,Tryz.ntmps23;go_wp2_with fail;refine(zis u p _ (HP.out.below F.bel) HZ.out HV.out).mono ?_;rintro e w1 ⟨rfl,hb⟩;have F1:=(F.call hb).alloc zC 33;clear F hb cp;go_upto_region 2 with fail;obtain⟨W1,hw,F2⟩:=F1.named;rw[<-hw];clear hw F1;have c10:=F2.c10 1 rfl;have F3:=F2.setY 1 rfl;go_wp2;exact xDd (v:= .tuple #[.agg z10,.bool false]) (by simp[results,Tryz.results23,go_sem,F3.c10 1 rfl]) rfl (.inl ⟨HNO.out,rfl,F3.sub (List.nil_sublist _)⟩)
end Go.Proofs.YtnlijgjpgdjpiaaGreat
