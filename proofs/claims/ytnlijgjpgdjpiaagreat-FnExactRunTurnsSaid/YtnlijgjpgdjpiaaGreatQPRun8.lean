/- Part of a proof: RunX RStart RRun RRun8. -/
import Derived.Test.YtnlijgjpgdjpiaaGreatQPStart
import Derived.Test.YtnlijgjpgdjpiaaGreatQPRA
import Derived.IntWalk
set_option maxRecDepth 100000
set_option maxHeartbeats 16000000
namespace Go.Proofs.YtnlijgjpgdjpiaaGreat
open Go.RowKit
theorem Sf.setR {w W:World} {l:List It} {v:StV} {L:StL} {s:StD} (h:Sf w W l v L s) (k:Nat) {b:Nat} {u0 u1 u2 u3 u4 u5 u6 u7 u8 u9:Value} {T:TypeId} (hi:l[k]? =some (.blk b #[u0,u1,u2,u3,u4,u5,u6,u7,u8,u9] T)) (y:StV) (a:Option Addr) (m c:Nat):Sf w ((((((((((W.setCell ⟨b,0,none⟩ (.slice y.pl.a y.pl.n y.pl.c)).setCell ⟨b,1,none⟩ (.slice y.st.a y.st.n y.st.c)).setCell ⟨b,2,none⟩ (.slice y.se.a y.se.n y.se.c)).setCell ⟨b,3,none⟩ (.slice y.on.a y.on.n y.on.c)).setCell ⟨b,4,none⟩ (.slice y.gr.a y.gr.n y.gr.c)).setCell ⟨b,5,none⟩ (.slice y.ba.a y.ba.n y.ba.c)).setCell ⟨b,6,none⟩ (.slice y.ch.a y.ch.n y.ch.c)).setCell ⟨b,7,none⟩ (.slice y.sa.a y.sa.n y.sa.c)).setCell ⟨b,8,none⟩ (.int .i64 y.fl)).setCell ⟨b,9,none⟩ (.slice a m c)) (l.set k (.blk b (rC y a m c) T)) v L s:=h.set10 k hi _ _ _ _ _ _ _ _ _ _
theorem Sf.setY {w W:World} {l:List It} {v:StV} {L:StL} {s:StD} (h:Sf w W l v L s) (k:Nat) {b:Nat} {u0 u1 u2 u3 u4 u5 u6 u7 u8 u9:Value} {T:TypeId} (hi:l[k]? =some (.blk b #[u0,u1,u2,u3,u4,u5,u6,u7,u8,u9] T)):Sf w ((((((((((W.setCell ⟨b,0,none⟩ (.slice none 0 0)).setCell ⟨b,1,none⟩ (.slice none 0 0)).setCell ⟨b,2,none⟩ (.slice none 0 0)).setCell ⟨b,3,none⟩ (.slice none 0 0)).setCell ⟨b,4,none⟩ (.slice none 0 0)).setCell ⟨b,5,none⟩ (.slice none 0 0)).setCell ⟨b,6,none⟩ (.slice none 0 0)).setCell ⟨b,7,none⟩ (.slice none 0 0)).setCell ⟨b,8,none⟩ (.int .i64 0)).setCell ⟨b,9,none⟩ (.slice none 0 0)) (l.set k (.blk b z10 T)) v L s:=h.set10 k hi _ _ _ _ _ _ _ _ _ _
def zbL (x:Int):List Int->Option Int
 |[]=>none
 |t::l=>if x<=t then some t else zbL x l
def zd8 (tr:List Int):Int:=if tr.length=0 then 0 else tr.getD (tr.length-1) 0+1
def zbR (b:Bool) (s:StD) (tr:List Int):Option Int:=if (zD s).length=0\/100<=tr.length then none else some (if b=true then (zbL (zd8 tr) (zD s)).getD ((zD s).getD 0 0) else (zD s).getD 0 0)
theorem zh7 {x:Int} {l:List Int} {i:Nat} (hi:i<l.length):zbL x (l.drop i)=if x<=l.getD i 0 then some (l.getD i 0) else zbL x (l.drop (i+1)):=by
 rw[List.drop_eq_getElem_cons hi];have e:l.getD i 0=l[i]:=by simp[List.getD,hi]
 rw[e];rfl
theorem zfE {x:Int}:∀{l:List Int} {t:Int},zbL x l=some t->t∈l
 |[],_,h=>by cases h
 |y::l,t,h=>by
  unfold zbL at h;split at h
  ·obtain rfl:=Option.some.inj h;simp
  ·exact List.mem_cons.2 (.inr (zfE h))
theorem zi6 {l:List Int} (h:l.length≠0):l.getD 0 0∈l:=by
 cases l with
 |nil=>exact absurd rfl h
 |cons a l=>simp
theorem zj2 {b:Bool} {s:StD} {tr:List Int} {t:Int} (h:zbR b s tr=some t):t∈zD s:=by
 unfold zbR at h;split at h
 ·cases h
 ·next hn=>
  obtain rfl:=Option.some.inj h;have h0:=zi6 (l:=zD s) (by omega)
  cases b with
  |false=>exact h0
  |true=>
   show(zbL (zd8 tr) (zD s)).getD ((zD s).getD 0 0)∈zD s
   cases e:zbL (zd8 tr) (zD s) with
   |none=>exact h0
   |some t=>exact zfE e
theorem zfK (tr:List Int) (t:Int):zd8 (tr++[t])=t+1:=by
 unfold zd8;rw[if_neg (by simp)];simp
theorem zhf {p:Pg} {ch:StD->List Int->Option Int} (hch:∀s tr t,ch s tr=some t->t∈zD s) (h100:∀s tr,100<=tr.length->ch s tr=none):∀(n:Nat) (s:StD) (tr:List Int),n+tr.length=101->tr.length<=100->∃r,zbb p ch n s tr=some r
 |0,s,tr,h1,h2=>by omega
 |n+1,s,tr,h1,h2=>by
  cases e:ch s tr with
  |none=>exact⟨_,zfg e⟩
  |some t=>
   rw[zeW e (hch s tr t e)];have hl:(tr++[t]).length=tr.length+1:=by rw[xDh];rfl
   refine zhf hch h100 n _ _ (by rw[hl];omega) ?_;rw[hl];refine Nat.lt_of_not_le λh3=> ?_;rw[h100 s tr h3] at e
   cases e
def runD (p:Pg) (ch:StD->List Int->Option Int):Option (StD×List Int):=if zu p=true then zbb p ch 101 (zae p) [] else none
theorem zgw {p:Pg} {ch:StD->List Int->Option Int} {n:Nat} {s:StD} {tr:List Int} (h:ch s tr=none) (hn:n<=100):zbb p ch (101-n) s tr=some (s,tr):=by
 rw[show 101-n=(100-n)+1 by omega];exact zfg h
theorem zhQ {p:Pg} {ch:StD->List Int->Option Int} {n:Nat} {s:StD} {tr:List Int} {t:Int} (h:ch s tr=some t) (hr:t∈zD s) (hn:n<100):zbb p ch (101-n) s tr=zbb p ch (101-(n+1)) (zx p s t) (tr++[t]):=by
 rw[show 101-n=(101-(n+1))+1 by omega];exact zeW h hr
def zan (p:Pg) (a b o c d e:Nat):StD:=⟨(p.threads.take a).map λ_=>0,(p.threads.take a).map λt=>if t.length=0 then 3 else 0,(p.sems.take b).map λn=>⟨n,n,[]⟩,List.replicate o zq,(p.groups.take c).map λn=>⟨n,[]⟩,(p.barriers.take d).map λn=>⟨n,0,[]⟩,(p.rooms.take e).map λn=>⟨n,[],[],[],false⟩,[],0⟩
theorem zjz (p:Pg):zan p p.threads.length p.sems.length 3 p.groups.length p.barriers.length p.rooms.length=zae p:=by unfold zan zae;simp only[List.take_length]
abbrev bR (w:World) (V:StV) (u:PV):List It:=[.blk (w.heap.size+1+1) (svC V) 33,.blk (w.heap.size+1) zC 33,.blk w.heap.size (pvC u) 40]
abbrev stVZ:StV:=⟨nilV,nilV,nilV,nilV,nilV,nilV,nilV,nilV,0⟩
theorem zcG {α β:Type} (g:α->β) (l:List α) (d:α) {j:Nat} (hj:j<l.length):(l.take (j+1)).map g=(l.take j).map g++[g (l.getD j d)]:=by rw[<-zas l d hj,xDr];rfl
theorem SlR.none {S S':List Nat} {w w':World} {q:SlV} (h:SlR S w q [] 0):SlR S' w' q [] 0:=⟨h.len,.inl rfl,.inl rfl,h.cap⟩
theorem Sf.zero {w W:World} {l:List It} (F:Fr w W l):Sf w W l stVZ ⟨[],[],[],[],[]⟩ ⟨[],[],[],[],[],[],[],[],0⟩:=
 ⟨F,xDi _ _ _ _,rfl,xDi _ _ _ _,rfl,xDi _ _ _ _,rfl,xDi _ _ _ _,rfl,xDi _ _ _ _,rfl,xDi _ _ _ _,rfl,xDi _ _ _ _,rfl,xDi _ _ _ _,rfl,rfl,nofun,nofun,nofun,λq hq=>⟨(F.inside q hq).2,λhm=>by
  obtain⟨z,hz,hzk⟩:=xDc.1 hm;simp only[nilV,List.mem_cons,xDm,or_false] at hz;rcases hz with rfl|rfl|rfl|rfl|rfl|rfl|rfl|rfl<;>cases hzk⟩,⟨InL.nil,InL.nil,InL.nil,InL.nil,InL.nil⟩⟩
theorem zib (u:PV) (p:Pg) (w:World) (hp:RdP w u p) (hv:zu p=true):
  Calls Tryz.prog 27 #[.agg (pvC u)] w λe w'=>∃(v:StV) (L:StL),e= .returned (.tuple #[v.val,.bool true])/\StO [] w.heap.size w' v L (zae p)/\NewB w.heap.size L/\xW w w':=by
 have HP:=xH1 hp;have HV:=xH1 hv;have HZ:=xH1 (zbK hv hp);have hvs:=zR hv;have VS:=xH1 hvs;have n1:u.nt<=4:=by rw[<-hp.lt];omega
 have n2:u.ns<=3:=by rw[<-hp.ls];omega
 have n3:u.ng<=3:=by rw[<-hp.lg];omega
 have n4:u.nb<=3:=by rw[<-hp.lb];omega
 have n5:u.nr<=3:=by rw[<-hp.lr];omega
 clear hp hv hvs;have F:=(((Fr.start w).alloc (pvC u) 40).alloc zC 33).alloc zC 33;simp only[xDe] at F;have cp:=F.c5 2 rfl;go_enter Tryz.func27,Tryz.ntmps27;go_wp2_with fail;refine(zcM u p _ (HP.out.below F.bel) HZ.out).mono ?_;rintro e w1 ⟨rfl,hb⟩;replace F:=F.call hb;replace cp:=F.c5 2 rfl;clear hb;rw[HV.out];clear cp;have h:Sf w w1 (bR w stVZ u) stVZ ⟨[],[],[],[],[]⟩ (zan p 0 0 0 0 0 0):=Sf.zero F;clear F;have HN:=NewB.nil w.heap.size;have cp:=h.c5 2 rfl;go_wp2;clear cp
 go_loopw [5] (λi wr=>∃(k:Nat) (V:StV),k<=u.nt/\i= .int .i64 k/\Sf w wr (bR w V u) V ⟨[],[],[],[],[]⟩ (zan p k 0 0 0 0 0)) (λi _=>u.nt-(intOf i).toNat)
 case atStart=>exact⟨0,_,by omega,rfl,h⟩
 case round=>
  clear h;obtain⟨k,V,hk,rfl,h⟩:=hrel;have cp:=h.c5 2 rfl;by_cases hlt:k<u.nt
  ·have hkp:k<p.threads.length:=by rw[HP.out.lt];exact hlt
   obtain⟨t,ht⟩:∃t,t=p.threads.getD k []:=⟨_,rfl⟩
   have HPK:Hid (zan p (k+1) 0 0 0 0 0={zan p k 0 0 0 0 0 with places:=(zan p k 0 0 0 0 0).places++[0],status:=(zan p k 0 0 0 0 0).status++[rest p k 0]}):=xH1 (by
    have e:rest p k 0=if t.length=0 then 3 else 0:=by
     unfold rest zbY;rw[show((k:Nat):Int).toNat=k from rfl,<-ht];by_cases h0:t.length=0
     ·rw[if_pos h0,if_pos (by omega)]
     ·rw[if_neg h0,if_neg (by omega)]
    unfold zan;rw[zcG _ p.threads [] hkp,zcG _ p.threads [] hkp,<-ht,e])
   have HVN:Hid (V.pl.n=k/\V.st.n=k):=xH1 ⟨by rw[h.st.npl];show((p.threads.take k).map _).length=k;rw[xDf,xDp];omega,by rw[h.st.nst];show((p.threads.take k).map _).length=k;rw[xDf,xDp];omega⟩;have HTK:Hid (0<=(k:Int)/\(k:Int)<p.threads.length):=xH1 ⟨by omega,by omega⟩;have h2:=h.alloc #[.int .i64 0] 3;have co:=h.c9 0 rfl;clear hkp ht;go_upto_region 7 with fail;go_upto_region 8 with (at_builtin;refine h2.app_pl rfl _ _ rfl rfl rfl (Rd.of_blk (h2.fr.blk 0 rfl)) (by have:=HVN.out;omega) ?_;intro r W5 h5;have co:=h5.c9 1 rfl;have h6:=(h5.set 1 rfl 0 r.val).sub (l':=bR w {V with pl:=r} u) (.cons _ (.refl _)))
   obtain⟨W6,hw6,h7⟩:=h6.named;rw[<-hw6];clear hw6 h6 h5 co h2 h cp;apply zbc 6 [.k _,.k _,.k _,.k _,.r λdz uz wz=>(uz= .int .i64 (rest p k 0)),.r λdz uz wz=>(∃gz:Nat,uz= .slice (some ⟨gz,0,none⟩) 1 1/\Blk wz gz #[.int .i64 (rest p k 0)] 3)] ⟨λ_ _ _ _ _ h=>h,λ_ _ _ _ hb ⟨g,e,h⟩=>⟨g,e,h.below hb⟩,trivial⟩ ?s1 ?e1
   case s1=>
    repeat' apply And.intro
    all_goals first|trivial|(intro ρ w1 hG hfr hd;obtain⟨fc,ff⟩:=fcff hfr;have f4:=hfr (.tmp 4) rfl;have f1:=hfr (.tmp 1) rfl;have f5:=hfr (.tmp 5) rfl;have F1:=h7.fr.call hG;have co:=F1.c9 0 rfl;have cp:=F1.c5 2 rfl;clear F1)
    exact rk0;exact rk1;exact rk0;exact rk0
    ·obtain⟨d0,d1,-⟩:=hd;have d0:ρ (.tmp 36)=_:=d0;have d1:ρ (.tmp 37)=_:=d1;refine zac (by go_simp;exact⟨⟨rfl,rfl⟩,rfl⟩) ?_;refine(zfl u p k 0 _ ((HP.out.below h7.bel).below hG) HTK.out HZ.out).mono ?_;rintro e w2 ⟨rfl,hb⟩;exact⟨_,rfl,hb,rfl,xN1,hG.trans (hb.mono hG.size)⟩
    ·obtain⟨d0,-⟩:=hd;have d0:((ρ (.tmp 38))= .int .i64 (rest p k 0)):=d0;refine zh (u:= .slice (some ⟨w1.heap.size,0,none⟩) 1 1) (w':=w1.alloc (.cells #[.int .i64 (rest p k 0)] 3)) (by go_simp) ⟨xA1,⟨_,rfl,Blk.new _ _ _⟩,xN1,hG.alloc hG.size _⟩
   intro w2 hG;refine zao ?_;intro xv4 hv4 xv5 hv5;obtain⟨gz,rfl,kL⟩:=hv5;have h8:=h7.call hG;clear h7 hG hv4;go_wp2_with (at_builtin;refine h8.app_st rfl _ _ rfl rfl rfl (Rd.of_blk kL) (by have:=HVN.out;show V.st.n+1<=_;omega) ?_;intro r' W5 h5;have co:=h5.c9 0 rfl;have h6:=(h5.set 0 rfl 1 r'.val).sub (l':=bR w {V with pl:=r,st:=r'} u) (.refl _))
   go_roundw
   case rel=>exact⟨k+1,_,by omega,by go_num,by rw[HPK.out];exact h6⟩
   case measure=>simp[intOf];omega
  ·obtain rfl:k=u.nt:=by omega
   clear hlt hk;have HN:=NewB.nil w.heap.size;clear cp;have cp:=h.c5 2 rfl;go_wp2;clear cp
   go_loopw [6] (λi wr=>∃(k:Nat) (V:StV) (L:StL),k<=u.ns/\i= .int .i64 k/\Sf w wr (bR w V u) V L (zan p u.nt k 0 0 0 0)/\NewB w.heap.size L) (λi _=>u.ns-(intOf i).toNat)
   case atStart=>exact⟨0,_,_,by omega,rfl,h,HN⟩
   case round=>
    clear h HN;obtain⟨k,V,L,hk,rfl,h,HN⟩:=hrel;have cp:=h.c5 2 rfl;by_cases hlt:k<u.ns
    ·have hkp:k<p.sems.length:=by rw[HP.out.ls];exact hlt
     obtain⟨b1,o1,e1,g'⟩:=HP.out.rs.int (by omega);have g1:=g' k hkp;obtain⟨x0,hx⟩:∃x,x=p.sems.getD k 0:=⟨_,rfl⟩
     rw[<-hx] at g1;have HPK:Hid ((zan p u.nt (k+1) 0 0 0 0)={(zan p u.nt k 0 0 0 0) with sems:=(zan p u.nt k 0 0 0 0).sems++[⟨x0,x0,[]⟩]}):=xH1 (by unfold zan;rw[zcG _ p.sems 0 hkp,<-hx]);have HXB:Hid (1<=x0/\x0<=9):=xH1 (by rw[hx];exact(zdd (zdD HV.out).1).2 k hkp);replace g1:=zd h.bel g1;have HVN:Hid (V.se.n=k):=xH1 (by rw[h.st.nse];show((p.sems.take k).map _).length=k;rw[xDf,xDp];omega);have i0:(0:Int)<=(k:Int):=(by omega);have i1:(k:Int)<(u.ns:Int):=(by omega);rw[e1] at cp;clear g' hkp hx;clear e1;go_wp2_with fail;refine(zhK x0 _ HXB.out).mono ?_;rintro e w5 ⟨s1,rfl,hs0,hb⟩;have hq:semR (zv (bR w V u)++V.blks) w5 ⟨x0,x0,[]⟩ s1:=h.apart hs0;have HN2:=HN.se1 (x:=⟨x0,x0,[]⟩) (q:=s1) (newS.lower hs0.new h.bel.size);replace h:=h.call hb;have HQ:=xH1 hq;clear hq hs0 hb g1 cp;have h2:=h.alloc #[.int .i64 x0,.int .i64 x0,.slice s1.a s1.n s1.c] 74;have co:=h2.c9 1 rfl;have cx:=h2.c3 0 rfl;go_upto_region 13 with fail;obtain⟨w6,hw,h3⟩:=h2.named;rw[<-hw];clear hw h2 h co cx;have co:=h3.c9 1 rfl;have cx:=h3.c3 0 rfl;have h4:=h3.alloc #[.int .i64 x0,.int .i64 x0,.slice s1.a s1.n s1.c] 74
     go_wp2_with (at_builtin;refine h4.app_se (x:=⟨x0,x0,[]⟩) (q:=s1) rfl _ _ rfl rfl rfl (Rd.of_blk (h4.fr.blk 0 rfl)) (SlR.none HQ.out) (by have:=HVN.out;omega) ?_;intro r W5 h5;have co:=h5.c9 2 rfl;have h6:=(h5.set 2 rfl 2 r.val).sub (l':=bR w {V with se:=r} u) (.cons _ (.cons _ (.refl _))))
     go_roundw
     case rel=>exact⟨k+1,_,_,by omega,by go_num,by rw[HPK.out];exact h6,HN2⟩
     case measure=>simp[intOf];omega
    ·obtain rfl:k=u.ns:=by omega
     clear hlt hk;clear cp;have cp:=h.c5 2 rfl;go_wp2;clear cp
     go_loopw [9] (λi wr=>∃(k:Nat) (V:StV) (L:StL),k<=3/\i= .int .i64 k/\Sf w wr (bR w V u) V L (zan p u.nt u.ns k 0 0 0)/\NewB w.heap.size L) (λi _=>3-(intOf i).toNat)
     case atStart=>exact⟨0,_,_,by omega,rfl,h,HN⟩
     case round=>
      clear h HN;obtain⟨k,V,L,hk,rfl,h,HN⟩:=hrel;have cp:=h.c5 2 rfl;by_cases hlt:k<3
      ·have HPK:Hid ((zan p u.nt u.ns (k+1) 0 0 0)={(zan p u.nt u.ns k 0 0 0) with onces:=(zan p u.nt u.ns k 0 0 0).onces++[zq]}):=xH1 (by unfold zan;rw[List.replicate_succ']);have HVN:Hid (V.on.n=k):=xH1 (by rw[h.st.non];show(List.replicate k zq).length=k;rw[List.length_replicate]);have h2:=h.alloc #[.int .i64 0,.int .i64 0,.int .i64 0,.slice none 0 0] 78;have co:=h.c9 0 rfl;go_upto_region 17 with fail;go_wp2_with (at_builtin;refine h2.app_on (x:=zq) (q:=nilV) rfl _ _ rfl rfl rfl (Rd.of_blk (h2.fr.blk 0 rfl)) (SlR.nil _ _) (by have:=HVN.out;omega) ?_;intro r W5 h5;have co:=h5.c9 1 rfl;have h6:=(h5.set 1 rfl 3 r.val).sub (l':=bR w {V with on:=r} u) (.cons _ (.refl _)))
       go_roundw
       case rel=>exact⟨k+1,_,_,by omega,by go_num,by rw[HPK.out];exact h6,HN.on1 (.inl rfl)⟩
       case measure=>simp[intOf];omega
      ·obtain⟨k3,e3⟩:∃x,x=k:=⟨_,rfl⟩
       rw[<-e3] at h hlt hk⊢;have HK3:Hid (k3=3):=xH1 (by omega);clear hk e3 k;clear cp;have cp:=h.c5 2 rfl;go_wp2;clear cp;clear hlt
       go_loopw [10] (λi wr=>∃(k:Nat) (V:StV) (L:StL),k<=u.ng/\i= .int .i64 k/\Sf w wr (bR w V u) V L (zan p u.nt u.ns k3 k 0 0)/\NewB w.heap.size L) (λi _=>u.ng-(intOf i).toNat)
       case atStart=>exact⟨0,_,_,by omega,rfl,h,HN⟩
       case round=>
        clear h HN;obtain⟨k,V,L,hk,rfl,h,HN⟩:=hrel;have cp:=h.c5 2 rfl;by_cases hlt:k<u.ng
        ·have hkp:k<p.groups.length:=by rw[HP.out.lg];exact hlt
         obtain⟨b1,o1,e1,g'⟩:=HP.out.rg.int (by omega);have g1:=g' k hkp;obtain⟨x0,hx⟩:∃x,x=p.groups.getD k 0:=⟨_,rfl⟩
         rw[<-hx] at g1;have HPK:Hid ((zan p u.nt u.ns k3 (k+1) 0 0)={(zan p u.nt u.ns k3 k 0 0) with groups:=(zan p u.nt u.ns k3 k 0 0).groups++[⟨x0,[]⟩]}):=xH1 (by unfold zan;rw[zcG _ p.groups 0 hkp,<-hx]);have HXB:Hid (0<=x0/\x0<=9):=xH1 (by rw[hx];exact(zdd (zdD HV.out).2.1).2 k hkp);replace g1:=zd h.bel g1;have HVN:Hid (V.gr.n=k):=xH1 (by rw[h.st.ngr];show((p.groups.take k).map _).length=k;rw[xDf,xDp];omega);have i0:(0:Int)<=(k:Int):=(by omega);have i1:(k:Int)<(u.ng:Int):=(by omega);rw[e1] at cp;clear g' hkp hx;have co:=h.c9 0 rfl;have EP:=xH1 e1;clear e1;go_upto_region 21 with fail;apply zbc 9 [.k _,.k _,.k _,.k _,.k _,.k _,.k _,.k _,.r λdz uz wz=>(∃gz:Nat,uz= .slice (some ⟨gz,0,none⟩) 1 1/\Blk wz gz #[.int .i64 x0,.slice none 0 0] 80)] ⟨λ_ _ _ _ hb ⟨g,e,h⟩=>⟨g,e,h.below hb⟩,trivial⟩ ?s2 ?e2
         case s2=>
          repeat' apply And.intro
          all_goals first|trivial|(intro ρ w1 hG hfr hd;obtain⟨fc,ff⟩:=fcff hfr;have f4:=hfr (.tmp 4) rfl;have f1:=hfr (.tmp 1) rfl;have f10:=hfr (.tmp 10) rfl;have F1:=h.fr.call hG;have co:=F1.c9 0 rfl;have cp:=F1.c5 2 rfl;have g1:=(λ_=>zd hG g1) F1;clear F1)
          exact rk0;exact rk1;exact rk0;exact rk1;exact rk0
          ·have d:ρ (.tmp _)=_:=hd.1;have d':ρ (.tmp _)=_:=hd.2.1;rw[EP.out] at d;exact rk0
          exact rk1;exact rk1
          ·obtain⟨d0,-⟩:=hd;have d0:ρ (.tmp 88)=_:=d0;refine zh (u:= .slice (some ⟨w1.heap.size,0,none⟩) 1 1) (w':=w1.alloc (.cells #[.int .i64 x0,.slice none 0 0] 80)) (by go_simp) ⟨xA1,⟨_,rfl,Blk.new _ _ _⟩,xN1,hG.alloc hG.size _⟩
         intro w2 hG;refine zao ?_;intro xv8 hv8;obtain⟨gz,rfl,kL⟩:=hv8;have h2:=h.call hG;clear h hG;go_wp2_with (at_builtin;refine h2.app_gr (x:=⟨x0,[]⟩) (q:=nilV) rfl _ _ rfl rfl rfl (Rd.of_blk kL) (SlR.nil _ _) (by have:=HVN.out;omega) ?_;intro r W5 h5;have co:=h5.c9 0 rfl;have h6:=(h5.set 0 rfl 4 r.val).sub (l':=bR w {V with gr:=r} u) (.refl _))
         go_roundw
         case rel=>exact⟨k+1,{V with gr:=r},{L with gr:=L.gr++[(⟨x0,[]⟩,nilV)]},by omega,by go_num,by rw[HPK.out];exact h6,HN.gr1 (.inl rfl)⟩
         case measure=>simp[intOf];omega
        ·obtain rfl:k=u.ng:=by omega
         clear hlt hk;clear cp;have cp:=h.c5 2 rfl;go_wp2;clear cp
         go_loopw [11] (λi wr=>∃(k:Nat) (V:StV) (L:StL),k<=u.nb/\i= .int .i64 k/\Sf w wr (bR w V u) V L (zan p u.nt u.ns k3 u.ng k 0)/\NewB w.heap.size L) (λi _=>u.nb-(intOf i).toNat)
         case atStart=>exact⟨0,_,_,by omega,rfl,h,HN⟩
         case round=>
          clear h HN;obtain⟨k,V,L,hk,rfl,h,HN⟩:=hrel;have cp:=h.c5 2 rfl;by_cases hlt:k<u.nb
          ·have hkp:k<p.barriers.length:=by rw[HP.out.lb];exact hlt
           obtain⟨b1,o1,e1,g'⟩:=HP.out.rb.int (by omega);have g1:=g' k hkp;obtain⟨x0,hx⟩:∃x,x=p.barriers.getD k 0:=⟨_,rfl⟩
           rw[<-hx] at g1;have HPK:Hid ((zan p u.nt u.ns k3 u.ng (k+1) 0)={(zan p u.nt u.ns k3 u.ng k 0) with bars:=(zan p u.nt u.ns k3 u.ng k 0).bars++[⟨x0,0,[]⟩]}):=xH1 (by unfold zan;rw[zcG _ p.barriers 0 hkp,<-hx]);have HXB:Hid (1<=x0/\x0<=6):=xH1 (by rw[hx];exact(zdd (zdD HV.out).2.2.1).2 k hkp);replace g1:=zd h.bel g1;have HVN:Hid (V.ba.n=k):=xH1 (by rw[h.st.nba];show((p.barriers.take k).map _).length=k;rw[xDf,xDp];omega);have i0:(0:Int)<=(k:Int):=(by omega);have i1:(k:Int)<(u.nb:Int):=(by omega);rw[e1] at cp;clear g' hkp hx;clear e1;go_wp2_with fail;refine(zhw x0 _ HXB.out).mono ?_;rintro e w5 ⟨s1,rfl,hs0,hb⟩;have hq:barR (zv (bR w V u)++V.blks) w5 ⟨x0,0,[]⟩ s1:=h.apart hs0;have HN2:=HN.ba1 (x:=⟨x0,0,[]⟩) (q:=s1) (newS.lower hs0.new h.bel.size);replace h:=h.call hb;have HQ:=xH1 hq;clear hq hs0 hb g1 cp;have h2:=h.alloc #[.int .i64 x0,.int .i64 0,.slice s1.a s1.n s1.c] 82;have co:=h2.c9 1 rfl;have cx:=h2.c3 0 rfl;go_upto_region 26 with fail;obtain⟨w6,hw,h3⟩:=h2.named;rw[<-hw];clear hw h2 h co cx;have co:=h3.c9 1 rfl;have cx:=h3.c3 0 rfl;have h4:=h3.alloc #[.int .i64 x0,.int .i64 0,.slice s1.a s1.n s1.c] 82
           go_wp2_with (at_builtin;refine h4.app_ba (x:=⟨x0,0,[]⟩) (q:=s1) rfl _ _ rfl rfl rfl (Rd.of_blk (h4.fr.blk 0 rfl)) (SlR.none HQ.out) (by have:=HVN.out;omega) ?_;intro r W5 h5;have co:=h5.c9 2 rfl;have h6:=(h5.set 2 rfl 5 r.val).sub (l':=bR w {V with ba:=r} u) (.cons _ (.cons _ (.refl _))))
           go_roundw
           case rel=>exact⟨k+1,_,_,by omega,by go_num,by rw[HPK.out];exact h6,HN2⟩
           case measure=>simp[intOf];omega
          ·obtain rfl:k=u.nb:=by omega
           clear hlt hk;clear cp;have cp:=h.c5 2 rfl;go_wp2;clear cp
           go_loopw [14] (λi wr=>∃(k:Nat) (V:StV) (L:StL),k<=u.nr/\i= .int .i64 k/\Sf w wr (bR w V u) V L (zan p u.nt u.ns k3 u.ng u.nb k)/\NewB w.heap.size L) (λi _=>u.nr-(intOf i).toNat)
           case atStart=>exact⟨0,_,_,by omega,rfl,h,HN⟩
           case round=>
            clear h HN;obtain⟨k,V,L,hk,rfl,h,HN⟩:=hrel;have cp:=h.c5 2 rfl;by_cases hlt:k<u.nr
            ·have hkp:k<p.rooms.length:=by rw[HP.out.lr];exact hlt
             obtain⟨b1,o1,e1,g'⟩:=HP.out.rr.int (by omega);have g1:=g' k hkp;obtain⟨x0,hx⟩:∃x,x=p.rooms.getD k 0:=⟨_,rfl⟩
             rw[<-hx] at g1;have HPK:Hid ((zan p u.nt u.ns k3 u.ng u.nb (k+1))={(zan p u.nt u.ns k3 u.ng u.nb k) with chans:=(zan p u.nt u.ns k3 u.ng u.nb k).chans++[⟨x0,[],[],[],false⟩]}):=xH1 (by unfold zan;rw[zcG _ p.rooms 0 hkp,<-hx]);have HXB:Hid (0<=x0/\x0<=4):=xH1 (by rw[hx];exact(zdd (zdD HV.out).2.2.2).2 k hkp);replace g1:=zd h.bel g1;have HVN:Hid (V.ch.n=k):=xH1 (by rw[h.st.nch];show((p.rooms.take k).map _).length=k;rw[xDf,xDp];omega);have i0:(0:Int)<=(k:Int):=(by omega);have i1:(k:Int)<(u.nr:Int):=(by omega);rw[e1] at cp;clear g' hkp hx;clear e1;go_wp2_with fail;refine(zgR x0 _ HXB.out).mono ?_;rintro e w5 ⟨s1,s2,s3,rfl,hs0,hs1,hs2,hb⟩;have hq:chnR (zv (bR w V u)++V.blks) w5 ⟨x0,[],[],[],false⟩ (s1,s2,s3):=⟨h.apart hs0,h.apart hs1,h.apart hs2⟩
             have HN2:=HN.ch1 (x:=⟨x0,[],[],[],false⟩) (q:=(s1,s2,s3)) (⟨newS.lower hs0.new h.bel.size,newS.lower hs1.new h.bel.size,newS.lower hs2.new h.bel.size⟩);replace h:=h.call hb;have HQ:=xH1 hq;clear hq hs0 hs1 hs2 hb g1 cp;have h2:=h.alloc #[.int .i64 x0,.slice s1.a s1.n s1.c,.slice s2.a s2.n s2.c,.slice s3.a s3.n s3.c,.bool false] 87;have co:=h2.c9 1 rfl;have cx:=h2.c5 0 rfl;go_upto_region 31 with fail;obtain⟨w6,hw,h3⟩:=h2.named;rw[<-hw];clear hw h2 h co cx;have co:=h3.c9 1 rfl;have cx:=h3.c5 0 rfl;have h4:=h3.alloc #[.int .i64 x0,.slice s1.a s1.n s1.c,.slice s2.a s2.n s2.c,.slice s3.a s3.n s3.c,.bool false] 87;go_wp2_with (at_builtin;refine h4.app_ch (x:=⟨x0,[],[],[],false⟩) (q:=(s1,s2,s3)) rfl _ _ rfl rfl rfl (Rd.of_blk (h4.fr.blk 0 rfl)) ⟨SlR.none HQ.out.1,SlR.none HQ.out.2.1,SlR.none HQ.out.2.2⟩ (by have:=HVN.out;omega) ?_;intro r W5 h5;have co:=h5.c9 2 rfl;have h6:=(h5.set 2 rfl 6 r.val).sub (l':=bR w {V with ch:=r} u) (.cons _ (.cons _ (.refl _))))
             go_roundw
             case rel=>exact⟨k+1,_,_,by omega,by go_num,by rw[HPK.out];exact h6,HN2⟩
             case measure=>simp[intOf];omega
            ·obtain rfl:k=u.nr:=by omega
             clear hlt hk;have hall:zan p u.nt u.ns k3 u.ng u.nb u.nr=zae p:=by rw[HK3.out,<-HP.out.lt,<-HP.out.ls,<-HP.out.lg,<-HP.out.lb,<-HP.out.lr];exact zjz p
             rw[hall] at h;have co:=h.c9 0 rfl;have cr:=h.c9 1 rfl;have h7:=h.setV 1 rfl V;go_wp2;exact xDd (v:= .tuple #[V.val,.bool true]) (by simp[results,Tryz.results27,go_sem,h7.c9 1 rfl]) rfl ⟨V,L,rfl,h7.st.sub (by simp),HN,h7.bel⟩
theorem zis (u:PV) (p:Pg) (w:World) (hp:RdP w u p) (hz:zbB u p) (hv:zu p=false):
  Calls Tryz.prog 27 #[.agg (pvC u)] w λe w'=>e= .returned (.tuple #[.agg zC,.bool false])/\xW w w':=by
 have HP:=xH1 hp;have HV:=xH1 hv;have HZ:=xH1 hz;clear hp hv hz;have F:=(((Fr.start w).alloc (pvC u) 40).alloc zC 33).alloc zC 33;simp only[xDe] at F;have cp:=F.c5 2 rfl;have cz:=F.c9 1 rfl;have cy:=F.c9 0 rfl;go_enter Tryz.func27,Tryz.ntmps27;go_wp2_with fail;refine(zcM u p _ (HP.out.below F.bel) HZ.out).mono ?_;rintro e w1 ⟨rfl,hb⟩;replace F:=F.call hb;replace cp:=F.c5 2 rfl;replace cz:=F.c9 1 rfl;replace cy:=F.c9 0 rfl;clear hb;rw[HV.out];clear cp;have F2:=F.setZ 1 rfl;go_wp2;exact xDd (v:= .tuple #[.agg zC,.bool false]) (by simp[results,Tryz.results27,go_sem,F2.c9 1 rfl]) rfl ⟨rfl,F2.bel⟩
abbrev ch5 (w:World) (M:Nat) (v:StV) (a:Option Addr) (n c:Nat) (tr:List Int) (u:PV):List It:=[.blk M (svC v) 33,.row a n c 3 1 (ints tr),.blk (w.heap.size+1) z10 35,.blk w.heap.size (pvC u) 40]
theorem zgd (v:StV) (a:Option Addr) (n c:Nat) (w:World):(Instr.build 35 #[(0,v.val),(1,.slice a n c)]).run Tryz.prog w= .ok (.agg (rC v a n c)) w:=run_build w 35 _ _ (by kernel_rfl)
def rsF (o:Option (StD×List Int)) (w0:World) (l0:List It) (e:Ending) (w':World):Prop:=(o=none/\e= .returned (.tuple #[.agg z10,.bool false])/\Fr w0 w' l0)\/∃(s:StD) (tr:List Int) (v:StV) (L:StL) (a:Option Addr) (c:Nat),o=some (s,tr)/\e= .returned (.tuple #[.agg (rC v a tr.length c),.bool true])/\Sf w0 w' (.row a tr.length c 3 1 (ints tr)::l0) v L s
def slN:Value->Nat
 | .slice _ n _=>n
 |_=>0
theorem zi4 (u:PV) (p:Pg) (b:Bool) (w0 w:World) (l0:List It) (G0:Fr w0 w l0) (hp:RdP w0 u p) (hv:zu p=true):
  Calls Tryz.prog 41 #[.agg (pvC u),.bool b] w (rsF (runD p (zbR b)) w0 l0):=by
 have HP:=xH1 hp;have HV:=xH1 hv;have F:=(G0.alloc (pvC u) 40).alloc z10 35;simp only[xDe] at F;clear hp hv G0;have cp:=F.c5 1 rfl;go_enter Tryz.func41,Tryz.ntmps41;go_wp2_with fail;refine(zib u p _ (HP.out.below F.bel) HV.out).mono ?_;rintro e w1 ⟨v0,L0,rfl,ho,hb0,hb⟩;have h0:=(Sf.gain F ho hb0 hb).alloc (svC v0) 33;clear F ho hb0 hb cp;go_upto_region 2 with fail;obtain⟨W1,hw,h2⟩:=h0.named;rw[<-hw];obtain⟨M,hM⟩:∃M,M=w1.heap.size:=⟨_,rfl⟩
 rw[<-hM] at h2⊢;clear hw hM h0;go_upto_region 5 with fail;have h3:=h2.row (xA1) (zJ W1 3 1);have h:=(h3.pull 1 rfl).sub (l':=ch5 w M v0 (some ⟨W1.heap.size,0,none⟩) 0 0 [] u++l0) (.refl _);clear h2 h3;have hrun:=Run.start HV.out;go_wp2
 go_loopw [8,9] (λq i wr=>∃(v:StV) (L:StL) (s:StD) (a':Option Addr) (m c':Nat) (tr:List Int),q= .slice a' m c'/\i= .int .i64 (zd8 tr)/\Run p s/\Sf w0 wr (ch5 w M v a' m c' tr u++l0) v L s/\Hid (tr.length=m/\m<=100/\zbb p (zbR b) 101 (zae p) []=zbb p (zbR b) (101-m) s tr)) (λq _ _=>101-slN q)
 case atStart=>exact⟨_,_,_,_,_,_,[],rfl,rfl,hrun,h,xH1 ⟨rfl,by omega,rfl⟩⟩
 case round=>
  clear h hrun;obtain⟨v,L,s,a',m,c',tr,rfl,rfl,hrun,h,HW⟩:=hrel;have HF:=xH1 hrun;clear hrun;obtain⟨F0,hF0⟩:∃x,x=zd8 tr:=⟨_,rfl⟩
  rw[<-hF0];have HF0:=xH1 hF0;clear hF0;by_cases hlt:m<100
  ·have hlt':(m:Int)<100:=(by omega);have c9:=h.c9 0 rfl;go_wp2_with fail;refine(ze4 v L s _ h.rd (by have:=HF.out.fits.nst;have:=(zR HV.out).2.2.2.2.1;omega)).mono ?_;rintro e w2 ⟨a2,c2,rfl,ho,hb⟩;have h2:=h.row hb ho;clear hb ho h c9;obtain⟨w3,hw,h3⟩:=h2.named;rw[<-hw];clear hw h2;have hr8:(zD s).length<=1000:=by
    have h1:=HF.out.fits.nst;have h2:=(zR HV.out).2.2.2.2.1;rw[zcl];split
    ·have:=zc8 s s.status.length;omega
    ·simp
   by_cases hr0:(zD s).length=0
   ·have t0:(((zD s).length:Int)==0)=true:=by rw[hr0];rfl
    have HR0:=xH1 hr0;clear hr0;have hbd:=zgd v a' m c' w3;have c9:=h3.c9 1 rfl;have c10:=h3.fr.c10 3 rfl;have h9:=h3.setR 3 rfl v a' m c';have HE:Hid (runD p (zbR b)=some (s,tr)):=xH1 (by
     unfold runD;rw[if_pos HV.out,HW.out.2.2];exact zgw (if_pos (.inl HR0.out)) HW.out.2.1)
    have HTL:=xH1 HW.out.1;go_wp2;exact xDd (v:= .tuple #[.agg (rC v a' m c'),.bool true]) (by simp[results,Tryz.results41,go_sem,h9.fr.c10 3 rfl]) rfl (.inr ⟨s,tr,v,L,a',c',HE.out,by rw[HTL.out],by rw[HTL.out];exact h9.sub (.cons _ (.cons _ (.cons_cons _ (.cons _ (.cons _ (.refl _))))))⟩)
   have lp:0<(zD s).length:=(by omega);have t0:(((zD s).length:Int)==0)=false:=(by simpa using hr0);obtain⟨b2,o2,e2,g2⟩:=(h3.fr.rdRow 0 rfl).int (by simpa using lp);have HG2:=xH1 g2;have gz:=g2 0 (by simpa using lp);simp only[Nat.add_zero] at gz;subst e2;obtain⟨l,hl⟩:∃l,l=zD s:=⟨_,rfl⟩
   have HRL:=xH1 hl;rw[<-hl] at hr8 lp t0 HG2 gz h3⊢;obtain⟨N,hN⟩:∃N,N=l.length:=⟨_,rfl⟩
   have HN:=xH1 hN;rw[<-hN] at hr8 lp t0 h3⊢;obtain⟨z,hz⟩:∃z,z=l.getD 0 0:=⟨_,rfl⟩
   have HZ0:=xH1 hz;rw[<-hz] at gz;clear g2 hl hN hz hr0;have lp':(0:Int)<(N:Int):=(by omega);have w1':IntKind.i64.wrap ((N:Int)-1)=(N:Int)-1:=IntWalk.i64_in _ (by omega)
   cases b with
   |false=>
    have e1:(0:Int)<=(N:Int)-1:=(by omega);go_wp2
    go_loopw [11,12] (λt i wr=>t= .int .i64 z/\i= .int .i64 ((N:Int)-1)/\wr=w3) (λ_ _ _=>0)
    case atStart=>exact⟨rfl,rfl,rfl⟩
    case round=>
     obtain⟨rfl,rfl,rfl⟩:=hrel;have HT:Hid (z∈zD s):=xH1 (by rw[HZ0.out,HRL.out];exact zi6 (by rw[<-HRL.out,<-HN.out];omega));have HC:Hid (zbR false s tr=some z):=xH1 (by unfold zbR;rw[if_neg (by have:=HW.out.1;have:=HN.out;have h5:=HRL.out;rw[<-h5];omega),HZ0.out,HRL.out];rfl);obtain⟨t,rfl⟩:∃t,t=z:=⟨_,rfl⟩
     obtain⟨w3,rfl⟩:∃x,x=wr:=⟨_,rfl⟩
     have hb9:0<=t/\t<=4:=by have h9:=(HF.out.fits.turn HT.out).rg;have h8:=(zR HV.out).2.2.2.2.1;omega
     have w9':IntKind.i64.wrap (t+1)=t+1:=IntWalk.i64_in _ (by omega);have c5:=h3.c5 4 rfl;have c9:=h3.c9 1 rfl;have c10:=h3.fr.c10 3 rfl;go_wp2_with fail;clear c9 c10 c5;refine(zfC u p v L s t w0 w3 _ h3.fr HP.out h3.rd HF.out HT.out).mono ?_;rintro e w4 ⟨v',L',rfl,h4⟩;have h5:=(h4.alloc (svC v') 33).sub (l':= .blk w4.heap.size (svC v') 33::ch5 w M v a' m c' tr u++l0) (.cons_cons _ (.cons _ (.refl _)));clear h4 h3;have c9:=h5.c9 0 rfl;have c8:=h5.c9 1 rfl;go_upto_region 19 with fail;have h6:=(h5.setV 1 rfl v').sub (l':=ch5 w M v' a' m c' tr u++l0) (.cons _ (.refl _));obtain⟨w5,hw,h7⟩:=h6.named;rw[<-hw];clear hw h6 h5 c9 c8;have h8:=h7.alloc #[.int .i64 t] 3;go_wp2_with (at_builtin;refine h8.appI 2 rfl _ _ rfl rfl rfl [t] rfl rfl (Rd.of_blk (h8.fr.blk 0 rfl)) (by omega) ?_;intro a9 c9 w6 h9)
     go_roundw
     case rel=>exact⟨v',L',zx p s t,a9,m+1,c9,tr++[t],rfl,by rw[zfK],HF.out.step (HF.out.fits.turn HT.out),h9.sub (l':=ch5 w M v' a9 (m+1) c9 (tr++[t]) u++l0) (.cons _ (.refl _)),xH1 ⟨by rw[xDh,HW.out.1];rfl,by omega,by rw[HW.out.2.2];exact zhQ HC.out HT.out hlt⟩⟩
     case measure=>simp[slN];omega
   |true=>
    go_wp2
    go_loopw [11,12] (λt i wr=>∃k:Nat,k<=N/\t= .int .i64 ((zbL F0 (l.drop k)).getD z)/\i= .int .i64 ((k:Int)-1)/\wr=w3) (λ_ i _=>(intOf i+1).toNat)
    case atStart=>exact⟨N,Nat.le_refl _,by rw[HN.out,List.drop_length];rfl,rfl,rfl⟩
    case round=>
     obtain⟨k,hk,rfl,rfl,rfl⟩:=hrel;by_cases hk0:0<k
     ·obtain⟨j,rfl⟩:∃j,k=j+1:=⟨k-1,by omega⟩
      have ej:(((j+1:Nat):Int)-1)=(j:Int):=(by omega);rw[ej];have gj:=HG2.out j (by simpa using(by have:=HN.out;omega:j<l.length));obtain⟨x,hx⟩:∃x,x=l.getD j 0:=⟨_,rfl⟩
      rw[<-hx] at gj;have HX:=xH1 hx;have j0:(0:Int)<=(j:Int):=(by omega);have j1:(j:Int)<(N:Int):=(by omega);have w2':IntKind.i64.wrap ((j:Int)-1)=(j:Int)-1:=IntWalk.i64_in _ (by omega);have HD:Hid ((zbL F0 (l.drop j)).getD z=if F0<=x then x else (zbL F0 (l.drop (j+1))).getD z):=xH1 (by
       rw[zh7 (by have:=HN.out;omega),<-HX.out];split<;>rfl)
      obtain⟨y,hy⟩:∃y,y=(zbL F0 (l.drop (j+1))).getD z:=⟨_,rfl⟩
      rw[<-hy] at HD⊢;clear hx hy ej;by_cases hge:F0<=x
      ·go_wp2
       go_roundw
       case rel=>exact⟨j,by omega,by rw[HD.out,if_pos hge],rfl,trivial⟩
       case measure=>simp[intOf]
      ·go_wp2
       go_roundw
       case rel=>exact⟨j,by omega,by rw[HD.out,if_neg hge],rfl,trivial⟩
       case measure=>simp[intOf]
     ·obtain rfl:k=0:=by omega
      obtain⟨t,ht⟩:∃t,t=(zbL F0 (l.drop 0)).getD z:=⟨_,rfl⟩
      rw[<-ht];have HC:Hid (zbR true s tr=some t):=xH1 (by unfold zbR;rw[if_neg (by have:=HW.out.1;have:=HN.out;have h5:=HRL.out;rw[<-h5];omega),if_pos rfl,ht,List.drop_zero,HF0.out,HZ0.out,HRL.out]);have HT:Hid (t∈zD s):=xH1 (zj2 HC.out);obtain⟨w3,rfl⟩:∃x,x=wr:=⟨_,rfl⟩
      clear ht hk hk0;have hb9:0<=t/\t<=4:=by have h9:=(HF.out.fits.turn HT.out).rg;have h8:=(zR HV.out).2.2.2.2.1;omega
      have w9':IntKind.i64.wrap (t+1)=t+1:=IntWalk.i64_in _ (by omega);have c5:=h3.c5 4 rfl;have c9:=h3.c9 1 rfl;have c10:=h3.fr.c10 3 rfl;go_wp2_with fail;clear c9 c10 c5;refine(zfC u p v L s t w0 w3 _ h3.fr HP.out h3.rd HF.out HT.out).mono ?_;rintro e w4 ⟨v',L',rfl,h4⟩;have h5:=(h4.alloc (svC v') 33).sub (l':= .blk w4.heap.size (svC v') 33::ch5 w M v a' m c' tr u++l0) (.cons_cons _ (.cons _ (.refl _)));clear h4 h3;have c9:=h5.c9 0 rfl;have c8:=h5.c9 1 rfl;go_upto_region 19 with fail;have h6:=(h5.setV 1 rfl v').sub (l':=ch5 w M v' a' m c' tr u++l0) (.cons _ (.refl _));obtain⟨w5,hw,h7⟩:=h6.named;rw[<-hw];clear hw h6 h5 c9 c8;have h8:=h7.alloc #[.int .i64 t] 3;go_wp2_with (at_builtin;refine h8.appI 2 rfl _ _ rfl rfl rfl [t] rfl rfl (Rd.of_blk (h8.fr.blk 0 rfl)) (by omega) ?_;intro a9 c9 w6 h9)
      go_roundw
      case rel=>exact⟨v',L',zx p s t,a9,m+1,c9,tr++[t],rfl,by rw[zfK],HF.out.step (HF.out.fits.turn HT.out),h9.sub (l':=ch5 w M v' a9 (m+1) c9 (tr++[t]) u++l0) (.cons _ (.refl _)),xH1 ⟨by rw[xDh,HW.out.1];rfl,by omega,by rw[HW.out.2.2];exact zhQ HC.out HT.out hlt⟩⟩
      case measure=>simp[slN];omega
  ·have HM:=xH1 (show m=100 by have:=HW.out.2.1;omega);have hlt':¬((m:Int)<100):=by have:=HM.out;omega
   clear hlt;have hbd:=zgd v a' m c' wr;have c9:=h.c9 0 rfl;have c10:=h.fr.c10 2 rfl;have h9:=h.setR 2 rfl v a' m c';have HE:Hid (runD p (zbR b)=some (s,tr)):=xH1 (by
    unfold runD;rw[if_pos HV.out,HW.out.2.2];exact zgw (if_pos (.inr (by have:=HW.out.1;have:=HM.out;omega))) HW.out.2.1)
   have HTL:=xH1 HW.out.1;go_wp2;exact xDd (v:= .tuple #[.agg (rC v a' m c'),.bool true]) (by simp[results,Tryz.results41,go_sem,h9.fr.c10 2 rfl]) rfl (.inr ⟨s,tr,v,L,a',c',HE.out,by rw[HTL.out],by rw[HTL.out];exact h9.sub (.cons _ (.cons_cons _ (.cons _ (.cons _ (.refl _)))))⟩)
theorem ziT (u:PV) (p:Pg) (b:Bool) (w0 w:World) (l0:List It) (G0:Fr w0 w l0) (hp:RdP w0 u p) (hz:zbB u p) (hv:zu p=false):
  Calls Tryz.prog 41 #[.agg (pvC u),.bool b] w (rsF (runD p (zbR b)) w0 l0):=by
 have HP:=xH1 hp;have HV:=xH1 hv;have HZ:=xH1 hz;have F:=(G0.alloc (pvC u) 40).alloc z10 35;simp only[xDe] at F;clear hp hv hz G0;have cp:=F.c5 1 rfl;go_enter Tryz.func41,Tryz.ntmps41;go_wp2_with fail;refine(zis u p _ (HP.out.below F.bel) HZ.out HV.out).mono ?_;rintro e w1 ⟨rfl,hb⟩;have F1:=(F.call hb).alloc zC 33;clear F hb cp;go_upto_region 2 with fail;obtain⟨W1,hw,F2⟩:=F1.named;rw[<-hw];clear hw F1;have c10:=F2.c10 1 rfl;have F3:=F2.setY 1 rfl;go_wp2;exact xDd (v:= .tuple #[.agg z10,.bool false]) (by simp[results,Tryz.results41,go_sem,F3.c10 1 rfl]) rfl (.inl ⟨by unfold runD;rw[HV.out];rfl,rfl,F3.sub (.cons _ (.cons _ (.cons _ (.refl _))))⟩)
theorem zls (u:PV) (p:Pg) (w:World) (hp:RdP w u p) (hz:zbB u p):
  Calls Tryz.prog 21 #[.agg (pvC u)] w (rsF (runD p (zbR true)) w []):=by
 have F:=((Fr.start w).alloc (pvC u) 40).alloc z10 35;simp only[xDe] at F;have hc:∀W,Fr w W [.blk (w.heap.size+1) z10 35,.blk w.heap.size (pvC u) 40]->Calls Tryz.prog 41 #[.agg (pvC u),.bool true] W (rsF (runD p (zbR true)) w [.blk (w.heap.size+1) z10 35,.blk w.heap.size (pvC u) 40]):=λW F=>by
  cases hv:zu p with
  |true=>exact zi4 u p true w W _ F hp hv
  |false=>exact ziT u p true w W _ F hp hz hv
 have HC:=xH1 hc;clear hc hp hz;have cp:=F.c5 1 rfl;go_enter Tryz.func21,Tryz.ntmps21;go_wp2_with fail;refine(HC.out _ F).mono ?_;rintro e w1 (⟨hn,rfl,F1⟩|⟨s,tr,v,L,a,c,ho,rfl,h1⟩)
 ·have HN:=xH1 hn;have cz:=F1.c10 0 rfl;have F2:=F1.setY 0 rfl;clear F cp hn;go_wp2;exact xDd (v:= .tuple #[.agg z10,.bool false]) (by simp[results,Tryz.results21,go_sem,F2.c10 0 rfl]) rfl (.inl ⟨HN.out,rfl,F2.sub (.cons _ (.cons _ (.refl _)))⟩)
 ·have HO:=xH1 ho;have cz:=h1.fr.c10 1 rfl;have h2:=h1.setR 1 rfl v a tr.length c;clear F cp ho;go_wp2;exact xDd (v:= .tuple #[.agg (rC v a tr.length c),.bool true]) (by simp[results,Tryz.results21,go_sem,h2.fr.c10 1 rfl]) rfl (.inr ⟨s,tr,v,L,a,c,HO.out,rfl,h2.sub (.cons_cons _ (.cons _ (.cons _ (.refl _))))⟩)
theorem zgW (u:PV) (p:Pg) (w:World) (hp:RdP w u p) (hz:zbB u p):
  Calls Tryz.prog 19 #[.agg (pvC u)] w (rsF (runD p (zbR false)) w []):=by
 have F:=((Fr.start w).alloc (pvC u) 40).alloc z10 35;simp only[xDe] at F;have hc:∀W,Fr w W [.blk (w.heap.size+1) z10 35,.blk w.heap.size (pvC u) 40]->Calls Tryz.prog 41 #[.agg (pvC u),.bool false] W (rsF (runD p (zbR false)) w [.blk (w.heap.size+1) z10 35,.blk w.heap.size (pvC u) 40]):=λW F=>by
  cases hv:zu p with
  |true=>exact zi4 u p false w W _ F hp hv
  |false=>exact ziT u p false w W _ F hp hz hv
 have HC:=xH1 hc;clear hc hp hz;have cp:=F.c5 1 rfl;go_enter Tryz.func19,Tryz.ntmps19;go_wp2_with fail;refine(HC.out _ F).mono ?_;rintro e w1 (⟨hn,rfl,F1⟩|⟨s,tr,v,L,a,c,ho,rfl,h1⟩)
 ·have HN:=xH1 hn;have cz:=F1.c10 0 rfl;have F2:=F1.setY 0 rfl;clear F cp hn;go_wp2;exact xDd (v:= .tuple #[.agg z10,.bool false]) (by simp[results,Tryz.results19,go_sem,F2.c10 0 rfl]) rfl (.inl ⟨HN.out,rfl,F2.sub (.cons _ (.cons _ (.refl _)))⟩)
 ·have HO:=xH1 ho;have cz:=h1.fr.c10 1 rfl;have h2:=h1.setR 1 rfl v a tr.length c;clear F cp ho;go_wp2;exact xDd (v:= .tuple #[.agg (rC v a tr.length c),.bool true]) (by simp[results,Tryz.results19,go_sem,h2.fr.c10 1 rfl]) rfl (.inr ⟨s,tr,v,L,a,c,HO.out,rfl,h2.sub (.cons_cons _ (.cons _ (.cons _ (.refl _))))⟩)
end Go.Proofs.YtnlijgjpgdjpiaaGreat
