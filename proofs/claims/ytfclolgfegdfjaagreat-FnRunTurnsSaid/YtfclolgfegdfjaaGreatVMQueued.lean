/- Part of a proof: MQueued. -/
import Derived.StillTailTactics
import Derived.Test.YtfclolgfegdfjaaGreatVMShared
set_option maxRecDepth 100000
set_option maxHeartbeats 16000000
namespace Go.Proofs.YtfclolgfegdfjaaGreat
open Go.RowKit Go.Sort
variable {α:Type}
def ut (s:zp) (i:Nat):List Int:=(s.sems.getD i yi).queue.map (·.1)
def Jg (s:zp) (i:Nat):List Int:=(s.onces.getD i zH).waits
def QI (s:zp) (i:Nat):List Int:=(s.groups.getD i yH).waits
def Uh (s:zp) (i:Nat):List Int:=(s.bars.getD i ye).waits
def tN (s:zp) (i:Nat):List Int:=(s.chans.getD i yq).senders.map (·.1)++(s.chans.getD i yq).getters
theorem hD {β:Type} (g:α->β) (f:Nat->List α):∀n,(zt f n).map g=zt (λi=>(f i).map g) n
 |0=>rfl
 |n+1=>by rw[zt,zt,vQ,hD g f n]
theorem pL (s:zp):eT s=zt (ut s) s.sems.length++zt (Jg s) s.onces.length++zt (QI s) s.groups.length++zt (Uh s) s.bars.length++zt (tN s) s.chans.length:=by
 unfold eT yD;simp only[vQ,hD,qh];congr 1
 ·exact uE λi _=>by simp[yL,ut]
 congr 1
 ·exact uE λi _=>by unfold yx Jg;rw[List.map_map];exact List.map_id' _
 congr 1
 ·exact uE λi _=>by unfold xj QI;rw[List.map_map];exact List.map_id' _
 congr 1
 ·exact uE λi _=>by unfold xz Uh;rw[List.map_map];exact List.map_id' _
 ·exact uE λi _=>by unfold yT tN;rw[vQ,List.map_map,List.map_map];congr 1;exact List.map_id' _
def Zu (n:Nat) (l:List Int):List Int:=(List.range n).map λt:Nat=>((l.count (t:Int):Nat):Int)
theorem kI (n:Nat) (l:List Int):(Zu n l).length=n:=by simp[Zu]
theorem UK (n:Nat) (l:List Int) {t:Nat} (h:t<n):(Zu n l).getD t 0=((l.count (t:Int):Nat):Int):=by
 simp[Zu,List.getD,h]
theorem DI (n:Nat):Zu n []=List.replicate n 0:=by
 unfold Zu;apply List.ext_getElem<;>simp
theorem Dh (n:Nat) (l:List Int) {x:Int} (h0:0<=x) (h1:x<n):(Zu n l).set x.toNat ((Zu n l).getD x.toNat 0+1)=Zu n (l++[x]):=by
 have hy:=UK n l (show x.toNat<n by omega);obtain⟨y,ey⟩:=jy ((Zu n l).getD x.toNat 0);rw[<-ey] at hy⊢;clear ey;subst hy;apply List.ext_getElem
 ·simp[Zu]
 ·intro i h2 h3;rw[List.getElem_set];simp only[Zu,List.getElem_map,List.getElem_range,List.count_append];by_cases hx:x.toNat=i
  ·subst hx;rw[if_pos rfl,show((x.toNat:Nat):Int)=x by omega];simp
  ·rw[if_neg hx];have:List.count (i:Int) [x]=0:=List.count_eq_zero.2 (λh=>hx (by rw[<-yh h];omega));rw[this];simp
theorem GF (u:PV) (p:Pg) (v:zu) (L:zQ) (s:zp) (w:World) (hp:yK w u p) (hv:zD p=true) (hr:yZ w v L s) (hf:yp p s):
  Calls Tryz.prog 142 #[.agg #[.slice u.s u.ns u.cs,.slice u.g u.ng u.cg,.slice u.b u.nb u.cb,.slice u.r u.nr u.cr,.slice u.t u.nt u.ct],.agg #[.slice v.pl.a v.pl.n v.pl.c,.slice v.st.a v.st.n v.st.c,.slice v.se.a v.se.n v.se.c,.slice v.on.a v.on.n v.on.c,.slice v.gr.a v.gr.n v.gr.c,.slice v.ba.a v.ba.n v.ba.c,.slice v.ch.a v.ch.n v.ch.c,.slice v.sa.a v.sa.n v.sa.c,.int .i64 v.fl]] w λe w'=>∃(a:Option Addr) (c:Nat),e= .returned (.tuple #[.slice a u.nt c,.bool true])/\w'.ownsRow w.heap.size 3 1 (.slice a u.nt c) u.nt (zf (Zu u.nt (eT s)))/\Below w.heap.size w w':=by
 have HS:=zd hr;have HF:=zd hf;obtain⟨z1,z2,z3,z4,⟨z5,z6⟩,-⟩:=yf hv;have t1:=zd hr.se.len;have r1:=zd hr.on.len;have p1:=zd hr.gr.len;have m1:=zd hr.ba.len;have n1:=zd hr.ch.len;have G2:v.se.n<=3:=by rw[hr.se.len,hf.nse];exact z1
 have D2:v.gr.n<=3:=by rw[hr.gr.len,hf.ngr];exact z2
 have B2:v.ba.n<=3:=by rw[hr.ba.len,hf.nba];exact z3
 have C2:v.ch.n<=3:=by rw[hr.ch.len,hf.nch];exact z4
 have F2:v.on.n<=3:=by rw[hr.on.len,hf.non];omega
 have E2:u.nt<=4:=by rw[<-hp.lt];exact z6
 have LT:=zd hp.lt;clear hr hp hf hv z1 z2 z3 z4 z5 z6;obtain⟨i0,d2,m2,n2,o2⟩:=info_parts yb;obtain⟨W0,x0⟩:∃W0:World,W0=(((w.alloc (.cells #[.slice u.s u.ns u.cs,.slice u.g u.ng u.cg,.slice u.b u.nb u.cb,.slice u.r u.nr u.cr,.slice u.t u.nt u.ct] 26)).alloc (.cells #[.slice v.pl.a v.pl.n v.pl.c,.slice v.st.a v.st.n v.st.c,.slice v.se.a v.se.n v.se.c,.slice v.on.a v.on.n v.on.c,.slice v.gr.a v.gr.n v.gr.c,.slice v.ba.a v.ba.n v.ba.c,.slice v.ch.a v.ch.n v.ch.c,.slice v.sa.a v.sa.n v.sa.c,.int .i64 v.fl] 38)).alloc (.cells #[] 3)):=⟨_,rfl⟩
 have B0:Below w.heap.size w W0:=by
  rw[x0];exact(((xd.alloc (by simp) _).alloc (by simp) _).alloc (by simp;omega) _)
 have kP:zm W0 (w.heap.size) #[.slice u.s u.ns u.cs,.slice u.g u.ng u.cg,.slice u.b u.nb u.cb,.slice u.r u.nr u.cr,.slice u.t u.nt u.ct] 26:=by
  rw[x0];have h:=zm.new w #[.slice u.s u.ns u.cs,.slice u.g u.ng u.cg,.slice u.b u.nb u.cb,.slice u.r u.nr u.cr,.slice u.t u.nt u.ct] 26;exact h|>.alloc _|>.alloc _
 have kS:zm W0 (w.heap.size+1) #[.slice v.pl.a v.pl.n v.pl.c,.slice v.st.a v.st.n v.st.c,.slice v.se.a v.se.n v.se.c,.slice v.on.a v.on.n v.on.c,.slice v.gr.a v.gr.n v.gr.c,.slice v.ba.a v.ba.n v.ba.c,.slice v.ch.a v.ch.n v.ch.c,.slice v.sa.a v.sa.n v.sa.c,.int .i64 v.fl] 38:=by
  rw[x0];have h:=zm.new (w.alloc (.cells #[.slice u.s u.ns u.cs,.slice u.g u.ng u.cg,.slice u.b u.nb u.cb,.slice u.r u.nr u.cr,.slice u.t u.nt u.ct] 26)) #[.slice v.pl.a v.pl.n v.pl.c,.slice v.st.a v.st.n v.st.c,.slice v.se.a v.se.n v.se.c,.slice v.on.a v.on.n v.on.c,.slice v.gr.a v.gr.n v.gr.c,.slice v.ba.a v.ba.n v.ba.c,.slice v.ch.a v.ch.n v.ch.c,.slice v.sa.a v.sa.n v.sa.c,.int .i64 v.fl] 38;simp only[World.size_alloc] at h;exact h|>.alloc _
 have kE:zm W0 (w.heap.size+2) #[] 3:=by
  rw[x0];have h:=zm.new ((w.alloc (.cells #[.slice u.s u.ns u.cs,.slice u.g u.ng u.cg,.slice u.b u.nb u.cb,.slice u.r u.nr u.cr,.slice u.t u.nt u.ct] 26)).alloc (.cells #[.slice v.pl.a v.pl.n v.pl.c,.slice v.st.a v.st.n v.st.c,.slice v.se.a v.se.n v.se.c,.slice v.on.a v.on.n v.on.c,.slice v.gr.a v.gr.n v.gr.c,.slice v.ba.a v.ba.n v.ba.c,.slice v.ch.a v.ch.n v.ch.c,.slice v.sa.a v.sa.n v.sa.c,.int .i64 v.fl] 38)) #[] 3;simp only[World.size_alloc,Nat.add_assoc,Nat.reduceAdd] at h;exact h
 have V1:W0.heap.size=w.heap.size+3:=by rw[x0];simp
 have p4:=kP.cell 4 rfl;have q0:=kS.cell 0 rfl;have q1:=kS.cell 1 rfl;have q2:=kS.cell 2 rfl;have q3:=kS.cell 3 rfl;have q4:=kS.cell 4 rfl;have q5:=kS.cell 5 rfl;have q6:=kS.cell 6 rfl;have q7:=kS.cell 7 rfl;have q8:=kS.cell 8 rfl;have H1:zm W0 (w.heap.size+1+1) #[] 3:=kE;have HE:=zd (qi (B:=w.heap.size+2) H1 (by omega) (sz:=1) (m:=0) rfl (Nat.zero_le _));have HB:=zd B0;have Y1:=V1;clear B0 kS kP kE H1;go_enter Tryz.func142,Tryz.ntmps142;go_wp2;rw[<-x0];clear x0
 go_loopw [7,6] (λi z wr=>∃(j:Nat) (a:Option Addr) (l c:Nat),j<=v.se.n/\i= .int .i64 j/\z= .slice a l c/\uH (wr.ownsRow (w.heap.size+2) 3 1 (.slice a l c) l (zf (zt (ut s) j)))/\l<=0+6*j/\Below (w.heap.size+2) W0 wr) (λi _ _=>v.se.n-(intOf i).toNat)
 case atStart=>exact⟨0,_,0,0,by omega,rfl,rfl,HE,by omega,Below.refl _ _⟩
 case round=>
  obtain⟨j,a,l,c,hj,rfl,rfl,ho,hl,a0⟩:=hrel;have cq:=YX a0 (by show w.heap.size+1<w.heap.size+2;omega) q2;have f0:=HB.o.trans (a0.mono (by omega));have c0:w.heap.size+2<=wr.heap.size:=by have:=a0.size;omega
  by_cases u0:j<v.se.n
  rotate_left
  ·obtain rfl:j=v.se.n:=by omega
   go_wp2;obtain⟨WZ,o0⟩:∃W',W'=wr:=⟨_,rfl⟩
   rw[<-o0] at ho a0 c0⊢;clear cq u0 o0 hj f0 c0 wr
   go_loopw [9,6] (λi z wr=>∃(j:Nat) (a:Option Addr) (l c:Nat),j<=v.on.n/\i= .int .i64 j/\z= .slice a l c/\uH (wr.ownsRow (w.heap.size+2) 3 1 (.slice a l c) l (zf (zt (ut s) v.se.n++zt (Jg s) j)))/\l<=18+6*j/\Below (w.heap.size+2) W0 wr) (λi _ _=>v.on.n-(intOf i).toNat)
   case atStart=>exact⟨0,a,l,c,by omega,rfl,rfl,by simpa[zt] using ho,by omega,a0⟩
   case round=>
    obtain⟨j,a,l,c,hj,rfl,rfl,ho,hl,a0⟩:=hrel;have cq:=YX a0 (by show w.heap.size+1<w.heap.size+2;omega) q3;have f0:=HB.o.trans (a0.mono (by omega));have c0:w.heap.size+2<=wr.heap.size:=by have:=a0.size;omega
    by_cases u0:j<v.on.n
    rotate_left
    ·obtain rfl:j=v.on.n:=by omega
     go_wp2;obtain⟨WZ,o0⟩:∃W',W'=wr:=⟨_,rfl⟩
     rw[<-o0] at ho a0 c0⊢;clear cq u0 o0 hj f0 c0 wr
     go_loopw [10,6] (λi z wr=>∃(j:Nat) (a:Option Addr) (l c:Nat),j<=v.gr.n/\i= .int .i64 j/\z= .slice a l c/\uH (wr.ownsRow (w.heap.size+2) 3 1 (.slice a l c) l (zf (zt (ut s) v.se.n++zt (Jg s) v.on.n++zt (QI s) j)))/\l<=36+6*j/\Below (w.heap.size+2) W0 wr) (λi _ _=>v.gr.n-(intOf i).toNat)
     case atStart=>exact⟨0,a,l,c,by omega,rfl,rfl,by simpa[zt] using ho,by omega,a0⟩
     case round=>
      obtain⟨j,a,l,c,hj,rfl,rfl,ho,hl,a0⟩:=hrel;have cq:=YX a0 (by show w.heap.size+1<w.heap.size+2;omega) q4;have f0:=HB.o.trans (a0.mono (by omega));have c0:w.heap.size+2<=wr.heap.size:=by have:=a0.size;omega
      by_cases u0:j<v.gr.n
      rotate_left
      ·obtain rfl:j=v.gr.n:=by omega
       go_wp2;obtain⟨WZ,o0⟩:∃W',W'=wr:=⟨_,rfl⟩
       rw[<-o0] at ho a0 c0⊢;clear cq u0 o0 hj f0 c0 wr
       go_loopw [11,6] (λi z wr=>∃(j:Nat) (a:Option Addr) (l c:Nat),j<=v.ba.n/\i= .int .i64 j/\z= .slice a l c/\uH (wr.ownsRow (w.heap.size+2) 3 1 (.slice a l c) l (zf (zt (ut s) v.se.n++zt (Jg s) v.on.n++zt (QI s) v.gr.n++zt (Uh s) j)))/\l<=54+6*j/\Below (w.heap.size+2) W0 wr) (λi _ _=>v.ba.n-(intOf i).toNat)
       case atStart=>exact⟨0,a,l,c,by omega,rfl,rfl,by simpa[zt] using ho,by omega,a0⟩
       case round=>
        obtain⟨j,a,l,c,hj,rfl,rfl,ho,hl,a0⟩:=hrel;have cq:=YX a0 (by show w.heap.size+1<w.heap.size+2;omega) q5;have f0:=HB.o.trans (a0.mono (by omega));have c0:w.heap.size+2<=wr.heap.size:=by have:=a0.size;omega
        by_cases u0:j<v.ba.n
        rotate_left
        ·obtain rfl:j=v.ba.n:=by omega
         go_wp2;obtain⟨WZ,o0⟩:∃W',W'=wr:=⟨_,rfl⟩
         rw[<-o0] at ho a0 c0⊢;clear cq u0 o0 hj f0 c0 wr
         go_loopw [12,6] (λi z wr=>∃(j:Nat) (a:Option Addr) (l c:Nat),j<=v.ch.n/\i= .int .i64 j/\z= .slice a l c/\uH (wr.ownsRow (w.heap.size+2) 3 1 (.slice a l c) l (zf (zt (ut s) v.se.n++zt (Jg s) v.on.n++zt (QI s) v.gr.n++zt (Uh s) v.ba.n++zt (tN s) j)))/\l<=72+12*j/\Below (w.heap.size+2) W0 wr) (λi _ _=>v.ch.n-(intOf i).toNat)
         case atStart=>exact⟨0,a,l,c,by omega,rfl,rfl,by simpa[zt] using ho,by omega,a0⟩
         case round=>
          obtain⟨j,a,l,c,hj,rfl,rfl,ho,hl,a0⟩:=hrel;have cq:=YX a0 (by show w.heap.size+1<w.heap.size+2;omega) q6;have f0:=HB.o.trans (a0.mono (by omega));have c0:w.heap.size+2<=wr.heap.size:=by have:=a0.size;omega
          by_cases u0:j<v.ch.n
          rotate_left
          ·obtain rfl:j=v.ch.n:=by omega
           have r0:uH (wr.ownsRow (w.heap.size+2) 3 1 (.slice a l c) l (zf (eT s))):=zd (by
            have h:=ho.out;rw[t1.out,r1.out,p1.out,m1.out,n1.out,<-pL] at h;exact h)
           have y1:(eT s).length=l:=by have:=r0.out.1;rw[List.length_map] at this;omega
           have cp:=YX a0 (by show w.heap.size<w.heap.size+2;omega) p4;have H0:=zd y1;clear y1 ho;go_wp2_with (refine wpList_make_full _ rfl _ _ 23 rfl (w.heap.size+2) 3 i0 (.int .i64 0) 1 Tryz.underlying23 d2 m2 n2 _ _ _ _ u.nt rfl rfl rfl rfl (by rw[o2];omega) (by unfold maxLen;omega) c0 ?_;intro w2 b0 E0;have l1:=zd b0;have j1:=zd E0;clear b0 E0);have b0:=l1.out;rw[show(Value.int .i64 0).cells= #[.int .i64 0] from rfl,Nat.mul_one,toList_madeCells_one] at b0;have p0:Below wr.heap.size wr w2:=zG j1.out yk (by simp);obtain⟨g,hg⟩:∃g,g=wr.heap.size:=⟨_,rfl⟩
           have Z0:=zd (zl r0.out p0);rw[<-hg] at b0⊢;have u2:w.heap.size+2<=g:=(by omega);have f1:uH (Below w.heap.size w w2):=zd (f0.trans (p0.mono f0.size));obtain⟨ga,M0⟩:∃ga,0<l->a=some ⟨ga,0,none⟩/\ga<g:=by
            by_cases h0:0<l
            ·obtain⟨ga,e,-,h⟩:=jF r0.out h0;exact⟨ga,λ_=>⟨e,by omega⟩⟩
            ·exact⟨0,λh=>absurd h h0⟩
           have J1:=zd M0;have E1:g<=w2.heap.size:=by rw[hg];exact p0.size
           have h1:uH (w2.ownsRow (w.heap.size+2) 3 1 (.slice (some ⟨g,0,none⟩) u.nt u.nt) u.nt (zf (Zu u.nt ((eT s).take 0)))):=zd (by rw[List.take_zero,DI];simpa[zf] using b0);obtain⟨ws,F1⟩:∃ws,ws=w2:=⟨_,rfl⟩
           rw[<-F1] at Z0 f1 h1 E1⊢;clear b0 p0 M0 hg F1 cp l1 j1 f0 a0 u0 hj r0 c0
           go_loopw [14] (λi wk=>∃k:Nat,k<=l/\i= .int .i64 k/\uH (wk.ownsRow (w.heap.size+2) 3 1 (.slice (some ⟨g,0,none⟩) u.nt u.nt) u.nt (zf (Zu u.nt ((eT s).take k))))/\Below g ws wk) (λi _=>l-(intOf i).toNat)
           case atStart=>exact⟨0,by omega,rfl,h1,Below.refl _ _⟩
           case round=>
            obtain⟨k,hk,rfl,HC,L0⟩:=hrel;by_cases f2:k<l
            ·obtain⟨ea,M0⟩:=J1.o (by omega);obtain⟨x,hx⟩:∃x,x=(eT s).getD k 0:=⟨_,rfl⟩
             have D1:x∈eT s:=by
              rw[hx,List.getD_eq_getElem?_getD,List.getElem?_eq_getElem (by have:=H0.o;omega)];exact List.getElem_mem _
             obtain⟨e,he,B1⟩:=List.mem_map.1 D1;have N0:=HF.o.we e he;rw[B1,LT.o] at N0;have h2:=N0.1;have j2:=N0.2;have own:=Z0.o;rw[ea] at own;have cx:=own.cellAt k (by omega);replace cx:ws.cell? ⟨ga,k,none⟩=some (.int .i64 x):=by
              rw[cx,hx];have:k<(eT s).length:=by have:=H0.o;omega
              simp[zf,List.getD,this]
             replace cx:=YX L0 (by show ga<g;exact M0) cx;obtain⟨y,hy⟩:∃y,y=(Zu u.nt ((eT s).take k)).getD x.toNat 0:=⟨_,rfl⟩
             have cy:=HC.o.cellAt x.toNat (by omega)
             replace cy:wr.cell? ⟨g,x.toNat,none⟩=some (.int .i64 y):=by
              rw[cy,hy];have:x.toNat<(Zu u.nt ((eT s).take k)).length:=by rw[kI];omega
              simp[zf,List.getD,this]
             have k2:0<=y/\y<=l:=by
              rw[hy,UK _ _ (by omega)];have:=List.count_le_length (a:=((x.toNat:Nat):Int)) (l:=(eT s).take k);rw[List.length_take] at this;omega
             have A2:IntKind.i64.wrap (y+1)=y+1:=Go.IntWalk.i64_in _ (by omega);have t2:=HC.o.frozenAt x.toNat
             have R:=vR (zl HC.o xd.drew) x.toNat (.int .i64 (y+1)) (cs':=zf (Zu u.nt ((eT s).take (k+1)))) (by
              rw[<-xQ _ 0 (show k<(eT s).length by have:=H0.o;omega),<-hx,<-Dh _ _ h2 (by exact j2),<-hy];simp[zf,List.map_set])
             have HR:=zd R;have i2:(0:Int)<=(k:Int):=(by omega);have i3:(k:Int)<(l:Int):=(by omega);subst ea;clear hx D1 B1 he N0 own hy k2 R;go_wp2;go_still_tail 14,(by kernel_rfl)
             go_wp2
             go_roundw
             case rel=>exact⟨k+1,by omega,by go_num,zd HR.o.1,L0.drew.trans (zG HR.o.2 (Nat.le_trans E1 L0.drew.size) (by rintro q hq;cases hq;exact Nat.le_refl _))⟩
             case measure=>simp[intOf];omega
            ·have R0:k=l:=(by omega);subst R0;have y0:=HC.o;rw[<-H0.o,List.take_length] at y0;have I1:=zd y0;clear y0;go_wp2;refine bodyPost_ret (v:= .tuple #[.slice (some ⟨g,0,none⟩) u.nt u.nt,.bool true]) (by simp[results,Tryz.results142,go_sem]) rfl ⟨_,_,rfl,zw I1.o (by omega),f1.out.trans (L0.mono (by omega))⟩
          ·have j0:j<s.chans.length:=by have:=n1.out;omega
           obtain⟨x,q,b1,o1,HX,ea,g0,g1,g2,g3,g4,Q0,l0,I0,Q1,J0,N1,Q2,P0,O1⟩:=HS.o.at_ch (j:=j) j0;have k0:=(HF.o.ch j j0).1;rw[<-HX.o] at k0;rw[ea] at cq;have O0:(0:Int)<=(j:Int):=(by omega);have i1:(j:Int)<v.ch.n:=(by omega);clear ea j0;have h6:=k0.2.2.2.2.1.1;rw[List.length_append,List.length_map] at h6;have x2:q.2.1.n<=6:=by rw[J0.o];omega
           have y2:q.2.2.n<=6:=by rw[P0.o];omega
           have K0:=ze f0 g2;have u1:=ze f0 g3;obtain⟨A,hA⟩:∃A,A=(zj a).toList:=⟨_,rfl⟩
           have z0:∀b∈A,w.heap.size+2<=b/\b<wr.heap.size:=λb hb=>by rw[hA] at hb;exact zy ho.out b (by simpa using hb)
           have Y0:∀b,v.ch.a=some b->True:=λ_ _=>trivial;have Z1:b1<w.heap.size:=by have:=World.block_lt_of_cell? w _ g2;exact this
           have S1:uH (yc A wr q.2.1 (zK x.senders) x.senders.length):=zd ⟨J0.o,Q1.o.below f0,by
            by_cases h0:zK x.senders=[]
            ·exact .inl h0
            ·exact .inr λb hb hm=>by have:=Q1.o.far h0 b hb;have:=(z0 b hm).1;omega,N1.o⟩
           have S2:uH (yc A wr q.2.2 (zf x.getters) x.getters.length):=zd ⟨P0.o,Q2.o.below f0,by
            by_cases h0:zf x.getters=[]
            ·exact .inl h0
            ·exact .inr λb hb hm=>by have:=Q2.o.far h0 b hb;have:=(z0 b hm).1;omega,O1.o⟩
           have a1:=zd z0;have K1:=zd hA;have nS:w.heap.size+1∉A:=λhm=>by have:=(z0 _ hm).1;omega
           have nB:b1∉A:=λhm=>by have:=(z0 _ hm).1;omega
           have L1:uH ((zf (x.senders.map (·.1))).length=q.2.1.n*1):=zd (by rw[List.length_map,List.length_map,J0.o,Nat.mul_one]);have A0:uH ((zf x.getters).length=q.2.2.n*1):=zd (by rw[List.length_map,P0.o,Nat.mul_one]);clear k0 h6 g0 g1 g2 g3 g4 z0 hA Y0;go_wp2;apply fG 15 8 A [.k _,.k _,.k _,.k _,.k _,.k _,.k _,.r λdz uz wz=>(∃(a5:Option Addr) (c5:Nat),uz= .slice a5 q.2.1.n c5/\wz.ownsRow wr.heap.size 3 1 (.slice a5 q.2.1.n c5) q.2.1.n (zf (x.senders.map (·.1)))),.r λdz uz wz=>(∃(a6:Option Addr) (c6:Nat),uz= .slice a6 (l+q.2.1.n) c6/\wz.ownsRow (w.heap.size+2) 3 1 (.slice a6 (l+q.2.1.n) c6) (l+q.2.1.n) (zf (zt (ut s) v.se.n++zt (Jg s) v.on.n++zt (QI s) v.gr.n++zt (Uh s) v.ba.n++zt (tN s) j)++zf (x.senders.map (·.1)))),.k _,.k _,.k _,.k _,.k _,.k _] ⟨λ_ _ _ _ hb ⟨a5,c5,e,h⟩=>⟨a5,c5,e,zl h hb⟩,λ_ _ _ _ hb ⟨a6,c6,e,h⟩=>⟨a6,c6,e,zl h hb⟩,trivial⟩ ⟨.inr (λ_ _ _ _ hT ⟨a5,c5,e,h⟩=>⟨a5,c5,e,zE h hT (λk hk hm=>by have:=(zy h k hk).1;have:=(a1.out k hm).2;omega)⟩),.inl rfl,trivial⟩ ?s1 ?e1
           case s1=>
            repeat' apply And.intro
            all_goals first|trivial|(intro ρ w1 L hG hny hfr hd;obtain⟨fc,ff⟩:=xu hfr;have f3:=hfr (.tmp 3) rfl;have f6:=hfr (.tmp 6) rfl;have s2:=hfr (.tmp 12) rfl;have cq:=zZ hG.2 cq (by show w.heap.size+1∉A;exact nS);have K0:=zZ hG.2 K0 (by show b1∉A;exact nB);have u1:=zZ hG.2 u1 (by show b1∉A;exact nB))
            exact Ym;exact Ym;exact XU;exact Ym
            ·have d0:ρ (.tmp _)=_:=hd.1;have d1:ρ (.tmp _)=_:=hd.2.1;have i2:(0:Int)<=(j:Int):=(by omega);have i3:(j:Int)<v.ch.n:=(by omega);exact Ym
            exact XU;exact XU
            ·obtain⟨d0,-⟩:=hd;have d0:(ρ (.tmp 105))= .slice q.2.1.a q.2.1.n q.2.1.c:=d0;have P1:=S1.o.touch hG.2 (λ_ h=>h);refine zU (by go_simp;exact⟨⟨rfl,rfl⟩,rfl⟩) ?_;refine(Zv x.senders q.2.1.a q.2.1.n q.2.1.c w1 J0.o.symm (by omega) P1.rd).mono ?_;rintro e w2 ⟨a5,c5,rfl,h5,hb⟩;exact⟨_,rfl,xk (by decide) hb,⟨a5,c5,rfl,zw h5 hG.2.size⟩,yn,hG.step (by decide) hb⟩
            ·obtain⟨d0,d1,-⟩:=hd;have d0:(ρ (.tmp 99))= .slice a l c:=d0;have d1:(∃(a5:Option Addr) (c5:Nat),(ρ (.tmp 106))= .slice a5 q.2.1.n c5/\w1.ownsRow wr.heap.size 3 1 (.slice a5 q.2.1.n c5) q.2.1.n (zf (x.senders.map (·.1)))):=d1;have hL:=hny 8 _ rfl (by kernel_rfl);have A1:=hG.1 hL;have T0:=zl ho.out A1;obtain⟨a5,c5,d1,h5⟩:=d1;refine Yr _ _ 23 rfl Tryz.underlying23 yb rfl (by decide) d0 T0 d1 L1.o (Rd.of_owns h5) (yA _) (by omega) (by decide) (Nat.le_trans c0 A1.size) ?_;intro a' c' w2 F0 b2 C1;have hT:zo A w1 w2:=zo.of_grown b2 (λq hq=>by rw[K1.o];simpa using hq);exact⟨Xw hT,⟨a',c',rfl,F0⟩,yn,hG.own hT⟩
            exact Ym;exact XU;exact Ym
            ·have d0:ρ (.tmp _)=_:=hd.1;have d1:ρ (.tmp _)=_:=hd.2.1;have i2:(0:Int)<=(j:Int):=(by omega);have i3:(j:Int)<v.ch.n:=(by omega);exact Ym
            exact XU;exact XU
           intro w2 X1;have hG:=And.intro trivial X1;refine yv ?_;intro p2 V0 r2 X0;replace V0:(∃(a5:Option Addr) (c5:Nat),p2= .slice a5 q.2.1.n c5/\w2.ownsRow wr.heap.size 3 1 (.slice a5 q.2.1.n c5) q.2.1.n (zf (x.senders.map (·.1)))):=V0;replace X0:(∃(a6:Option Addr) (c6:Nat),r2= .slice a6 (l+q.2.1.n) c6/\w2.ownsRow (w.heap.size+2) 3 1 (.slice a6 (l+q.2.1.n) c6) (l+q.2.1.n) (zf (zt (ut s) v.se.n++zt (Jg s) v.on.n++zt (QI s) v.gr.n++zt (Uh s) v.ba.n++zt (tN s) j)++zf (x.senders.map (·.1)))):=X0;obtain⟨_,_,rfl,-⟩:=V0;obtain⟨a6,c6,rfl,x1⟩:=X0;have R1:=zd (S2.o.touch hG.2 (λ_ h=>h)).rd;have G0:w.heap.size+2<=w2.heap.size:=Nat.le_trans c0 hG.2.size;have U1:Below (w.heap.size+2) W0 w2:=a0.trans (hG.2.below c0 (λk hk=>(a1.out k hk).1));have k1:=zd x1;clear x1;go_wp2_with (at_builtin;refine xG (news:=zf x.getters) rfl _ _ 23 rfl Tryz.underlying23 yb rfl (by decide) rfl k1.out rfl A0.o R1.o (yA _) (by omega) (by decide) G0 ?_;intro a3 c3 w3 n0 m0;have t0:=zd n0;have s0:=zd m0;clear n0 m0)
           go_roundw
           case rel=>exact⟨j+1,a3,l+q.2.1.n+q.2.2.n,c3,by omega,by go_num,rfl,zd (by
            have e:zf (zt (ut s) v.se.n++zt (Jg s) v.on.n++zt (QI s) v.gr.n++zt (Uh s) v.ba.n++zt (tN s) (j+1))=zf (zt (ut s) v.se.n++zt (Jg s) v.on.n++zt (QI s) v.gr.n++zt (Uh s) v.ba.n++zt (tN s) j)++zf (x.senders.map (·.1))++zf x.getters:=by
             rw[<-List.map_append,<-List.map_append,HX.o];simp only[zt,List.append_assoc];rfl
            rw[e];exact t0.out),by omega,U1.trans (zG s0.out G0 (λq hq=>(zy k1.out q hq).1))⟩
           case measure=>simp[intOf];omega
        ·have j0:j<s.bars.length:=by have:=m1.out;omega
         obtain⟨x,q,b1,o1,HX,ea,g0,g1,g2,Q0,l0,I0⟩:=HS.o.at_ba (j:=j) j0;have k0:=(HF.o.ba j j0).1;rw[<-HX.o] at k0;rw[ea] at cq;have O0:(0:Int)<=(j:Int):=(by omega);have i1:(j:Int)<v.ba.n:=(by omega);clear ea j0;have U0:q.n<=6:=by rw[l0.out];exact k0.2.2.1.1
         have cg:=ze f0 g2;have RQ:=zd (Q0.o.below f0);have C0:uH ((zf x.waits).length=q.n*1):=zd (by rw[List.length_map,l0.out,Nat.mul_one]);clear k0 g0 g1 g2;go_wp2_with (at_builtin;refine xG (news:=zf x.waits) rfl _ _ 23 rfl Tryz.underlying23 yb rfl (by decide) rfl ho.out rfl C0.o RQ.o (yA _) (by omega) (by decide) c0 ?_;intro a3 c3 w3 n0 m0;have t0:=zd n0;have s0:=zd m0;clear n0 m0)
         go_roundw
         case rel=>exact⟨j+1,a3,l+q.n,c3,by omega,by go_num,rfl,zd (by
          have e:zf (zt (ut s) v.se.n++zt (Jg s) v.on.n++zt (QI s) v.gr.n++zt (Uh s) (j+1))=zf (zt (ut s) v.se.n++zt (Jg s) v.on.n++zt (QI s) v.gr.n++zt (Uh s) j)++zf x.waits:=by
           rw[<-List.map_append,HX.o];simp only[zt,List.append_assoc];rfl
          rw[e];exact t0.out),by omega,a0.trans (zG s0.out c0 (λq hq=>(zy ho.out q hq).1))⟩
         case measure=>simp[intOf];omega
      ·have j0:j<s.groups.length:=by have:=p1.out;omega
       obtain⟨x,q,b1,o1,HX,ea,g0,g1,Q0,l0,I0⟩:=HS.o.at_gr (j:=j) j0;have k0:=HF.o.gr j j0;rw[<-HX.o] at k0;rw[ea] at cq;have O0:(0:Int)<=(j:Int):=(by omega);have i1:(j:Int)<v.gr.n:=(by omega);clear ea j0;have U0:q.n<=6:=by rw[l0.out];exact k0.2.1.1
       have cg:=ze f0 g1;have RQ:=zd (Q0.o.below f0);have C0:uH ((zf x.waits).length=q.n*1):=zd (by rw[List.length_map,l0.out,Nat.mul_one]);clear k0 g0 g1;go_wp2_with (at_builtin;refine xG (news:=zf x.waits) rfl _ _ 23 rfl Tryz.underlying23 yb rfl (by decide) rfl ho.out rfl C0.o RQ.o (yA _) (by omega) (by decide) c0 ?_;intro a3 c3 w3 n0 m0;have t0:=zd n0;have s0:=zd m0;clear n0 m0)
       go_roundw
       case rel=>exact⟨j+1,a3,l+q.n,c3,by omega,by go_num,rfl,zd (by
        have e:zf (zt (ut s) v.se.n++zt (Jg s) v.on.n++zt (QI s) (j+1))=zf (zt (ut s) v.se.n++zt (Jg s) v.on.n++zt (QI s) j)++zf x.waits:=by
         rw[<-List.map_append,HX.o];simp only[zt,List.append_assoc];rfl
        rw[e];exact t0.out),by omega,a0.trans (zG s0.out c0 (λq hq=>(zy ho.out q hq).1))⟩
       case measure=>simp[intOf];omega
    ·have j0:j<s.onces.length:=by have:=r1.out;omega
     obtain⟨x,q,b1,o1,HX,ea,g0,g1,g2,g3,Q0,l0,I0⟩:=HS.o.at_on (j:=j) j0;have k0:=HF.o.on j j0;rw[<-HX.o] at k0;rw[ea] at cq;have O0:(0:Int)<=(j:Int):=(by omega);have i1:(j:Int)<v.on.n:=(by omega);clear ea j0;have U0:q.n<=6:=by
      rw[l0.out];rcases k0 with ⟨-,-,-,h⟩|⟨-,-,-,h,-⟩|⟨-,-,-,h⟩
      ·rw[h];simp
      ·exact h.1
      ·rw[h];simp
     have cg:=ze f0 g3;have RQ:=zd (Q0.o.below f0);have C0:uH ((zf x.waits).length=q.n*1):=zd (by rw[List.length_map,l0.out,Nat.mul_one]);clear k0 g0 g1 g2 g3;go_wp2_with (at_builtin;refine xG (news:=zf x.waits) rfl _ _ 23 rfl Tryz.underlying23 yb rfl (by decide) rfl ho.out rfl C0.o RQ.o (yA _) (by omega) (by decide) c0 ?_;intro a3 c3 w3 n0 m0;have t0:=zd n0;have s0:=zd m0;clear n0 m0)
     go_roundw
     case rel=>exact⟨j+1,a3,l+q.n,c3,by omega,by go_num,rfl,zd (by
      have e:zf (zt (ut s) v.se.n++zt (Jg s) (j+1))=zf (zt (ut s) v.se.n++zt (Jg s) j)++zf x.waits:=by
       rw[<-List.map_append,HX.o];simp only[zt,List.append_assoc];rfl
      rw[e];exact t0.out),by omega,a0.trans (zG s0.out c0 (λq hq=>(zy ho.out q hq).1))⟩
     case measure=>simp[intOf];omega
  ·have j0:j<s.sems.length:=by have:=t1.out;omega
   obtain⟨x,q,b1,o1,HX,ea,g0,g1,g2,Q0,l0,I0⟩:=HS.o.at_se (j:=j) j0;have k0:=(HF.o.se j j0).1;rw[<-HX.o] at k0;rw[ea] at cq;have O0:(0:Int)<=(j:Int):=(by omega);have i1:(j:Int)<v.se.n:=(by omega);have EA:=zd ea;clear ea j0;have U0:q.n<=6:=by have:=k0.2.2.2.1.1;rw[List.length_map] at this;rw[l0.out];exact this
   obtain⟨xb,xo,G1⟩:∃xb xo,0<q.n->q.a=some ⟨xb,xo,none⟩/\∀k,k<x.queue.length->w.cell? ⟨xb,xo+k*2,none⟩=some (.int .i64 (x.queue.getD k (0,0)).1):=by
    by_cases h0:0<q.n
    ·obtain⟨xb,xo,e,h⟩:=Q0.o.pair (by have:=l0.out;omega);exact⟨xb,xo,λ_=>⟨e,λk hk=>(h k hk).1⟩⟩
    ·exact⟨0,0,λh=>absurd h h0⟩
   have M1:=zd G1;have cg:=ze f0 g2;clear G1 k0 g0 g1;go_wp2
   go_loopw [8,6] (λi z wq=>∃(k:Nat) (a2:Option Addr) (l2 c2:Nat),k<=q.n/\i= .int .i64 k/\z= .slice a2 l2 c2/\uH (wq.ownsRow (w.heap.size+2) 3 1 (.slice a2 l2 c2) l2 (zf (zt (ut s) j++(x.queue.take k).map (·.1))))/\uH (l2=l+k)/\l2<=l+6/\Below (w.heap.size+2) W0 wq) (λi _ _=>q.n-(intOf i).toNat)
   case atStart=>exact⟨0,a,l,c,by omega,rfl,rfl,by simpa using ho,zd rfl,by omega,a0⟩
   case round=>
    obtain⟨k,a2,l2,c2,hk,rfl,rfl,S0,A0,v2,p0⟩:=hrel;have T1:=YX p0 (by show w.heap.size+1<w.heap.size+2;omega) q2;rw[show v.se.a=some ⟨b1,o1,none⟩ from EA.o] at T1;have D0:=HB.o.trans (p0.mono (by omega));have K0:=ze D0 g2;have G0:w.heap.size+2<=wr.heap.size:=by have:=p0.size;omega
    by_cases f2:k<q.n
    ·obtain⟨v1,v0⟩:=M1.o (by omega);obtain⟨t,et⟩:∃t,t=(x.queue.getD k (0,0)).1:=⟨_,rfl⟩
     have ct:=ze D0 (v0 k (by have:=l0.out;omega));rw[<-et] at ct;rw[v1] at K0;have i2:(0:Int)<=(k:Int):=(by omega);have i3:(k:Int)<(q.n:Int):=(by omega);have ET:=zd et;clear v0 et v1;go_wp2_with (at_builtin;refine yF (m:=1) (cm:=1) (news:=[.int .i64 t]) rfl _ _ 23 rfl Tryz.underlying23 yb rfl (by decide) rfl S0.o rfl rfl rfl (by simp[Value.oneCell']) (by omega) (by decide) G0 ?_;intro a3 c3 w3 n0 m0;have t0:=zd n0;have s0:=zd m0;clear n0 m0)
     go_roundw
     case rel=>exact⟨k+1,a3,l2+1,c3,by omega,by go_num,rfl,zd (by
      have e:zf (zt (ut s) j++(x.queue.take (k+1)).map (·.1))=zf (zt (ut s) j++(x.queue.take k).map (·.1))++[.int .i64 t]:=by
       rw[<-xQ _ (0,0) (show k<x.queue.length by have:=l0.out;omega),List.map_append,<-List.append_assoc];simp[zf,ET.o]
      rw[e];exact t0.out),zd (by have:=A0.o;omega),by have:=A0.o;omega,p0.trans (zG s0.out G0 (λq hq=>(zy S0.o q hq).1))⟩
     case measure=>simp[intOf];omega
    ·have R0:k=q.n:=(by omega);subst R0;go_wp2
     go_roundw
     case rel=>exact⟨j+1,a2,l2,c2,by omega,by go_num,rfl,zd (by
      have e:zt (ut s) (j+1)=zt (ut s) j++(x.queue.take q.n).map (·.1):=by
       rw[zt,l0.out,List.take_length];show _++(s.sems.getD j yi).queue.map (·.1)=_;rw[<-HX.o]
      rw[e];exact S0.o),by have:=A0.o;omega,p0⟩
     case measure=>simp[intOf];omega
end Go.Proofs.YtfclolgfegdfjaaGreat
