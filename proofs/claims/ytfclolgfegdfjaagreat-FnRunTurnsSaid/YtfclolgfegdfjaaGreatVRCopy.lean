/- Part of a proof: RCopy. -/
import Derived.Test.YtfclolgfegdfjaaGreatVRChnC
set_option maxRecDepth 100000
set_option maxHeartbeats 16000000
namespace Go.Proofs.YtfclolgfegdfjaaGreat
open Go.RowKit
theorem K4 (v:zu) (L:zQ) (s:zp) (w:World) (hr:yZ w v L s) (hz:GE s):
  Calls Tryz.prog 103 #[v.val] w λe w'=>∃(v':zu) (L':zQ),e= .returned v'.val/\yr [] w.heap.size w' v' L' s/\yz w.heap.size L'/\xW w w':=by
 have npl:v.pl.n<=1048576:=by rw[hr.pl.len];exact hz.pl.2
 have m1:=zd hr.pl.len;have nst:v.st.n<=1048576:=by rw[hr.st.len];exact hz.st.2
 have r1:=zd hr.st.len;have nse:v.se.n<=1048576:=by rw[hr.se.len];exact hz.se
 have q1:=zd hr.se.len;have non:v.on.n<=1048576:=by rw[hr.on.len];exact hz.on
 have l1:=zd hr.on.len;have ngr:v.gr.n<=1048576:=by rw[hr.gr.len];exact hz.gr
 have k1:=zd hr.gr.len;have nba:v.ba.n<=1048576:=by rw[hr.ba.len];exact hz.ba
 have Z0:=zd hr.ba.len;have nch:v.ch.n<=1048576:=by rw[hr.ch.len];exact hz.ch
 have j1:=zd hr.ch.len;have nsa:v.sa.n<=1048576:=by rw[hr.sa.len];exact hz.sa
 have n1:=zd hr.sa.len;have HZ:=zd hz;have p0:0<v.pl.n:=by rw[hr.pl.len];exact hz.pl.1
 have p1:0<v.st.n:=by rw[hr.st.len];exact hz.st.1
 have HS:=zd hr;have F:=((Fr.start w).alloc (yN v) 38).alloc zC 38;simp only[yY] at F;clear hz hr;go_enter Tryz.func103,Tryz.ntmps103;go_wp2_with fail;obtain⟨u1,hu,F0⟩:=F.named;rw[<-hu];clear hu F;have F:=F0;clear F0
 refine ZJ 16 (by kernel_rfl) (by kernel_rfl) [λdz uz wz=>∃gz:Nat,uz= .slice (some ⟨gz,0,none⟩) 0 0/\wz.ownsRow u1.heap.size 3 1 (.slice (some ⟨gz,0,none⟩) 0 0) 0 [],Zf (.pointer (some ⟨w.heap.size,0,none⟩)),Zf (.slice v.pl.a v.pl.n v.pl.c),λdz uz wz=>∃(az:uQ) (cz:Nat),uz= .slice az v.pl.n cz/\wz.ownsRow u1.heap.size 3 1 (.slice az v.pl.n cz) v.pl.n (zf s.places)/\(v.pl.n=0->cz=0),λdz uz wz=>∃gz:Nat,uz= .slice (some ⟨gz,0,none⟩) 0 0/\wz.ownsRow u1.heap.size 3 1 (.slice (some ⟨gz,0,none⟩) 0 0) 0 [],Zf (.pointer (some ⟨w.heap.size,1,none⟩)),Zf (.slice v.st.a v.st.n v.st.c),λdz uz wz=>∃(az:uQ) (cz:Nat),uz= .slice az v.st.n cz/\wz.ownsRow u1.heap.size 3 1 (.slice az v.st.n cz) v.st.n (zf s.status)/\(v.st.n=0->cz=0),λdz uz wz=>∃gz:Nat,uz= .slice (some ⟨gz,0,none⟩) 0 0/\wz.ownsRow u1.heap.size 3 1 (.slice (some ⟨gz,0,none⟩) 0 0) 0 [],Zf (.pointer (some ⟨w.heap.size,7,none⟩)),Zf (.slice v.sa.a v.sa.n v.sa.c),λdz uz wz=>∃(az:uQ) (cz:Nat),uz= .slice az v.sa.n cz/\wz.ownsRow u1.heap.size 3 1 (.slice az v.sa.n cz) v.sa.n (zf s.said)/\(v.sa.n=0->cz=0),Zf (.pointer (some ⟨w.heap.size,8,none⟩)),Zf (uy v.fl),λdz uz wz=>uz=(.agg #[(dz.getD 0 undef),(dz.getD 1 undef),uk,uk,uk,uk,uk,(dz.getD 2 undef),(dz.getD 3 undef)]:Value),λdz uz wz=>∃gz:Nat,uz= .pointer (some ⟨gz,0,none⟩)/\zm wz gz zC 38/\u1.heap.size<=gz] (λi=>match i with|3=>yQ v.pl.n|7=>yQ v.st.n|11=>yQ v.sa.n|15=>fX|_=>λ_=>none) (λw'=>xW u1 w') xd.drew (JA ⟨Xr,pS,pS,λ_ _ _ _ hb ⟨a,c,e,h,h0⟩=>⟨a,c,e,zl h hb,h0⟩,Xr,pS,pS,λ_ _ _ _ hb ⟨a,c,e,h,h0⟩=>⟨a,c,e,zl h hb,h0⟩,Xr,pS,pS,λ_ _ _ _ hb ⟨a,c,e,h,h0⟩=>⟨a,c,e,zl h hb,h0⟩,pS,pS,λ_ _ _ _ _ h=>h,dM,trivial⟩) ?_ ?_
 ·simp only[List.take_succ_cons,List.take_zero];refine⟨?_,?_,?_,?_,?_,?_,?_,?_,?_,?_,?_,?_,?_,?_,?_,?_,trivial⟩
  all_goals (intro ρ w1 hG hfr hd;obtain⟨fc,ff⟩:=xu hfr;have f1:ρ (.tmp 1)= .pointer (some ⟨w.heap.size,0,none⟩):=hfr _ rfl;have F1:=F.call hG;have cs:=F1.c9 1 rfl;clear F1)
  ·refine zh (u:= .slice (some ⟨w1.heap.size,0,none⟩) 0 0) (w':=w1.alloc (.cells #[] 3)) (by go_simp) ⟨zY,⟨_,rfl,zw (yg w1 3 1) hG.size⟩,yn,hG.alloc hG.size _⟩
  ·exact Zh hG (by go_simp) rfl yn
  ·obtain⟨d0,-⟩:=hd;have d0:ρ (.tmp 11)=_:=d0;exact Zh hG (by go_simp) rfl yn
  ·obtain⟨d0,d1,-⟩:=hd;have d0:∃gz:Nat,(ρ (.tmp 10))= .slice (some ⟨gz,0,none⟩) 0 0/\w1.ownsRow u1.heap.size 3 1 (.slice (some ⟨gz,0,none⟩) 0 0) 0 []:=d0;have d1:ρ (.tmp 12)=_:=d1;obtain⟨g,d0,hg⟩:=d0;refine jr _ _ 23 rfl Tryz.underlying23 yb rfl jk d0 hg d1 (by rw[yG,m1.out,Nat.mul_one]) ((F.rd HS.o.pl.rd).below hG) (yA s.places) jq jk hG.size ?_;intro a c w2 j0 hb hf h0;exact⟨hb,⟨a,c,rfl,j0,h0⟩,JR j0 hf,hG.trans (hb.mono hG.size)⟩
  ·refine zh (u:= .slice (some ⟨w1.heap.size,0,none⟩) 0 0) (w':=w1.alloc (.cells #[] 3)) (by go_simp) ⟨zY,⟨_,rfl,zw (yg w1 3 1) hG.size⟩,yn,hG.alloc hG.size _⟩
  ·exact Zh hG (by go_simp) rfl yn
  ·obtain⟨d0,-⟩:=hd;have d0:ρ (.tmp 15)=_:=d0;exact Zh hG (by go_simp) rfl yn
  ·obtain⟨d0,d1,d2,-⟩:=hd;have d0:∃gz:Nat,(ρ (.tmp 14))= .slice (some ⟨gz,0,none⟩) 0 0/\w1.ownsRow u1.heap.size 3 1 (.slice (some ⟨gz,0,none⟩) 0 0) 0 []:=d0;have d1:ρ (.tmp 16)=_:=d1;have d2:∃(az:uQ) (cz:Nat),(ρ (.tmp 13))= .slice az v.pl.n cz/\w1.ownsRow u1.heap.size 3 1 (.slice az v.pl.n cz) v.pl.n (zf s.places)/\(v.pl.n=0->cz=0):=d2;obtain⟨g,d0,hg⟩:=d0;refine jr _ _ 23 rfl Tryz.underlying23 yb rfl jk d0 hg d1 (by rw[yG,r1.out,Nat.mul_one]) ((F.rd HS.o.st.rd).below hG) (yA s.status) jq jk hG.size ?_;intro a c w2 j0 hb hf h0;exact⟨hb,⟨a,c,rfl,j0,h0⟩,JR j0 hf,hG.trans (hb.mono hG.size)⟩
  ·refine zh (u:= .slice (some ⟨w1.heap.size,0,none⟩) 0 0) (w':=w1.alloc (.cells #[] 3)) (by go_simp) ⟨zY,⟨_,rfl,zw (yg w1 3 1) hG.size⟩,yn,hG.alloc hG.size _⟩
  ·exact Zh hG (by go_simp) rfl yn
  ·obtain⟨d0,-⟩:=hd;have d0:ρ (.tmp 19)=_:=d0;exact Zh hG (by go_simp) rfl yn
  ·obtain⟨d0,d1,d2,-⟩:=hd;have d0:∃gz:Nat,(ρ (.tmp 18))= .slice (some ⟨gz,0,none⟩) 0 0/\w1.ownsRow u1.heap.size 3 1 (.slice (some ⟨gz,0,none⟩) 0 0) 0 []:=d0;have d1:ρ (.tmp 20)=_:=d1;have d2:∃(az:uQ) (cz:Nat),(ρ (.tmp 17))= .slice az v.st.n cz/\w1.ownsRow u1.heap.size 3 1 (.slice az v.st.n cz) v.st.n (zf s.status)/\(v.st.n=0->cz=0):=d2;obtain⟨g,d0,hg⟩:=d0;refine jr _ _ 23 rfl Tryz.underlying23 yb rfl jk d0 hg d1 (by rw[yG,n1.out,Nat.mul_one]) ((F.rd HS.o.sa.rd).below hG) (yA s.said) jq jk hG.size ?_;intro a c w2 j0 hb hf h0;exact⟨hb,⟨a,c,rfl,j0,h0⟩,JR j0 hf,hG.trans (hb.mono hG.size)⟩
  ·exact Zh hG (by go_simp) rfl yn
  ·obtain⟨d0,-⟩:=hd;have d0:ρ (.tmp 22)=_:=d0;exact Zh hG (by go_simp) rfl yn
  ·obtain⟨d0,d1,d2,d3,-⟩:=hd;have d0:∃(az:uQ) (cz:Nat),(ρ (.tmp 13))= .slice az v.pl.n cz/\w1.ownsRow u1.heap.size 3 1 (.slice az v.pl.n cz) v.pl.n (zf s.places)/\(v.pl.n=0->cz=0):=d0;have d1:∃(az:uQ) (cz:Nat),(ρ (.tmp 17))= .slice az v.st.n cz/\w1.ownsRow u1.heap.size 3 1 (.slice az v.st.n cz) v.st.n (zf s.status)/\(v.st.n=0->cz=0):=d1;have d2:∃(az:uQ) (cz:Nat),(ρ (.tmp 21))= .slice az v.sa.n cz/\w1.ownsRow u1.heap.size 3 1 (.slice az v.sa.n cz) v.sa.n (zf s.said)/\(v.sa.n=0->cz=0):=d2;have d3:ρ (.tmp 23)=_:=d3;obtain⟨t1,y1,d0,-,-⟩:=d0;obtain⟨v1,A1,d1,-,-⟩:=d1;obtain⟨x1,B1,d2,-,-⟩:=d2;refine zh (u:= .agg #[.slice t1 v.pl.n y1,.slice v1 v.st.n A1,uk,uk,uk,uk,uk,.slice x1 v.sa.n B1,uy v.fl]) (w':=w1) (by go_simp) ⟨Below.refl _ _,?_,yn,hG⟩;show Value.agg #[.slice t1 v.pl.n y1,.slice v1 v.st.n A1,uk,uk,uk,uk,uk,.slice x1 v.sa.n B1,uy v.fl]=(.agg #[(ρ (.tmp 13)),(ρ (.tmp 17)),uk,uk,uk,uk,uk,(ρ (.tmp 21)),(ρ (.tmp 23))]:Value);rw[d0,d1,d2,d3]
  ·refine zh (u:= .pointer (some ⟨w1.heap.size,0,none⟩)) (w':=w1.alloc (.cells zC 38)) (by go_simp) ⟨zY,⟨_,rfl,zm.new _ _ _,hG.size⟩,kc _ _,hG.alloc hG.size _⟩
 intro vs w2 hG C0 B0 J0 K1;obtain⟨T1,U1,Y1,M0,Z1,b2,I1,A0,H0,J1,D0,n0,X0,E0,Y0,G0,rfl⟩:=pP C0;clear C0;simp only[List.take_succ_cons,List.take_zero,List.drop_succ_cons,List.drop_zero] at B0⊢;obtain⟨D1,P1,R1,V0,E1,S1,G1,u0,v0,H1,y0,k0,R0,S0,z0,t0,-⟩:=B0;replace D1:∃gz:Nat,T1= .slice (some ⟨gz,0,none⟩) 0 0/\w2.ownsRow u1.heap.size 3 1 (.slice (some ⟨gz,0,none⟩) 0 0) 0 []:=D1;replace V0:∃(az:uQ) (cz:Nat),M0= .slice az v.pl.n cz/\w2.ownsRow u1.heap.size 3 1 (.slice az v.pl.n cz) v.pl.n (zf s.places)/\(v.pl.n=0->cz=0):=V0;replace E1:∃gz:Nat,Z1= .slice (some ⟨gz,0,none⟩) 0 0/\w2.ownsRow u1.heap.size 3 1 (.slice (some ⟨gz,0,none⟩) 0 0) 0 []:=E1;replace u0:∃(az:uQ) (cz:Nat),A0= .slice az v.st.n cz/\w2.ownsRow u1.heap.size 3 1 (.slice az v.st.n cz) v.st.n (zf s.status)/\(v.st.n=0->cz=0):=u0;replace v0:∃gz:Nat,H0= .slice (some ⟨gz,0,none⟩) 0 0/\w2.ownsRow u1.heap.size 3 1 (.slice (some ⟨gz,0,none⟩) 0 0) 0 []:=v0;replace k0:∃(az:uQ) (cz:Nat),n0= .slice az v.sa.n cz/\w2.ownsRow u1.heap.size 3 1 (.slice az v.sa.n cz) v.sa.n (zf s.said)/\(v.sa.n=0->cz=0):=k0;replace z0:Y0=(.agg #[M0,A0,uk,uk,uk,uk,uk,n0,E0]:Value):=z0;replace t0:∃gz:Nat,G0= .pointer (some ⟨gz,0,none⟩)/\zm w2 gz zC 38/\u1.heap.size<=gz:=t0
 obtain rfl:U1=_:=P1;obtain rfl:Y1=_:=R1;obtain rfl:b2=_:=S1;obtain rfl:I1=_:=G1;obtain rfl:J1=_:=H1;obtain rfl:D0=_:=y0;obtain rfl:X0=_:=R0;obtain rfl:E0=_:=S0;have x0:∀k,(yQ v.pl.n) M0=some k->(yQ v.st.n) A0≠some k:=J0 3 7 jv jv jk;have l0:∀k,(yQ v.pl.n) M0=some k->(yQ v.sa.n) n0≠some k:=J0 3 11 jv jv jk;have m0:∀k,(yQ v.st.n) A0=some k->(yQ v.sa.n) n0≠some k:=J0 7 11 jv jv jk;clear J0 K1;simp only[jH,Act.put,List.setIfInBounds_toArray,List.set_cons_succ,List.set_cons_zero];obtain⟨a1,c1,rfl,o1,z1⟩:=V0;obtain⟨a2,c2,rfl,o2,z2⟩:=u0;obtain⟨a8,c8,rfl,o8,z8⟩:=k0;obtain⟨G,rfl,kG,C1⟩:=t0;have dps:∀k,zj a1=some k->zj a2≠some k:=by
  intro k h1 h2;exact x0 k (by simp only[yQ,if_neg (show¬v.pl.n=0 by omega),yu];exact h1) (by simp only[yQ,if_neg (show¬v.st.n=0 by omega),yu];exact h2)
 have P0:∀{a':uQ} {n' c':Nat} {xs:uZ},0<n'->w2.ownsRow u1.heap.size 3 1 (.slice a' n' c') n' xs->(∀k,yQ n' (.slice a' n' c')=some k->yQ v.sa.n (.slice a8 v.sa.n c8)≠some k)->∀k,zj a'=some k->zj a8≠some k:=by
  intro a' n' c' xs L1 M1 hp k h1 h2;by_cases h0:v.sa.n=0
  ·obtain rfl:=z8 h0;exact dO M1 o8 L1 k h1 h2
  ·exact hp k (by simp only[yQ,if_neg (show¬n'=0 by omega),yu];exact h1) (by simp only[yQ,if_neg h0,yu];exact h2)
 have dpa:=P0 p0 o1 l0;have dsa:=P0 p1 o2 m0;have F2:=F.more hG (i:= .blk G zC 38) ⟨C1,kG⟩;have K0:=F.bel.size;have h0:Sf w w2 [.blk G zC 38,.blk (w.heap.size+1) zC 38,.blk w.heap.size (yN v) 38] ⟨⟨a1,v.pl.n,c1⟩,⟨a2,v.st.n,c2⟩,zR,zR,zR,zR,zR,⟨a8,v.sa.n,c8⟩,v.fl⟩ ⟨[],[],[],[],[]⟩ (xU s 0 0 0 0 0):=by
  refine⟨F2,?_⟩;refine⟨zw o1 K0,m1.out,zw o2 K0,r1.out,jf _ _ _ _,rfl,jf _ _ _ _,rfl,jf _ _ _ _,rfl,jf _ _ _ _,rfl,jf _ _ _ _,rfl,zw o8 K0,n1.out,HS.o.fl,dps,dpa,dsa,λq hq=>⟨(F2.inside q hq).2,λhm=> ?_⟩,⟨qJ.nil,qJ.nil,qJ.nil,qJ.nil,qJ.nil⟩⟩;have hB:∃cs,zm w2 q cs 38:=by
   obtain⟨i,hi,O1⟩:=List.mem_flatMap.1 hq;simp only[List.mem_cons,jw,or_false] at hi;rcases hi with rfl|rfl|rfl<;>obtain rfl:=yh O1
   ·exact⟨_,F2.blk 0 rfl⟩
   ·exact⟨_,F2.blk 1 rfl⟩
   ·exact⟨_,F2.blk 2 rfl⟩
  obtain⟨cs,hB⟩:=hB;obtain⟨z,hz,L0⟩:=xc.1 hm;simp only[zR,List.mem_cons,jw,or_false] at hz;rcases hz with rfl|rfl|rfl|rfl|rfl|rfl|rfl|rfl
  ·exact yd hB o1 jk L0
  ·exact yd hB o2 jk L0
  iterate 5 cases L0
  ·exact yd hB o8 jk L0
 have co:=h0.c9 0 rfl;have h1:=h0.set9 0 rfl (.slice a1 v.pl.n c1) (.slice a2 v.st.n c2) uk uk uk uk uk (.slice a8 v.sa.n c8) (uy v.fl);clear o1 o2 o8 dps dpa dsa P0 x0 l0 m0 kG C1 F2 F h0 K0 hG z1 z2 z8;go_upto_region 2 with fail;obtain⟨wz,hw,h⟩:=h1.named;rw[<-hw];clear hw h1 co z0;have HN:=yz.nil w.heap.size;have cs:=h.c9 2 rfl;go_wp2;clear cs
 go_loopw [4] (λi wr=>∃(k:Nat) (V:zu) (M:zQ),k<=v.se.n/\i=uy k/\Sf w wr (vp w G V v) V M (xU s k 0 0 0 0)/\yz w.heap.size M) (λi _=>v.se.n-(intOf i).toNat)
 case atStart=>exact⟨0,⟨⟨a1,v.pl.n,c1⟩,⟨a2,v.st.n,c2⟩,zR,zR,zR,zR,zR,⟨a8,v.sa.n,c8⟩,v.fl⟩,_,jq,rfl,h,HN⟩
 case round=>
  clear h HN;obtain⟨k,V,M,hk,rfl,h,HN⟩:=hrel;have cs:=h.c9 2 rfl;by_cases s0:k<v.se.n
  ·have f0:k<s.sems.length:=by have:=q1.out;omega
   obtain⟨x,q,b1,o1,HX,ea,g0,g1,g2,Q0,a0,I0⟩:=HS.o.at_se (j:=k) f0;replace g0:=ze h.bel g0;replace g1:=ze h.bel g1;replace g2:=ze h.bel g2;have o0:=zd ea;clear ea;have r0:uH (V.se.n=k):=zd (by rw[h.st.nse];show(s.sems.take k).length=k;rw[jO];omega);have HP:uH (s.sems.take (k+1)=s.sems.take k++[x]):=zd (by rw[HX.o];exact(xQ _ _ f0).symm);have i0:(0:Int)<=(k:Int):=jq;have i1:(k:Int)<(v.se.n:Int):=jq;clear f0;go_upto_region 5 with fail;obtain⟨u2,hu⟩:∃u2:World,u2=wr:=⟨_,rfl⟩
   rw[<-hu] at h g0 g1 g2⊢;clear hu cs;have h3:=h;clear h;apply xZ 9 [.k _,.k _,.k _,.k _,.k _,.k _,.k _,.r λdz uz wz=>∃(az:uQ) (cz:Nat),uz= .agg #[uy x.free,uy x.limit,.slice az q.n cz]/\wz.ownsRow u2.heap.size 151 2 (.slice az q.n cz) q.n (zK x.queue),.r λdz uz wz=>∃(gz:Nat) (az:uQ) (cz:Nat),uz= .slice (some ⟨gz,0,none⟩) 1 1/\zm wz gz #[uy x.free,uy x.limit,.slice az q.n cz] 74/\wz.ownsRow u2.heap.size 151 2 (.slice az q.n cz) q.n (zK x.queue)] ⟨λ_ _ _ _ hb ⟨a,c,e,h⟩=>⟨a,c,e,zl h hb⟩,λ_ _ _ _ hb ⟨g,a,c,e,h,h1⟩=>⟨g,a,c,e,h.below hb,zl h1 hb⟩,trivial⟩ ?s1 ?e1
   case s1=>
    repeat' apply And.intro
    all_goals first|trivial|(intro ρ w1 hG hfr hd;obtain⟨fc,ff⟩:=xu hfr;have f3:=hfr (.tmp 3) rfl;have f1:=hfr (.tmp 1) rfl;have f4:=hfr (.tmp 4) rfl;have F1:=h3.fr.call hG;have co:=F1.c9 0 rfl;have cs:=F1.c9 2 rfl;have g0:=ze hG g0;have g1:=ze hG g1;have g2:=ze hG g2)
    exact yj;exact yI;exact yj;exact yI;exact yj
    ·have d:ρ (.tmp _)=_:=hd.1;have d':ρ (.tmp _)=_:=hd.2.1;rw[o0.out] at d;exact yj
    exact yI
    ·obtain⟨d0,-⟩:=hd;have d0:ρ (.tmp 38)=_:=d0;refine zU (by go_simp;exact⟨⟨rfl,rfl⟩,rfl⟩) ?_;refine(ZK x q.a q.n q.c _ a0.out.symm (by rw[a0.out,HX.o];exact HZ.o.qse k) ((h3.fr.call hG).rd Q0.o)).mono ?_;rintro e w2 ⟨a1,c1,rfl,ho,hb⟩;exact⟨_,rfl,hb,⟨a1,c1,rfl,zw ho hG.size⟩,yn,hG.trans (hb.mono hG.size)⟩
    ·obtain⟨d0,-⟩:=hd;have d0:∃(az:uQ) (cz:Nat),(ρ (.tmp 39))= .agg #[uy x.free,uy x.limit,.slice az q.n cz]/\w1.ownsRow u2.heap.size 151 2 (.slice az q.n cz) q.n (zK x.queue):=d0;obtain⟨b0,c0,d0,ho⟩:=d0;have hb:xW w1 (w1.alloc (.cells #[uy x.free,uy x.limit,.slice b0 q.n c0] 74)):=zY;refine zh (u:= .slice (some ⟨w1.heap.size,0,none⟩) 1 1) (w':=w1.alloc (.cells #[uy x.free,uy x.limit,.slice b0 q.n c0] 74)) (by go_simp) ⟨hb,⟨_,b0,c0,rfl,zm.new _ _ _,zl ho hb⟩,yn,hG.alloc hG.size _⟩
   intro w2 hG;refine yv ?_;intro A0 u0 H0 v0;obtain⟨gz,az,cz,rfl,kL,ho⟩:=v0;have hq:Xn (zO (vp w G V v)++V.blks) w2 x ⟨az,q.n,cz⟩:=by
    have h9:=h3.apart (yy.of_owns ho yk);show yc _ _ _ _ x.queue.length;rw[<-a0.out];exact h9
   have q0:=HN.se1 (x:=x) (q:=⟨az,q.n,cz⟩) (jT.lower (yy.of_owns ho yk).new h3.bel.size);have h4:=h3.call hG;have HQ:=zd hq;clear hq hG h3 u0 g0 g1 g2;go_wp2_with (at_builtin;refine h4.app_se rfl _ _ rfl rfl rfl (Rd.of_blk kL) HQ.o (jQ r0.out) ?_;intro r W5 h5;have co:=h5.c9 0 rfl;have h6:=(h5.set 0 rfl 2 r.val).sub (l':=vp w G {V with se:=r} v) (.refl _))
   go_roundw
   case rel=>exact⟨k+1,_,_,jq,by go_num,by
    have e:xU s (k+1) 0 0 0 0={xU s k 0 0 0 0 with sems:=s.sems.take k++[x]}:=by unfold xU;rw[HP.o]
    rw[e];exact h6,q0⟩
   case measure=>exact uq
  ·obtain rfl:k=v.se.n:=jq;clear s0 hk;go_wp2;clear cs
   go_loopw [5] (λi wr=>∃(k:Nat) (V:zu) (M:zQ),k<=v.on.n/\i=uy k/\Sf w wr (vp w G V v) V M (xU s v.se.n k 0 0 0)/\yz w.heap.size M) (λi _=>v.on.n-(intOf i).toNat)
   case atStart=>exact⟨0,V,_,jq,rfl,h,HN⟩
   case round=>
    clear h HN;obtain⟨k,V,M,hk,rfl,h,HN⟩:=hrel;have cs:=h.c9 2 rfl;by_cases s0:k<v.on.n
    ·have f0:k<s.onces.length:=by have:=l1.out;omega
     obtain⟨x,q,b1,o1,HX,ea,g0,g1,g2,g3,Q0,a0,I0⟩:=HS.o.at_on (j:=k) f0;replace g0:=ze h.bel g0;replace g1:=ze h.bel g1;replace g2:=ze h.bel g2;replace g3:=ze h.bel g3;have o0:=zd ea;clear ea;have r0:uH (V.on.n=k):=zd (by rw[h.st.non];show(s.onces.take k).length=k;rw[jO];omega);have HP:uH (s.onces.take (k+1)=s.onces.take k++[x]):=zd (by rw[HX.o];exact(xQ _ _ f0).symm);have i0:(0:Int)<=(k:Int):=jq;have i1:(k:Int)<(v.on.n:Int):=jq;clear f0;go_upto_region 9 with fail;obtain⟨u2,hu⟩:∃u2:World,u2=wr:=⟨_,rfl⟩
     rw[<-hu] at h g0 g1 g2 g3⊢;clear hu cs;have h3:=h;clear h;apply xZ 9 [.k _,.k _,.k _,.k _,.k _,.k _,.k _,.r λdz uz wz=>∃(az:uQ) (cz:Nat),uz= .agg #[uy x.state,uy x.owner,uy x.value,.slice az q.n cz]/\wz.ownsRow u2.heap.size 3 1 (.slice az q.n cz) q.n (zf x.waits),.r λdz uz wz=>∃(gz:Nat) (az:uQ) (cz:Nat),uz= .slice (some ⟨gz,0,none⟩) 1 1/\zm wz gz #[uy x.state,uy x.owner,uy x.value,.slice az q.n cz] 81/\wz.ownsRow u2.heap.size 3 1 (.slice az q.n cz) q.n (zf x.waits)] ⟨λ_ _ _ _ hb ⟨a,c,e,h⟩=>⟨a,c,e,zl h hb⟩,λ_ _ _ _ hb ⟨g,a,c,e,h,h1⟩=>⟨g,a,c,e,h.below hb,zl h1 hb⟩,trivial⟩ ?s2 ?e2
     case s2=>
      repeat' apply And.intro
      all_goals first|trivial|(intro ρ w1 hG hfr hd;obtain⟨fc,ff⟩:=xu hfr;have f3:=hfr (.tmp 3) rfl;have f1:=hfr (.tmp 1) rfl;have f5:=hfr (.tmp 5) rfl;have F1:=h3.fr.call hG;have co:=F1.c9 0 rfl;have cs:=F1.c9 2 rfl;have g0:=ze hG g0;have g1:=ze hG g1;have g2:=ze hG g2;have g3:=ze hG g3)
      exact yj;exact yI;exact yj;exact yI;exact yj
      ·have d:ρ (.tmp _)=_:=hd.1;have d':ρ (.tmp _)=_:=hd.2.1;rw[o0.out] at d;exact yj
      exact yI
      ·obtain⟨d0,-⟩:=hd;have d0:ρ (.tmp 56)=_:=d0;refine zU (by go_simp;exact⟨⟨rfl,rfl⟩,rfl⟩) ?_;refine(Zr x q.a q.n q.c _ a0.out.symm (by rw[a0.out,HX.o];exact HZ.o.qon k) ((h3.fr.call hG).rd Q0.o)).mono ?_;rintro e w2 ⟨a1,c1,rfl,ho,hb⟩;exact⟨_,rfl,hb,⟨a1,c1,rfl,zw ho hG.size⟩,yn,hG.trans (hb.mono hG.size)⟩
      ·obtain⟨d0,-⟩:=hd;have d0:∃(az:uQ) (cz:Nat),(ρ (.tmp 57))= .agg #[uy x.state,uy x.owner,uy x.value,.slice az q.n cz]/\w1.ownsRow u2.heap.size 3 1 (.slice az q.n cz) q.n (zf x.waits):=d0;obtain⟨b0,c0,d0,ho⟩:=d0;have hb:xW w1 (w1.alloc (.cells #[uy x.state,uy x.owner,uy x.value,.slice b0 q.n c0] 81)):=zY;refine zh (u:= .slice (some ⟨w1.heap.size,0,none⟩) 1 1) (w':=w1.alloc (.cells #[uy x.state,uy x.owner,uy x.value,.slice b0 q.n c0] 81)) (by go_simp) ⟨hb,⟨_,b0,c0,rfl,zm.new _ _ _,zl ho hb⟩,yn,hG.alloc hG.size _⟩
     intro w2 hG;refine yv ?_;intro A0 u0 H0 v0;obtain⟨gz,az,cz,rfl,kL,ho⟩:=v0;have hq:Xm (zO (vp w G V v)++V.blks) w2 x ⟨az,q.n,cz⟩:=by
      have h9:=h3.apart (yy.of_owns ho yk);show yc _ _ _ _ x.waits.length;rw[<-a0.out];exact h9
     have q0:=HN.on1 (x:=x) (q:=⟨az,q.n,cz⟩) (jT.lower (yy.of_owns ho yk).new h3.bel.size);have h4:=h3.call hG;have HQ:=zd hq;clear hq hG h3 u0 g0 g1 g2 g3;go_wp2_with (at_builtin;refine h4.app_on rfl _ _ rfl rfl rfl (Rd.of_blk kL) HQ.o (jQ r0.out) ?_;intro r W5 h5;have co:=h5.c9 0 rfl;have h6:=(h5.set 0 rfl 3 r.val).sub (l':=vp w G {V with on:=r} v) (.refl _))
     go_roundw
     case rel=>exact⟨k+1,_,_,jq,by go_num,by
      have e:xU s v.se.n (k+1) 0 0 0={xU s v.se.n k 0 0 0 with onces:=s.onces.take k++[x]}:=by unfold xU;rw[HP.o]
      rw[e];exact h6,q0⟩
     case measure=>exact uq
    ·obtain rfl:k=v.on.n:=jq;clear s0 hk;go_wp2;clear cs
     go_loopw [6] (λi wr=>∃(k:Nat) (V:zu) (M:zQ),k<=v.gr.n/\i=uy k/\Sf w wr (vp w G V v) V M (xU s v.se.n v.on.n k 0 0)/\yz w.heap.size M) (λi _=>v.gr.n-(intOf i).toNat)
     case atStart=>exact⟨0,V,_,jq,rfl,h,HN⟩
     case round=>
      clear h HN;obtain⟨k,V,M,hk,rfl,h,HN⟩:=hrel;have cs:=h.c9 2 rfl;by_cases s0:k<v.gr.n
      ·have f0:k<s.groups.length:=by have:=k1.out;omega
       obtain⟨x,q,b1,o1,HX,ea,g0,g1,Q0,a0,I0⟩:=HS.o.at_gr (j:=k) f0;replace g0:=ze h.bel g0;replace g1:=ze h.bel g1;have o0:=zd ea;clear ea;have r0:uH (V.gr.n=k):=zd (by rw[h.st.ngr];show(s.groups.take k).length=k;rw[jO];omega);have HP:uH (s.groups.take (k+1)=s.groups.take k++[x]):=zd (by rw[HX.o];exact(xQ _ _ f0).symm);have i0:(0:Int)<=(k:Int):=jq;have i1:(k:Int)<(v.gr.n:Int):=jq;clear f0;go_upto_region 13 with fail;obtain⟨u2,hu⟩:∃u2:World,u2=wr:=⟨_,rfl⟩
       rw[<-hu] at h g0 g1⊢;clear hu cs;have h3:=h;clear h;apply xZ 18 [.k _,.k _,.k _,.k _,.k _,.k _,.k _,.k _,.r (Zl u2.heap.size 3 1),.k _,.k _,.k _,.k _,.k _,.k _,.r (Xi u2.heap.size 3 1 (q.n) (zf x.waits)),.r λdz uz wz=>∃(az:uQ) (cz:Nat),uz= .agg #[uy x.count,.slice az q.n cz]/\wz.ownsRow u2.heap.size 3 1 (.slice az q.n cz) q.n (zf x.waits),.r λdz uz wz=>∃(gz:Nat) (az:uQ) (cz:Nat),uz= .slice (some ⟨gz,0,none⟩) 1 1/\zm wz gz #[uy x.count,.slice az q.n cz] 87/\wz.ownsRow u2.heap.size 3 1 (.slice az q.n cz) q.n (zf x.waits)] ⟨Xr,Vj,λ_ _ _ _ hb ⟨a,c,e,h⟩=>⟨a,c,e,zl h hb⟩,λ_ _ _ _ hb ⟨g,a,c,e,h,h1⟩=>⟨g,a,c,e,h.below hb,zl h1 hb⟩,trivial⟩ ?s3 ?e3
       case s3=>
        repeat' apply And.intro
        all_goals first|trivial|(intro ρ w1 hG hfr hd;obtain⟨fc,ff⟩:=xu hfr;have f3:=hfr (.tmp 3) rfl;have f1:=hfr (.tmp 1) rfl;have f6:=hfr (.tmp 6) rfl;have F1:=h3.fr.call hG;have co:=F1.c9 0 rfl;have cs:=F1.c9 2 rfl;have g0:=ze hG g0;have g1:=ze hG g1)
        exact yj;exact yI;exact yj;exact yI;exact yj
        ·have d:ρ (.tmp _)=_:=hd.1;have d':ρ (.tmp _)=_:=hd.2.1;rw[o0.out] at d;exact yj
        exact yI;exact yI;exact VB;exact yj;exact yI;exact yj
        ·have d:ρ (.tmp _)=_:=hd.1;have d':ρ (.tmp _)=_:=hd.2.1;rw[o0.out] at d;exact yj
        exact yI;exact yI
        ·have d:ρ (.tmp _)=_:=hd.2.1;have N1:q.n<=1048576:=by rw[a0.out,HX.o];have:=HZ.o.qgr k;omega
         exact ky hG _ _ 23 rfl Tryz.underlying23 yb rfl jk hd.1 d (by rw[yG,a0.out,Nat.mul_one]) ((h3.fr.call hG).rd Q0.o) (yA x.waits) jq jk (λ_ _ h=>h)
        ·obtain⟨d0,d1,-⟩:=hd;have d0:ρ (.tmp 75)=_:=d0;have d1:∃(az:uQ) (cz:Nat),(ρ (.tmp 83))= .slice az q.n cz/\w1.ownsRow u2.heap.size 3 1 (.slice az q.n cz) q.n (zf x.waits)/\(q.n=0->cz=0):=d1;obtain⟨b0,c0,d1,ho,-⟩:=d1;exact Zh hG (by go_simp) ⟨b0,c0,rfl,ho⟩ yn
        ·obtain⟨d0,-⟩:=hd;have d0:∃(az:uQ) (cz:Nat),(ρ (.tmp 84))= .agg #[uy x.count,.slice az q.n cz]/\w1.ownsRow u2.heap.size 3 1 (.slice az q.n cz) q.n (zf x.waits):=d0;obtain⟨b0,c0,d0,ho⟩:=d0;have hb:xW w1 (w1.alloc (.cells #[uy x.count,.slice b0 q.n c0] 87)):=zY;refine zh (u:= .slice (some ⟨w1.heap.size,0,none⟩) 1 1) (w':=w1.alloc (.cells #[uy x.count,.slice b0 q.n c0] 87)) (by go_simp) ⟨hb,⟨_,b0,c0,rfl,zm.new _ _ _,zl ho hb⟩,yn,hG.alloc hG.size _⟩
       intro w2 hG;refine yv ?_;intro H0 v0 G0 t0 V1 T0 X1 U0;obtain⟨gz,az,cz,rfl,kL,ho⟩:=U0;have hq:JK (zO (vp w G V v)++V.blks) w2 x ⟨az,q.n,cz⟩:=by
        have h9:=h3.apart (yy.of_owns ho yk);show yc _ _ _ _ x.waits.length;rw[<-a0.out];exact h9
       have q0:=HN.gr1 (x:=x) (q:=⟨az,q.n,cz⟩) (jT.lower (yy.of_owns ho yk).new h3.bel.size);have h4:=h3.call hG;have HQ:=zd hq;clear hq hG h3 T0 g0 g1;go_wp2_with (at_builtin;refine h4.app_gr rfl _ _ rfl rfl rfl (Rd.of_blk kL) HQ.o (jQ r0.out) ?_;intro r W5 h5;have co:=h5.c9 0 rfl;have h6:=(h5.set 0 rfl 4 r.val).sub (l':=vp w G {V with gr:=r} v) (.refl _))
       go_roundw
       case rel=>exact⟨k+1,_,_,jq,by go_num,by
        have e:xU s v.se.n v.on.n (k+1) 0 0={xU s v.se.n v.on.n k 0 0 with groups:=s.groups.take k++[x]}:=by unfold xU;rw[HP.o]
        rw[e];exact h6,q0⟩
       case measure=>exact uq
      ·obtain rfl:k=v.gr.n:=jq;clear s0 hk;go_wp2;clear cs
       go_loopw [7] (λi wr=>∃(k:Nat) (V:zu) (M:zQ),k<=v.ba.n/\i=uy k/\Sf w wr (vp w G V v) V M (xU s v.se.n v.on.n v.gr.n k 0)/\yz w.heap.size M) (λi _=>v.ba.n-(intOf i).toNat)
       case atStart=>exact⟨0,V,_,jq,rfl,h,HN⟩
       case round=>
        clear h HN;obtain⟨k,V,M,hk,rfl,h,HN⟩:=hrel;have cs:=h.c9 2 rfl;by_cases s0:k<v.ba.n
        ·have f0:k<s.bars.length:=by have:=Z0.o;omega
         obtain⟨x,q,b1,o1,HX,ea,g0,g1,g2,Q0,a0,I0⟩:=HS.o.at_ba (j:=k) f0;replace g0:=ze h.bel g0;replace g1:=ze h.bel g1;replace g2:=ze h.bel g2;have o0:=zd ea;clear ea;have r0:uH (V.ba.n=k):=zd (by rw[h.st.nba];show(s.bars.take k).length=k;rw[jO];omega);have HP:uH (s.bars.take (k+1)=s.bars.take k++[x]):=zd (by rw[HX.o];exact(xQ _ _ f0).symm);have i0:(0:Int)<=(k:Int):=jq;have i1:(k:Int)<(v.ba.n:Int):=jq;clear f0;have ea:=o0.out;rw[ea] at cs;have h2:=h.alloc #[uy x.parties,uy x.round,.slice q.a q.n q.c] 93;have cx:=h2.c3 0 rfl;go_upto_region 18 with fail;obtain⟨u2,hu,h3⟩:=h2.named;rw[<-hu];clear hu h2 h cx cs ea g0 g1 g2
         apply xZ 12 [.k _,.k _,.k _,.k _,.k _,.k _,.r (Zl u2.heap.size 3 1),.k _,.k _,.r (Xi u2.heap.size 3 1 (q.n) (zf x.waits)),.r λdz uz wz=>∃(az:uQ) (cz:Nat),uz= .agg #[uy x.parties,uy x.round,.slice az q.n cz]/\wz.ownsRow u2.heap.size 3 1 (.slice az q.n cz) q.n (zf x.waits),.r λdz uz wz=>∃(gz:Nat) (az:uQ) (cz:Nat),uz= .slice (some ⟨gz,0,none⟩) 1 1/\zm wz gz #[uy x.parties,uy x.round,.slice az q.n cz] 93/\wz.ownsRow u2.heap.size 3 1 (.slice az q.n cz) q.n (zf x.waits)] ⟨Xr,Vj,λ_ _ _ _ hb ⟨a,c,e,h⟩=>⟨a,c,e,zl h hb⟩,λ_ _ _ _ hb ⟨g,a,c,e,h,h1⟩=>⟨g,a,c,e,h.below hb,zl h1 hb⟩,trivial⟩ ?s4 ?e4
         case s4=>
          repeat' apply And.intro
          all_goals first|trivial|(intro ρ w1 hG hfr hd;obtain⟨fc,ff⟩:=xu hfr;have f3:=hfr (.tmp 3) rfl;have f8:=hfr (.tmp 8) rfl;have F1:=h3.fr.call hG;have co:=F1.c9 1 rfl;have cx:=F1.c3 0 rfl;clear F1)
          exact yj;exact yI;exact yj;exact yI;exact yj;exact yI;exact VB;exact yj;exact yI
          ·have d:ρ (.tmp _)=_:=hd.2.1;have N1:q.n<=1048576:=by rw[a0.out,HX.o];have:=HZ.o.qba k;omega
           exact ky hG _ _ 23 rfl Tryz.underlying23 yb rfl jk hd.1 d (by rw[yG,a0.out,Nat.mul_one]) ((h3.fr.call hG).rd Q0.o) (yA x.waits) jq jk (λ_ _ h=>h)
          ·obtain⟨d0,d1,d2,-⟩:=hd;have d0:ρ (.tmp 103)=_:=d0;have d1:ρ (.tmp 105)=_:=d1;have d2:∃(az:uQ) (cz:Nat),(ρ (.tmp 109))= .slice az q.n cz/\w1.ownsRow u2.heap.size 3 1 (.slice az q.n cz) q.n (zf x.waits)/\(q.n=0->cz=0):=d2;obtain⟨b0,c0,d2,ho,-⟩:=d2;exact Zh hG (by go_simp) ⟨b0,c0,rfl,ho⟩ yn
          ·obtain⟨d0,-⟩:=hd;have d0:∃(az:uQ) (cz:Nat),(ρ (.tmp 110))= .agg #[uy x.parties,uy x.round,.slice az q.n cz]/\w1.ownsRow u2.heap.size 3 1 (.slice az q.n cz) q.n (zf x.waits):=d0;obtain⟨b0,c0,d0,ho⟩:=d0;have hb:xW w1 (w1.alloc (.cells #[uy x.parties,uy x.round,.slice b0 q.n c0] 93)):=zY;refine zh (u:= .slice (some ⟨w1.heap.size,0,none⟩) 1 1) (w':=w1.alloc (.cells #[uy x.parties,uy x.round,.slice b0 q.n c0] 93)) (by go_simp) ⟨hb,⟨_,b0,c0,rfl,zm.new _ _ _,zl ho hb⟩,yn,hG.alloc hG.size _⟩
         intro w2 hG;refine yv ?_;intro I1 G1 J1 H1 D0 y0 n0 k0;obtain⟨gz,az,cz,rfl,kL,ho⟩:=k0;have hq:Qj (zO (.blk wr.heap.size #[uy x.parties,uy x.round,.slice q.a q.n q.c] 93::vp w G V v)++V.blks) w2 x ⟨az,q.n,cz⟩:=by
          have h9:=h3.apart (yy.of_owns ho yk);show yc _ _ _ _ x.waits.length;rw[<-a0.out];exact h9
         have q0:=HN.ba1 (x:=x) (q:=⟨az,q.n,cz⟩) (jT.lower (yy.of_owns ho yk).new h3.bel.size);have h4:=h3.call hG;have HQ:=zd hq;clear hq hG h3 y0;go_wp2_with (at_builtin;refine h4.app_ba rfl _ _ rfl rfl rfl (Rd.of_blk kL) HQ.o (jQ r0.out) ?_;intro r W5 h5;have co:=h5.c9 1 rfl;have h6:=(h5.set 1 rfl 5 r.val).sub (l':=vp w G {V with ba:=r} v) (.cons _ (.refl _)))
         go_roundw
         case rel=>exact⟨k+1,_,_,jq,by go_num,by
          have e:xU s v.se.n v.on.n v.gr.n (k+1) 0={xU s v.se.n v.on.n v.gr.n k 0 with bars:=s.bars.take k++[x]}:=by unfold xU;rw[HP.o]
          rw[e];exact h6,q0⟩
         case measure=>exact uq
        ·obtain rfl:k=v.ba.n:=jq;clear s0 hk;go_wp2;clear cs
         go_loopw [9] (λi wr=>∃(k:Nat) (V:zu) (M:zQ),k<=v.ch.n/\i=uy k/\Sf w wr (vp w G V v) V M (xU s v.se.n v.on.n v.gr.n v.ba.n k)/\yz w.heap.size M) (λi _=>v.ch.n-(intOf i).toNat)
         case atStart=>exact⟨0,V,_,jq,rfl,h,HN⟩
         case round=>
          clear h HN;obtain⟨k,V,M,hk,rfl,h,HN⟩:=hrel;have cs:=h.c9 2 rfl;by_cases s0:k<v.ch.n
          ·have f0:k<s.chans.length:=by have:=j1.out;omega
           obtain⟨x,q,b1,o1,HX,ea,g0,g1,g2,g3,g4,Q0,a0,I0,Q1,N0,f2,Q2,O0,i2⟩:=HS.o.at_ch (j:=k) f0;replace g0:=ze h.bel g0;replace g1:=ze h.bel g1;replace g2:=ze h.bel g2;replace g3:=ze h.bel g3;replace g4:=ze h.bel g4;have o0:=zd ea;clear ea;have r0:uH (V.ch.n=k):=zd (by rw[h.st.nch];show(s.chans.take k).length=k;rw[jO];omega);have HP:uH (s.chans.take (k+1)=s.chans.take k++[x]):=zd (by rw[HX.o];exact(xQ _ _ f0).symm);have i0:(0:Int)<=(k:Int):=jq;have i1:(k:Int)<(v.ch.n:Int):=jq;clear f0;go_upto_region 22 with fail;obtain⟨u2,hu⟩:∃u2:World,u2=wr:=⟨_,rfl⟩
           rw[<-hu] at h g0 g1 g2 g3 g4⊢;clear hu cs;have h3:=h;clear h;apply xZ 9 [.k _,.k _,.k _,.k _,.k _,.k _,.k _,.r λdz uz wz=>∃(bi bs bg:uQ) (di ds dg:Nat),uz= .agg #[uy x.room,.slice bi q.1.n di,.slice bs q.2.1.n ds,.slice bg q.2.2.n dg,.bool x.closed]/\wz.ownsRow u2.heap.size 3 1 (.slice bi q.1.n di) q.1.n (zf x.items)/\wz.ownsRow u2.heap.size 154 2 (.slice bs q.2.1.n ds) q.2.1.n (zK x.senders)/\wz.ownsRow u2.heap.size 3 1 (.slice bg q.2.2.n dg) q.2.2.n (zf x.getters),.r λdz uz wz=>∃(gz:Nat) (bi bs bg:uQ) (di ds dg:Nat),uz= .slice (some ⟨gz,0,none⟩) 1 1/\zm wz gz #[uy x.room,.slice bi q.1.n di,.slice bs q.2.1.n ds,.slice bg q.2.2.n dg,.bool x.closed] 98/\wz.ownsRow u2.heap.size 3 1 (.slice bi q.1.n di) q.1.n (zf x.items)/\wz.ownsRow u2.heap.size 154 2 (.slice bs q.2.1.n ds) q.2.1.n (zK x.senders)/\wz.ownsRow u2.heap.size 3 1 (.slice bg q.2.2.n dg) q.2.2.n (zf x.getters)] ⟨λ_ _ _ _ hb ⟨a,b,c,d1,d2,d3,e,h1,h2,h3⟩=>⟨a,b,c,d1,d2,d3,e,zl h1 hb,zl h2 hb,zl h3 hb⟩,λ_ _ _ _ hb ⟨g,a,b,c,d1,d2,d3,e,h,h1,h2,h3⟩=>⟨g,a,b,c,d1,d2,d3,e,h.below hb,zl h1 hb,zl h2 hb,zl h3 hb⟩,trivial⟩ ?s5 ?e5
           case s5=>
            repeat' apply And.intro
            all_goals first|trivial|(intro ρ w1 hG hfr hd;obtain⟨fc,ff⟩:=xu hfr;have f3:=hfr (.tmp 3) rfl;have f1:=hfr (.tmp 1) rfl;have f9:=hfr (.tmp 9) rfl;have F1:=h3.fr.call hG;have co:=F1.c9 0 rfl;have cs:=F1.c9 2 rfl;have g0:=ze hG g0;have g1:=ze hG g1;have g2:=ze hG g2;have g3:=ze hG g3;have g4:=ze hG g4)
            exact yj;exact yI;exact yj;exact yI;exact yj
            ·have d:ρ (.tmp _)=_:=hd.1;have d':ρ (.tmp _)=_:=hd.2.1;rw[o0.out] at d;exact yj
            exact yI
            ·obtain⟨d0,-⟩:=hd;have d0:ρ (.tmp 127)=_:=d0;refine zU (by go_simp;exact⟨⟨rfl,rfl⟩,rfl⟩) ?_;refine(ZM x q.1.a q.2.1.a q.2.2.a q.1.n q.1.c q.2.1.n q.2.1.c q.2.2.n q.2.2.c _ a0.out.symm N0.o.symm O0.o.symm (by rw[a0.out,HX.o];exact(HZ.o.qch k).1) (by rw[N0.o,HX.o];exact(HZ.o.qch k).2.1) (by rw[O0.o,HX.o];exact(HZ.o.qch k).2.2) ((h3.fr.call hG).rd Q0.o) ((h3.fr.call hG).rd Q1.o) ((h3.fr.call hG).rd Q2.o)).mono ?_;rintro e w2 ⟨bi,bs,bg,di,ds,dg,rfl,FC⟩;have o1:=FC.own 0 rfl;have o2:=FC.own 1 rfl;have o3:=FC.own 2 rfl;have hb:=FC.bel;exact⟨_,rfl,hb,⟨bi,bs,bg,di,ds,dg,rfl,zw o1 hG.size,zw o2 hG.size,zw o3 hG.size⟩,yn,hG.trans (hb.mono hG.size)⟩
            ·obtain⟨d0,-⟩:=hd;have d0:∃(bi bs bg:uQ) (di ds dg:Nat),(ρ (.tmp 128))= .agg #[uy x.room,.slice bi q.1.n di,.slice bs q.2.1.n ds,.slice bg q.2.2.n dg,.bool x.closed]/\w1.ownsRow u2.heap.size 3 1 (.slice bi q.1.n di) q.1.n (zf x.items)/\w1.ownsRow u2.heap.size 154 2 (.slice bs q.2.1.n ds) q.2.1.n (zK x.senders)/\w1.ownsRow u2.heap.size 3 1 (.slice bg q.2.2.n dg) q.2.2.n (zf x.getters):=d0;obtain⟨bi,bs,bg,di,ds,dg,d0,o1,o2,o3⟩:=d0;have hb:xW w1 (w1.alloc (.cells #[uy x.room,.slice bi q.1.n di,.slice bs q.2.1.n ds,.slice bg q.2.2.n dg,.bool x.closed] 98)):=zY;refine zh (u:= .slice (some ⟨w1.heap.size,0,none⟩) 1 1) (w':=w1.alloc (.cells #[uy x.room,.slice bi q.1.n di,.slice bs q.2.1.n ds,.slice bg q.2.2.n dg,.bool x.closed] 98)) (by go_simp) ⟨hb,⟨_,bi,bs,bg,di,ds,dg,rfl,zm.new _ _ _,zl o1 hb,zl o2 hb,zl o3 hb⟩,yn,hG.alloc hG.size _⟩
           intro w2 hG;refine yv ?_;intro A0 u0 H0 v0;obtain⟨gz,bi,bs,bg,di,ds,dg,rfl,kL,o1,o2,o3⟩:=v0;have hq:Xp (zO (vp w G V v)++V.blks) w2 x (⟨bi,q.1.n,di⟩,⟨bs,q.2.1.n,ds⟩,⟨bg,q.2.2.n,dg⟩):=⟨by rw[<-a0.out];exact h3.apart (yy.of_owns o1 yk),by rw[<-N0.o];exact h3.apart (yy.of_owns o2 yk),by rw[<-O0.o];exact h3.apart (yy.of_owns o3 yk)⟩
           have q0:=HN.ch1 (x:=x) (q:=(⟨bi,q.1.n,di⟩,⟨bs,q.2.1.n,ds⟩,⟨bg,q.2.2.n,dg⟩)) ⟨jT.lower (yy.of_owns o1 yk).new h3.bel.size,jT.lower (yy.of_owns o2 yk).new h3.bel.size,jT.lower (yy.of_owns o3 yk).new h3.bel.size⟩;have h4:=h3.call hG;have HQ:=zd hq;clear hq hG h3 u0 g0 g1 g2 g3 g4;go_wp2_with (at_builtin;refine h4.app_ch rfl _ _ rfl rfl rfl (Rd.of_blk kL) HQ.o (jQ r0.out) ?_;intro r W5 h5;have co:=h5.c9 0 rfl;have h6:=(h5.set 0 rfl 6 r.val).sub (l':=vp w G {V with ch:=r} v) (.refl _))
           go_roundw
           case rel=>exact⟨k+1,_,_,jq,by go_num,by
            have e:xU s v.se.n v.on.n v.gr.n v.ba.n (k+1)={xU s v.se.n v.on.n v.gr.n v.ba.n k with chans:=s.chans.take k++[x]}:=by unfold xU;rw[HP.o]
            rw[e];exact h6,q0⟩
           case measure=>exact uq
          ·obtain rfl:k=v.ch.n:=jq;clear s0 hk;have co:=h.c9 0 rfl;have cr:=h.c9 1 rfl;have hp:xU s v.se.n v.on.n v.gr.n v.ba.n v.ch.n=s:=by rw[q1.out,l1.out,k1.out,Z0.o,j1.out];exact kt s
           rw[hp] at h;have h7:=h.setV 1 rfl V;go_wp2;exact zM (v:=V.val) (by simp[results,Tryz.results103,go_sem,h7.c9 1 rfl]) rfl ⟨V,M,rfl,h7.st.sub jv,HN,h7.bel⟩
end Go.Proofs.YtfclolgfegdfjaaGreat
