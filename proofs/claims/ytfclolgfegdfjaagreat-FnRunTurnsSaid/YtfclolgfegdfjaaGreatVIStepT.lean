/- Part of a proof: IStepT. -/
import Derived.Test.YtfclolgfegdfjaaGreatVPIFit
set_option maxRecDepth 100000
set_option maxHeartbeats 16000000
namespace Go.Proofs.YtfclolgfegdfjaaGreat
open Go.RowKit
theorem fV (u:PV) (v:zu) (w:World):(Instr.build 66 #[(0,.agg (zF u)),(1,v.val)]).run Tryz.prog w= .ok (.agg (mC u v false)) w:=run_build w 66 _ _ (by kernel_rfl)
theorem Uj (u:PV) (p:Pg) (v:zu) (L:zQ) (s:zp) (t:Int) (w:World) (hp:yK w u p) (hr:yZ w v L s) (hf:xF p s) (ht:t∈zq s):
  Calls Tryz.prog 28 #[.agg (zF u),v.val,uy t] w λe w'=>∃(v':zu) (L':zQ),e= .returned (.tuple #[v'.val,.bool true])/\yr [] w.heap.size w' v' L' (zJ p s t)/\yz w.heap.size L'/\xW w w':=by
 have HS:=zd hr;have HP:=zd hp;have HR:=zd hf;have HF:=zd hf.fits;have HT:=zd (hf.fits.turn ht);have HZ:=zd hf.fits.sm;have b3:=zd ht;have r8:(zq s).length<=8/\s.status.length<=8:=by
  have h1:=hf.fits.nst;have h2:=(yf hf.fits.prog).2.2.2.2.1;refine⟨?_,jq⟩;rw[vh];split
  ·have:=vW s s.status.length;omega
  ·simp
 clear hr hp hf ht;have F:=(((Fr.start w).alloc (zF u) 26).alloc (yN v) 38).alloc zC 38;simp only[yY] at F;have cs:=F.c9 1 rfl;have cp:=F.c5 2 rfl;go_enter Tryz.func28,Tryz.ntmps28;go_wp2_with fail;refine(qE u p v L s _ (HP.o.below F.bel) (HS.o.below F.bel) HF.o).mono ?_;rintro e w1 ⟨rfl,hb⟩;replace F:=F.call hb;replace cs:=F.c9 1 rfl;replace cp:=F.c5 2 rfl;clear hb;clear cp;go_wp2_with fail;refine(uY v L s _ (HS.o.below F.bel) r8.2).mono ?_;rintro e w1 ⟨a1,c1,rfl,ho,hb⟩;have F2:=F.row hb ho;clear hb ho F cs;go_wp2_with fail;refine(jK a1 _ c1 (zq s) t _ rfl (by have:=r8.1;unfold maxLen;omega) (F2.rdRow 0 rfl)).mono ?_;rintro e wz ⟨rfl,hw⟩;obtain rfl:=hw;rw[kf b3.out];replace F:=F2.sub (.cons _ (.refl _));clear F2 r8;go_upto_region 3 with fail;obtain⟨u1,hu,F0⟩:=F.named;rw[<-hu];clear hu F;have F:=F0;clear F0;go_wp2_with fail
 apply xZ 5 [.k _,.k _,.r λdz uz wz=>∃(v':zu) (L':zQ),uz=v'.val/\yr [] u1.heap.size wz v' L' s/\yz u1.heap.size L',.r λdz uz wz=>∃(v':zu) (L':zQ),uz= .agg (mC u v' false)/\yr [] u1.heap.size wz v' L' s/\yz u1.heap.size L',.r λdz uz wz=>∃(M:Nat) (v':zu) (L':zQ),uz= .pointer (some ⟨M,0,none⟩)/\Sf w wz (.blk M (mC u v' false) 66::JO w u v zC) v' L' s] ⟨λ_ _ _ _ hb ⟨v',L',e,h,hn⟩=>⟨v',L',e,h.below hb,hn⟩,λ_ _ _ _ hb ⟨v',L',e,h,hn⟩=>⟨v',L',e,h.below hb,hn⟩,λ_ _ _ _ hb ⟨M,v',L',e,h⟩=>⟨M,v',L',e,h.call hb⟩,trivial⟩ ?s1 ?e1
 case s1=>
  repeat' apply And.intro
  all_goals first|trivial|(intro ρ w1 hG hfr hd;obtain⟨fc,ff⟩:=xu hfr;have f3:=hfr (.tmp 3) rfl;have f4:=hfr (.tmp 4) rfl;have F1:=F.call hG;have cs:=F1.c9 1 rfl;have cp:=F1.c5 2 rfl;clear F1)
  exact yj;exact yj
  ·obtain⟨d0,-⟩:=hd;have d0:ρ (.tmp 59)=_:=d0;refine zU (by go_simp;exact⟨⟨rfl,rfl⟩,rfl⟩) ?_;refine(Xf v L s _ ((HS.o.below F.bel).below hG) HZ.o).mono ?_;rintro e w2 ⟨v',L',rfl,ho,hn,hb⟩;exact⟨_,rfl,hb,⟨v',L',rfl,ho.lower hG.size,yz.lower hn hG.size⟩,yn,hG.trans (hb.mono hG.size)⟩
  ·obtain⟨d0,d1,-⟩:=hd;have d0:ρ (.tmp 58)=_:=d0;have d1:∃(v':zu) (L':zQ),(ρ (.tmp 60))=v'.val/\yr [] u1.heap.size w1 v' L' s/\yz u1.heap.size L':=d1;obtain⟨v',L',d1,ho,hn⟩:=d1;have E3:=fV u v' w1;exact Zh hG (by go_simp) ⟨v',L',rfl,ho,hn⟩ yn
  ·obtain⟨d0,-⟩:=hd;have d0:∃(v':zu) (L':zQ),(ρ (.tmp 61))= .agg (mC u v' false)/\yr [] u1.heap.size w1 v' L' s/\yz u1.heap.size L':=d0;obtain⟨v',L',d0,ho,hn⟩:=d0;have h9:=(Sf.gain F ho hn hG).alloc (mC u v' false) 66;refine zh (u:= .pointer (some ⟨w1.heap.size,0,none⟩)) (w':=w1.alloc (.cells (mC u v' false) 66)) (by go_simp) ⟨zY,⟨_,v',L',rfl,h9⟩,yn,hG.alloc hG.size _⟩
 intro w2 hG;refine yv ?_;intro H3 q3 I3 r3 J3 t3;obtain⟨M,v',L',rfl,h⟩:=t3;clear q3 r3 F hG;have o3:=HT.o.rg;have U1:=HT.o.lt;have U2:=HT.o.ge;obtain⟨j,rfl⟩:∃j:Nat,t=(j:Int):=⟨t.toNat,jq⟩
 have hj:j<p.threads.length:=jq;rw[show((j:Int)).toNat=j from rfl] at U1 U2;rw[qW] at U1;obtain⟨bt,ot,et,X1⟩:=HP.o.thr jq;obtain⟨a2,c2,ct,r2⟩:=X1 j hj;obtain⟨bp,op,ep,gp⟩:=HS.o.pl.rd.int (by rw[HF.o.np];omega);replace gp:=gp j (by rw[HF.o.np];exact hj);obtain⟨i,hi⟩:∃i:Nat,s.places.getD j 0=(i:Int):=⟨(s.places.getD j 0).toNat,jq⟩
 rw[hi] at gp U1;obtain⟨m,hm⟩:=jy ((p.threads.getD j []).length);rw[<-hm] at U1 ct;have F3:i<m:=jq;obtain⟨b2,o2,rfl,g'⟩:=r2.op jq;obtain⟨g0,g1,g2⟩:=g' i jq;have X2:(p.threads.getD j []).getD i qf=ya p s j:=by unfold ya vJ;rw[show((j:Int)).toNat=j from rfl,hi];rfl
 rw[X2] at g0 g1 g2;have D1:=HF.o.opv HT.o;obtain⟨⟨kd,on,ar⟩,ho⟩:∃o,o=ya p s j:=⟨_,rfl⟩
 rw[<-ho] at g0 g1 g2 D1;have HO:=zd ho;have E0:=zd D1;dsimp only at g0 g1 g2;replace ct:=ze h.fr.bel ct;replace gp:=ze h.fr.bel gp;replace g0:=ze h.fr.bel g0;replace g1:=ze h.fr.bel g1;replace g2:=ze h.fr.bel g2;have k0:(0:Int)<=(j:Int):=jq;have k1:(j:Int)<(u.nt:Int):=by rw[<-HP.o.lt];omega
 have k2:(j:Int)<(v.pl.n:Int):=by rw[HS.o.pl.len,HF.o.np];omega
 have k3:(j:Int)<(v.st.n:Int):=by rw[HS.o.st.len,HF.o.nst];omega
 have k4:(i:Int)<(m:Int):=jq;have k5:(0:Int)<=(i:Int):=jq;have m8:m<=8:=by rw[hm];exact(yf HF.o.prog).2.2.2.2.2 j
 have ET:=zd et;have EP:=zd ep;clear o3 U2 U1 X1 r2 g' X2 ho D1 et ep hi hm hj;obtain⟨u2,rfl⟩:=jy w2;go_wp2_with fail;apply xZ 13 [.k _,.k _,.k _,.k _,.k _,.k _,.k _,.k _,.k _,.k _,.k _,.k _,.r λdz uz wz=>∃gz:Nat,uz= .pointer (some ⟨gz,0,none⟩)/\zm wz gz #[uy 0,uy 0,uy 0] 68/\u2.heap.size<=gz] ⟨λ_ _ _ _ hb ⟨g,e,h,hs⟩=>⟨g,e,h.below hb,hs⟩,trivial⟩ ?s2 ?e2
 case s2=>
  repeat' apply And.intro
  all_goals first|trivial|(intro ρ w1 hG hfr hd;obtain⟨fc,ff⟩:=xu hfr;have f3:=hfr (.tmp 3) rfl;have f2:=hfr (.tmp 2) rfl;have f4:=hfr (.tmp 4) rfl;have F1:=h.fr.call hG;have cs:=F1.c9 2 rfl;have cp:=F1.c5 3 rfl;have ct:=(λ_=>ze hG ct) F1;have gp:=(λ_=>ze hG gp) F1;have g0:=(λ_=>ze hG g0) F1;have g1:=(λ_=>ze hG g1) F1;have g2:=(λ_=>ze hG g2) F1;clear F1)
  exact yj;exact yI;exact yj
  ·have d:ρ (.tmp _)=_:=hd.1;have d':ρ (.tmp _)=_:=hd.2.1;rw[ET.o] at d;exact yj
  exact yI;exact yj;exact yI;exact yj
  ·have d:ρ (.tmp _)=_:=hd.1;have d':ρ (.tmp _)=_:=hd.2.1;rw[EP.o] at d;exact yj
  exact yI;exact Gu;exact yI
  ·refine zh (u:= .pointer (some ⟨w1.heap.size,0,none⟩)) (w':=w1.alloc (.cells #[uy 0,uy 0,uy 0] 68)) (by go_simp) ⟨zY,⟨_,rfl,zm.new _ _ _,hG.size⟩,yn,hG.alloc hG.size _⟩
 intro w2 hG;refine yv ?_;intro C3 J2;obtain⟨bo,rfl,kO,S2⟩:=J2;replace h:=h.more hG (i:= .blk bo #[uy 0,uy 0,uy 0] 68) ⟨S2,kO⟩;have co:=h.c3 0 rfl;have h2:=h.set3 0 rfl (uy kd) (uy on) (uy ar);clear ct gp g0 g1 g2 hG kO S2;go_upto_region 5 with fail;obtain⟨W,hw,h3⟩:=h2.named;rw[<-hw];clear hw h2 h co;have G3:∀(fn:Fn) (first cap:Array Value) (w:World),(Instr.makeFunc fn first cap).run Tryz.prog w= .ok (.func fn first cap) w:=λ_ _ _ _=>rfl;have co:=h3.c3 0 rfl;go_upto_region 7 with fail;clear co;have hk:=K5 E0.o;have h:Sf w W (.blk M (mC u v' false) 66:: .blk bo #[uy kd,uy on,uy ar] 68::JO w u v zC) v' L' s:=h3.pull 1 rfl;clear h3;have P8:uH (0<s.places.length/\s.places.length<=8/\s.places.length=s.status.length):=zd (by have h1:=HF.o.np;have h2:=HF.o.nst;have:=(yf HF.o.prog).2.2.2.2.1;omega);have r0:uH (∀i,0<=s.places.getD i 0/\s.places.getD i 0<=8):=zd (λi=>HF.o.place_le i);have TT:uH (0<=(j:Int)/\(j:Int)<p.threads.length/\(j:Int)<s.places.length):=zd (by have h1:=HF.o.np;have h2:=HP.o.lt;omega);have t1:uH (xF p (zJ p s j)):=zd (HR.o.step HT.o);have q0:=zd (vx HF.o.prog HP.o);dsimp only at hk;have T6:uH (0<=(j:Int)/\(j:Int)<6):=zd (by have:=TT.o;have:=(yf HF.o.prog).2.2.2.2.1;omega)
 have N1:uH ((j:Int)∉oT s\/kd=4):=zd (by
  rcases HT.o.st with ⟨-,h1⟩|⟨-,h1,-⟩
  ·exact .inl h1
  ·rw[<-HO.o] at h1;exact .inr h1)
 have j3:kd=1\/kd=2\/kd=3\/kd=4\/kd=5\/kd=6\/kd=7\/kd=8\/kd=9\/kd=10:=jq;clear hk;rcases j3 with rfl|rfl|rfl|rfl|rfl|rfl|rfl|rfl|rfl|rfl
 focus
  have HE:uH (zJ p s j=goAll p (sayIt s ar) [(j:Int)]):=zd (by unfold zJ;rw[<-HO.o];rfl);have A1:s.said.length<64:=by have h1:=HR.o.said;have h2:=HF.o.sum32;omega
  go_upto_region 8 with fail;have co:=h.fr.c3 1 rfl;go_wp2_with fail;refine(QZ w _ _ M u v' L' s false ar h A1).mono ?_;rintro e Wa ⟨rfl,r,h1⟩;clear h A1 co;have h2:=h1.alloc #[uy j] 3;have hw:yc (zu.blks {v' with sa:=r}) (World.alloc Wa (.cells #[uy j] 3)) ⟨some ⟨Wa.heap.size,0,none⟩,1,1⟩ (zf [(j:Int)]) [(j:Int)].length:=⟨rfl,Rd.of_blk (h2.fr.blk 0 rfl),.inr (λb hb hm=>by have h9:=(h1.st.from b hm).2;simp only[zj,qy] at hb;omega),Nat.le_refl _⟩
  go_wp2_with fail;refine(jl w _ _ M u p {v' with sa:=r} L' (sayIt s ar) false _ 1 1 [(j:Int)] (h2.pull 1 rfl) HP.o q0.out hw jv P8.o (λz S0=>by obtain rfl:=yh S0;exact TT.o) r0.out).mono ?_;rintro e Wb ⟨rfl,h3,-⟩;clear h2 hw h1;have h:=h3.sub (l':= .blk M (mC u {v' with sa:=r} false) 66:: .blk bo #[uy 1,uy on,uy ar] 68::JO w u v zC) (.cons_cons _ (.cons _ (.refl _)));clear h3;obtain⟨vv,a0⟩:∃x,x={v' with sa:=r}:=⟨_,rfl⟩
  rw[<-a0] at h;clear a0
 rotate_left
 focus
  obtain⟨o0,on1⟩:=qC E0.o;rw[show zN p (2:Int)=p.sems.length by unfold zN;rw[if_neg jq,if_pos (.inl rfl)]] at on1;dsimp only at o0 on1;obtain⟨i2,rfl⟩:∃z:Nat,on=z:=⟨on.toNat,jq⟩
  have hi:i2<s.sems.length:=by rw[HF.o.nse];omega
  have HI:=zd hi;obtain⟨x,q,b1,o1,HX,ea,g0,g1,g2,Q0,t0,v1⟩:=HS.o.at_se (j:=i2) hi;have b0:=zd (HF.o.se i2 hi);rw[<-HX.o] at b0;have j0:(0:Int)<=(i2:Int):=jq;have j1:(i2:Int)<(v.se.n:Int):=by rw[HS.o.se.len];omega
  have EA:=zd ea;replace g0:=ze h.fr.bel g0;replace g1:=ze h.fr.bel g1;replace g2:=ze h.fr.bel g2;clear hi ea o0 on1;have i0:=JC E0.o (.inl rfl);dsimp only at i0;rw[show((i2:Nat):Int).toNat=i2 from rfl,<-b0.out.2] at i0;have J1:=zd i0;have T0:(j:Int)∉oT s:=N1.o.resolve_right jk;have M1:uH ((j:Int)∉x.queue.map (·.1)):=zd (λhm=>by
   obtain⟨z,hz,e⟩:=yU.1 hm;exact HT.o.ne (yU.2 ⟨(z.1,2,((i2:Nat):Int),z.2),XN HI.o (by rw[<-HX.o];exact yU.2 ⟨z,hz,rfl⟩),e⟩))
  have HE:uH (zJ p s j=jh p (setSem s i2 (jB x j ar).1) j (jB x j ar).2):=zd (by
   unfold zJ;rw[<-HO.o,HX.o];rfl)
  obtain⟨YB,B2⟩:=jy (jB x j ar);have M2:=zd B2;rw[<-B2] at HE;obtain⟨Y,bb⟩:=YB;clear T0 i0 B2;go_upto_region 11 with fail;go_wp2_with fail;obtain⟨u3,rfl⟩:=jy W;apply Xc 17 9 3 1 3 74 (λu w=>∃(r:zP),u= .tuple #[.agg #[uy Y.free,uy Y.limit,.slice r.a r.n r.c],.bool bb,.bool true]/\yy u3 w r (zK Y.queue) Y.queue.length) [.k _,.k _,.k _,.k _,.k _,.k _,.k _,.k _,.k _] (λ_ _ _ hb ⟨r,e,m0⟩=>⟨r,e,m0.below hb⟩) (λ_ _ _ hT ⟨r,e,m0⟩=>⟨r,e,m0.ts hT jk⟩) (λ_ _ ⟨_,e,_⟩=>⟨_,e,rfl⟩) (λ_ _ ⟨_,e,_⟩=>⟨_,congrArg (λz=>ym z 0) e,rfl,rfl⟩) ?s3 ?e3
  case s3=>
   intro hM1 hM2
   repeat' apply And.intro
   all_goals first|trivial|(intro ρ w1 L hG hny hfr hd;obtain⟨fc,ff⟩:=xu hfr;have f4:=hfr (.tmp 4) rfl;have f9:=hfr (.tmp 9) rfl;have f2:=hfr (.tmp 2) rfl;have F1:=h.fr.call hG;have cs:=F1.c9 3 rfl;have co:=F1.c3 1 rfl;have g0:=(λ_=>ze hG g0) F1;have g1:=(λ_=>ze hG g1) F1;have g2:=(λ_=>ze hG g2) F1;clear F1)
   exact qI;exact vq;exact qI;exact vq
   ·have d:ρ (.tmp _)=_:=hd.1;have d':ρ (.tmp _)=_:=hd.2.1;rw[EA.o] at d;exact qI
   exact vq;exact qI;exact qI;exact vq
   ·obtain⟨d0,d1,d2,-⟩:=hd;have d0:ρ (.tmp 96)=_:=d0;have d1:ρ (.tmp 97)=_:=d1;have d2:ρ (.tmp 99)=_:=d2;refine Kr hG (by go_simp) (K7 x q.a q.n q.c j ar w1 t0.out.symm ((h.fr.call hG).rd Q0.o) b0.out.1 T6.o J1.o M1.o) ?_;rintro e w2 ⟨y,r,hy,rfl,hr,hb⟩;obtain rfl:y=Y:=by rw[hy,<-M2.o]
    have U0:(jB x j ar).2=bb:=(by rw[<-M2.o]);rw[U0];exact⟨_,rfl,hb,⟨r,rfl,hr.mono hG.size⟩⟩
   exact Kp;exact uU;exact uU;exact uU;exact Ky;exact Ke;exact Ug
  intro w2 hG;refine Yd ?_;intro u0 p1 u1 R0 e0 M0 e1 N0 e2 O0 al f1 so P0 X0 C0;obtain rfl:u1=u0:=R0.1;obtain rfl:e0=ym u1 0:=M0.1;obtain rfl:e1=ym u1 1:=N0.1;obtain rfl:e2=ym u1 2:=O0.1;obtain rfl:X0=ym u1 1:=C0;have kN:∃g,al= .pointer (some ⟨g,0,none⟩)/\zm w2 g (Qi (ym u1 0)) 74:=P0;obtain⟨K0,Z1,rfl,-,-,i1⟩:=f1;obtain⟨gA,eA,kN⟩:=kN;obtain rfl:K0=gA:=by simpa using eA
  clear R0 M0 N0 O0 P0 eA;obtain⟨r,rfl,D0⟩:=p1;replace kN:zm w2 K0 #[uy Y.free,uy Y.limit,.slice r.a r.n r.c] 74:=kN;simp only[vu,List.getD_cons_zero,List.getD_cons_succ];replace D0:=D0;have hq:Xn (zO (.blk M (mC u v' false) 66:: .blk bo #[uy 2,uy (i2:Int),uy ar] 68::JO w u v zC)++v'.blks) w2 Y r:=h.apart D0;replace h:=h.call hG;clear g0 g1 g2 hG D0;obtain⟨gt,eg,h0,j2,r1,h6,hP,A0,⟨y0,v0⟩,B0,⟨y1,z0⟩,I0,⟨y2,H0⟩⟩:=h.putf_se HI.o (x:=Y) (q:=r) hq;have EG:=zd eg;clear h0 hP;have qm:World.cell? _ ⟨M,7,none⟩=some (.slice v'.se.a v'.se.n v'.se.c):=h.fr.cell 0 7 rfl rfl;rw[EG.o] at qm;have co:=h.fr.c3 1 rfl;have n0:=kN.cell 0 rfl;have n1:=kN.cell 1 rfl;have n2:=kN.cell 2 rfl;clear eg;go_wp2;go_still_tail 9,(by kernel_rfl)
  go_upto_region 13 with fail;obtain⟨W3,hw,h7⟩:=h6.drew.named;rw[<-hw];clear h6 h hw kN co qm hq n0 A0 v0 n1 B0 z0 n2 I0 H0;replace HE:uH (zJ p s j=jh p {s with sems:=s.sems.set i2 Y} j bb):=zd HE.o;go_wp2_with fail;refine(vO w _ _ M u p v' _ _ false j bb h7 HP.o q0.out P8.o TT.o r0.out).mono ?_;rintro e Wb ⟨rfl,h⟩;clear h7;obtain⟨vv,a0⟩:=jy v';rw[<-a0] at h;clear a0
 rotate_left
 focus
  obtain⟨o0,on1⟩:=qC E0.o;rw[show zN p (3:Int)=p.sems.length by unfold zN;rw[if_neg jq,if_pos (.inr rfl)]] at on1;dsimp only at o0 on1;obtain⟨i2,rfl⟩:∃z:Nat,on=z:=⟨on.toNat,jq⟩
  have hi:i2<s.sems.length:=by rw[HF.o.nse];omega
  have HI:=zd hi;obtain⟨x,q,b1,o1,HX,ea,g0,g1,g2,Q0,t0,v1⟩:=HS.o.at_se (j:=i2) hi;have b0:=zd (HF.o.se i2 hi);rw[<-HX.o] at b0;have j0:(0:Int)<=(i2:Int):=jq;have j1:(i2:Int)<(v.se.n:Int):=by rw[HS.o.se.len];omega
  have EA:=zd ea;replace g0:=ze h.fr.bel g0;replace g1:=ze h.fr.bel g1;replace g2:=ze h.fr.bel g2;clear hi ea o0 on1;have i0:=JC E0.o (.inr rfl);dsimp only at i0;rw[show((i2:Nat):Int).toNat=i2 from rfl,<-b0.out.2] at i0;have J1:uH (1<=ar/\ar<=9):=zd (jQ b0.out.1.1);obtain⟨bb,U0⟩:=jy ((qP x ar).isSome);have L1:=zd U0;clear i0 U0;go_upto_region 15 with fail;go_wp2_with fail;obtain⟨u3,rfl⟩:=jy W;apply Xc 16 8 3 1 3 74 (λu w=>∃(y:xS) (r z:zP) (l:List Int),u= .tuple #[.agg #[uy y.free,uy y.limit,.slice r.a r.n r.c],.slice z.a z.n z.c,.bool bb]/\yy u3 w r (zK y.queue) y.queue.length/\w.ownsRow u3.heap.size 3 1 (.slice z.a z.n z.c) z.n (zf l)/\qP x ar=(if bb=true then some (y,l) else none)) [.k _,.k _,.k _,.k _,.k _,.k _,.k _,.k _] (λ_ _ _ hb ⟨y,r,z,l,e,m0,m1,m2⟩=>⟨y,r,z,l,e,m0.below hb,zl m1 hb,m2⟩) (λ_ _ _ hT ⟨y,r,z,l,e,m0,m1,m2⟩=>⟨y,r,z,l,e,m0.ts hT jk,XA m1 hT jk,m2⟩) (λ_ _ ⟨_,_,_,_,e,_⟩=>⟨_,e,rfl⟩) (λ_ _ ⟨_,_,_,_,e,_⟩=>⟨_,congrArg (λz=>ym z 0) e,rfl,rfl⟩) ?s4 ?e4
  case s4=>
   intro hM1 hM2
   repeat' apply And.intro
   all_goals first|trivial|(intro ρ w1 L hG hny hfr hd;obtain⟨fc,ff⟩:=xu hfr;have f4:=hfr (.tmp 4) rfl;have f9:=hfr (.tmp 9) rfl;have F1:=h.fr.call hG;have cs:=F1.c9 3 rfl;have co:=F1.c3 1 rfl;have g0:=(λ_=>ze hG g0) F1;have g1:=(λ_=>ze hG g1) F1;have g2:=(λ_=>ze hG g2) F1;clear F1)
   exact qI;exact vq;exact qI;exact vq
   ·have d:ρ (.tmp _)=_:=hd.1;have d':ρ (.tmp _)=_:=hd.2.1;rw[EA.o] at d;exact qI
   exact vq;exact qI;exact vq
   ·obtain⟨d0,d1,-⟩:=hd;have d0:ρ (.tmp 125)=_:=d0;have d1:ρ (.tmp 127)=_:=d1;refine Kr hG (by go_simp) (KN x q.a q.n q.c ar w1 t0.out.symm ((h.fr.call hG).rd Q0.o) b0.out.1 J1.o) ?_;rintro e w2 ⟨y,r,z,l,b,hy,rfl,hr,hz,-,hb⟩;obtain rfl:b=bb:=by rw[L1.o,hy];cases b<;>rfl
    exact⟨_,rfl,hb,⟨y,r,z,l,rfl,hr.mono hG.size,zw hz hG.size,hy⟩⟩
   exact Kp;exact uU;exact uU;exact uU;exact Ky;exact Ke;exact Ug
  intro w2 hG;refine Yd ?_;intro u0 p1 u1 R0 e0 M0 e1 N0 e2 O0 al f1 so P0 X0 C0;obtain rfl:u1=u0:=R0.1;obtain rfl:e0=ym u1 0:=M0.1;obtain rfl:e1=ym u1 1:=N0.1;obtain rfl:e2=ym u1 2:=O0.1;obtain rfl:X0=ym u1 1:=C0;have kN:∃g,al= .pointer (some ⟨g,0,none⟩)/\zm w2 g (Qi (ym u1 0)) 74:=P0;obtain⟨K0,Z1,rfl,-,-,i1⟩:=f1;obtain⟨gA,eA,kN⟩:=kN;obtain rfl:K0=gA:=by simpa using eA
  clear R0 M0 N0 O0 P0 eA;obtain⟨y,r,z,l,rfl,D0,z1,f0⟩:=p1;replace kN:zm w2 K0 #[uy y.free,uy y.limit,.slice r.a r.n r.c] 74:=kN;simp only[vu,List.getD_cons_zero,List.getD_cons_succ];have hu:yc v'.blks w2 z (zf l) l.length:=X8 h z1;have hq:Xn (zO (.blk M (mC u v' false) 66:: .blk bo #[uy 3,uy (i2:Int),uy ar] 68::JO w u v zC)++v'.blks) w2 y r:=h.apart D0;replace h:=h.call hG;clear g0 g1 g2 hG D0 z1
  cases bb
  ·clear hu hq kN;rw[if_neg jk] at f0;have HE:uH (zJ p s j=jt s 1):=zd (by
    unfold zJ;rw[<-HO.o];show doRel p s j ⟨3,((i2:Nat):Int),ar⟩=_;unfold doRel;dsimp only;rw[show((i2:Nat):Int).toNat=i2 from rfl,<-HX.o,f0])
   go_wp2_with fail;refine(Y7 (w.heap.size+1) 1 v L s _ (h.fr.blk 3 rfl) (HS.o.below h.bel) HF.o.sm).mono ?_;rintro e Wc ⟨v2,L2,rfl,ho,hn,hb⟩;have V0:=yz.lower hn h.bel.size;have g:=Sf.gain h.fr ho hn hb;clear ho hn hb h;have cz:=g.c9 2 rfl;have g2:=g.setV 2 rfl v2;go_wp2;exact zM (v:= .tuple #[v2.val,.bool true]) (by simp[results,Tryz.results28,go_sem,g2.c9 2 rfl]) rfl ⟨v2,L2,rfl,by rw[HE.o];exact g2.st.sub jv,V0,g2.bel⟩
  rw[if_pos rfl] at f0;have HE:uH (zJ p s j=goAll p (goAll p (setSem s i2 y) l) [(j:Int)]):=zd (by
   unfold zJ;rw[<-HO.o];show doRel p s j ⟨3,((i2:Nat):Int),ar⟩=_;unfold doRel;dsimp only;rw[show((i2:Nat):Int).toNat=i2 from rfl,<-HX.o,f0];exact YK p _ l [(j:Int)])
  have s0:uH (qG p s l):=zd (kV HF.o HI.o (m:=ar) (jQ J1.o) (by rw[<-HX.o];exact f0));have G0:uH (∀i,0<=(goAll p (setSem s i2 y) l).places.getD i 0/\(goAll p (setSem s i2 y) l).places.getD i 0<=8):=zd (tR (s:=s) t1.out.fits (λi=>(r0.out i).1) (λi=>(jj l (setSem s i2 y) i).1) (λi=>by rw[HE.o];exact(jj [(j:Int)] _ i).1));clear f0;obtain⟨gt,eg,h0,j2,r1,h6,hP,A0,⟨y0,v0⟩,B0,⟨y1,z0⟩,I0,⟨y2,H0⟩⟩:=h.putf_se HI.o (x:=y) (q:=r) hq;have EG:=zd eg;have c0:=(hu.touch hP (λb hb=>by obtain rfl:=yh hb;exact h0)).drew;clear h0 hP hu;have qm:World.cell? _ ⟨M,7,none⟩=some (.slice v'.se.a v'.se.n v'.se.c):=h.fr.cell 0 7 rfl rfl;rw[EG.o] at qm;have co:=h.fr.c3 1 rfl;have n0:=kN.cell 0 rfl;have n1:=kN.cell 1 rfl;have n2:=kN.cell 2 rfl;clear eg;go_wp2;go_still_tail 9,(by kernel_rfl)
  go_upto_region 19 with fail;obtain⟨W3,hw,h7⟩:=h6.drew.named;rw[<-hw];rw[<-hw] at c0;clear h6 h hw kN co qm hq n0 A0 v0 n1 B0 z0 n2 I0 H0;go_wp2_with fail;refine(jl w _ _ M u p v' _ _ false z.a z.n z.c l h7 HP.o q0.out c0 s0.out.1 P8.o s0.out.2 r0.out).mono ?_;rintro e Wt ⟨rfl,h8,-⟩;clear h7 c0;have h2:=h8.alloc #[uy j] 3;have hw:yc (zu.blks v') (World.alloc Wt (.cells #[uy j] 3)) ⟨some ⟨Wt.heap.size,0,none⟩,1,1⟩ (zf [(j:Int)]) [(j:Int)].length:=⟨rfl,Rd.of_blk (h2.fr.blk 0 rfl),.inr (λb hb hm=>by have h9:=(h8.st.from b hm).2;simp only[zj,qy] at hb;omega),Nat.le_refl _⟩
  go_wp2_with fail;refine(jl w _ _ M u p v' _ _ false _ 1 1 [(j:Int)] (h2.pull 1 rfl) HP.o q0.out hw jv (by rw[jn,vc];exact P8.o) (λz S0=>by obtain rfl:=yh S0;exact(by have:=TT.o;rw[jn];exact this)) G0.o).mono ?_;rintro e Wb ⟨rfl,h3,-⟩;clear h2 hw h8;have h:=h3.sub (l':= .blk M (mC u v' false) 66:: .blk bo #[uy 3,uy (i2:Int),uy ar] 68::JO w u v zC) (.cons_cons _ (.cons _ (.refl _)));clear h3;obtain⟨vv,a0⟩:=jy v';rw[<-a0] at h;clear a0
 rotate_left
 focus
  obtain⟨o0,on1⟩:=qC E0.o;rw[show zN p (4:Int)=3 by unfold zN;rw[if_neg jq,if_neg jq,if_pos rfl]] at on1;dsimp only at o0 on1;obtain⟨i2,rfl⟩:∃z:Nat,on=z:=⟨on.toNat,jq⟩
  have hi:i2<s.onces.length:=by rw[HF.o.non];omega
  have HI:=zd hi;obtain⟨x,q,b1,o1,HX,ea,g0,g1,g2,g3,Q0,t0,v1⟩:=HS.o.at_on (j:=i2) hi;have b0:=zd (HF.o.on i2 hi);rw[<-HX.o] at b0;have j0:(0:Int)<=(i2:Int):=jq;have j1:(i2:Int)<(v.on.n:Int):=by rw[HS.o.on.len];omega
  have EA:=zd ea;replace g0:=ze h.fr.bel g0;replace g1:=ze h.fr.bel g1;replace g2:=ze h.fr.bel g2;replace g3:=ze h.fr.bel g3;clear hi ea o0 on1;have J0:=JW E0.o (.inr (.inl rfl));dsimp only at J0;have HV:=zd J0;have I1:=HT.o.st;rw[<-HO.o] at I1;dsimp only at I1;obtain⟨bs,os,es,gs⟩:=HS.o.st.rd.int (jQ P8.o);replace gs:=gs j (jZ TT.o P8.o);obtain⟨sx,l2⟩:=jy (s.status.getD j 0);rw[<-l2] at gs;have Y1:=zd l2;replace gs:=ze h.fr.bel gs;rw[show((j:Nat):Int).toNat=j from rfl,<-l2] at I1;have k3:(j:Int)<(v.st.n:Int):=by rw[HS.o.st.len];have:=TT.o;have:=P8.o;omega
  have cs:=h.fr.c9 3 rfl;rw[es,EA.o] at cs;clear J0 es l2;go_upto_region 22 with fail;by_cases h2:sx=2
  focus
   subst h2;have how:=dy ((I1.resolve_left (λh=>absurd h.1 jk)).2.2);rw[<-HX.o] at how;have E2:=b0.out;have K2:=zd HX.o;clear HX b0 I1 k3;obtain⟨x0,x1,x2,ws⟩:=x;dsimp only at how;obtain⟨-,rfl,rfl⟩:=how;have p3:x2=0:=by
    rcases E2 with h|h|h
    ·exact absurd h.1 jv
    ·exact h.2.2.1
    ·exact absurd h.1 jv
   subst p3;have b0:=zd E2;clear E2;dsimp only at g0 g1 g2 g3 Q0 t0;have s0:uH (qG p s ws):=zd (by have:=GD HF.o HI.o;rw[<-K2.o] at this;exact this);go_upto_region 23 with fail;clear cs gs;go_wp2_with fail;obtain⟨u3,rfl⟩:=jy W;apply Xc 17 9 3 1 4 81 (λu w=>∃(z:zP),u= .tuple #[.agg #[uy 2,uy j,uy ar,uk],.slice z.a z.n z.c,.bool true]/\w.ownsRow u3.heap.size 3 1 (.slice z.a z.n z.c) z.n (zf ws)) [.k _,.k _,.k _,.k _,.k _,.k _,.k _,.k _,.k _] (λ_ _ _ hb ⟨z,e,m0⟩=>⟨z,e,zl m0 hb⟩) (λ_ _ _ hT ⟨z,e,m0⟩=>⟨z,e,XA m0 hT jk⟩) (λ_ _ ⟨_,e,_⟩=>⟨_,e,rfl⟩) (λ_ _ ⟨_,e,_⟩=>⟨_,congrArg (λz=>ym z 0) e,rfl,rfl⟩) ?s5 ?e5
   case s5=>
    intro hM1 hM2
    repeat' apply And.intro
    all_goals first|trivial|(intro ρ w1 L hG hny hfr hd;obtain⟨fc,ff⟩:=xu hfr;have f4:=hfr (.tmp 4) rfl;have f9:=hfr (.tmp 9) rfl;have f2:=hfr (.tmp 2) rfl;have F1:=h.fr.call hG;have cs:=F1.c9 3 rfl;have co:=F1.c3 1 rfl;have g0:=(λ_=>ze hG g0) F1;have g1:=(λ_=>ze hG g1) F1;have g2:=(λ_=>ze hG g2) F1;have g3:=(λ_=>ze hG g3) F1;clear F1)
    exact qI;exact vq;exact qI;exact vq
    ·have d:ρ (.tmp _)=_:=hd.1;have d':ρ (.tmp _)=_:=hd.2.1;rw[EA.o] at d;exact qI
    exact vq;exact qI;exact qI;exact vq
    ·obtain⟨d0,d1,d2,-⟩:=hd;have d0:ρ (.tmp 168)=_:=d0;have d1:ρ (.tmp 169)=_:=d1;have d2:ρ (.tmp 171)=_:=d2;refine Kr hG (by go_simp) (V4 ws q.a q.n q.c j ar w1 t0.out.symm ((h.fr.call hG).rd Q0.o) b0.out HV.o) ?_;rintro e w2 ⟨z,rfl,hz,hb⟩;exact⟨_,rfl,hb,⟨z,rfl,zw hz hG.size⟩⟩
    exact Kp;exact uU;exact uU;exact uU;exact Ky;exact Ke;exact Ug
   intro w2 hG;refine Yd ?_;intro u0 p1 u1 R0 e0 M0 e1 N0 e2 O0 al f1 so P0 X0 C0;obtain rfl:u1=u0:=R0.1;obtain rfl:e0=ym u1 0:=M0.1;obtain rfl:e1=ym u1 1:=N0.1;obtain rfl:e2=ym u1 2:=O0.1;obtain rfl:X0=ym u1 1:=C0;have kN:∃g,al= .pointer (some ⟨g,0,none⟩)/\zm w2 g (Qi (ym u1 0)) 81:=P0;obtain⟨K0,Z1,rfl,-,-,i1⟩:=f1;obtain⟨gA,eA,kN⟩:=kN;obtain rfl:K0=gA:=by simpa using eA
   clear R0 M0 N0 O0 P0 eA;obtain⟨z,rfl,D0⟩:=p1;replace kN:zm w2 K0 #[uy 2,uy j,uy ar,uk] 81:=kN;simp only[vu,List.getD_cons_zero,List.getD_cons_succ];have hu:yc v'.blks w2 z (zf ws) ws.length:=X8 h D0;have hq:Xm (zO (.blk M (mC u v' false) 66:: .blk bo #[uy 4,uy (i2:Int),uy ar] 68::JO w u v zC)++v'.blks) w2 ⟨2,(j:Int),ar,[]⟩ zR:=yc.nil _ _;replace h:=h.call hG;clear g0 g1 g2 g3 hG D0;have HE:uH (zJ p s j=goAll p (goAll p (setOnce s i2 ⟨2,(j:Int),ar,[]⟩) ws) [(j:Int)]):=zd (by
    unfold zJ;rw[<-HO.o];show doOnce p s j ⟨4,((i2:Nat):Int),ar⟩=_;unfold doOnce;dsimp only;rw[show((i2:Nat):Int).toNat=i2 from rfl,show((j:Nat):Int).toNat=j from rfl,<-Y1.o,if_pos rfl,<-K2.o];exact YK p _ ws [(j:Int)])
   have G0:uH (∀i,0<=(goAll p (setOnce s i2 ⟨2,(j:Int),ar,[]⟩) ws).places.getD i 0/\(goAll p (setOnce s i2 ⟨2,(j:Int),ar,[]⟩) ws).places.getD i 0<=8):=zd (tR (s:=s) t1.out.fits (λi=>(r0.out i).1) (λi=>(jj ws (setOnce s i2 ⟨2,(j:Int),ar,[]⟩) i).1) (λi=>by rw[HE.o];exact(jj [(j:Int)] _ i).1));obtain⟨gt,eg,h0,j2,r1,h6,hP,A0,⟨y0,v0⟩,B0,⟨y1,z0⟩,I0,⟨y2,H0⟩,Z0,⟨y3,Y0⟩⟩:=h.putf_on HI.o (x:=⟨2,(j:Int),ar,[]⟩) (q:=zR) hq;have EG:=zd eg;have c0:=(hu.touch hP (λb hb=>by obtain rfl:=yh hb;exact h0)).drew;rw[show zR.val=uk from rfl] at h6 c0;clear h0 hP hu;have qm:World.cell? _ ⟨M,8,none⟩=some (.slice v'.on.a v'.on.n v'.on.c):=h.fr.cell 0 8 rfl rfl;rw[EG.o] at qm;have co:=h.fr.c3 1 rfl;have n0:=kN.cell 0 rfl;have n1:=kN.cell 1 rfl;have n2:=kN.cell 2 rfl;have n3:=kN.cell 3 rfl;clear eg;go_wp2;go_still_tail 9,(by kernel_rfl)
   go_upto_region 25 with fail;obtain⟨W3,hw,h7⟩:=h6.drew.named;rw[<-hw];rw[<-hw] at c0;clear h6 h hw kN co qm hq n0 A0 v0 n1 B0 z0 n2 I0 H0 n3 Z0 Y0;go_wp2_with fail;refine(jl w _ _ M u p v' _ _ false z.a z.n z.c ws h7 HP.o q0.out c0 s0.out.1 P8.o s0.out.2 r0.out).mono ?_;rintro e Wt ⟨rfl,h8,-⟩;clear h7 c0;have h2:=h8.alloc #[uy j] 3;have hw:yc (zu.blks v') (World.alloc Wt (.cells #[uy j] 3)) ⟨some ⟨Wt.heap.size,0,none⟩,1,1⟩ (zf [(j:Int)]) [(j:Int)].length:=⟨rfl,Rd.of_blk (h2.fr.blk 0 rfl),.inr (λb hb hm=>by have h9:=(h8.st.from b hm).2;simp only[zj,qy] at hb;omega),Nat.le_refl _⟩
   go_wp2_with fail;refine(jl w _ _ M u p v' _ _ false _ 1 1 [(j:Int)] (h2.pull 1 rfl) HP.o q0.out hw jv (by rw[jn,vc];exact P8.o) (λz S0=>by obtain rfl:=yh S0;exact(by have:=TT.o;rw[jn];exact this)) G0.o).mono ?_;rintro e Wb ⟨rfl,h3,-⟩;clear h2 hw h8;have h:=h3.sub (l':= .blk M (mC u v' false) 66:: .blk bo #[uy 4,uy (i2:Int),uy ar] 68::JO w u v zC) (.cons_cons _ (.cons _ (.refl _)));clear h3;obtain⟨vv,a0⟩:=jy v';rw[<-a0] at h;clear a0
  rotate_left
  focus
   have T0:(j:Int)∉oT s:=by
    rcases I1 with h|h
    ·exact h.2
    ·exact absurd h.1 h2
   have a3:uH (x.state=1->(j:Int)≠x.owner/\(j:Int)∉x.waits):=zd (by have:=Gj HI.o HT.o.ne T0;rw[<-HX.o] at this;exact this);have N2:=zd h2;clear I1 T0;go_upto_region 27 with fail;clear gs cs h2 k3;have cs:=h.fr.c9 3 rfl;have co:=h.fr.c3 1 rfl;rw[EA.o] at cs;go_wp2_with fail;refine(UC x q.a q.n q.c j _ t0.out.symm (h.fr.rd Q0.o) b0.out T6.o a3.out).mono ?_;rintro e w2 ⟨y,r,hy,rfl,hr,hb⟩;have bA:xW w2 (Go.World.alloc w2 (.cells #[uy y.state,uy y.owner,uy y.value,.slice r.a r.n r.c] 81)):=zY;have HY:=zd hy;clear hy;have hq:=h.apart (hr.below bA);have kN:zm (Go.World.alloc w2 (.cells #[uy y.state,uy y.owner,uy y.value,.slice r.a r.n r.c] 81)) w2.heap.size #[uy y.state,uy y.owner,uy y.value,.slice r.a r.n r.c] 81:=zm.new _ _ _;replace h:=(h.call hb).call bA;clear cs co g0 g1 g2 g3 hb bA hr;go_upto_region 28 with fail;obtain⟨WA,L0⟩:=jy ((Go.World.alloc w2 (.cells #[uy y.state,uy y.owner,uy y.value,.slice r.a r.n r.c] 81)));rw[<-L0] at h kN hq⊢;clear L0;obtain⟨gt,eg,h0,j2,r1,h6,hP,A0,⟨y0,v0⟩,B0,⟨y1,z0⟩,I0,⟨y2,H0⟩,Z0,⟨y3,Y0⟩⟩:=h.putf_on HI.o (x:=y) (q:=r) hq;have EG:=zd eg;clear h0 hP;have qm:World.cell? _ ⟨M,8,none⟩=some (.slice v'.on.a v'.on.n v'.on.c):=h.fr.cell 0 8 rfl rfl;rw[EG.o] at qm
   have co:=h.fr.c3 1 rfl;have n0:=kN.cell 0 rfl;have n1:=kN.cell 1 rfl;have n2:=kN.cell 2 rfl;have n3:=kN.cell 3 rfl;clear eg;go_wp2;go_still_tail 9,(by kernel_rfl)
   go_upto_region 29 with fail;obtain⟨W3,hw,h7⟩:=h6.drew.named;rw[<-hw];clear h6 h hw kN co qm hq n0 A0 v0 n1 B0 z0 n2 I0 H0 n3 Z0 Y0;have V1:x.state=0\/x.state=1\/x.state=2:=by
    rcases b0.out with h|h|h
    ·exact .inl h.1
    ·exact .inr (.inl h.1)
    ·exact .inr (.inr h.1)
   obtain⟨sq,G2⟩:=jy x.state;rw[<-G2] at V1⊢;have C1:=zd G2;clear G2;rcases V1 with rfl|rfl|rfl
   focus
    have HE:uH (zJ p s j=yw (setOnce s i2 y) j 2):=zd (by
     unfold zJ;rw[<-HO.o];show doOnce p s j ⟨4,((i2:Nat):Int),ar⟩=_;unfold doOnce;dsimp only;rw[show((i2:Nat):Int).toNat=i2 from rfl,show((j:Nat):Int).toNat=j from rfl,<-Y1.o,if_neg N2.o,<-HX.o,if_pos C1.o.symm,<-HY.o])
    obtain⟨gs,es,-,-⟩:=jF h7.st.st (by rw[h7.st.nst];have:=P8.o;show 0<s.status.length;omega);have m6:W3.cell? ⟨M,6,none⟩=some (.slice v'.st.a v'.st.n v'.st.c):=h7.fr.cell 0 6 rfl rfl;rw[es] at m6;have q1:=h7.stAt es (j:Int) (by have:=TT.o;have:=P8.o;show j<s.status.length;omega);have tm:(j:Int)<(v'.st.n:Int):=by rw[h7.st.nst];have:=TT.o;have:=P8.o;show(j:Int)<(s.status.length:Int);omega
    have h:=h7.setSt es (j:Int) 2;rw[show((j:Nat):Int).toNat=j from rfl] at h q1;clear es h7;go_upto_region 80 with fail;obtain⟨W4,hw,h8⟩:=h.named;rw[<-hw];clear hw h m6 q1 tm;have h:=h8;clear h8;obtain⟨vv,a0⟩:=jy v';rw[<-a0] at h;clear a0
   rotate_left
   focus
    have HE:uH (zJ p s j=yw (setOnce s i2 y) j 1):=zd (by
     unfold zJ;rw[<-HO.o];show doOnce p s j ⟨4,((i2:Nat):Int),ar⟩=_;unfold doOnce;dsimp only;rw[show((i2:Nat):Int).toNat=i2 from rfl,show((j:Nat):Int).toNat=j from rfl,<-Y1.o,if_neg N2.o,<-HX.o,if_neg (by rw[<-C1.o];decide),if_pos C1.o.symm,<-HY.o])
    obtain⟨gs,es,-,-⟩:=jF h7.st.st (by rw[h7.st.nst];have:=P8.o;show 0<s.status.length;omega);have m6:W3.cell? ⟨M,6,none⟩=some (.slice v'.st.a v'.st.n v'.st.c):=h7.fr.cell 0 6 rfl rfl;rw[es] at m6;have q1:=h7.stAt es (j:Int) (by have:=TT.o;have:=P8.o;show j<s.status.length;omega);have tm:(j:Int)<(v'.st.n:Int):=by rw[h7.st.nst];have:=TT.o;have:=P8.o;show(j:Int)<(s.status.length:Int);omega
    have h:=h7.setSt es (j:Int) 1;rw[show((j:Nat):Int).toNat=j from rfl] at h q1;clear es h7;go_upto_region 80 with fail;obtain⟨W4,hw,h8⟩:=h.named;rw[<-hw];clear hw h m6 q1 tm;have h:=h8;clear h8;obtain⟨vv,a0⟩:=jy v';rw[<-a0] at h;clear a0
   rotate_left
   focus
    have Y2:y=x:=by rw[HY.o];unfold qU;rw[if_neg (by rw[<-C1.o];decide),if_neg (by rw[<-C1.o];decide)]
    have d3:uH (setOnce s i2 y=s):=zd (by rw[Y2,HX.o];exact Vp s i2);clear Y2;have HE:uH (zJ p s j=goAll p (setOnce s i2 y) [(j:Int)]):=zd (by
     unfold zJ;rw[<-HO.o];show doOnce p s j ⟨4,((i2:Nat):Int),ar⟩=_;unfold doOnce;dsimp only;rw[show((i2:Nat):Int).toNat=i2 from rfl,show((j:Nat):Int).toNat=j from rfl,<-Y1.o,if_neg N2.o,<-HX.o,if_neg (by rw[<-C1.o];decide),if_neg (by rw[<-C1.o];decide),d3.out];rfl)
    have h2:=h7.alloc #[uy j] 3;have hw:yc (zu.blks v') (World.alloc W3 (.cells #[uy j] 3)) ⟨some ⟨W3.heap.size,0,none⟩,1,1⟩ (zf [(j:Int)]) [(j:Int)].length:=⟨rfl,Rd.of_blk (h2.fr.blk 0 rfl),.inr (λb hb hm=>by have h9:=(h7.st.from b hm).2;simp only[zj,qy] at hb;omega),Nat.le_refl _⟩
    go_wp2_with fail;refine(jl w _ _ M u p v' _ _ false _ 1 1 [(j:Int)] (h2.pull 1 rfl) HP.o q0.out hw jv P8.o (λz S0=>by obtain rfl:=yh S0;exact TT.o) r0.out).mono ?_;rintro e Wb ⟨rfl,h3,-⟩;clear h2 hw h7;have h:=h3.sub (l':= .blk M (mC u v' false) 66:: .blk bo #[uy 4,uy (i2:Int),uy ar] 68::JO w u v zC) (.cons_cons _ (.cons _ (.refl _)));clear h3;obtain⟨vv,a0⟩:=jy v';rw[<-a0] at h;clear a0
   rotate_left
  rotate_left 3
 rotate_left 4
 focus
  obtain⟨o0,on1⟩:=qC E0.o;rw[show zN p (5:Int)=p.groups.length by unfold zN;rw[if_neg jq,if_neg jq,if_neg jq,if_pos (.inl rfl)]] at on1;dsimp only at o0 on1;obtain⟨i2,rfl⟩:∃z:Nat,on=z:=⟨on.toNat,jq⟩
  have hi:i2<s.groups.length:=by rw[HF.o.ngr];omega
  have HI:=zd hi;obtain⟨x,q,b1,o1,HX,ea,g0,g1,Q0,t0,v1⟩:=HS.o.at_gr (j:=i2) hi;have b0:=zd (HF.o.gr i2 hi);rw[<-HX.o] at b0;have j0:(0:Int)<=(i2:Int):=jq;have j1:(i2:Int)<(v.gr.n:Int):=by rw[HS.o.gr.len];omega
  have EA:=zd ea;replace g0:=ze h.fr.bel g0;replace g1:=ze h.fr.bel g1;clear hi ea o0 on1;have T1:=Di E0.o rfl;dsimp only at T1;have J1:uH (-99<=ar/\ar<=99):=zd jq;obtain⟨bb,U0⟩:=jy ((j9 x ar).isSome);have L1:=zd U0;clear T1 U0;go_upto_region 36 with fail;go_wp2_with fail;obtain⟨u3,rfl⟩:=jy W;apply Xc 16 8 3 1 2 87 (λu w=>∃(y:ji) (r z:zP) (l:List Int),u= .tuple #[.agg #[uy y.count,.slice r.a r.n r.c],.slice z.a z.n z.c,.bool bb]/\yy u3 w r (zf y.waits) y.waits.length/\w.ownsRow u3.heap.size 3 1 (.slice z.a z.n z.c) z.n (zf l)/\j9 x ar=(if bb=true then some (y,l) else none)) [.k _,.k _,.k _,.k _,.k _,.k _,.k _,.k _] (λ_ _ _ hb ⟨y,r,z,l,e,m0,m1,m2⟩=>⟨y,r,z,l,e,m0.below hb,zl m1 hb,m2⟩) (λ_ _ _ hT ⟨y,r,z,l,e,m0,m1,m2⟩=>⟨y,r,z,l,e,m0.ts hT jk,XA m1 hT jk,m2⟩) (λ_ _ ⟨_,_,_,_,e,_⟩=>⟨_,e,rfl⟩) (λ_ _ ⟨_,_,_,_,e,_⟩=>⟨_,congrArg (λz=>ym z 0) e,rfl,rfl⟩) ?s6 ?e6
  case s6=>
   intro hM1 hM2
   repeat' apply And.intro
   all_goals first|trivial|(intro ρ w1 L hG hny hfr hd;obtain⟨fc,ff⟩:=xu hfr;have f4:=hfr (.tmp 4) rfl;have f9:=hfr (.tmp 9) rfl;have F1:=h.fr.call hG;have cs:=F1.c9 3 rfl;have co:=F1.c3 1 rfl;have g0:=(λ_=>ze hG g0) F1;have g1:=(λ_=>ze hG g1) F1;clear F1)
   exact qI;exact vq;exact qI;exact vq
   ·have d:ρ (.tmp _)=_:=hd.1;have d':ρ (.tmp _)=_:=hd.2.1;rw[EA.o] at d;exact qI
   exact vq;exact qI;exact vq
   ·obtain⟨d0,d1,-⟩:=hd;have d0:ρ (.tmp 244)=_:=d0;have d1:ρ (.tmp 246)=_:=d1;refine Kr hG (by go_simp) (Kc x q.a q.n q.c ar w1 t0.out.symm ((h.fr.call hG).rd Q0.o) b0.out J1.o) ?_;rintro e w2 ⟨y,r,z,l,b,hy,rfl,hr,hz,-,hb⟩;obtain rfl:b=bb:=by rw[L1.o,hy];cases b<;>rfl
    exact⟨_,rfl,hb,⟨y,r,z,l,rfl,hr.mono hG.size,zw hz hG.size,hy⟩⟩
   exact Kp;exact uU;exact uU;exact uU;exact Ky;exact Ke;exact Ug
  intro w2 hG;refine Yd ?_;intro u0 p1 u1 R0 e0 M0 e1 N0 e2 O0 al f1 so P0 X0 C0;obtain rfl:u1=u0:=R0.1;obtain rfl:e0=ym u1 0:=M0.1;obtain rfl:e1=ym u1 1:=N0.1;obtain rfl:e2=ym u1 2:=O0.1;obtain rfl:X0=ym u1 1:=C0;have kN:∃g,al= .pointer (some ⟨g,0,none⟩)/\zm w2 g (Qi (ym u1 0)) 87:=P0;obtain⟨K0,Z1,rfl,-,-,i1⟩:=f1;obtain⟨gA,eA,kN⟩:=kN;obtain rfl:K0=gA:=by simpa using eA
  clear R0 M0 N0 O0 P0 eA;obtain⟨y,r,z,l,rfl,D0,z1,f0⟩:=p1;replace kN:zm w2 K0 #[uy y.count,.slice r.a r.n r.c] 87:=kN;simp only[vu,List.getD_cons_zero,List.getD_cons_succ];have hu:yc v'.blks w2 z (zf l) l.length:=X8 h z1;have hq:JK (zO (.blk M (mC u v' false) 66:: .blk bo #[uy 5,uy (i2:Int),uy ar] 68::JO w u v zC)++v'.blks) w2 y r:=h.apart D0;replace h:=h.call hG;clear g0 g1 hG D0 z1
  cases bb
  ·clear hu hq kN;rw[if_neg jk] at f0;have HE:uH (zJ p s j=jt s 2):=zd (by
    unfold zJ;rw[<-HO.o];show doAdd p s j ⟨5,((i2:Nat):Int),ar⟩=_;unfold doAdd;dsimp only;rw[show((i2:Nat):Int).toNat=i2 from rfl,<-HX.o,f0])
   go_wp2_with fail;refine(Y7 (w.heap.size+1) 2 v L s _ (h.fr.blk 3 rfl) (HS.o.below h.bel) HF.o.sm).mono ?_;rintro e Wc ⟨v2,L2,rfl,ho,hn,hb⟩;have V0:=yz.lower hn h.bel.size;have g:=Sf.gain h.fr ho hn hb;clear ho hn hb h;have cz:=g.c9 2 rfl;have g2:=g.setV 2 rfl v2;go_wp2;exact zM (v:= .tuple #[v2.val,.bool true]) (by simp[results,Tryz.results28,go_sem,g2.c9 2 rfl]) rfl ⟨v2,L2,rfl,by rw[HE.o];exact g2.st.sub jv,V0,g2.bel⟩
  rw[if_pos rfl] at f0;have HE:uH (zJ p s j=goAll p (goAll p (setGrp s i2 y) l) [(j:Int)]):=zd (by
   unfold zJ;rw[<-HO.o];show doAdd p s j ⟨5,((i2:Nat):Int),ar⟩=_;unfold doAdd;dsimp only;rw[show((i2:Nat):Int).toNat=i2 from rfl,<-HX.o,f0];exact YK p _ l [(j:Int)])
  have s0:uH (qG p s l):=zd (tg HF.o HI.o (by rw[<-HX.o];exact f0));have G0:uH (∀i,0<=(goAll p (setGrp s i2 y) l).places.getD i 0/\(goAll p (setGrp s i2 y) l).places.getD i 0<=8):=zd (tR (s:=s) t1.out.fits (λi=>(r0.out i).1) (λi=>(jj l (setGrp s i2 y) i).1) (λi=>by rw[HE.o];exact(jj [(j:Int)] _ i).1));clear f0;obtain⟨gt,eg,h0,j2,r1,h6,hP,A0,⟨y0,v0⟩,B0,⟨y1,z0⟩⟩:=h.putf_gr HI.o (x:=y) (q:=r) hq;have EG:=zd eg;have c0:=(hu.touch hP (λb hb=>by obtain rfl:=yh hb;exact h0)).drew;clear h0 hP hu;have qm:World.cell? _ ⟨M,9,none⟩=some (.slice v'.gr.a v'.gr.n v'.gr.c):=h.fr.cell 0 9 rfl rfl;rw[EG.o] at qm;have co:=h.fr.c3 1 rfl;have n0:=kN.cell 0 rfl;have n1:=kN.cell 1 rfl;clear eg;go_wp2;go_still_tail 9,(by kernel_rfl)
  go_upto_region 40 with fail;obtain⟨W3,hw,h7⟩:=h6.drew.named;rw[<-hw];rw[<-hw] at c0;clear h6 h hw kN co qm hq n0 A0 v0 n1 B0 z0;go_wp2_with fail;refine(jl w _ _ M u p v' _ _ false z.a z.n z.c l h7 HP.o q0.out c0 s0.out.1 P8.o s0.out.2 r0.out).mono ?_;rintro e Wt ⟨rfl,h8,-⟩;clear h7 c0;have h2:=h8.alloc #[uy j] 3;have hw:yc (zu.blks v') (World.alloc Wt (.cells #[uy j] 3)) ⟨some ⟨Wt.heap.size,0,none⟩,1,1⟩ (zf [(j:Int)]) [(j:Int)].length:=⟨rfl,Rd.of_blk (h2.fr.blk 0 rfl),.inr (λb hb hm=>by have h9:=(h8.st.from b hm).2;simp only[zj,qy] at hb;omega),Nat.le_refl _⟩
  go_wp2_with fail;refine(jl w _ _ M u p v' _ _ false _ 1 1 [(j:Int)] (h2.pull 1 rfl) HP.o q0.out hw jv (by rw[jn,vc];exact P8.o) (λz S0=>by obtain rfl:=yh S0;exact(by have:=TT.o;rw[jn];exact this)) G0.o).mono ?_;rintro e Wb ⟨rfl,h3,-⟩;clear h2 hw h8;have h:=h3.sub (l':= .blk M (mC u v' false) 66:: .blk bo #[uy 5,uy (i2:Int),uy ar] 68::JO w u v zC) (.cons_cons _ (.cons _ (.refl _)));clear h3;obtain⟨vv,a0⟩:=jy v';rw[<-a0] at h;clear a0
 rotate_left
 focus
  obtain⟨o0,on1⟩:=qC E0.o;rw[show zN p (6:Int)=p.groups.length by unfold zN;rw[if_neg jq,if_neg jq,if_neg jq,if_pos (.inr rfl)]] at on1;dsimp only at o0 on1;obtain⟨i2,rfl⟩:∃z:Nat,on=z:=⟨on.toNat,jq⟩
  have hi:i2<s.groups.length:=by rw[HF.o.ngr];omega
  have HI:=zd hi;obtain⟨x,q,b1,o1,HX,ea,g0,g1,Q0,t0,v1⟩:=HS.o.at_gr (j:=i2) hi;have b0:=zd (HF.o.gr i2 hi);rw[<-HX.o] at b0;have j0:(0:Int)<=(i2:Int):=jq;have j1:(i2:Int)<(v.gr.n:Int):=by rw[HS.o.gr.len];omega
  have EA:=zd ea;replace g0:=ze h.fr.bel g0;replace g1:=ze h.fr.bel g1;clear hi ea o0 on1;have T0:(j:Int)∉oT s:=N1.o.resolve_right jk;have M1:uH ((j:Int)∉x.waits):=zd (λhm=>HT.o.ne (yU.2 ⟨((j:Int),6,((i2:Nat):Int),0),XM HI.o (by rw[<-HX.o];exact yU.2 ⟨_,hm,rfl⟩),rfl⟩));have HE:uH (zJ p s j=jh p (setGrp s i2 (jc x j).1) j (jc x j).2):=zd (by
   unfold zJ;rw[<-HO.o,HX.o];rfl)
  clear T0;go_upto_region 43 with fail;have cs:=h.fr.c9 3 rfl;have co:=h.fr.c3 1 rfl;rw[EA.o] at cs;go_wp2_with fail;refine(UL x q.a q.n q.c j _ t0.out.symm (h.fr.rd Q0.o) b0.out T6.o M1.o).mono ?_;rintro e w2 ⟨y,r,hy,rfl,hr,hb⟩;have bA:xW w2 (Go.World.alloc w2 (.cells #[uy y.count,.slice r.a r.n r.c] 87)):=zY;have HY:=zd hy;clear hy;have hq:=h.apart (hr.below bA);have kN:zm (Go.World.alloc w2 (.cells #[uy y.count,.slice r.a r.n r.c] 87)) w2.heap.size #[uy y.count,.slice r.a r.n r.c] 87:=zm.new _ _ _;replace h:=(h.call hb).call bA;clear cs co g0 g1 hb bA hr;go_upto_region 44 with fail;obtain⟨WA,L0⟩:=jy ((Go.World.alloc w2 (.cells #[uy y.count,.slice r.a r.n r.c] 87)));rw[<-L0] at h kN hq⊢;clear L0;rw[<-HY.o] at HE;obtain⟨gt,eg,h0,j2,r1,h6,hP,A0,⟨y0,v0⟩,B0,⟨y1,z0⟩⟩:=h.putf_gr HI.o (x:=y) (q:=r) hq;have EG:=zd eg;clear h0 hP;have qm:World.cell? _ ⟨M,9,none⟩=some (.slice v'.gr.a v'.gr.n v'.gr.c):=h.fr.cell 0 9 rfl rfl;rw[EG.o] at qm;have co:=h.fr.c3 1 rfl;have n0:=kN.cell 0 rfl;have n1:=kN.cell 1 rfl;clear eg;go_wp2;go_still_tail 9,(by kernel_rfl)
  go_upto_region 45 with fail;obtain⟨W3,hw,h7⟩:=h6.drew.named;rw[<-hw];clear h6 h hw kN co qm hq n0 A0 v0 n1 B0 z0;replace HE:uH (zJ p s j=jh p {s with groups:=s.groups.set i2 y} j (jc x j).2):=zd HE.o;go_wp2_with fail;refine(vO w _ _ M u p v' _ _ false j _ h7 HP.o q0.out P8.o TT.o r0.out).mono ?_;rintro e Wb ⟨rfl,h⟩;clear h7;obtain⟨vv,a0⟩:=jy v';rw[<-a0] at h;clear a0
 rotate_left
 focus
  obtain⟨o0,on1⟩:=qC E0.o;rw[show zN p (7:Int)=p.barriers.length by unfold zN;rw[if_neg jq,if_neg jq,if_neg jq,if_neg jq,if_pos rfl]] at on1;dsimp only at o0 on1;obtain⟨i2,rfl⟩:∃z:Nat,on=z:=⟨on.toNat,jq⟩
  have hi:i2<s.bars.length:=by rw[HF.o.nba];omega
  have HI:=zd hi;obtain⟨x,q,b1,o1,HX,ea,g0,g1,g2,Q0,t0,v1⟩:=HS.o.at_ba (j:=i2) hi;have b0:=zd (HF.o.ba i2 hi);rw[<-HX.o] at b0;have j0:(0:Int)<=(i2:Int):=jq;have j1:(i2:Int)<(v.ba.n:Int):=by rw[HS.o.ba.len];omega
  have EA:=zd ea;replace g0:=ze h.fr.bel g0;replace g1:=ze h.fr.bel g1;replace g2:=ze h.fr.bel g2;clear hi ea o0 on1;have T0:(j:Int)∉oT s:=N1.o.resolve_right jk;have M1:uH ((j:Int)∉x.waits):=zd (λhm=>HT.o.ne (yU.2 ⟨((j:Int),7,((i2:Nat):Int),0),XJ HI.o (by rw[<-HX.o];exact yU.2 ⟨_,hm,rfl⟩),rfl⟩));have A2:uH (x.round<9999):=zd (by have h1:=HR.o.rnd i2;have h2:=HF.o.sum32;rw[<-HX.o] at h1;omega);clear T0;go_upto_region 47 with fail;have cs:=h.fr.c9 3 rfl;have co:=h.fr.c3 1 rfl;rw[EA.o] at cs;go_wp2_with fail;refine(GQ x q.a q.n q.c j _ t0.out.symm (h.fr.rd Q0.o) b0.out.1 T6.o M1.o A2.o).mono ?_;rintro e w2 ⟨y,r,z,l,f0,rfl,hr,hz,-,-,hb⟩;have bA:xW w2 (Go.World.alloc w2 (.cells #[uy y.parties,uy y.round,.slice r.a r.n r.c] 93)):=zY;have hu:yc v'.blks (Go.World.alloc w2 (.cells #[uy y.parties,uy y.round,.slice r.a r.n r.c] 93)) z (zf l) l.length:=(X8 h hz).below bA;have hq:=h.apart (hr.below bA);have kN:zm (Go.World.alloc w2 (.cells #[uy y.parties,uy y.round,.slice r.a r.n r.c] 93)) w2.heap.size #[uy y.parties,uy y.round,.slice r.a r.n r.c] 93:=zm.new _ _ _;replace h:=(h.call hb).call bA;clear cs co g0 g1 g2 hb bA hr;go_upto_region 48 with fail
  obtain⟨WA,L0⟩:=jy ((Go.World.alloc w2 (.cells #[uy y.parties,uy y.round,.slice r.a r.n r.c] 93)));rw[<-L0] at h kN hq hu⊢;clear L0;clear hz;have HM:=zd f0;have s0:uH (qG p s l):=zd (tV HF.o HI.o TT.o (by rw[<-HX.o];exact f0));have ZN:uH (z.n=l.length):=zd hu.len;clear f0;obtain⟨gt,eg,h0,j2,r1,h6,hP,A0,⟨y0,v0⟩,B0,⟨y1,z0⟩,I0,⟨y2,H0⟩⟩:=h.putf_ba HI.o (x:=y) (q:=r) hq;have EG:=zd eg;have c0:=(hu.touch hP (λb hb=>by obtain rfl:=yh hb;exact h0)).drew;clear h0 hP hu;have qm:World.cell? _ ⟨M,10,none⟩=some (.slice v'.ba.a v'.ba.n v'.ba.c):=h.fr.cell 0 10 rfl rfl;rw[EG.o] at qm;have co:=h.fr.c3 1 rfl;have n0:=kN.cell 0 rfl;have n1:=kN.cell 1 rfl;have n2:=kN.cell 2 rfl;clear eg;go_wp2;go_still_tail 9,(by kernel_rfl)
  go_upto_region 51 with fail;obtain⟨W3,hw,h7⟩:=h6.drew.named;rw[<-hw];rw[<-hw] at c0;clear h6 h hw kN co qm hq n0 A0 v0 n1 B0 z0 n2 I0 H0;have zn:=c0.len;rcases l with _|⟨l0,l1⟩
  focus
   have HE:uH (zJ p s j=goAll p (yw (setBar s i2 y) j 1) []):=zd (by
    unfold zJ;rw[<-HO.o];show doCome p s j ⟨7,((i2:Nat):Int),ar⟩=_;unfold doCome;dsimp only;rw[show((i2:Nat):Int).toNat=i2 from rfl,<-HX.o,HM.o];exact if_pos rfl)
   obtain⟨za,q2,zc⟩:=z;obtain rfl:q2=0:=zn;obtain⟨gs,es,-,-⟩:=jF h7.st.st (by rw[h7.st.nst];have:=P8.o;show 0<s.status.length;omega);have ES:=zd es;have m6:W3.cell? ⟨M,6,none⟩=some (.slice v'.st.a v'.st.n v'.st.c):=h7.fr.cell 0 6 rfl rfl;rw[es] at m6;have q1:=h7.stAt es (j:Int) (by have:=TT.o;have:=P8.o;show j<s.status.length;omega);have tm:(j:Int)<(v'.st.n:Int):=by rw[h7.st.nst];have:=TT.o;have:=P8.o;show(j:Int)<(s.status.length:Int);omega
   have h8:=h7.setSt es (j:Int) 1;have I2:=c0.touch ((zo.refl [gs] W3).set (v:=uy 1) (b:=gs) (j:=(j:Int).toNat) jv) (λb hb=>by obtain rfl:=yh hb;exact zu.mem_st (by rw[ES.o];rfl));rw[show((j:Nat):Int).toNat=j from rfl] at h8 q1 I2;clear es h7 c0;go_wp2_with fail;refine(jl w _ _ M u p v' _ _ false za 0 zc [] h8 HP.o q0.out I2 jv (by have h9:=P8.o;refine⟨h9.1,h9.2.1,?_⟩;show s.places.length=(s.status.set _ _).length;rw[List.length_set];exact h9.2.2) jv r0.out).mono ?_;rintro e Wb ⟨rfl,h,-⟩;clear h8 I2 m6 q1 tm;obtain⟨vv,a0⟩:=jy v';rw[<-a0] at h;clear a0
  rotate_left
  focus
   have HE:uH (zJ p s j=goAll p (setBar s i2 y) (l0::l1)):=zd (by
    unfold zJ;rw[<-HO.o];show doCome p s j ⟨7,((i2:Nat):Int),ar⟩=_;unfold doCome;dsimp only;rw[show((i2:Nat):Int).toNat=i2 from rfl,<-HX.o,HM.o];exact if_neg jv)
   have D3:((z.n:Nat):Int)≠0:=by rw[zn];simp only[List.length_cons];omega
   clear zn;go_wp2_with fail;refine(jl w _ _ M u p v' _ _ false z.a z.n z.c (l0::l1) h7 HP.o q0.out c0 s0.out.1 P8.o s0.out.2 r0.out).mono ?_;rintro e Wb ⟨rfl,h,-⟩;clear h7 c0 D3;obtain⟨vv,a0⟩:=jy v';rw[<-a0] at h;clear a0
  rotate_left
 rotate_left 2
 focus
  obtain⟨o0,on1⟩:=qC E0.o;rw[show zN p (8:Int)=p.rooms.length by unfold zN;rw[if_neg jq,if_neg jq,if_neg jq,if_neg jq,if_neg jq]] at on1;dsimp only at o0 on1;obtain⟨i2,rfl⟩:∃z:Nat,on=z:=⟨on.toNat,jq⟩
  have hi:i2<s.chans.length:=by rw[HF.o.nch];omega
  have HI:=zd hi;obtain⟨x,q,b1,o1,HX,ea,g0,g1,g2,g3,g4,Q0,t0,v1,Q1,O1,O2,Q2,P1,P2⟩:=HS.o.at_ch (j:=i2) hi;have b0:=zd (HF.o.ch i2 hi);rw[<-HX.o] at b0;have j0:(0:Int)<=(i2:Int):=jq;have j1:(i2:Int)<(v.ch.n:Int):=by rw[HS.o.ch.len];omega
  have EA:=zd ea;replace g0:=ze h.fr.bel g0;replace g1:=ze h.fr.bel g1;replace g2:=ze h.fr.bel g2;replace g3:=ze h.fr.bel g3;replace g4:=ze h.fr.bel g4;clear hi ea o0 on1;have T0:(j:Int)∉oT s:=N1.o.resolve_right jk;have z2:uH ((j:Int)∉x.senders.map (·.1)):=zd (λhm=>by
   obtain⟨z,hz,e⟩:=yU.1 hm;exact HT.o.ne (by rw[<-e];exact X3 HI.o z (by rw[<-HX.o];exact hz)))
  have t2:uH ((j:Int)∉x.getters):=zd (λhm=>HT.o.ne (yU.2 ⟨((j:Int),9,((i2:Nat):Int),0),vY HI.o (by rw[<-HX.o];exact yW (.inr (yU.2 ⟨_,hm,rfl⟩))),rfl⟩));have B1:uH (s.said.length<64):=zd (by have h1:=HR.o.said;have h2:=HF.o.sum32;omega);clear T0;have J0:=JW E0.o (.inr (.inr rfl));dsimp only at J0;have HV:=zd J0;obtain⟨bb,U0⟩:=jy ((jI x j ar).isSome);have L1:=zd U0;clear J0 U0;go_upto_region 55 with fail;go_wp2_with fail;obtain⟨u3,rfl⟩:=jy W
  apply Xc 19 9 4 2 5 98 (λu w=>∃(y:xi) (s1 s2 s3 z:zP) (l:List Int) (p0:Bool),u= .tuple #[.agg #[uy y.room,.slice s1.a s1.n s1.c,.slice s2.a s2.n s2.c,.slice s3.a s3.n s3.c,.bool y.closed],.slice z.a z.n z.c,.bool p0,.bool bb]/\yy u3 w s1 (zf y.items) y.items.length/\yy u3 w s2 (zK y.senders) y.senders.length/\yy u3 w s3 (zf y.getters) y.getters.length/\w.ownsRow u3.heap.size 3 1 (.slice z.a z.n z.c) z.n (zf l)/\jI x j ar=(if bb=true then some (y,l,p0) else none)) [.k _,.k _,.k _,.k _,.k _,.k _,.k _,.k _,.k _] (λ_ _ _ hb ⟨y,s1,s2,s3,z,l,p0,e,m0,m1,m2,m3,m4⟩=>⟨y,s1,s2,s3,z,l,p0,e,m0.below hb,m1.below hb,m2.below hb,zl m3 hb,m4⟩) (λ_ _ _ hT ⟨y,s1,s2,s3,z,l,p0,e,m0,m1,m2,m3,m4⟩=>⟨y,s1,s2,s3,z,l,p0,e,m0.ts hT jk,m1.ts hT jk,m2.ts hT jk,XA m3 hT jk,m4⟩) (λ_ _ ⟨_,_,_,_,_,_,_,e,_⟩=>⟨_,e,rfl⟩) (λ_ _ ⟨_,_,_,_,_,_,_,e,_⟩=>⟨_,congrArg (λz=>ym z 0) e,rfl,rfl⟩) ?s7 ?e7
  case s7=>
   intro hM1 hM2
   repeat' apply And.intro
   all_goals first|trivial|(intro ρ w1 L hG hny hfr hd;obtain⟨fc,ff⟩:=xu hfr;have f4:=hfr (.tmp 4) rfl;have f9:=hfr (.tmp 9) rfl;have f2:=hfr (.tmp 2) rfl;have F1:=h.fr.call hG;have cs:=F1.c9 3 rfl;have co:=F1.c3 1 rfl;have g0:=(λ_=>ze hG g0) F1;have g1:=(λ_=>ze hG g1) F1;have g2:=(λ_=>ze hG g2) F1;have g3:=(λ_=>ze hG g3) F1;have g4:=(λ_=>ze hG g4) F1;clear F1)
   exact qI;exact vq;exact qI;exact vq
   ·have d:ρ (.tmp _)=_:=hd.1;have d':ρ (.tmp _)=_:=hd.2.1;rw[EA.o] at d;exact qI
   exact vq;exact qI;exact qI;exact vq
   ·obtain⟨d0,d1,d2,-⟩:=hd;have d0:ρ (.tmp 347)=_:=d0;have d1:ρ (.tmp 348)=_:=d1;have d2:ρ (.tmp 350)=_:=d2;refine Kr hG (by go_simp) (KC x q.1.a q.2.1.a q.2.2.a q.1.n q.1.c q.2.1.n q.2.1.c q.2.2.n q.2.2.c j ar w1 t0.out.symm O1.o.symm P1.o.symm ((h.fr.call hG).rd Q0.o) ((h.fr.call hG).rd Q1.o) ((h.fr.call hG).rd Q2.o) b0.out.1 T6.o HV.o z2.out t2.out) ?_;rintro e w2 ⟨y,s1,s2,s3,z,l,p0,b,hy,rfl,E1,G1,H1,hz,hb⟩;obtain rfl:b=bb:=by rw[L1.o,hy];cases b<;>rfl
    exact⟨_,rfl,hb,⟨y,s1,s2,s3,z,l,p0,rfl,E1.mono hG.size,G1.mono hG.size,H1.mono hG.size,zw hz hG.size,hy⟩⟩
   exact Kp;exact uU;exact uU;exact uU;exact uU;exact Ky;exact Ke;exact Ug;exact Ug
  intro w2 hG;refine Yd ?_;intro u0 p1 u1 R0 e0 M0 e1 N0 e2 O0 e3 T2 al f1 so P0 X0 C0 i3 C2;obtain rfl:u1=u0:=R0.1;obtain rfl:e0=ym u1 0:=M0.1;obtain rfl:e1=ym u1 1:=N0.1;obtain rfl:e2=ym u1 2:=O0.1;obtain rfl:e3=ym u1 3:=T2.1;obtain rfl:X0=ym u1 1:=C0;obtain rfl:i3=ym u1 2:=C2;have kN:∃g,al= .pointer (some ⟨g,0,none⟩)/\zm w2 g (Qi (ym u1 0)) 98:=P0;obtain⟨K0,Z1,rfl,-,-,i1⟩:=f1;obtain⟨gA,eA,kN⟩:=kN;obtain rfl:K0=gA:=by simpa using eA
  clear R0 M0 N0 O0 T2 P0 eA;obtain⟨y,s1,s2,s3,z,l,p0,rfl,D0,z1,f0,V2,K1⟩:=p1;replace kN:zm w2 K0 #[uy y.room,.slice s1.a s1.n s1.c,.slice s2.a s2.n s2.c,.slice s3.a s3.n s3.c,.bool y.closed] 98:=kN;simp only[vu,List.getD_cons_zero,List.getD_cons_succ];have hu:yc v'.blks w2 z (zf l) l.length:=X8 h V2;have hq:Xp (zO (.blk M (mC u v' false) 66:: .blk bo #[uy 8,uy (i2:Int),uy ar] 68::JO w u v zC)++v'.blks) w2 y (s1,s2,s3):=⟨h.apart D0,h.apart z1,h.apart f0⟩
  replace h:=h.call hG;clear g0 g1 g2 g3 g4 hG D0 z1 f0 V2
  cases bb
  ·clear hu hq kN;rw[if_neg jk] at K1;have HE:uH (zJ p s j=jt s 3):=zd (by
    unfold zJ;rw[<-HO.o];show doSend p s j ⟨8,((i2:Nat):Int),ar⟩=_;unfold doSend;dsimp only;rw[show((i2:Nat):Int).toNat=i2 from rfl,<-HX.o,K1])
   go_wp2_with fail;refine(Y7 (w.heap.size+1) 3 v L s _ (h.fr.blk 3 rfl) (HS.o.below h.bel) HF.o.sm).mono ?_;rintro e Wc ⟨v2,L2,rfl,ho,hn,hb⟩;have V0:=yz.lower hn h.bel.size;have g:=Sf.gain h.fr ho hn hb;clear ho hn hb h;have cz:=g.c9 2 rfl;have g2:=g.setV 2 rfl v2;go_wp2;exact zM (v:= .tuple #[v2.val,.bool true]) (by simp[results,Tryz.results28,go_sem,g2.c9 2 rfl]) rfl ⟨v2,L2,rfl,by rw[HE.o];exact g2.st.sub jv,V0,g2.bel⟩
  rw[if_pos rfl] at K1;have HM:=zd K1;have H2:=Gc HF.o HI.o (t:=(j:Int)) (v:=ar) (y:=y) (l:=l) (b:=p0) (by rw[<-HX.o];exact K1);have s0:uH (qG p s l):=zd H2.1;have l3:=H2.2;clear K1 H2;obtain⟨gt,eg,h0,j2,r1,h6,hP,A0,⟨y0,v0⟩,B0,⟨y1,z0⟩,I0,⟨y2,H0⟩,Z0,⟨y3,Y0⟩,S1,⟨y4,R1⟩⟩:=h.putf_ch HI.o (x:=y) (q:=(s1,s2,s3)) hq;have EG:=zd eg;have c0:=(hu.touch hP (λb hb=>by obtain rfl:=yh hb;exact h0)).drew;clear h0 hP hu;have qm:World.cell? _ ⟨M,11,none⟩=some (.slice v'.ch.a v'.ch.n v'.ch.c):=h.fr.cell 0 11 rfl rfl;rw[EG.o] at qm;have co:=h.fr.c3 1 rfl;have n0:=kN.cell 0 rfl;have n1:=kN.cell 1 rfl;have n2:=kN.cell 2 rfl;have n3:=kN.cell 3 rfl;have n4:=kN.cell 4 rfl;clear eg;go_wp2;go_still_tail 9,(by kernel_rfl)
  go_upto_region 59 with fail;obtain⟨W3,hw,h7⟩:=h6.drew.named;rw[<-hw];rw[<-hw] at c0;clear h6 h hw kN co qm hq n0 A0 v0 n1 B0 z0 n2 I0 H0 n3 Z0 Y0 n4 S1 R1;have zn:=c0.len;obtain⟨za,q2,zc⟩:=z;rcases l3 with rfl|⟨g,rfl,rfl⟩
  focus
   have HE:uH (zJ p s j=jh p (setChn s i2 y) j p0):=zd (by
    unfold zJ;rw[<-HO.o];show doSend p s j ⟨8,((i2:Nat):Int),ar⟩=_;unfold doSend;dsimp only;rw[show((i2:Nat):Int).toNat=i2 from rfl,<-HX.o,HM.o];rfl)
   obtain rfl:q2=0:=zn;clear c0;go_wp2_with fail
   go_loopw [373] (λi wr=>i=uy 0/\wr=W3) (λ_ _=>0)
   case atStart=>exact⟨rfl,rfl⟩
   case' round=>
    obtain⟨rfl,rfl⟩:=hrel;go_wp2_with fail;refine(vO w _ _ M u p v' _ _ false j _ h7 HP.o q0.out P8.o TT.o r0.out).mono ?_;rintro e Wb ⟨rfl,h⟩;clear h7;obtain⟨vv,a0⟩:=jy v';rw[<-a0] at h;clear a0
  rotate_left
  focus
   have HE:uH (zJ p s j=jh p (goAll p (sayIt (setChn s i2 y) ar) [g]) j true):=zd (by
    unfold zJ;rw[<-HO.o];show doSend p s j ⟨8,((i2:Nat):Int),ar⟩=_;unfold doSend;dsimp only;rw[show((i2:Nat):Int).toNat=i2 from rfl,<-HX.o,HM.o];rfl)
   obtain rfl:q2=1:=zn;obtain⟨bz,oz,ez,R2⟩:=c0.rd.int jv;obtain rfl:za=some ⟨bz,oz,none⟩:=ez;have gz:W3.cell? ⟨bz,oz,none⟩=some (uy g):=R2 0 jv;clear R2;have TG:uH (0<=g/\g<p.threads.length/\g<s.places.length):=zd (s0.out.2 g jv);have G0:uH (∀i,0<=(goAll p (sayIt (setChn s i2 y) ar) [g]).places.getD i 0/\(goAll p (sayIt (setChn s i2 y) ar) [g]).places.getD i 0<=8):=zd (tR (s:=s) t1.out.fits (λi=>(r0.out i).1) (λi=>(jj [g] (sayIt (setChn s i2 y) ar) i).1) (λi=>by rw[HE.o];exact VG (p:=p) _ (j:Int) true i));go_wp2_with fail
   go_loopw [373] (λi wr=>(i=uy 0/\wr=W3)\/(i=uy 1/\∃r LL,Sf w wr (.blk M (mC u {v' with sa:=r} false) 66:: .blk bo #[uy 8,uy (i2:Int),uy ar] 68::JO w u v zC) {v' with sa:=r} LL (goAll p (sayIt (setChn s i2 y) ar) [g]))) (λi _=>1-(intOf i).toNat)
   case atStart=>exact .inl ⟨rfl,rfl⟩
   case' round=>
    rcases hrel with ⟨rfl,rfl⟩|⟨rfl,r,LL,h9⟩
    ·have co:=h7.fr.c3 1 rfl;have A1:(setChn s i2 y).said.length<64:=B1.o;go_wp2_with fail;refine(QZ w _ _ M u v' _ _ false ar h7 A1).mono ?_;rintro e Wa ⟨rfl,r,h9⟩;clear h7 A1 co gz;have h2:=h9.alloc #[uy g] 3;have hw:yc (zu.blks {v' with sa:=r}) (World.alloc Wa (.cells #[uy g] 3)) ⟨some ⟨Wa.heap.size,0,none⟩,1,1⟩ (zf [g]) [g].length:=⟨rfl,Rd.of_blk (h2.fr.blk 0 rfl),.inr (λb hb hm=>by have h9:=(h9.st.from b hm).2;simp only[zj,qy] at hb;omega),Nat.le_refl _⟩
     go_wp2_with fail;refine(jl w _ _ M u p {v' with sa:=r} _ _ false _ 1 1 [g] (h2.pull 1 rfl) HP.o q0.out hw jv P8.o (λz S0=>by obtain rfl:=yh S0;exact TG.o) r0.out).mono ?_;rintro e Wb ⟨rfl,h3,-⟩;clear h2 hw h9;have h:=h3.sub (l':= .blk M (mC u {v' with sa:=r} false) 66:: .blk bo #[uy 8,uy (i2:Int),uy ar] 68::JO w u v zC) (.cons_cons _ (.cons _ (.refl _)));clear h3;go_wp2;exact⟨.inr ⟨rfl,r,_,h⟩,jk⟩
    go_wp2_with fail;refine(vO w _ _ M u p {v' with sa:=r} _ _ false j _ h9 HP.o q0.out (by rw[jn,vc];exact P8.o) (by have:=TT.o;rw[jn];exact this) G0.o).mono ?_;rintro e Wb ⟨rfl,h⟩;clear h9;obtain⟨vv,a0⟩:∃x,x={v' with sa:=r}:=⟨_,rfl⟩
    rw[<-a0] at h;clear a0
  rotate_left
 rotate_left 2
 focus
  obtain⟨o0,on1⟩:=qC E0.o;rw[show zN p (9:Int)=p.rooms.length by unfold zN;rw[if_neg jq,if_neg jq,if_neg jq,if_neg jq,if_neg jq]] at on1;dsimp only at o0 on1;obtain⟨i2,rfl⟩:∃z:Nat,on=z:=⟨on.toNat,jq⟩
  have hi:i2<s.chans.length:=by rw[HF.o.nch];omega
  have HI:=zd hi;obtain⟨x,q,b1,o1,HX,ea,g0,g1,g2,g3,g4,Q0,t0,v1,Q1,O1,O2,Q2,P1,P2⟩:=HS.o.at_ch (j:=i2) hi;have b0:=zd (HF.o.ch i2 hi);rw[<-HX.o] at b0;have j0:(0:Int)<=(i2:Int):=jq;have j1:(i2:Int)<(v.ch.n:Int):=by rw[HS.o.ch.len];omega
  have EA:=zd ea;replace g0:=ze h.fr.bel g0;replace g1:=ze h.fr.bel g1;replace g2:=ze h.fr.bel g2;replace g3:=ze h.fr.bel g3;replace g4:=ze h.fr.bel g4;clear hi ea o0 on1;have T0:(j:Int)∉oT s:=N1.o.resolve_right jk;have z2:uH ((j:Int)∉x.senders.map (·.1)):=zd (λhm=>by
   obtain⟨z,hz,e⟩:=yU.1 hm;exact HT.o.ne (by rw[<-e];exact X3 HI.o z (by rw[<-HX.o];exact hz)))
  have t2:uH ((j:Int)∉x.getters):=zd (λhm=>HT.o.ne (yU.2 ⟨((j:Int),9,((i2:Nat):Int),0),vY HI.o (by rw[<-HX.o];exact yW (.inr (yU.2 ⟨_,hm,rfl⟩))),rfl⟩));have B1:uH (s.said.length<64):=zd (by have h1:=HR.o.said;have h2:=HF.o.sum32;omega);clear T0;go_upto_region 67 with fail;have cs:=h.fr.c9 3 rfl;have co:=h.fr.c3 1 rfl;rw[EA.o] at cs;go_wp2_with fail;refine(KX x q.1.a q.2.1.a q.2.2.a q.1.n q.1.c q.2.1.n q.2.1.c q.2.2.n q.2.2.c j _ t0.out.symm O1.o.symm P1.o.symm (h.fr.rd Q0.o) (h.fr.rd Q1.o) (h.fr.rd Q2.o) b0.out.1 T6.o z2.out t2.out).mono ?_;rintro e w2 ⟨y,s1,s2,s3,z,l,val,how,f0,rfl,E1,G1,H1,hz,hb⟩;have bA:xW w2 (Go.World.alloc w2 (.cells #[uy y.room,.slice s1.a s1.n s1.c,.slice s2.a s2.n s2.c,.slice s3.a s3.n s3.c,.bool y.closed] 98)):=zY;have hu:yc v'.blks (Go.World.alloc w2 (.cells #[uy y.room,.slice s1.a s1.n s1.c,.slice s2.a s2.n s2.c,.slice s3.a s3.n s3.c,.bool y.closed] 98)) z (zf l) l.length:=(X8 h hz).below bA;have hq:Xp _ (Go.World.alloc w2 (.cells #[uy y.room,.slice s1.a s1.n s1.c,.slice s2.a s2.n s2.c,.slice s3.a s3.n s3.c,.bool y.closed] 98)) y (s1,s2,s3):=⟨h.apart (E1.below bA),h.apart (G1.below bA),h.apart (H1.below bA)⟩
  have kN:zm (Go.World.alloc w2 (.cells #[uy y.room,.slice s1.a s1.n s1.c,.slice s2.a s2.n s2.c,.slice s3.a s3.n s3.c,.bool y.closed] 98)) w2.heap.size #[uy y.room,.slice s1.a s1.n s1.c,.slice s2.a s2.n s2.c,.slice s3.a s3.n s3.c,.bool y.closed] 98:=zm.new _ _ _;replace h:=(h.call hb).call bA;clear cs co g0 g1 g2 g3 g4 hb bA E1 G1 H1;go_upto_region 68 with fail;obtain⟨WA,L0⟩:=jy ((Go.World.alloc w2 (.cells #[uy y.room,.slice s1.a s1.n s1.c,.slice s2.a s2.n s2.c,.slice s3.a s3.n s3.c,.bool y.closed] 98)));rw[<-L0] at h kN hq hu⊢;clear L0;clear hz;have HM:=zd f0;have p2:=ku HF.o HI.o (t:=(j:Int)) (v:=val) (how:=how) (y:=y) (l:=l) (by rw[<-HX.o];exact f0);have s0:uH (qG p s l):=zd p2.1;have Z2:=zd p2.2.1;have D2:=p2.2.2;clear f0 p2;obtain⟨gt,eg,h0,j2,r1,h6,hP,A0,⟨y0,v0⟩,B0,⟨y1,z0⟩,I0,⟨y2,H0⟩,Z0,⟨y3,Y0⟩,S1,⟨y4,R1⟩⟩:=h.putf_ch HI.o (x:=y) (q:=(s1,s2,s3)) hq;have EG:=zd eg;have c0:=(hu.touch hP (λb hb=>by obtain rfl:=yh hb;exact h0)).drew;clear h0 hP hu;have qm:World.cell? _ ⟨M,11,none⟩=some (.slice v'.ch.a v'.ch.n v'.ch.c):=h.fr.cell 0 11 rfl rfl;rw[EG.o] at qm;have co:=h.fr.c3 1 rfl;have n0:=kN.cell 0 rfl;have n1:=kN.cell 1 rfl;have n2:=kN.cell 2 rfl;have n3:=kN.cell 3 rfl
  have n4:=kN.cell 4 rfl;clear eg;go_wp2;go_still_tail 9,(by kernel_rfl)
  go_upto_region 69 with fail;obtain⟨W3,hw,h7⟩:=h6.drew.named;rw[<-hw];rw[<-hw] at c0;clear h6 h hw kN co qm hq n0 A0 v0 n1 B0 z0 n2 I0 H0 n3 Z0 Y0 n4 S1 R1;go_wp2_with fail;refine(jl w _ _ M u p v' _ _ false z.a z.n z.c l h7 HP.o q0.out c0 s0.out.1 P8.o s0.out.2 r0.out).mono ?_;rintro e Wt ⟨rfl,h8,-⟩;clear h7 c0;rcases D2 with rfl|rfl|rfl
  focus
   obtain rfl:=Z2.o rfl;have HE:uH (zJ p s j=jh p (goAll p (setChn s i2 y) []) j false):=zd (by
    unfold zJ;rw[<-HO.o];show doGet p s j ⟨9,((i2:Nat):Int),ar⟩=_;unfold doGet;dsimp only;rw[show((i2:Nat):Int).toNat=i2 from rfl,<-HX.o,HM.o];rfl)
   have G0:uH (∀i,0<=(goAll p (setChn s i2 y) []).places.getD i 0/\(goAll p (setChn s i2 y) []).places.getD i 0<=8):=zd r0.out;go_wp2_with fail;refine(vO w _ _ M u p v' _ _ false j _ h8 HP.o q0.out (by rw[jn,vc];exact P8.o) (by have:=TT.o;rw[jn];exact this) G0.o).mono ?_;rintro e Wb ⟨rfl,h⟩;clear h8;obtain⟨vv,a0⟩:=jy v';rw[<-a0] at h;clear a0
  rotate_left
  focus
   have HE:uH (zJ p s j=jh p (sayIt (goAll p (setChn s i2 y) l) val) j true):=zd (by
    unfold zJ;rw[<-HO.o];show doGet p s j ⟨9,((i2:Nat):Int),ar⟩=_;unfold doGet;dsimp only;rw[show((i2:Nat):Int).toNat=i2 from rfl,<-HX.o,HM.o];exact(YK p (sayIt (setChn s i2 y) val) l [(j:Int)]).trans (by rw[Gk];rfl))
   have G0:uH (∀i,0<=(goAll p (setChn s i2 y) l).places.getD i 0/\(goAll p (setChn s i2 y) l).places.getD i 0<=8):=zd (tR (s:=s) t1.out.fits (λi=>(r0.out i).1) (λi=>(jj l (setChn s i2 y) i).1) (λi=>by rw[HE.o];exact VG (p:=p) (sayIt (goAll p (setChn s i2 y) l) val) (j:Int) true i));have A1:(goAll p (setChn s i2 y) l).said.length<64:=by rw[j4];exact B1.o
   go_wp2_with fail;refine(QZ w _ _ M u v' _ _ false val h8 A1).mono ?_;rintro e Wa ⟨rfl,r,h9⟩;clear h8 A1;go_wp2_with fail;refine(vO w _ _ M u p {v' with sa:=r} _ _ false j _ h9 HP.o q0.out (by show 0<(goAll p _ l).places.length/\(goAll p _ l).places.length<=8/\(goAll p _ l).places.length=(goAll p _ l).status.length;rw[jn,vc];exact P8.o) (by have:=TT.o;show 0<=(j:Int)/\(j:Int)<p.threads.length/\(j:Int)<((goAll p _ l).places.length:Int);rw[jn];exact this) G0.o).mono ?_;rintro e Wb ⟨rfl,h⟩;clear h9;obtain⟨vv,a0⟩:∃x,x={v' with sa:=r}:=⟨_,rfl⟩
   rw[<-a0] at h;clear a0
  rotate_left
  focus
   have HE:uH (zJ p s j=jh p (goAll p (setChn s i2 y) l) j true):=zd (by
    unfold zJ;rw[<-HO.o];show doGet p s j ⟨9,((i2:Nat):Int),ar⟩=_;unfold doGet;dsimp only;rw[show((i2:Nat):Int).toNat=i2 from rfl,<-HX.o,HM.o];exact YK p _ l [(j:Int)])
   have G0:uH (∀i,0<=(goAll p (setChn s i2 y) l).places.getD i 0/\(goAll p (setChn s i2 y) l).places.getD i 0<=8):=zd (tR (s:=s) t1.out.fits (λi=>(r0.out i).1) (λi=>(jj l (setChn s i2 y) i).1) (λi=>by rw[HE.o];exact VG (p:=p) (goAll p (setChn s i2 y) l) (j:Int) true i));go_wp2_with fail;refine(vO w _ _ M u p v' _ _ false j _ h8 HP.o q0.out (by rw[jn,vc];exact P8.o) (by have:=TT.o;rw[jn];exact this) G0.o).mono ?_;rintro e Wb ⟨rfl,h⟩;clear h8;obtain⟨vv,a0⟩:=jy v';rw[<-a0] at h;clear a0
  rotate_left
 rotate_left 3
 focus
  obtain⟨o0,on1⟩:=qC E0.o;rw[show zN p (10:Int)=p.rooms.length by unfold zN;rw[if_neg jq,if_neg jq,if_neg jq,if_neg jq,if_neg jq]] at on1;dsimp only at o0 on1;obtain⟨i2,rfl⟩:∃z:Nat,on=z:=⟨on.toNat,jq⟩
  have hi:i2<s.chans.length:=by rw[HF.o.nch];omega
  have HI:=zd hi;obtain⟨x,q,b1,o1,HX,ea,g0,g1,g2,g3,g4,Q0,t0,v1,Q1,O1,O2,Q2,P1,P2⟩:=HS.o.at_ch (j:=i2) hi;have b0:=zd (HF.o.ch i2 hi);rw[<-HX.o] at b0;have j0:(0:Int)<=(i2:Int):=jq;have j1:(i2:Int)<(v.ch.n:Int):=by rw[HS.o.ch.len];omega
  have EA:=zd ea;replace g0:=ze h.fr.bel g0;replace g1:=ze h.fr.bel g1;replace g2:=ze h.fr.bel g2;replace g3:=ze h.fr.bel g3;replace g4:=ze h.fr.bel g4;clear hi ea o0 on1;go_upto_region 74 with fail;have cs:=h.fr.c9 3 rfl;have co:=h.fr.c3 1 rfl;rw[EA.o] at cs;go_wp2_with fail;refine(UI x q.1.a q.2.1.a q.2.2.a q.1.n q.1.c q.2.1.n q.2.1.c q.2.2.n q.2.2.c _ t0.out.symm O1.o.symm P1.o.symm (h.fr.rd Q0.o) (h.fr.rd Q1.o) (h.fr.rd Q2.o) b0.out.1).mono ?_;rintro e w2 ⟨y,s1,s2,s3,z,l,bb,f0,rfl,E1,G1,H1,hz,hb⟩;have bA:xW w2 (Go.World.alloc w2 (.cells #[uy y.room,.slice s1.a s1.n s1.c,.slice s2.a s2.n s2.c,.slice s3.a s3.n s3.c,.bool y.closed] 98)):=zY;have hu:yc v'.blks (Go.World.alloc w2 (.cells #[uy y.room,.slice s1.a s1.n s1.c,.slice s2.a s2.n s2.c,.slice s3.a s3.n s3.c,.bool y.closed] 98)) z (zf l) l.length:=(X8 h hz).below bA;have hq:Xp _ (Go.World.alloc w2 (.cells #[uy y.room,.slice s1.a s1.n s1.c,.slice s2.a s2.n s2.c,.slice s3.a s3.n s3.c,.bool y.closed] 98)) y (s1,s2,s3):=⟨h.apart (E1.below bA),h.apart (G1.below bA),h.apart (H1.below bA)⟩
  have kN:zm (Go.World.alloc w2 (.cells #[uy y.room,.slice s1.a s1.n s1.c,.slice s2.a s2.n s2.c,.slice s3.a s3.n s3.c,.bool y.closed] 98)) w2.heap.size #[uy y.room,.slice s1.a s1.n s1.c,.slice s2.a s2.n s2.c,.slice s3.a s3.n s3.c,.bool y.closed] 98:=zm.new _ _ _;replace h:=(h.call hb).call bA;clear cs co g0 g1 g2 g3 g4 hb bA E1 G1 H1;go_upto_region 75 with fail;obtain⟨WA,L0⟩:=jy ((Go.World.alloc w2 (.cells #[uy y.room,.slice s1.a s1.n s1.c,.slice s2.a s2.n s2.c,.slice s3.a s3.n s3.c,.bool y.closed] 98)));rw[<-L0] at h kN hq hu⊢;clear L0;clear hz
  cases bb
  ·clear hu hq kN;rw[if_neg jk] at f0;have HE:uH (zJ p s j=jt s 4):=zd (by
    unfold zJ;rw[<-HO.o];show doClose p s j ⟨10,((i2:Nat):Int),ar⟩=_;unfold doClose;dsimp only;rw[show((i2:Nat):Int).toNat=i2 from rfl,<-HX.o,f0])
   go_wp2_with fail;refine(Y7 (w.heap.size+1) 4 v L s _ (h.fr.blk 3 rfl) (HS.o.below h.bel) HF.o.sm).mono ?_;rintro e Wc ⟨v2,L2,rfl,ho,hn,hb⟩;have V0:=yz.lower hn h.bel.size;have g:=Sf.gain h.fr ho hn hb;clear ho hn hb h;have cz:=g.c9 2 rfl;have g2:=g.setV 2 rfl v2;go_wp2;exact zM (v:= .tuple #[v2.val,.bool true]) (by simp[results,Tryz.results28,go_sem,g2.c9 2 rfl]) rfl ⟨v2,L2,rfl,by rw[HE.o];exact g2.st.sub jv,V0,g2.bel⟩
  rw[if_pos rfl] at f0;have HE:uH (zJ p s j=goAll p (goAll p (setChn s i2 y) l) [(j:Int)]):=zd (by
   unfold zJ;rw[<-HO.o];show doClose p s j ⟨10,((i2:Nat):Int),ar⟩=_;unfold doClose;dsimp only;rw[show((i2:Nat):Int).toNat=i2 from rfl,<-HX.o,f0];exact YK p _ l [(j:Int)])
  have s0:uH (qG p s l):=zd (UU HF.o HI.o (by rw[<-HX.o];exact f0));have G0:uH (∀i,0<=(goAll p (setChn s i2 y) l).places.getD i 0/\(goAll p (setChn s i2 y) l).places.getD i 0<=8):=zd (tR (s:=s) t1.out.fits (λi=>(r0.out i).1) (λi=>(jj l (setChn s i2 y) i).1) (λi=>by rw[HE.o];exact(jj [(j:Int)] _ i).1));clear f0;obtain⟨gt,eg,h0,j2,r1,h6,hP,A0,⟨y0,v0⟩,B0,⟨y1,z0⟩,I0,⟨y2,H0⟩,Z0,⟨y3,Y0⟩,S1,⟨y4,R1⟩⟩:=h.putf_ch HI.o (x:=y) (q:=(s1,s2,s3)) hq;have EG:=zd eg;have c0:=(hu.touch hP (λb hb=>by obtain rfl:=yh hb;exact h0)).drew;clear h0 hP hu;have qm:World.cell? _ ⟨M,11,none⟩=some (.slice v'.ch.a v'.ch.n v'.ch.c):=h.fr.cell 0 11 rfl rfl;rw[EG.o] at qm;have co:=h.fr.c3 1 rfl;have n0:=kN.cell 0 rfl;have n1:=kN.cell 1 rfl;have n2:=kN.cell 2 rfl;have n3:=kN.cell 3 rfl;have n4:=kN.cell 4 rfl;clear eg;go_wp2;go_still_tail 9,(by kernel_rfl)
  go_upto_region 78 with fail;obtain⟨W3,hw,h7⟩:=h6.drew.named;rw[<-hw];rw[<-hw] at c0;clear h6 h hw kN co qm hq n0 A0 v0 n1 B0 z0 n2 I0 H0 n3 Z0 Y0 n4 S1 R1;go_wp2_with fail;refine(jl w _ _ M u p v' _ _ false z.a z.n z.c l h7 HP.o q0.out c0 s0.out.1 P8.o s0.out.2 r0.out).mono ?_;rintro e Wt ⟨rfl,h8,-⟩;clear h7 c0;have h2:=h8.alloc #[uy j] 3;have hw:yc (zu.blks v') (World.alloc Wt (.cells #[uy j] 3)) ⟨some ⟨Wt.heap.size,0,none⟩,1,1⟩ (zf [(j:Int)]) [(j:Int)].length:=⟨rfl,Rd.of_blk (h2.fr.blk 0 rfl),.inr (λb hb hm=>by have h9:=(h8.st.from b hm).2;simp only[zj,qy] at hb;omega),Nat.le_refl _⟩
  go_wp2_with fail;refine(jl w _ _ M u p v' _ _ false _ 1 1 [(j:Int)] (h2.pull 1 rfl) HP.o q0.out hw jv (by rw[jn,vc];exact P8.o) (λz S0=>by obtain rfl:=yh S0;exact(by have:=TT.o;rw[jn];exact this)) G0.o).mono ?_;rintro e Wb ⟨rfl,h3,-⟩;clear h2 hw h8;have h:=h3.sub (l':= .blk M (mC u v' false) 66:: .blk bo #[uy 10,uy (i2:Int),uy ar] 68::JO w u v zC) (.cons_cons _ (.cons _ (.refl _)));clear h3;obtain⟨vv,a0⟩:=jy v';rw[<-a0] at h;clear a0
 rotate_left
 all_goals
  have q5:World.cell? _ ⟨M,5,none⟩=some (.slice vv.pl.a vv.pl.n vv.pl.c):=h.fr.cell 0 5 rfl rfl;have q6:World.cell? _ ⟨M,6,none⟩=some (.slice vv.st.a vv.st.n vv.st.c):=h.fr.cell 0 6 rfl rfl;have q7:World.cell? _ ⟨M,7,none⟩=some (.slice vv.se.a vv.se.n vv.se.c):=h.fr.cell 0 7 rfl rfl;have q8:World.cell? _ ⟨M,8,none⟩=some (.slice vv.on.a vv.on.n vv.on.c):=h.fr.cell 0 8 rfl rfl;have q9:World.cell? _ ⟨M,9,none⟩=some (.slice vv.gr.a vv.gr.n vv.gr.c):=h.fr.cell 0 9 rfl rfl;have v3:World.cell? _ ⟨M,10,none⟩=some (.slice vv.ba.a vv.ba.n vv.ba.c):=h.fr.cell 0 10 rfl rfl;have x3:World.cell? _ ⟨M,11,none⟩=some (.slice vv.ch.a vv.ch.n vv.ch.c):=h.fr.cell 0 11 rfl rfl;have z3:World.cell? _ ⟨M,12,none⟩=some (.slice vv.sa.a vv.sa.n vv.sa.c):=h.fr.cell 0 12 rfl rfl;have A3:World.cell? _ ⟨M,13,none⟩=some (uy vv.fl):=h.fr.cell 0 13 rfl rfl;have B3:World.cell? _ ⟨M,14,none⟩=some (.bool false):=h.fr.cell 0 14 rfl rfl;go_wp2_with fail;refine(Xf vv _ _ _ h.rd (by have h9:=t1.out.fits.sm;rw[HE.o] at h9;exact h9)).mono ?_;rintro e Wc ⟨v2,L2,rfl,ho,hn,hb⟩;have V0:=yz.lower hn h.bel.size;have g:=Sf.gain h.fr ho hn hb;clear ho hn hb h q5 q6 q7 q8 q9 v3 x3 z3 A3 B3;have cz:=g.c9 2 rfl;have g2:=g.setV 2 rfl v2
  go_wp2;exact zM (v:= .tuple #[v2.val,.bool true]) (by simp[results,Tryz.results28,go_sem,g2.c9 2 rfl]) rfl ⟨v2,L2,rfl,by rw[HE.o];exact g2.st.sub jv,V0,g2.bel⟩
end Go.Proofs.YtfclolgfegdfjaaGreat
