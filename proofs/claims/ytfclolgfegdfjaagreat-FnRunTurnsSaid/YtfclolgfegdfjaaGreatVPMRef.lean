/- Part of a proof: MOnceS2 MGrpS MChnS MBarS MChnS2 MNewS MSemS2 MSemS3 MSemS4 MGrpS2 MGrpS3. -/
import Derived.Test.YtfclolgfegdfjaaGreatVPMList
set_option maxRecDepth 100000
set_option maxHeartbeats 16000000
namespace Go.Proofs.YtfclolgfegdfjaaGreat
open Go.RowKit
theorem Ux (x:xJ) (a:uQ) (n c:Nat) (t:Int) (w:World) (hl:x.waits.length=n) (hc:n<=c) (hr:Rd w a (zf x.waits)) (ok:uF x) (ht:0<=t/\t<6) (H0:x.state=1->t≠x.owner/\t∉x.waits):
  Calls Tryz.prog 162 #[.agg #[uy x.state,uy x.owner,uy x.value,.slice a n c],uy t] w λe w'=>∃(y:xJ) (s:zP),y=qU x t/\e= .returned (.tuple #[G7 y s,uy x.state,.bool true])/\yy w w' s (zf y.waits) y.waits.length/\xW w w':=by
 obtain⟨st,ow,va,ws⟩:=x;have x0:=ok;dsimp only at hl hr H0;rcases ok with ⟨h1,h2,h3,h4⟩|⟨h1,h2,h3,h4,h5⟩|⟨h1,h2,h3,h4⟩
 ·dsimp only at h1 h2 h3 h4;subst h1 h2 h3 h4;obtain rfl:0=n:=by simpa using hl
  have HL:=zd hl;have y0:=zd x0;clear hl x0;obtain⟨W0,d0⟩:∃W0:World,W0=((w.alloc (.cells #[uy 0,uy 0,uy 0,.slice a 0 c] 81)).alloc (.cells #[uy 0,uy 0,uy 0,uk] 81)):=⟨_,rfl⟩
  have B0:xW w W0:=by
   rw[d0];exact((xd.alloc jv _).alloc jv _)
  have kS:zm W0 (w.heap.size) #[uy 0,uy 0,uy 0,.slice a 0 c] 81:=by
   rw[d0];have h:=zm.new w #[uy 0,uy 0,uy 0,.slice a 0 c] 81;exact h|>.alloc _
  have kR:zm W0 (w.heap.size+1) #[uy 0,uy 0,uy 0,uk] 81:=by
   rw[d0];have h:=zm.new (w.alloc (.cells #[uy 0,uy 0,uy 0,.slice a 0 c] 81)) #[uy 0,uy 0,uy 0,uk] 81;simp only[yY] at h;exact h
  have N0:W0.heap.size=w.heap.size+2:=by rw[d0];simp
  have HR:=zd (hr.below B0);have HB:=zd B0;clear hr B0;have q0:=kS.cell 0 rfl;have q1:=kS.cell 1 rfl;have q2:=kS.cell 2 rfl;have q3:=kS.cell 3 rfl;go_enter Tryz.func162,Tryz.ntmps162;go_wp2_with fail;rw[<-d0];clear d0;refine(ui ⟨0,0,0,[]⟩ a 0 c _ HL.o hc HR.o y0.out).mono ?_;rintro e w1 ⟨rfl,hb⟩;replace q0:=ze hb q0;replace q1:=ze hb q1;replace q2:=ze hb q2;replace q3:=ze hb q3;replace kR:=kR.below hb;have g0:=zd (HB.o.trans (hb.mono HB.o.size));have v0:=zd (HR.o.below hb);have k0:=kR.lt;clear hb HR kS;go_wp2_with fail;refine(jz t _ ht).mono ?_;rintro e w3 ⟨rfl,u0⟩;have f0:=u0.symm;subst f0;go_wp2_with fail;refine(Zr ⟨0,0,0,[]⟩ a 0 c _ HL.o jq v0.out).mono ?_;rintro e wc ⟨a2,c2,rfl,a0,hb⟩;dsimp only at a0;have s0:=zd (g0.out.trans (hb.mono g0.out.size));replace q0:=ze hb q0;replace q1:=ze hb q1;replace q2:=ze hb q2;replace q3:=ze hb q3;replace kR:=kR.below hb;have F0:=kR;have O0:=hb.size;obtain⟨WA,h0⟩:∃WA:World,WA=wc.alloc (.cells #[uy 0,uy 0,uy 0,.slice a2 0 c2] 81):=⟨_,rfl⟩
  have bA:xW wc WA:=by rw[h0];exact zY
  have kO:zm WA wc.heap.size #[uy 0,uy 0,uy 0,.slice a2 0 c2] 81:=by rw[h0];exact zm.new _ _ _
  have P0:WA.heap.size=wc.heap.size+1:=by rw[h0];simp
  replace q0:=ze bA q0;replace q1:=ze bA q1;replace q2:=ze bA q2;replace q3:=ze bA q3;replace kR:=kR.below bA;have t0:=zd (s0.out.trans (bA.mono s0.out.size));have b0:=zd a0;have c0:=zd (zl a0 bA);clear hb bA a0;have l0:uH (∀q,zj a2=some q->w1.heap.size<=q/\q<wc.heap.size):=zd (zy b0.out);have J0:w.heap.size+1≠wc.heap.size:=jq;have o0:=kO.cell 0 rfl;have o1:=kO.cell 1 rfl;have o2:=kO.cell 2 rfl;have o3:=kO.cell 3 rfl;have R0:=kO.fz 0;have S0:=kO.fz 1;have T0:=kO.fz 2;have U0:=kO.fz 3;have r0:=kR.cell 0 rfl;have r1:=kR.cell 1 rfl;have r2:=kR.cell 2 rfl;have r3:=kR.cell 3 rfl;have V0:=kR.fz 0;have X0:=kR.fz 1;have Y0:=kR.fz 2;have Z0:=kR.fz 3;have G0:=zd k0;clear kO kR F0 k0;subst h0;go_wp2;have k0:=G0.o;have hT:=(((((zo.refl [w.heap.size+1] (wc.alloc (.cells #[uy 0,uy 0,uy 0,.slice a2 0 c2] 81))).set (v:=uy 1) (b:=w.heap.size+1) (j:=0) jv).set (v:=uy t) (b:=w.heap.size+1) (j:=1) jv).set (v:=uy 0) (b:=w.heap.size+1) (j:=2) jv).set (v:=uk) (b:=w.heap.size+1) (j:=3) jv)
  have z0:=hT.below (B:=w.heap.size) t0.out.size (λk hk=>by have:=g0.out.size;simp only[List.mem_cons,jw,or_false] at hk;omega);refine zM (v:= .tuple #[.agg #[uy 1,uy t,uy 0,uk],uy 0,.bool true]) (by simp[results,Tryz.results162,go_sem,r0,r1,r2,r3]) rfl ⟨⟨1,t,0,[]⟩,zR,rfl,rfl,?_,t0.out.trans z0⟩;exact yy.nil _ _
 ·dsimp only at h1 h2 h3 h4;subst h1 h3;have h6:n<=6:=by rw[<-hl];exact h4.1
  have A0:=(H0 rfl).1;have C0:=(H0 rfl).2;clear H0;have HL:=zd hl;have y0:=zd x0;clear hl x0;obtain⟨W0,d0⟩:∃W0:World,W0=((w.alloc (.cells #[uy 1,uy ow,uy 0,.slice a n c] 81)).alloc (.cells #[uy 0,uy 0,uy 0,uk] 81)):=⟨_,rfl⟩
  have B0:xW w W0:=by
   rw[d0];exact((xd.alloc jv _).alloc jv _)
  have kS:zm W0 (w.heap.size) #[uy 1,uy ow,uy 0,.slice a n c] 81:=by
   rw[d0];have h:=zm.new w #[uy 1,uy ow,uy 0,.slice a n c] 81;exact h|>.alloc _
  have kR:zm W0 (w.heap.size+1) #[uy 0,uy 0,uy 0,uk] 81:=by
   rw[d0];have h:=zm.new (w.alloc (.cells #[uy 1,uy ow,uy 0,.slice a n c] 81)) #[uy 0,uy 0,uy 0,uk] 81;simp only[yY] at h;exact h
  have N0:W0.heap.size=w.heap.size+2:=by rw[d0];simp
  have HR:=zd (hr.below B0);have HB:=zd B0;clear hr B0;have q0:=kS.cell 0 rfl;have q1:=kS.cell 1 rfl;have q2:=kS.cell 2 rfl;have q3:=kS.cell 3 rfl;go_enter Tryz.func162,Tryz.ntmps162;go_wp2_with fail;rw[<-d0];clear d0;refine(ui ⟨1,ow,0,ws⟩ a n c _ HL.o hc HR.o y0.out).mono ?_;rintro e w1 ⟨rfl,hb⟩;replace q0:=ze hb q0;replace q1:=ze hb q1;replace q2:=ze hb q2;replace q3:=ze hb q3;replace kR:=kR.below hb;have g0:=zd (HB.o.trans (hb.mono HB.o.size));have v0:=zd (HR.o.below hb);have k0:=kR.lt;clear hb HR kS;go_wp2_with fail;refine(jz t _ ht).mono ?_;rintro e w3 ⟨rfl,u0⟩;have f0:=u0.symm;subst f0;go_wp2_with fail;refine(Zr ⟨1,ow,0,ws⟩ a n c _ HL.o jq v0.out).mono ?_;rintro e wc ⟨a2,c2,rfl,a0,hb⟩;have i1:=zd hb;dsimp only at a0;have s0:=zd (g0.out.trans (hb.mono g0.out.size));replace q0:=ze hb q0;replace q1:=ze hb q1;replace q2:=ze hb q2;replace q3:=ze hb q3;replace kR:=kR.below hb;have F0:=kR;have O0:=hb.size;obtain⟨WA,h0⟩:∃WA:World,WA=wc.alloc (.cells #[uy 1,uy ow,uy 0,.slice a2 n c2] 81):=⟨_,rfl⟩
  have bA:xW wc WA:=by rw[h0];exact zY
  have g1:=zd bA;have kO:zm WA wc.heap.size #[uy 1,uy ow,uy 0,.slice a2 n c2] 81:=by rw[h0];exact zm.new _ _ _
  have P0:WA.heap.size=wc.heap.size+1:=by rw[h0];simp
  replace q0:=ze bA q0;replace q1:=ze bA q1;replace q2:=ze bA q2;replace q3:=ze bA q3;replace kR:=kR.below bA;have t0:=zd (s0.out.trans (bA.mono s0.out.size));have b0:=zd a0;have c0:=zd (zl a0 bA);clear hb bA a0;have l0:uH (∀q,zj a2=some q->w1.heap.size<=q/\q<wc.heap.size):=zd (zy b0.out);have J0:w.heap.size+1≠wc.heap.size:=jq;have o0:=kO.cell 0 rfl;have o1:=kO.cell 1 rfl;have o2:=kO.cell 2 rfl;have o3:=kO.cell 3 rfl;have R0:=kO.fz 0;have S0:=kO.fz 1;have T0:=kO.fz 2;have U0:=kO.fz 3;have t1:(t==ow)=false:=by simpa using A0
  have Q0:yO ws t= -1:=uJ C0;have a1:=zd Q0;have f1:=zd ((v0.out.below i1.out).below g1.out);have G0:=zd k0;clear Q0 k0 A0 C0 F0;subst h0;go_wp2_with fail;refine(jM a n c ws t _ HL.o (by unfold maxLen;omega) f1.out).mono ?_;rintro e w3 ⟨rfl,u0⟩;have f0:=u0.symm;subst f0;rw[a1.out]
  go_wp2_with (at_builtin;refine yF (m:=1) (cm:=1) (news:=[uy t]) rfl _ _ 23 rfl Tryz.underlying23 yb rfl jk rfl c0.out (by show Value.slice (some ⟨wc.heap.size+1,0,none⟩) 1 1=_;simp) rfl rfl (by simp[Value.oneCell']) jq jk (by simp;omega) ?_;intro a3 c3 w3 i0 m0;have D0:=kO.grown m0 (yd kO c0.out (by decide:(81:TypeId)≠3));have L0:=kR.grown m0 (yd kR c0.out (by decide:(81:TypeId)≠3));have l1:=D0.fz 3;have m1:=D0.cell 3 rfl;have E0:=D0.set 3 (.slice a3 (n+1) c3);have n0:=L0.other ⟨wc.heap.size,3,none⟩ (.slice a3 (n+1) c3) J0;have p0:=E0.cell 0 rfl;have p1:=E0.cell 1 rfl;have p2:=E0.cell 2 rfl;have p3:=E0.cell 3 rfl;have r0:=n0.cell 0 rfl;have V0:=n0.fz 0;have r1:=n0.cell 1 rfl;have X0:=n0.fz 1;have r2:=n0.cell 2 rfl;have Y0:=n0.fz 2;have r3:=n0.cell 3 rfl;have Z0:=n0.fz 3;have j1:=yd D0 i0 (by decide:(81:TypeId)≠3);have k1:=yd L0 i0 (by decide:(81:TypeId)≠3);have d1:=zd i0;have b1:=zd m0;clear kO kR D0 L0 E0 n0 i0 m0);have M0:=t0.out.trans (zG b1.out t0.out.size (λq hq=>by have:=(l0.out q hq).1;have:=g0.out.size;omega))
  have hT:=((((((zo.refl [wc.heap.size,w.heap.size+1] w3).set (v:= .slice a3 (n+1) c3) (b:=wc.heap.size) (j:=3) jv).set (v:=uy 1) (b:=w.heap.size+1) (j:=0) jv).set (v:=uy ow) (b:=w.heap.size+1) (j:=1) jv).set (v:=uy 0) (b:=w.heap.size+1) (j:=2) jv).set (v:= .slice a3 (n+1) c3) (b:=w.heap.size+1) (j:=3) jv)
  have z0:=hT.below (B:=w.heap.size) M0.size (λk hk=>by have:=g0.out.size;simp only[List.mem_cons,jw,or_false] at hk;omega);refine zM (v:= .tuple #[.agg #[uy 1,uy ow,uy 0,.slice a3 (n+1) c3],uy 1,.bool true]) (by simp[results,Tryz.results162,go_sem,r0,r1,r2,r3]) rfl ⟨⟨1,ow,0,ws++[t]⟩,⟨a3,n+1,c3⟩,rfl,rfl,?_,M0.trans z0⟩;have j0:=zE d1.out hT (λq hq hm=>by
   simp only[List.mem_cons,jw,or_false] at hm;rcases hm with rfl|rfl
   ·exact j1 hq
   ·exact k1 hq)
  have I0:=yy.of_owns (w0:=w) j0 (jQ g0.out.size);have K0:zf (ws++[t])=zf ws++[uy t]:=by simp[zf]
  refine⟨by show _=(ws++[t]).length;rw[xp,HL.o];rfl,?_,?_,I0.cap,by show zf (ws++[t])=[]\/_;rw[K0];exact I0.ty⟩
  ·show Rd _ _ (zf (ws++[t]));rw[K0];exact I0.rd
  ·show zf (ws++[t])=[]\/_;rw[K0];exact I0.new
 ·dsimp only at h1 h2 h3 h4;subst h1 h4;obtain rfl:0=n:=by simpa using hl
  have HL:=zd hl;have y0:=zd x0;clear hl x0;obtain⟨W0,d0⟩:∃W0:World,W0=((w.alloc (.cells #[uy 2,uy ow,uy va,.slice a 0 c] 81)).alloc (.cells #[uy 0,uy 0,uy 0,uk] 81)):=⟨_,rfl⟩
  have B0:xW w W0:=by
   rw[d0];exact((xd.alloc jv _).alloc jv _)
  have kS:zm W0 (w.heap.size) #[uy 2,uy ow,uy va,.slice a 0 c] 81:=by
   rw[d0];have h:=zm.new w #[uy 2,uy ow,uy va,.slice a 0 c] 81;exact h|>.alloc _
  have kR:zm W0 (w.heap.size+1) #[uy 0,uy 0,uy 0,uk] 81:=by
   rw[d0];have h:=zm.new (w.alloc (.cells #[uy 2,uy ow,uy va,.slice a 0 c] 81)) #[uy 0,uy 0,uy 0,uk] 81;simp only[yY] at h;exact h
  have N0:W0.heap.size=w.heap.size+2:=by rw[d0];simp
  have HR:=zd (hr.below B0);have HB:=zd B0;clear hr B0;have q0:=kS.cell 0 rfl;have q1:=kS.cell 1 rfl;have q2:=kS.cell 2 rfl;have q3:=kS.cell 3 rfl;go_enter Tryz.func162,Tryz.ntmps162;go_wp2_with fail;rw[<-d0];clear d0;refine(ui ⟨2,ow,va,[]⟩ a 0 c _ HL.o hc HR.o y0.out).mono ?_;rintro e w1 ⟨rfl,hb⟩;replace q0:=ze hb q0;replace q1:=ze hb q1;replace q2:=ze hb q2;replace q3:=ze hb q3;replace kR:=kR.below hb;have g0:=zd (HB.o.trans (hb.mono HB.o.size));have v0:=zd (HR.o.below hb);have k0:=kR.lt;clear hb HR kS;go_wp2_with fail;refine(jz t _ ht).mono ?_;rintro e w3 ⟨rfl,u0⟩;have f0:=u0.symm;subst f0;go_wp2_with fail;refine(Zr ⟨2,ow,va,[]⟩ a 0 c _ HL.o jq v0.out).mono ?_;rintro e wc ⟨a2,c2,rfl,a0,hb⟩;dsimp only at a0;have s0:=zd (g0.out.trans (hb.mono g0.out.size));replace q0:=ze hb q0;replace q1:=ze hb q1;replace q2:=ze hb q2;replace q3:=ze hb q3;replace kR:=kR.below hb;have F0:=kR;have O0:=hb.size;obtain⟨WA,h0⟩:∃WA:World,WA=wc.alloc (.cells #[uy 2,uy ow,uy va,.slice a2 0 c2] 81):=⟨_,rfl⟩
  have bA:xW wc WA:=by rw[h0];exact zY
  have kO:zm WA wc.heap.size #[uy 2,uy ow,uy va,.slice a2 0 c2] 81:=by rw[h0];exact zm.new _ _ _
  have P0:WA.heap.size=wc.heap.size+1:=by rw[h0];simp
  replace q0:=ze bA q0;replace q1:=ze bA q1;replace q2:=ze bA q2;replace q3:=ze bA q3;replace kR:=kR.below bA;have t0:=zd (s0.out.trans (bA.mono s0.out.size));have b0:=zd a0;have c0:=zd (zl a0 bA);clear hb bA a0;have l0:uH (∀q,zj a2=some q->w1.heap.size<=q/\q<wc.heap.size):=zd (zy b0.out);have J0:w.heap.size+1≠wc.heap.size:=jq;have o0:=kO.cell 0 rfl;have o1:=kO.cell 1 rfl;have o2:=kO.cell 2 rfl;have o3:=kO.cell 3 rfl;have R0:=kO.fz 0;have S0:=kO.fz 1;have T0:=kO.fz 2;have U0:=kO.fz 3;have r0:=kR.cell 0 rfl;have r1:=kR.cell 1 rfl;have r2:=kR.cell 2 rfl;have r3:=kR.cell 3 rfl;have V0:=kR.fz 0;have X0:=kR.fz 1;have Y0:=kR.fz 2;have Z0:=kR.fz 3;have G0:=zd k0;clear kO kR F0 k0;subst h0;go_wp2;have k0:=G0.o;have hT:=(((((zo.refl [w.heap.size+1] (wc.alloc (.cells #[uy 2,uy ow,uy va,.slice a2 0 c2] 81))).set (v:=uy 2) (b:=w.heap.size+1) (j:=0) jv).set (v:=uy ow) (b:=w.heap.size+1) (j:=1) jv).set (v:=uy va) (b:=w.heap.size+1) (j:=2) jv).set (v:= .slice a2 0 c2) (b:=w.heap.size+1) (j:=3) jv)
  have z0:=hT.below (B:=w.heap.size) t0.out.size (λk hk=>by have:=g0.out.size;simp only[List.mem_cons,jw,or_false] at hk;omega);refine zM (v:= .tuple #[.agg #[uy 2,uy ow,uy va,.slice a2 0 c2],uy 2,.bool true]) (by simp[results,Tryz.results162,go_sem,r0,r1,r2,r3]) rfl ⟨⟨2,ow,va,[]⟩,⟨a2,0,c2⟩,rfl,rfl,?_,t0.out.trans z0⟩;have j0:=zE c0.out hT (λq hq hm=>by have:=(l0.out q hq).1;simp only[List.mem_singleton] at hm;omega);exact yy.of_owns (w0:=w) j0 (jQ g0.out.size)
theorem Ja (t:Int) (w:World):Calls Tryz.prog 141 #[uy t] w λe w'=>e= .returned (.bool (decide (0<=t/\t<=99)))/\w'=w:=by
 by_cases h1:0<=t
 ·by_cases h2:t<=99
  ·rw[xK (⟨h1,h2⟩:0<=t/\t<=99)];exact vD t w ⟨h1,h2⟩
  ·rw[xr (λh:0<=t/\t<=99=>h2 h.2)];have d1:decide (0<=t)=true:=xK h1;have d2:decide (t<=99)=false:=xr h2;go_enter Tryz.func141,Tryz.ntmps141;go_wp2;go_ret;exact⟨rfl,rfl⟩
 ·rw[xr (λh:0<=t/\t<=99=>h1 h.1)];have d1:decide (0<=t)=false:=xr h1;go_enter Tryz.func141,Tryz.ntmps141;go_wp2;go_ret;exact⟨rfl,rfl⟩
theorem Uc (ws:List Int) (a:uQ) (n c:Nat) (t:Int) (w:World) (hl:ws.length=n) (hc:n<=c) (hr:Rd w a (zf ws)) (ok:uF ⟨1,t,0,ws⟩):
  Calls Tryz.prog 172 #[.agg #[uy 1,uy t,uy 0,.slice a n c],uy t] w λe w'=>e= .returned (.bool true)/\xW w w':=by
 have t0:(t==t)=true:=jv;obtain⟨W0,a0⟩:∃W0:World,W0=(w.alloc (.cells #[uy 1,uy t,uy 0,.slice a n c] 81)):=⟨_,rfl⟩
 have B0:xW w W0:=by
  rw[a0];exact(xd.alloc jv _)
 have kS:zm W0 (w.heap.size) #[uy 1,uy t,uy 0,.slice a n c] 81:=by
  rw[a0];have h:=zm.new w #[uy 1,uy t,uy 0,.slice a n c] 81;exact h
 have c0:W0.heap.size=w.heap.size+1:=by rw[a0];simp
 have b0:=zd (hr.below B0);have HB:=zd B0;clear B0 hr;have q0:=kS.cell 0 rfl;have q1:=kS.cell 1 rfl;have q2:=kS.cell 2 rfl;have q3:=kS.cell 3 rfl;go_enter Tryz.func172,Tryz.ntmps172;go_wp2_with fail;rw[<-a0];clear a0;refine(ui ⟨1,t,0,ws⟩ a n c _ hl hc b0.out ok).mono ?_;rintro e w1 ⟨rfl,hb⟩;replace q0:=ze hb q0;replace q1:=ze hb q1;replace q2:=ze hb q2;replace q3:=ze hb q3;replace kS:=kS.below hb;replace b0:=zd (b0.out.below hb);replace HB:=zd (HB.o.trans (hb.mono HB.o.size));clear hb;go_wp2;go_ret;exact⟨rfl,HB.o⟩
theorem VY (ws:List Int) (a:uQ) (n c:Nat) (t v:Int) (w:World) (hl:ws.length=n) (hc:n<=c) (hr:Rd w a (zf ws)) (ok:uF ⟨1,t,0,ws⟩) (hv:0<=v/\v<=99):
  Calls Tryz.prog 161 #[.agg #[uy 1,uy t,uy 0,.slice a n c],uy t,uy v] w λe w'=>∃u:zP,e= .returned (.tuple #[G7 (Yl t v) zR,u.val,.bool true])/\w'.ownsRow w.heap.size 3 1 u.val u.n (zf ws)/\xW w w':=by
 have h6:n<=6:=by
  rw[<-hl];rcases ok with ⟨h,_⟩|⟨_,_,_,h,_⟩|⟨h,_⟩
  ·cases h
  ·exact h.1
  ·cases h
 have HL:=zd hl;have n0:uH ((zf ws).length=n*1):=zd (by rw[yG,hl,Nat.mul_one]);have o0:=zd ok;clear hl ok;obtain⟨W0,d0⟩:∃W0:World,W0=((w.alloc (.cells #[uy 1,uy t,uy 0,.slice a n c] 81)).alloc (.cells #[uy 0,uy 0,uy 0,uk] 81)):=⟨_,rfl⟩
 have B0:xW w W0:=by
  rw[d0];exact((xd.alloc jv _).alloc jv _)
 have kS:zm W0 (w.heap.size) #[uy 1,uy t,uy 0,.slice a n c] 81:=by
  rw[d0];have h:=zm.new w #[uy 1,uy t,uy 0,.slice a n c] 81;exact h|>.alloc _
 have kR:zm W0 (w.heap.size+1) #[uy 0,uy 0,uy 0,uk] 81:=by
  rw[d0];have h:=zm.new (w.alloc (.cells #[uy 1,uy t,uy 0,.slice a n c] 81)) #[uy 0,uy 0,uy 0,uk] 81;simp only[yY] at h;exact h
 have y0:W0.heap.size=w.heap.size+2:=by rw[d0];simp
 have g0:=zd (hr.below B0);have HB:=zd B0;clear B0 hr;have q0:=kS.cell 0 rfl;have q1:=kS.cell 1 rfl;have q2:=kS.cell 2 rfl;have q3:=kS.cell 3 rfl;go_enter Tryz.func161,Tryz.ntmps161;go_wp2_with fail;rw[<-d0];clear d0;refine(Uc ws a n c t _ HL.o hc g0.out o0.out).mono ?_;rintro e w1 ⟨rfl,hb⟩;replace q0:=ze hb q0;replace q1:=ze hb q1;replace q2:=ze hb q2;replace q3:=ze hb q3;replace kS:=kS.below hb;replace kR:=kR.below hb;replace g0:=zd (g0.out.below hb);replace HB:=zd (HB.o.trans (hb.mono HB.o.size));clear hb;go_wp2_with fail;refine(vD v _ hv).mono ?_;rintro e m0 ⟨rfl,c0⟩;have a0:=c0.symm;subst a0;have v0:=zd kR;have f0:=zd kR.lt;clear kS kR;have bE:xW w1 (w1.alloc (.cells #[] 3)):=zY;have p0:=g0.out.below bE;replace q3:=ze bE q3;have k0:=zd (HB.o.trans (bE.mono HB.o.size));have u0:w1.heap.size<=(w1.alloc (.cells #[] 3)).heap.size:=bE.size;clear bE
 go_wp2_with (at_builtin;refine xG (news:=zf ws) rfl _ _ 23 rfl Tryz.underlying23 yb rfl jk rfl (yg w1 3 1) rfl n0.out p0 (yA ws) jq jk u0 ?_;intro a3 c3 w3 i0 h0;rw[Nat.zero_add,qZ] at i0;have b0:=(v0.out.alloc (.cells #[] 3)).grown h0 (λe=>by have:=f0.out;simp only[zj,qy] at e;omega);have j0:=zd (k0.out.trans (zG h0 k0.out.size (λq hq=>by have:=HB.o.size;simp only[zj,qy] at hq;omega)));have r0:=b0.cell 0 rfl;have z0:=b0.fz 0;have r1:=b0.cell 1 rfl;have A0:=b0.fz 1;have r2:=b0.cell 2 rfl;have C0:=b0.fz 2;have r3:=b0.cell 3 rfl;have D0:=b0.fz 3;have l0:=zd i0;clear b0 i0 h0);have x0:=f0.out;have t0:=HB.o.size;have hT:=(((((zo.refl [w.heap.size+1] w3).set (v:=uy 2) (b:=w.heap.size+1) (j:=0) jv).set (v:=uy t) (b:=w.heap.size+1) (j:=1) jv).set (v:=uy v) (b:=w.heap.size+1) (j:=2) jv).set (v:=uk) (b:=w.heap.size+1) (j:=3) jv)
 have s0:=hT.below (B:=w.heap.size) j0.out.size (λk hk=>by simp only[List.mem_cons,jw,or_false] at hk;omega);refine zM (v:= .tuple #[.agg #[uy 2,uy t,uy v,uk],.slice a3 n c3,.bool true]) (by simp[results,Tryz.results161,go_sem,r0,r1,r2,r3]) rfl ⟨⟨a3,n,c3⟩,rfl,?_,j0.out.trans s0⟩;exact zw (zE l0.out hT (λq hq hm=>by have:=(zy l0.out q hq).1;simp only[List.mem_singleton] at hm;omega)) t0
theorem vP (g:ji) (a:uQ) (n c:Nat) (w:World) (hl:g.waits.length=n) (hc:n<=c) (hr:Rd w a (zf g.waits)) (ok:YY g):
  Calls Tryz.prog 163 #[.agg #[uy g.count,.slice a n c]] w λe w'=>e= .returned (.bool true)/\xW w w':=by
 obtain⟨⟨g1,g2⟩,h6,hz⟩:=ok;have HL:=zd hl;have H6:=zd h6;have HZ:=zd hz;clear hl h6 hz;obtain⟨W0,c0⟩:∃W0:World,W0=(w.alloc (.cells #[uy g.count,.slice a n c] 87)):=⟨_,rfl⟩
 have B0:xW w W0:=by
  rw[c0];exact(xd.alloc jv _)
 have kS:zm W0 (w.heap.size) #[uy g.count,.slice a n c] 87:=by
  rw[c0];have h:=zm.new w #[uy g.count,.slice a n c] 87;exact h
 have g0:W0.heap.size=w.heap.size+1:=by rw[c0];simp
 have d0:=zd (hr.below B0);have HB:=zd B0;clear B0 hr;have q0:=kS.cell 0 rfl;have q1:=kS.cell 1 rfl;go_enter Tryz.func163,Tryz.ntmps163;go_wp2_with fail;rw[<-c0];clear c0;refine(vD g.count _ ⟨g1,g2⟩).mono ?_;rintro e f0 ⟨rfl,b0⟩;have a0:=b0.symm;subst a0;go_wp2_with fail;refine(Xg a n c g.waits _ HL.o hc d0.out H6.o).mono ?_;rintro e w1 ⟨rfl,hb⟩;replace q0:=ze hb q0;replace q1:=ze hb q1;replace kS:=kS.below hb;replace d0:=zd (d0.out.below hb);replace HB:=zd (HB.o.trans (hb.mono HB.o.size));clear hb;by_cases h0:g.count=0
 ·have hn:n=0:=by rw[<-HL.o,HZ.o h0];rfl
  have d1:decide (0<g.count)=false:=xr jq;have e1:((n:Int)==0)=true:=by simp[hn]
  clear h0 hn;go_wp2;go_ret;exact⟨rfl,HB.o⟩
 ·have d1:decide (0<g.count)=true:=xK jq;clear h0;go_wp2;go_ret;exact⟨rfl,HB.o⟩
theorem Zv (l:List (Int×Int)) (a:uQ) (n c:Nat) (w:World) (hl:l.length=n) (hn:n<=6) (hr:Rd w a (zK l)):
  Calls Tryz.prog 170 #[.slice a n c] w λe w'=>∃(a':uQ) (c':Nat),e= .returned (.slice a' n c')/\w'.ownsRow w.heap.size 3 1 (.slice a' n c') n (zf (l.map (·.1)))/\xW w w':=by
 have HL:=zd hl;clear hl;go_enter Tryz.func170,Tryz.ntmps170;go_wp2
 go_loopw [3,4] (λvo vi wr=>∃(i:Nat) (ao:uQ) (co:Nat),i<=n/\vi=uy i/\vo= .slice ao i co/\uH (wr.ownsRow w.heap.size 3 1 (.slice ao i co) i (zf ((l.take i).map (·.1))))/\xW w wr) (λ_ vi _=>n-(intOf vi).toNat)
 case atStart=>exact⟨0,_,_,jq,rfl,rfl,zd (yg _ _ _),zY⟩
 case round=>
  obtain⟨i,ao,co,hi,rfl,rfl,a0,hb⟩:=hrel;by_cases g0:i<n
  ·obtain⟨b,o,rfl,g'⟩:=(hr.below hb).pair (jQ HL.o);obtain⟨g,-⟩:=g' i (jQ HL.o);obtain⟨t,et⟩:=jy ((l.getD i (0,0)).1);rw[<-et] at g;have HE:uH ((l.take (i+1)).map (·.1)=(l.take i).map (·.1)++[t]):=zd (by
    rw[List.take_add_one,xV (jQ HL.o),et,xm,xV (jQ HL.o)];simp only[vQ,Option.toList_some,List.map_cons,List.map_nil,Option.getD_some])
   have i1:(i:Int)<(n:Int):=jq;have i3:decide ((i:Int)<=6)=true:=xK jq;have hS:=hb.size;clear g' et;go_wp2_with (at_builtin;refine yF (m:=1) (cm:=1) (news:=[uy t]) rfl _ _ 23 rfl Tryz.underlying23 yb rfl jk rfl a0.out rfl rfl rfl (by simp[Value.oneCell']) jq jk hS ?_;intro a3 c3 w3 b0 d0;have c0:=zd b0;clear b0)
   go_roundw
   case rel=>exact⟨i+1,a3,c3,jq,by go_num,rfl,zd (by rw[HE.o];simpa[zf] using c0.out),hb.trans (zG d0 hS (λq hq=>(zy a0.out q hq).1))⟩
   case measure=>exact uq
  ·have f0:i=n:=jq;subst f0;have HE:uH (l.take i=l):=zd (by rw[<-HL.o,List.take_length]);go_wp2;go_ret;exact⟨ao,co,rfl,by rw[<-HE.o];exact a0.out,hb⟩
theorem J5 (x:j6) (a:uQ) (n c:Nat) (w:World) (hl:x.waits.length=n) (hc:n<=c) (hr:Rd w a (zf x.waits)) (ok:Jo x):
  Calls Tryz.prog 164 #[.agg #[uy x.parties,uy x.round,.slice a n c]] w λe w'=>e= .returned (.bool true)/\xW w w':=by
 obtain⟨⟨g1,g2⟩,⟨g3,g4⟩,h6,hz⟩:=ok;have d1:decide (1<=x.parties)=true:=xK g1;have d2:decide (x.parties<=6)=true:=xK g2;have d3:decide (0<=x.round)=true:=xK g3;have d4:decide (x.round<=9999)=true:=xK g4;have d5:decide ((n:Int)<x.parties)=true:=xK (by rw[<-hl];exact hz);have HL:=zd hl;have H6:=zd h6;clear hl h6 hz;obtain⟨W0,a0⟩:∃W0:World,W0=(w.alloc (.cells #[uy x.parties,uy x.round,.slice a n c] 93)):=⟨_,rfl⟩
 have B0:xW w W0:=by
  rw[a0];exact(xd.alloc jv _)
 have kS:zm W0 (w.heap.size) #[uy x.parties,uy x.round,.slice a n c] 93:=by
  rw[a0];have h:=zm.new w #[uy x.parties,uy x.round,.slice a n c] 93;exact h
 have c0:W0.heap.size=w.heap.size+1:=by rw[a0];simp
 have b0:=zd (hr.below B0);have HB:=zd B0;clear B0 hr;have q0:=kS.cell 0 rfl;have q1:=kS.cell 1 rfl;have q2:=kS.cell 2 rfl;go_enter Tryz.func164,Tryz.ntmps164;go_wp2_with fail;rw[<-a0];clear a0;refine(Xg a n c x.waits _ HL.o hc b0.out H6.o).mono ?_;rintro e u1 ⟨rfl,hb⟩;replace q0:=ze hb q0;replace q1:=ze hb q1;replace q2:=ze hb q2;replace kS:=kS.below hb;replace b0:=zd (b0.out.below hb);replace HB:=zd (HB.o.trans (hb.mono HB.o.size));clear hb;go_wp2;go_ret;exact⟨rfl,HB.o⟩
theorem GW (x:j6) (a:uQ) (n c:Nat) (t:Int) (w:World) (hl:x.waits.length=n) (hc:n<=c) (hr:Rd w a (zf x.waits)) (ok:Jo x) (ht:0<=t/\t<6) (Q0:t∉x.waits) (b1:x.round<9999):
  Calls Tryz.prog 134 #[.agg #[uy x.parties,uy x.round,.slice a n c],uy t] w λe w'=>∃(y:j6) (s u:zP) (l:List Int),jb x t=(y,l)/\e= .returned (.tuple #[Dm y s,u.val,.bool true])/\yy w w' s (zf y.waits) y.waits.length/\w'.ownsRow w.heap.size 3 1 u.val u.n (zf l)/\xW w w':=by
 have h6:n<=6:=by rw[<-hl];exact ok.2.2.1.1
 have g3:=ok.2.1.1;have HL:=zd hl;have O0:uH ((zf x.waits).length=n*1):=zd (by rw[yG,hl,Nat.mul_one]);have T0:=zd ok;have S0:uH (yO x.waits t= -1):=zd (uJ Q0);have d1:IntKind.i64.wrap (x.round+1)=x.round+1:=Go.IntWalk.i64_in _ jq;have t9:(x.round==9999)=false:=by simp;omega
 clear hl ok Q0;obtain⟨W0,n0⟩:∃W0:World,W0=((w.alloc (.cells #[uy x.parties,uy x.round,.slice a n c] 93)).alloc (.cells #[uy 0,uy 0,uk] 93)):=⟨_,rfl⟩
 have B0:xW w W0:=by
  rw[n0];exact((xd.alloc jv _).alloc jv _)
 have kS:zm W0 (w.heap.size) #[uy x.parties,uy x.round,.slice a n c] 93:=by
  rw[n0];have h:=zm.new w #[uy x.parties,uy x.round,.slice a n c] 93;exact h|>.alloc _
 have kR:zm W0 (w.heap.size+1) #[uy 0,uy 0,uk] 93:=by
  rw[n0];have h:=zm.new (w.alloc (.cells #[uy x.parties,uy x.round,.slice a n c] 93)) #[uy 0,uy 0,uk] 93;simp only[yY] at h;exact h
 have a1:W0.heap.size=w.heap.size+2:=by rw[n0];simp
 have x0:=zd (hr.below B0);have HB:=zd B0;clear B0 hr;have q0:=kS.cell 0 rfl;have q1:=kS.cell 1 rfl;have q2:=kS.cell 2 rfl;go_enter Tryz.func134,Tryz.ntmps134;go_wp2_with fail;rw[<-n0];clear n0;refine(J5 x a n c _ HL.o hc x0.out T0.o).mono ?_;rintro e u1 ⟨rfl,hb⟩;replace q0:=ze hb q0;replace q1:=ze hb q1;replace q2:=ze hb q2;replace kS:=kS.below hb;replace kR:=kR.below hb;replace x0:=zd (x0.out.below hb);replace HB:=zd (HB.o.trans (hb.mono HB.o.size));clear hb;go_wp2_with fail;refine(jz t _ ht).mono ?_;rintro e E0 ⟨rfl,b0⟩;have a0:=b0.symm;subst a0;go_wp2_with fail;refine(jM a n c x.waits t _ HL.o (by unfold maxLen;omega) x0.out).mono ?_;rintro e E0 ⟨rfl,b0⟩;have a0:=b0.symm;subst a0;rw[S0.o];have M0:=zd kR;have d0:=zd kR.lt;have m0:=zd HB.o.size;have N0:=zd kS;clear kS kR;have bE:xW u1 (u1.alloc (.cells #[] 3)):=zY;have P0:=x0.out.below bE;have f1:=ze bE q2;have F0:=zd (HB.o.trans (bE.mono HB.o.size));have R0:u1.heap.size<=(u1.alloc (.cells #[] 3)).heap.size:=bE.size;clear bE;by_cases o0:(x.waits.length:Int)+1<x.parties
 ·have HV:uH (jb x t=(⟨x.parties,x.round,x.waits++[t]⟩,[])):=zd (by unfold jb;rw[if_pos o0]);have dl:decide ((n:Int)+1<x.parties)=true:=xK (by rw[<-HL.o];exact o0);clear o0
  go_wp2_with (at_builtin;first|(refine xG (news:=zf x.waits) rfl _ _ 23 rfl Tryz.underlying23 yb rfl jk rfl (yg u1 3 1) rfl O0.o P0 (yA x.waits) jq jk R0 ?_;intro a3 c3 w3 f0 g0;rw[Nat.zero_add,qZ] at f0;have j0:=zd ((M0.o.alloc (.cells #[] 3)).grown g0 (λe=>by have:=d0.out;simp only[zj,qy] at e;omega));have k0:=zd ((N0.o.alloc (.cells #[] 3)).grown g0 (λe=>by have:=d0.out;simp only[zj,qy] at e;omega));have p0:=zd (F0.o.trans (zG g0 F0.o.size (λq hq=>by have:=m0.out;simp only[zj,qy] at hq;omega)));have C0:u1.heap.size<=w3.heap.size:=(by have:=g0.size;simp only[yY] at this;omega))|(refine yF (m:=1) (cm:=1) (news:=[uy t]) rfl _ _ 23 rfl Tryz.underlying23 yb rfl jk rfl f0 rfl rfl rfl (by simp[Value.oneCell']) jq jk C0 ?_;intro a4 c4 w4 y0 h0;have D0:=j0.out.grown h0 (yd j0.out f0 (by decide:(93:TypeId)≠3));have i0:=k0.out.grown h0 (yd k0.out f0 (by decide:(93:TypeId)≠3));have t0:=zd (p0.out.trans (zG h0 p0.out.size (λq hq=>by have:=(zy f0 q hq).1;have:=m0.out;omega)));have V0:u1.heap.size<=w4.heap.size:=Nat.le_trans C0 h0.size;have H0:=zd y0;have c0:=D0.alloc (.cells #[] 3);have l0:=i0.alloc (.cells #[] 3);have s0:=i0.cell 0 rfl;have s1:=i0.cell 1 rfl;have v0:=l0.cell 0 rfl;have v1:=l0.cell 1 rfl;have r0:=c0.cell 0 rfl;have X0:=c0.fz 0;have r1:=c0.cell 1 rfl;have Y0:=c0.fz 1;have r2:=c0.cell 2 rfl;have Z0:=c0.fz 2;clear f0 y0 g0 h0 D0 i0 c0 l0 j0 k0))
  have U0:=d0.out;have J0:=m0.out;have bF:xW w4 (w4.alloc (.cells #[] 3)):=zY;have u0:=t0.out.trans (bF.mono t0.out.size);have A0:zf (x.waits++[t])=zf x.waits++[uy t]:=by simp[zf]
  have z0:=zl H0.o bF;have hT:=((((zo.refl [w.heap.size+1] (w4.alloc (.cells #[] 3))).set (v:=uy x.parties) (b:=w.heap.size+1) (j:=0) jv).set (v:=uy x.round) (b:=w.heap.size+1) (j:=1) jv).set (v:= .slice a4 (n+1) c4) (b:=w.heap.size+1) (j:=2) jv)
  have I0:=hT.below (B:=w.heap.size) u0.size (λk hk=>by simp only[List.mem_cons,jw,or_false] at hk;omega);have K0:=zE z0 hT (λq hq hm=>by have:=(zy z0 q hq).1;simp only[List.mem_singleton] at hm;omega);have L0:=zE (yg w4 3 1) hT (λq hq hm=>by simp only[zj,qy] at hq;simp only[List.mem_singleton] at hm;omega);refine zM (v:= .tuple #[.agg #[uy x.parties,uy x.round,.slice a4 (n+1) c4],.slice (some ⟨w4.heap.size,0,none⟩) 0 0,.bool true]) (by simp[results,Tryz.results134,go_sem,r0,r1,r2]) rfl ⟨⟨x.parties,x.round,x.waits++[t]⟩,⟨a4,n+1,c4⟩,⟨some ⟨w4.heap.size,0,none⟩,0,0⟩,[],HV.o,rfl,?_,?_,u0.trans I0⟩
  ·have G0:=yy.of_owns (w0:=w) K0 J0;refine⟨by show _=(x.waits++[t]).length;rw[xp,HL.o];rfl,?_,?_,G0.cap,by show zf (x.waits++[t])=[]\/_;rw[A0];exact G0.ty⟩
   ·show Rd _ _ (zf (x.waits++[t]));rw[A0];exact G0.rd
   ·show zf (x.waits++[t])=[]\/_;rw[A0];exact G0.new
  ·exact zw L0 jq
 ·have HV:uH (jb x t=(⟨x.parties,x.round+1,[]⟩,x.waits++[t])):=zd (by unfold jb;rw[if_neg o0]);have dl:decide ((n:Int)+1<x.parties)=false:=xr (by rw[<-HL.o];exact o0);clear o0
  go_wp2_with (at_builtin;first|(refine xG (news:=zf x.waits) rfl _ _ 23 rfl Tryz.underlying23 yb rfl jk rfl (yg u1 3 1) rfl O0.o P0 (yA x.waits) jq jk R0 ?_;intro a3 c3 w3 f0 g0;rw[Nat.zero_add,qZ] at f0;have j0:=zd ((M0.o.alloc (.cells #[] 3)).grown g0 (λe=>by have:=d0.out;simp only[zj,qy] at e;omega));have k0:=zd ((N0.o.alloc (.cells #[] 3)).grown g0 (λe=>by have:=d0.out;simp only[zj,qy] at e;omega));have p0:=zd (F0.o.trans (zG g0 F0.o.size (λq hq=>by have:=m0.out;simp only[zj,qy] at hq;omega)));have C0:u1.heap.size<=w3.heap.size:=(by have:=g0.size;simp only[yY] at this;omega))|(refine yF (m:=1) (cm:=1) (news:=[uy t]) rfl _ _ 23 rfl Tryz.underlying23 yb rfl jk rfl f0 rfl rfl rfl (by simp[Value.oneCell']) jq jk C0 ?_;intro a4 c4 w4 y0 h0;have D0:=j0.out.grown h0 (yd j0.out f0 (by decide:(93:TypeId)≠3));have i0:=k0.out.grown h0 (yd k0.out f0 (by decide:(93:TypeId)≠3));have t0:=zd (p0.out.trans (zG h0 p0.out.size (λq hq=>by have:=(zy f0 q hq).1;have:=m0.out;omega)));have V0:u1.heap.size<=w4.heap.size:=Nat.le_trans C0 h0.size;have H0:=zd y0;have c0:=D0.alloc (.cells #[] 3);have l0:=i0.alloc (.cells #[] 3);have s0:=i0.cell 0 rfl;have s1:=i0.cell 1 rfl;have v0:=l0.cell 0 rfl;have v1:=l0.cell 1 rfl;have r0:=c0.cell 0 rfl;have X0:=c0.fz 0;have r1:=c0.cell 1 rfl;have Y0:=c0.fz 1;have r2:=c0.cell 2 rfl;have Z0:=c0.fz 2;clear f0 y0 g0 h0 D0 i0 c0 l0 j0 k0))
  have U0:=d0.out;have J0:=m0.out;have bF:xW w4 (w4.alloc (.cells #[] 3)):=zY;have u0:=t0.out.trans (bF.mono t0.out.size);have A0:zf (x.waits++[t])=zf x.waits++[uy t]:=by simp[zf]
  have z0:=zl H0.o bF;have hT:=((((zo.refl [w.heap.size+1] (w4.alloc (.cells #[] 3))).set (v:=uy x.parties) (b:=w.heap.size+1) (j:=0) jv).set (v:=uy (x.round+1)) (b:=w.heap.size+1) (j:=1) jv).set (v:= .slice (some ⟨w4.heap.size,0,none⟩) 0 0) (b:=w.heap.size+1) (j:=2) jv)
  have I0:=hT.below (B:=w.heap.size) u0.size (λk hk=>by simp only[List.mem_cons,jw,or_false] at hk;omega);have K0:=zE z0 hT (λq hq hm=>by have:=(zy z0 q hq).1;simp only[List.mem_singleton] at hm;omega);have L0:=zE (yg w4 3 1) hT (λq hq hm=>by simp only[zj,qy] at hq;simp only[List.mem_singleton] at hm;omega);refine zM (v:= .tuple #[.agg #[uy x.parties,uy (x.round+1),.slice (some ⟨w4.heap.size,0,none⟩) 0 0],.slice a4 (n+1) c4,.bool true]) (by simp[results,Tryz.results134,go_sem,r0,r1,r2]) rfl ⟨⟨x.parties,x.round+1,[]⟩,⟨some ⟨w4.heap.size,0,none⟩,0,0⟩,⟨a4,n+1,c4⟩,x.waits++[t],HV.o,rfl,?_,?_,u0.trans I0⟩
  ·exact yy.of_owns (w0:=w) L0 jq
  ·rw[A0];exact zw K0 J0
theorem Vf (x:xi) (ai al ag:uQ) (ni ci nl cl ng cg:Nat) (t:Int) (w:World) (h2:x.senders.length=nl) (h3:x.getters.length=ng) (r2:Rd w al (zK x.senders)) (r3:Rd w ag (zf x.getters)) (ok:ZB x) (hs:t∉x.senders.map (·.1)) (hg:t∉x.getters):
  Calls Tryz.prog 178 #[.agg #[uy x.room,.slice ai ni ci,.slice al nl cl,.slice ag ng cg,.bool x.closed],uy t] w λe w'=>e= .returned (.bool false)/\xW w w':=by
 have h6:=ok.2.2.2.2.1.1;rw[xp,yG,h2,h3] at h6;have i0:=uJ hs;have h0:=uJ hg;have L2:=zd h2;have L3:=zd h3;have k0:=zd i0;have j0:=zd h0;clear h2 h3 ok hs hg i0 h0;obtain⟨W0,c0⟩:∃W0:World,W0=(w.alloc (.cells #[uy x.room,.slice ai ni ci,.slice al nl cl,.slice ag ng cg,.bool x.closed] 98)):=⟨_,rfl⟩
 have B0:xW w W0:=by
  rw[c0];exact(xd.alloc jv _)
 have kS:zm W0 (w.heap.size) #[uy x.room,.slice ai ni ci,.slice al nl cl,.slice ag ng cg,.bool x.closed] 98:=by
  rw[c0];have h:=zm.new w #[uy x.room,.slice ai ni ci,.slice al nl cl,.slice ag ng cg,.bool x.closed] 98;exact h
 have l0:W0.heap.size=w.heap.size+1:=by rw[c0];simp
 have f0:=zd (r2.below B0);have g0:=zd (r3.below B0);have HB:=zd B0;clear B0 r2 r3;have q0:=kS.cell 0 rfl;have q1:=kS.cell 1 rfl;have q2:=kS.cell 2 rfl;have q3:=kS.cell 3 rfl;have q4:=kS.cell 4 rfl;go_enter Tryz.func178,Tryz.ntmps178;go_wp2_with fail;rw[<-c0];clear c0;refine(Zv x.senders al nl cl _ L2.o jq f0.out).mono ?_;rintro e u1 ⟨a4,c4,rfl,ho,hb⟩;replace q0:=ze hb q0;replace q1:=ze hb q1;replace q2:=ze hb q2;replace q3:=ze hb q3;replace q4:=ze hb q4;replace kS:=kS.below hb;replace f0:=zd (f0.out.below hb);replace g0:=zd (g0.out.below hb);replace HB:=zd (HB.o.trans (hb.mono HB.o.size));clear hb;have HO:=zd (Rd.of_owns ho);clear ho;go_wp2_with fail;refine(jM a4 nl c4 (x.senders.map (·.1)) t _ (by rw[yG,L2.o]) (by unfold maxLen;omega) HO.o).mono ?_;rintro e d0 ⟨rfl,b0⟩;have a0:=b0.symm;subst a0;rw[k0.out];go_wp2_with fail;refine(jM ag ng cg x.getters t _ L3.o (by unfold maxLen;omega) g0.out).mono ?_;rintro e d0 ⟨rfl,b0⟩;have a0:=b0.symm;subst a0;rw[j0.out];go_wp2;go_ret;exact⟨rfl,HB.o⟩
theorem Zq (x:xi) (ai al ag:uQ) (ni ci nl cl ng cg:Nat) (w:World) (h1:x.items.length=ni) (h2:x.senders.length=nl) (h3:x.getters.length=ng) (k3:ng<=cg) (r1:Rd w ai (zf x.items)) (r2:Rd w al (zK x.senders)) (r3:Rd w ag (zf x.getters)) (ok:ZB x):
  Calls Tryz.prog 169 #[.agg #[uy x.room,.slice ai ni ci,.slice al nl cl,.slice ag ng cg,.bool x.closed]] w λe w'=>e= .returned (.bool true)/\xW w w':=by
 obtain⟨⟨m1,m2⟩,mi,hv,hs,ht,b0,c0⟩:=ok;have h6:=ht.1;rw[xp,yG,h2,h3] at h6;rw[h1] at mi;have d1:decide (x.room<0)=false:=xr jq;have d2:decide (4<x.room)=false:=xr jq;have d3:decide (x.room<(ni:Int))=false:=xr jq;have d4:decide (6<(nl:Int))=false:=xr jq;have d5:decide (6<(ng:Int))=false:=xr jq;have n1:ni<=4:=jq;have n2:nl<=6:=jq;have n3:ng<=6:=jq;have L1:=zd h1;have L2:=zd h2;have L3:=zd h3;have HV:=zd hv;have HS:=zd hs;have HT:=zd ht;have T0:=zd b0;have R0:=zd c0;have K3:=zd k3;clear h1 h2 h3 hv hs ht b0 c0 k3 h6 m1 m2 mi;have B0:xW w (w.alloc (.cells #[uy x.room,.slice ai ni ci,.slice al nl cl,.slice ag ng cg,.bool x.closed] 98)):=zY;have k0:zm (w.alloc (.cells #[uy x.room,.slice ai ni ci,.slice al nl cl,.slice ag ng cg,.bool x.closed] 98)) w.heap.size #[uy x.room,.slice ai ni ci,.slice al nl cl,.slice ag ng cg,.bool x.closed] 98:=zm.new _ _ _;have q0:(w.alloc (.cells #[uy x.room,.slice ai ni ci,.slice al nl cl,.slice ag ng cg,.bool x.closed] 98)).cell? ⟨w.heap.size,0,none⟩=some (uy x.room):=k0.cell 0 rfl;have q1:(w.alloc (.cells #[uy x.room,.slice ai ni ci,.slice al nl cl,.slice ag ng cg,.bool x.closed] 98)).cell? ⟨w.heap.size,1,none⟩=some (.slice ai ni ci):=k0.cell 1 rfl
 have q2:(w.alloc (.cells #[uy x.room,.slice ai ni ci,.slice al nl cl,.slice ag ng cg,.bool x.closed] 98)).cell? ⟨w.heap.size,2,none⟩=some (.slice al nl cl):=k0.cell 2 rfl;have q3:(w.alloc (.cells #[uy x.room,.slice ai ni ci,.slice al nl cl,.slice ag ng cg,.bool x.closed] 98)).cell? ⟨w.heap.size,3,none⟩=some (.slice ag ng cg):=k0.cell 3 rfl;have q4:(w.alloc (.cells #[uy x.room,.slice ai ni ci,.slice al nl cl,.slice ag ng cg,.bool x.closed] 98)).cell? ⟨w.heap.size,4,none⟩=some (.bool x.closed):=k0.cell 4 rfl;clear k0;have R1:=zd (r1.below B0);have R2:=zd (r2.below B0);have R3:=zd (r3.below B0);clear r1 r2 r3;go_enter Tryz.func169,Tryz.ntmps169;go_wp2;obtain⟨W0,u0⟩:∃W0:World,W0=(w.alloc (.cells #[uy x.room,.slice ai ni ci,.slice al nl cl,.slice ag ng cg,.bool x.closed] 98)):=⟨_,rfl⟩
 rw[<-u0] at B0 R1 R2 R3 q0 q1 q2 q3 q4⊢;clear u0
 go_loopw [3] (λv wr=>∃i:Nat,i<=ni/\v=uy i/\xW W0 wr) (λv _=>ni-(intOf v).toNat)
 case atStart=>exact⟨0,jq,rfl,Below.refl _ _⟩
 case round=>
  obtain⟨i,hi,rfl,hb⟩:=hrel;have c1:=ze hb q1;have c2:=ze hb q2;by_cases J1:i<ni
  ·obtain⟨b,o,rfl,g'⟩:=(R1.o.below hb).int (jQ L1.o);have g:=g' i (jQ L1.o);obtain⟨t,et⟩:=jy (x.items.getD i 0);rw[<-et] at g;have o0:0<=t/\t<=99:=by rw[et];exact HV.o _ (qV (jQ L1.o))
   have r0:=zd o0;have i1:(i:Int)<(ni:Int):=jq;clear g' et o0;go_wp2_with fail;refine(vD t _ r0.out).mono ?_;rintro e w3 ⟨rfl,s0⟩;have g0:=s0.symm;subst g0;go_wp2
   go_roundw
   case rel=>exact⟨i+1,jq,by go_num,hb⟩
   case measure=>exact uq
  ·have j1:ni=i:=jq;subst j1;go_wp2
   go_loopw [4] (λv wk=>∃j:Nat,j<=nl/\v=uy j/\xW W0 wk) (λv _=>nl-(intOf v).toNat)
   case atStart=>exact⟨0,jq,rfl,hb⟩
   case round=>
    obtain⟨j,hj,rfl,a0⟩:=hrel;have f0:=ze a0 q0;have f1:=ze a0 q1;have f2:=ze a0 q2;have f3:=ze a0 q3;have f4:=ze a0 q4;by_cases I1:j<nl
    ·obtain⟨b,o,rfl,g'⟩:=(R2.o.below a0).pair (jQ L2.o);obtain⟨-,g⟩:=g' j (jQ L2.o);obtain⟨t,et⟩:=jy ((x.senders.getD j (0,0)).2);rw[<-et] at g;have o0:0<=t/\t<=99:=by rw[et];exact HS.o _ (qV (jQ L2.o))
     have r0:=zd o0;have i1:(j:Int)<(nl:Int):=jq;clear g' et o0;go_wp2_with fail;refine(vD t _ r0.out).mono ?_;rintro e w3 ⟨rfl,s0⟩;have g0:=s0.symm;subst g0;go_wp2
     go_roundw
     case rel=>exact⟨j+1,jq,by go_num,a0⟩
     case measure=>exact uq
    ·have b1:nl=j:=jq;subst b1;go_wp2;obtain⟨WK,v0⟩:∃WK:World,WK=wr:=⟨_,rfl⟩
     rw[<-v0] at a0 f0 f1 f2 f3 f4⊢;have t0:=zd (B0.trans (a0.mono B0.size));have U0:=zd (R2.o.below a0);have V0:=zd (R3.o.below a0);have S0:uH ((zf x.getters).length=ng*1):=zd (by rw[yG,L3.o,Nat.mul_one]);clear v0 a0
     refine vG 8 (by kernel_rfl) (by kernel_rfl) [λdz uz wz=>uz= .pointer (some ⟨w.heap.size,2,none⟩),λdz uz wz=>uz= .slice al nl cl,λdz uz wz=>∃(az:uQ) (cz:Nat),uz= .slice az nl cz/\wz.ownsRow WK.heap.size 3 1 (.slice az nl cz) nl (zf (x.senders.map (·.1)))/\True,λdz uz wz=>uz= .pointer (some ⟨w.heap.size,3,none⟩),λdz uz wz=>uz= .slice ag ng cg,λdz uz wz=>∃(az:uQ) (cz:Nat),uz= .slice az (nl+ng) cz/\wz.ownsRow WK.heap.size 3 1 (.slice az (nl+ng) cz) (nl+ng) (zf (x.senders.map (·.1))++zf x.getters),λdz uz wz=>uz= .bool true,λdz uz wz=>uz= .bool false] (uo 5 (λwa wb=>Below WK.heap.size wa wb/\Z8 3 1 nl wa wb)) (λ_ _=>none) (λ_ w'=>xW WK w') (λ_ _=>xd.drew) (JJ (λ_ _ h=>h.1.size)) (JT ⟨λ_ _ _ _ _ h=>h,λ_ _ _ _ _ h=>h,λ_ _ _ _ hb ⟨a,c,e,h,h0⟩=>⟨a,c,e,zl h hb,h0⟩,λ_ _ _ _ _ h=>h,λ_ _ _ _ _ h=>h,λ_ _ _ _ hb ⟨a,c,e,h⟩=>⟨a,c,e,zl h hb⟩,λ_ _ _ _ _ h=>h,λ_ _ _ _ _ h=>h,trivial⟩ ⟨.inr (λ_ _ _ _ _ h=>h),.inr (λ_ _ _ _ _ h=>h),.inr (λ_ _ _ _ hT ⟨a,c,e,h,h0⟩=>⟨a,c,e,hT.2 _ _ _ _ _ jq h,h0⟩),.inr (λ_ _ _ _ _ h=>h),.inr (λ_ _ _ _ _ h=>h),.inl rfl,.inr (λ_ _ _ _ _ h=>h),.inr (λ_ _ _ _ _ h=>h),trivial⟩) ?_ ?_
     ·simp only[List.take_succ_cons,List.take_zero];refine⟨?_,?_,?_,?_,?_,?_,?_,?_,trivial⟩
      ·intro ρ w1 L hG hny hfr hd;obtain⟨fc,ff⟩:=xF1 hfr;have f1:ρ (.tmp 1)= .pointer (some ⟨w.heap.size,0,none⟩):=hfr _ rfl;refine zh (u:= .pointer (some ⟨w.heap.size,2,none⟩)) (w':=w1) (by go_simp) ⟨xk jk xd,rfl,yn,hG⟩
      ·intro ρ w1 L hG hny hfr hd;obtain⟨fc,ff⟩:=xF1 hfr;obtain⟨d0,-⟩:=hd;have d0:(ρ (.tmp 62))= .pointer (some ⟨w.heap.size,2,none⟩):=d0;have f2:=ze hG f2;refine zh (u:= .slice al nl cl) (w':=w1) (by go_simp) ⟨xk jk xd,rfl,yn,hG⟩
      ·intro ρ w1 L hG hny hfr hd;obtain⟨fc,ff⟩:=xF1 hfr;obtain⟨d0,-⟩:=hd;have d0:(ρ (.tmp 63))= .slice al nl cl:=d0;refine zU (by go_simp;exact⟨⟨rfl,rfl⟩,rfl⟩) ?_;refine(Zv x.senders al nl cl _ L2.o jq (U0.o.below hG)).mono ?_;rintro e w2 ⟨a',c',rfl,ho,hb⟩;exact⟨_,rfl,xk jk (hb),⟨a',c',rfl,zw ho hG.size,trivial⟩,yn,hG.trans (hb.mono hG.size)⟩
      ·intro ρ w1 L hG hny hfr hd;obtain⟨fc,ff⟩:=xF1 hfr;have f1:ρ (.tmp 1)= .pointer (some ⟨w.heap.size,0,none⟩):=hfr _ rfl;refine zh (u:= .pointer (some ⟨w.heap.size,3,none⟩)) (w':=w1) (by go_simp) ⟨xk jk xd,rfl,yn,hG⟩
      ·intro ρ w1 L hG hny hfr hd;obtain⟨fc,ff⟩:=xF1 hfr;obtain⟨d0,-⟩:=hd;have d0:(ρ (.tmp 65))= .pointer (some ⟨w.heap.size,3,none⟩):=d0;have f3:=ze hG f3;refine zh (u:= .slice ag ng cg) (w':=w1) (by go_simp) ⟨xk jk xd,rfl,yn,hG⟩
      ·intro ρ w1 L hG hny hfr hd;obtain⟨fc,ff⟩:=xF1 hfr;obtain⟨d0,d1,-⟩:=hd;have d0:∃(az:uQ) (cz:Nat),(ρ (.tmp 64))= .slice az nl cz/\w1.ownsRow WK.heap.size 3 1 (.slice az nl cz) nl (zf (x.senders.map (·.1)))/\True:=d0;have d1:(ρ (.tmp 66))= .slice ag ng cg:=d1;obtain⟨G1,H1,d0,m0,-⟩:=d0;refine Yr _ _ 23 rfl Tryz.underlying23 yb rfl jk d0 m0 d1 S0.o (V0.o.below hG) (yA _) jq jk hG.size ?_;intro a' c' w2 n0 a1 j0;have x0:=zG a1 hG.size (λq hq=>(zy m0 q hq).1);exact⟨Xw ⟨x0,j0⟩,⟨a',c',rfl,n0⟩,yn,hG.trans x0⟩
      ·intro ρ w1 L hG hny hfr hd;obtain⟨fc,ff⟩:=xF1 hfr;obtain⟨d0,-⟩:=hd;have d0:∃(az:uQ) (cz:Nat),(ρ (.tmp 67))= .slice az (nl+ng) cz/\w1.ownsRow WK.heap.size 3 1 (.slice az (nl+ng) cz) (nl+ng) (zf (x.senders.map (·.1))++zf x.getters):=d0;obtain⟨a',c',d0,ho⟩:=d0;rw[show zf (x.senders.map (·.1))++zf x.getters=zf (x.senders.map (·.1)++x.getters) from by simp[zf]] at ho;refine zU (by go_simp;exact⟨⟨rfl,rfl⟩,rfl⟩) ?_;refine(Xg a' (nl+ng) c' (x.senders.map (·.1)++x.getters) _ (by rw[xp,yG,L2.o,L3.o]) (yB ho).1 (Rd.of_owns ho) HT.o).mono ?_;rintro e w2 ⟨rfl,hb⟩;exact⟨_,rfl,xk jk (hb),rfl,yn,hG.trans (hb.mono hG.size)⟩
      ·intro ρ w1 L hG hny hfr hd;obtain⟨fc,ff⟩:=xF1 hfr;obtain⟨d0,-⟩:=hd;have d0:(ρ (.tmp 68))= .bool true:=d0;refine zh (u:= .bool false) (w':=w1) (by go_simp) ⟨xk jk xd,rfl,yn,hG⟩
     intro vs w2 L hG l0 i0 X0 Y0;obtain⟨y1,N1,rfl,A0⟩:=xN l0;obtain⟨z1,O1,rfl,C0⟩:=xN A0;obtain⟨A1,P1,rfl,D0⟩:=xN C0;obtain⟨B1,Q1,rfl,E0⟩:=xN D0;obtain⟨C1,S1,rfl,F0⟩:=xN E0;obtain⟨D1,T1,rfl,G0⟩:=xN F0;obtain⟨E1,U1,rfl,H0⟩:=xN G0;obtain⟨F1,V1,rfl,I0⟩:=xN H0;obtain rfl:=DT I0;clear l0 A0 C0 D0 E0 F0 G0 H0 I0;simp only[List.take_succ_cons,List.take_zero,List.drop_succ_cons,List.drop_zero] at i0⊢;obtain⟨J0,K0,L0,M0,N0,O0,P0,Q0,-⟩:=i0;have p1:y1= .pointer (some ⟨w.heap.size,2,none⟩):=J0;have s1:z1= .slice al nl cl:=K0;have K1:∃(az:uQ) (cz:Nat),A1= .slice az nl cz/\w2.ownsRow WK.heap.size 3 1 (.slice az nl cz) nl (zf (x.senders.map (·.1)))/\True:=L0;have t1:B1= .pointer (some ⟨w.heap.size,3,none⟩):=M0;have u1:C1= .slice ag ng cg:=N0;have M1:∃(az:uQ) (cz:Nat),D1= .slice az (nl+ng) cz/\w2.ownsRow WK.heap.size 3 1 (.slice az (nl+ng) cz) (nl+ng) (zf (x.senders.map (·.1))++zf x.getters):=O0;have v1:E1= .bool true:=P0;have x1:F1= .bool false:=Q0;clear J0 K0 L0 M0 N0 O0 P0 Q0;clear X0 Y0;subst p1 s1 t1 u1 v1 x1;simp only[jH,Act.put,List.setIfInBounds_toArray,List.set_cons_succ,List.set_cons_zero];have e0:=ze hG f0;have e1:=ze hG f1;have e2:=ze hG f2;have e3:=ze hG f3;have e4:=ze hG f4
     clear f0 f1 f2 f3 f4;have p0:=zd (t0.out.trans (hG.mono t0.out.size));clear hG;have b0:=T0.o;have c0:=R0.o;rw[L1.o] at b0;by_cases hn:nl=0
     ·by_cases hm:ng=0
      ·subst hn hm;clear b0 c0;go_wp2
       all_goals (go_ret;exact⟨rfl,p0.out⟩)
      ·obtain⟨z0,Z0⟩:=c0 (λh=>hm (by rw[<-L3.o,h];rfl));have l1:ni=0:=by rw[<-L1.o,z0];rfl
       have g1:decide ((0:Int)<(ng:Int))=true:=xK jq;have g2:((ng:Int)==0)=false:=by simp;omega
       subst hn l1;clear b0 c0 hm z0;go_wp2
       all_goals (go_ret;exact⟨rfl,p0.out⟩)
     ·obtain⟨o1,y0,Z0⟩:=b0 (λh=>hn (by rw[<-L2.o,h];rfl));have k1:ng=0:=by rw[<-L3.o,y0];rfl
      have g1:decide ((0:Int)<(nl:Int))=true:=xK jq;have g2:decide ((ni:Int)<x.room)=false:=xr jq;subst k1;clear b0 c0 hn o1 y0;go_wp2
      all_goals (go_ret;exact⟨rfl,p0.out⟩)
theorem GU (m:Int) (w:World) (h:1<=m/\m<=9):
  Calls Tryz.prog 98 #[uy m] w λe w'=>∃s:zP,e= .returned (.tuple #[UM ⟨m,m,[]⟩ s,.bool true])/\yy w w' s [] 0/\xW w w':=by
 have d1:decide (m<1)=false:=xr jq;have d2:decide (9<m)=false:=xr jq;go_enter Tryz.func98,Tryz.ntmps98;go_wp2;refine zM (v:= .tuple #[.agg #[uy m,uy m,.slice (some ⟨w.heap.size+1,0,none⟩) 0 0],.bool true]) (by simp[results,Tryz.results98,go_sem]) rfl ⟨⟨some ⟨w.heap.size+1,0,none⟩,0,0⟩,rfl,⟨rfl,.inl rfl,.inl rfl,Nat.le_refl _,.inl rfl⟩,?_⟩;exact(zY).alloc jv _
theorem GZ (m:Int) (w:World) (h:1<=m/\m<=6):
  Calls Tryz.prog 99 #[uy m] w λe w'=>∃s:zP,e= .returned (.tuple #[Dm ⟨m,0,[]⟩ s,.bool true])/\yy w w' s [] 0/\xW w w':=by
 have d1:decide (m<1)=false:=xr jq;have d2:decide (6<m)=false:=xr jq;go_enter Tryz.func99,Tryz.ntmps99;go_wp2;refine zM (v:= .tuple #[.agg #[uy m,uy 0,.slice (some ⟨w.heap.size+1,0,none⟩) 0 0],.bool true]) (by simp[results,Tryz.results99,go_sem]) rfl ⟨⟨some ⟨w.heap.size+1,0,none⟩,0,0⟩,rfl,⟨rfl,.inl rfl,.inl rfl,Nat.le_refl _,.inl rfl⟩,?_⟩;exact(zY).alloc jv _
theorem KY (m:Int) (w:World) (h:0<=m/\m<=4):
  Calls Tryz.prog 100 #[uy m] w λe w'=>∃s1 s2 s3:zP,e= .returned (.tuple #[US ⟨m,[],[],[],false⟩ s1 s2 s3,.bool true])/\yy w w' s1 [] 0/\yy w w' s2 [] 0/\yy w w' s3 [] 0/\xW w w':=by
 have d1:decide (m<0)=false:=xr jq;have d2:decide (4<m)=false:=xr jq;go_enter Tryz.func100,Tryz.ntmps100;go_wp2;refine zM (v:= .tuple #[.agg #[uy m,.slice (some ⟨w.heap.size+1,0,none⟩) 0 0,.slice (some ⟨w.heap.size+1+1,0,none⟩) 0 0,.slice (some ⟨w.heap.size+1+1+1,0,none⟩) 0 0,.bool false],.bool true]) (by simp[results,Tryz.results100,go_sem]) rfl ⟨⟨some ⟨w.heap.size+1,0,none⟩,0,0⟩,⟨some ⟨w.heap.size+1+1,0,none⟩,0,0⟩,⟨some ⟨w.heap.size+1+1+1,0,none⟩,0,0⟩,rfl,⟨rfl,.inl rfl,.inl rfl,Nat.le_refl _,.inl rfl⟩,⟨rfl,.inl rfl,.inl rfl,Nat.le_refl _,.inl rfl⟩,⟨rfl,.inl rfl,.inl rfl,Nat.le_refl _,.inl rfl⟩,?_⟩;exact(((zY).alloc (by simp only[yY];omega) _).alloc (by simp only[yY];omega) _).alloc (by simp only[yY];omega) _
theorem KI (x:xS) (a:uQ) (n c:Nat) (t m:Int) (w:World) (hl:x.queue.length=n) (hr:Rd w a (zK x.queue)) (ok:Xb x) (ht:0<=t/\t<6) (hm:1<=m/\m<=x.limit) (Y0:t∉x.queue.map (·.1)):
  Calls Tryz.prog 128 #[.agg #[uy x.free,uy x.limit,.slice a n c],uy t,uy m] w λe w'=>∃(y:xS) (s:zP),y=(jB x t m).1/\e= .returned (.tuple #[UM y s,.bool (jB x t m).2,.bool true])/\yy w w' s (zK y.queue) y.queue.length/\xW w w':=by
 have h6:n<=6:=by rw[<-hl];simpa using ok.2.2.2.1.1
 have d1:decide (m<1)=false:=xr jq;have d2:decide (x.limit<m)=false:=xr jq;have V0:yO (x.queue.map (·.1)) t= -1:=uJ Y0;have HL:=zd hl;have l1:=zd ok;have HT:=zd ht;have j1:=zd V0;have f1:=ok.2.1.1;have f2:=ok.2.1.2;have f3:=ok.1.2;have y1:=hm.1;have z1:=hm.2;clear hl ok ht V0 Y0;obtain⟨W0,z0⟩:∃W0:World,W0=((w.alloc (.cells #[uy x.free,uy x.limit,.slice a n c] 74)).alloc (.cells #[uy 0,uy 0,uk] 74)):=⟨_,rfl⟩
 have B0:xW w W0:=by
  rw[z0];exact((xd.alloc jv _).alloc jv _)
 have kS:zm W0 (w.heap.size) #[uy x.free,uy x.limit,.slice a n c] 74:=by
  rw[z0];have h:=zm.new w #[uy x.free,uy x.limit,.slice a n c] 74;exact h|>.alloc _
 have kR:zm W0 (w.heap.size+1) #[uy 0,uy 0,uk] 74:=by
  rw[z0];have h:=zm.new (w.alloc (.cells #[uy x.free,uy x.limit,.slice a n c] 74)) #[uy 0,uy 0,uk] 74;simp only[yY] at h;exact h
 have u1:W0.heap.size=w.heap.size+2:=by rw[z0];simp
 have HR:=zd (hr.below B0);have HB:=zd B0;clear hr B0;have q0:=kS.cell 0 rfl;have q1:=kS.cell 1 rfl;have q2:=kS.cell 2 rfl;go_enter Tryz.func128,Tryz.ntmps128;go_wp2_with fail;rw[<-z0];clear z0;refine(ZP x a n c _ HL.o HR.o l1.out).mono ?_;rintro e w1 ⟨rfl,hb⟩;replace q0:=ze hb q0;replace q1:=ze hb q1;replace q2:=ze hb q2;replace kR:=kR.below hb;have T0:=zd (HB.o.trans (hb.mono HB.o.size));have M0:=zd (HR.o.below hb);have F0:=zd (kR.lt);clear hb HR kS;go_wp2_with fail;refine(jz t _ HT.o).mono ?_;rintro e w3 ⟨rfl,R0⟩;have v0:=R0.symm;subst v0;go_wp2_with fail;refine(Vv a n c x.queue t _ HL.o (by unfold maxLen;omega) M0.o).mono ?_;rintro e w3 ⟨rfl,R0⟩;have v0:=R0.symm;subst v0;rw[j1.out];go_wp2_with fail;refine(ZK x a n c _ HL.o jq M0.o).mono ?_;rintro e w2 ⟨a2,c2,rfl,j0,hb⟩;have G0:=zd (T0.o.trans (hb.mono T0.o.size));replace q0:=ze hb q0;replace q2:=ze hb q2;replace kR:=kR.below hb;have Z0:=kR;have A1:w.heap.size+2<=w1.heap.size:=by have:=F0.o;omega
 obtain⟨WA,A0⟩:∃WA:World,WA=w2.alloc (.cells #[uy x.free,uy x.limit,.slice a2 n c2] 74):=⟨_,rfl⟩
 have bA:xW w2 WA:=by rw[A0];exact zY
 have kO:zm WA w2.heap.size #[uy x.free,uy x.limit,.slice a2 n c2] 74:=by rw[A0];exact zm.new _ _ _
 have x1:WA.heap.size=w2.heap.size+1:=by rw[A0];simp
 have v1:=hb.size;replace q0:=ze bA q0;replace q2:=ze bA q2;replace kR:=kR.below bA;have H0:=zd (G0.o.trans (bA.mono G0.o.size));have E0:=zl j0 bA;have f0:=zd E0;have m0:=λq hq=>zy j0 q hq;have n0:=zd m0;have a1:=Z0;clear Z0 hb bA M0 m0;have o0:=kO.cell 0 rfl;have o1:=kO.cell 1 rfl;have o2:=kO.cell 2 rfl;have B1:=kO.fz 0;have C1:=kO.fz 1;have D1:=kO.fz 2;by_cases s0:x.queue=[]/\m<=x.free
 ·have I0:n=0:=by rw[<-HL.o,s0.1];rfl
  have m1:=s0.2;have HV:uH (jB x t m=(⟨x.free-m,x.limit,x.queue⟩,true)):=zd (by unfold jB;rw[if_pos s0]);have dm:decide (m<=x.free)=true:=xK m1;obtain⟨WB,N0⟩:∃WB:World,WB=w2.alloc (.cells #[uy (x.free-m),uy x.limit,.slice a2 n c2] 74):=⟨_,rfl⟩
  have bB:xW w2 WB:=by rw[N0];exact zY
  have J0:zm WB w2.heap.size #[uy (x.free-m),uy x.limit,.slice a2 n c2] 74:=by rw[N0];exact zm.new _ _ _
  have x0:=a1.below bB;have l0:=zl j0 bB;have U0:=G0.o.trans (bB.mono G0.o.size);have k1:=zd l0;have i1:=zd U0;have p0:=J0.cell 0 rfl;have p1:=J0.cell 1 rfl;have p2:=J0.cell 2 rfl;have r0:=x0.cell 0 rfl;have r1:=x0.cell 1 rfl;have r2:=x0.cell 2 rfl;have b1:=x0.fz 0;have g1:=x0.fz 1;have h1:=x0.fz 2;subst I0;clear s0 J0 x0 kO kR a1 bB j0 l0 U0;subst A0 N0;go_wp2;have hT:=((zo.refl [w.heap.size+1] (w2.alloc (.cells #[uy (x.free-m),uy x.limit,.slice a2 0 c2] 74))).set (v:=uy (x.free-m)) (j:=0) yl).set (v:=uy x.limit) (j:=1) yl|>.set (v:= .slice a2 0 c2) (j:=2) yl
  have D0:=hT.below (B:=w.heap.size) (by simp;omega) (λk hk=>by simp only[List.mem_singleton] at hk;omega);refine zM (v:= .tuple #[.agg #[uy (x.free-m),uy x.limit,.slice a2 0 c2],.bool true,.bool true]) (by simp[results,Tryz.results128,go_sem,r0,r1,r2]) rfl ⟨⟨x.free-m,x.limit,x.queue⟩,⟨a2,0,c2⟩,by rw[HV.o],by rw[HV.o],?_,i1.out.trans D0⟩;have a0:=zE k1.out hT (λq hq hm=>by have:=(n0.out q hq).1;simp only[List.mem_singleton] at hm;omega);have d0:=yy.of_owns (w0:=w) a0 jq;refine⟨HL.o.symm,d0.rd,d0.new,d0.cap,d0.ty⟩
 ·have HV:uH (jB x t m=(⟨x.free,x.limit,x.queue++[(t,m)]⟩,false)):=zd (by unfold jB;rw[if_neg s0]);have X0:w.heap.size+1≠(⟨w2.heap.size,2,none⟩:Addr).block:=by show w.heap.size+1≠w2.heap.size;omega
  have Q0:n=0->decide (m<=x.free)=false:=λh0=>xr (λhm=>s0 ⟨List.eq_nil_of_length_eq_zero (by rw[HL.o];exact h0),hm⟩);have n1:∀(b:Bool),True:=λ_=>trivial;clear s0 n1;by_cases I0:n=0
  ·have t1:=Q0 I0;subst I0;clear Q0;subst A0;go_wp2_with (at_builtin;refine yF (m:=1) (cm:=1) (news:=[uy t,uy m]) rfl _ _ 72 rfl Tryz.underlying72 JV rfl jk rfl f0.out (by show Value.slice (some ⟨w2.heap.size+1,0,none⟩) 1 1=_;simp) rfl rfl (by simp[Value.oneCell']) jq jk (by simp;omega) ?_;intro a3 c3 w3 a0 b0;have i0:=kO.grown b0 (yd kO f0.out (by decide:(74:TypeId)≠151));have y0:=kR.grown b0 (yd kR f0.out (by decide:(74:TypeId)≠151));have S0:=i0.fz 2;have s1:=i0.cell 2 rfl;have k0:=i0.set 2 (.slice a3 (0+1) c3);have c0:=y0.other ⟨w2.heap.size,2,none⟩ (.slice a3 (0+1) c3) X0;have p0:=k0.cell 0 rfl;have p1:=k0.cell 1 rfl;have p2:=k0.cell 2 rfl;have r0:=c0.cell 0 rfl;have b1:=c0.fz 0;have r1:=c0.cell 1 rfl;have g1:=c0.fz 1;have r2:=c0.cell 2 rfl;have h1:=c0.fz 2;have O0:=yd i0 a0 (by decide:(74:TypeId)≠151);have P0:=yd y0 a0 (by decide:(74:TypeId)≠151);have L0:=zd a0;have K0:=zd b0;clear kO kR i0 y0 k0 c0 a0 b0);have hT:=(((zo.refl [w2.heap.size,w.heap.size+1] w3).set (v:= .slice a3 (0+1) c3) (b:=w2.heap.size) (j:=2) jv).set (v:=uy x.free) (b:=w.heap.size+1) (j:=0) jv).set (v:=uy x.limit) (b:=w.heap.size+1) (j:=1) jv|>.set (v:= .slice a3 (0+1) c3) (b:=w.heap.size+1) (j:=2) jv
   have C0:=H0.o.trans (zG K0.o H0.o.size (λq hq=>by have:=(n0.out q hq).1;omega));have D0:=hT.below (B:=w.heap.size) C0.size (λk hk=>by simp only[List.mem_cons,jw,or_false] at hk;omega);have g0:=zE L0.o hT (λq hq hm=>by
    simp only[List.mem_cons,jw,or_false] at hm;rcases hm with rfl|rfl
    ·exact O0 hq
    ·exact P0 hq)
   have d0:=yy.of_owns (w0:=w) g0 jq;have u0:zK (x.queue++[(t,m)])=zK x.queue++[uy t,uy m]:=(by simp[zK,pair]);refine zM (v:= .tuple #[.agg #[uy x.free,uy x.limit,.slice a3 (0+1) c3],.bool false,.bool true]) (by simp[results,Tryz.results128,go_sem,r0,r1,r2]) rfl ⟨⟨x.free,x.limit,x.queue++[(t,m)]⟩,⟨a3,0+1,c3⟩,by rw[HV.o],by rw[HV.o],⟨by show _=(x.queue++[(t,m)]).length;rw[xp,HL.o];rfl,?_,?_,d0.cap,by rw[u0];exact d0.ty⟩,C0.trans D0⟩
   ·rw[u0];exact d0.rd
   ·rw[u0];exact d0.new
  ·have t0:((n:Int)==0)=false:=by simp;omega
   clear Q0;subst A0;go_wp2_with (at_builtin;refine yF (m:=1) (cm:=1) (news:=[uy t,uy m]) rfl _ _ 72 rfl Tryz.underlying72 JV rfl jk rfl f0.out (by show Value.slice (some ⟨w2.heap.size+1,0,none⟩) 1 1=_;simp) rfl rfl (by simp[Value.oneCell']) jq jk (by simp;omega) ?_;intro a3 c3 w3 a0 b0;have i0:=kO.grown b0 (yd kO f0.out (by decide:(74:TypeId)≠151));have y0:=kR.grown b0 (yd kR f0.out (by decide:(74:TypeId)≠151));have S0:=i0.fz 2;have s1:=i0.cell 2 rfl;have k0:=i0.set 2 (.slice a3 (n+1) c3);have c0:=y0.other ⟨w2.heap.size,2,none⟩ (.slice a3 (n+1) c3) X0;have p0:=k0.cell 0 rfl;have p1:=k0.cell 1 rfl;have p2:=k0.cell 2 rfl;have r0:=c0.cell 0 rfl;have b1:=c0.fz 0;have r1:=c0.cell 1 rfl;have g1:=c0.fz 1;have r2:=c0.cell 2 rfl;have h1:=c0.fz 2;have O0:=yd i0 a0 (by decide:(74:TypeId)≠151);have P0:=yd y0 a0 (by decide:(74:TypeId)≠151);have L0:=zd a0;have K0:=zd b0;clear kO kR i0 y0 k0 c0 a0 b0);have hT:=(((zo.refl [w2.heap.size,w.heap.size+1] w3).set (v:= .slice a3 (n+1) c3) (b:=w2.heap.size) (j:=2) jv).set (v:=uy x.free) (b:=w.heap.size+1) (j:=0) jv).set (v:=uy x.limit) (b:=w.heap.size+1) (j:=1) jv|>.set (v:= .slice a3 (n+1) c3) (b:=w.heap.size+1) (j:=2) jv
   have C0:=H0.o.trans (zG K0.o H0.o.size (λq hq=>by have:=(n0.out q hq).1;omega));have D0:=hT.below (B:=w.heap.size) C0.size (λk hk=>by simp only[List.mem_cons,jw,or_false] at hk;omega);have g0:=zE L0.o hT (λq hq hm=>by
    simp only[List.mem_cons,jw,or_false] at hm;rcases hm with rfl|rfl
    ·exact O0 hq
    ·exact P0 hq)
   have d0:=yy.of_owns (w0:=w) g0 jq;have u0:zK (x.queue++[(t,m)])=zK x.queue++[uy t,uy m]:=(by simp[zK,pair]);refine zM (v:= .tuple #[.agg #[uy x.free,uy x.limit,.slice a3 (n+1) c3],.bool false,.bool true]) (by simp[results,Tryz.results128,go_sem,r0,r1,r2]) rfl ⟨⟨x.free,x.limit,x.queue++[(t,m)]⟩,⟨a3,n+1,c3⟩,by rw[HV.o],by rw[HV.o],⟨by show _=(x.queue++[(t,m)]).length;rw[xp,HL.o];rfl,?_,?_,d0.cap,by rw[u0];exact d0.ty⟩,C0.trans D0⟩
   ·rw[u0];exact d0.rd
   ·rw[u0];exact d0.new
theorem GT (x:xS) (a:uQ) (n c:Nat) (w:World) (hl:x.queue.length=n) (hn:n<=6) (hr:Rd w a (zK x.queue)) (hf:0<=x.free/\x.free<=9) (hc:∀y∈x.queue,1<=y.2/\y.2<=9):
  Calls Tryz.prog 160 #[.agg #[uy x.free,uy x.limit,.slice a n c]] w λe w'=>∃(y:xS) (s u:zP),y=⟨(yC x.free x.queue).1,x.limit,(yC x.free x.queue).2.2⟩/\e= .returned (.tuple #[UM y s,u.val])/\yy w w' s (zK y.queue) y.queue.length/\w'.ownsRow w.heap.size 3 1 u.val u.n (zf (yC x.free x.queue).2.1)/\(zK y.queue=[]\/∀q,zj s.a=some q->zj u.a≠some q)/\xW w w':=by
 have HL:=zd hl;have HF:=zd hf;have HC:=zd hc;clear hl hf hc;obtain⟨W0,p0⟩:∃W0:World,W0=((w.alloc (.cells #[uy x.free,uy x.limit,.slice a n c] 74)).alloc (.cells #[uy 0,uy 0,uk] 74)):=⟨_,rfl⟩
 have B0:xW w W0:=by
  rw[p0];exact((xd.alloc jv _).alloc jv _)
 have kS:zm W0 (w.heap.size) #[uy x.free,uy x.limit,.slice a n c] 74:=by
  rw[p0];have h:=zm.new w #[uy x.free,uy x.limit,.slice a n c] 74;exact h|>.alloc _
 have kR:zm W0 (w.heap.size+1) #[uy 0,uy 0,uk] 74:=by
  rw[p0];have h:=zm.new (w.alloc (.cells #[uy x.free,uy x.limit,.slice a n c] 74)) #[uy 0,uy 0,uk] 74;simp only[yY] at h;exact h
 have I2:W0.heap.size=w.heap.size+2:=by rw[p0];simp
 have HR:=zd (hr.below B0);have HB:=zd B0;clear hr B0;have q0:=kS.cell 0 rfl;have q1:=kS.cell 1 rfl;have q2:=kS.cell 2 rfl;clear kS;go_enter Tryz.func160,Tryz.ntmps160;go_wp2_with fail;rw[<-p0];clear p0;refine(ZK x a n c _ HL.o jq HR.o).mono ?_;rintro e wc ⟨a2,c2,rfl,H0,hb⟩;have l1:=zd (HB.o.trans (hb.mono HB.o.size));replace kR:=kR.below hb;have i2:=kR.lt;have j2:=hb.size;have d2:=zd j2;clear q0 q1 q2 HR;obtain⟨WA,E0⟩:∃WA:World,WA=(wc.alloc (.cells #[uy x.free,uy x.limit,.slice a2 n c2] 74)).alloc (.cells #[] 3):=⟨_,rfl⟩
 have kO:zm WA wc.heap.size #[uy x.free,uy x.limit,.slice a2 n c2] 74:=by rw[E0];exact(zm.new _ _ _).alloc _
 have bA:xW wc WA:=by rw[E0];exact(zY).alloc jv _
 have S1:=kR.below bA;have M1:=zl H0 bA;have J1:WA.ownsRow wc.heap.size 3 1 (.slice (some ⟨wc.heap.size+1,0,none⟩) 0 0) 0 []:=by
  rw[E0];have:=zw (yg (wc.alloc (.cells #[uy x.free,uy x.limit,.slice a2 n c2] 74)) 3 1) (B':=wc.heap.size) jv;simpa using this
 have U1:=zd (l1.out.trans (bA.mono l1.out.size));have X1:=zd kO;have L0:=zd S1;have Z1:=zd M1;have V1:=zd J1;have m2:wc.heap.size<WA.heap.size:=kO.lt;have G0:w.heap.size+1≠wc.heap.size:=jq;clear hb H0 bA kR S1 kO M1 J1;go_wp2;rw[<-E0];clear E0
 go_loopw [5] (λvg wr=>∃(f:Int) (q:List (Int×Int)) (M0:List Int) (aq ag:uQ) (mq cq ng cg:Nat),vg= .slice ag ng cg/\mq<=6/\ng+mq=n/\uH (0<=f/\f<=9)/\uH (q.length=mq)/\uH (∀y∈q,1<=y.2/\y.2<=9)/\uH ((yC x.free x.queue).1=(yC f q).1/\(yC x.free x.queue).2.1=M0++(yC f q).2.1/\(yC x.free x.queue).2.2=(yC f q).2.2)/\zm wr wc.heap.size #[uy f,uy x.limit,.slice aq mq cq] 74/\zm wr (w.heap.size+1) #[uy 0,uy 0,uk] 74/\uH (wr.ownsRow W0.heap.size 151 2 (.slice aq mq cq) mq (zK q))/\uH (wr.ownsRow W0.heap.size 3 1 (.slice ag ng cg) ng (zf M0))/\uH (xW w wr)) (λvg _=>7-(match vg with| .slice _ k _=>k|_=>0))
 case atStart=>exact⟨x.free,x.queue,[],a2,some ⟨wc.heap.size+1,0,none⟩,n,c2,0,0,rfl,hn,jq,HF,HL,HC,zd ⟨rfl,rfl,rfl⟩,X1.o,L0.o,Z1,zd (zw V1.o d2.out),U1⟩
 case round=>
  obtain⟨f,q,M0,aq,ag,mq,cq,ng,cg,rfl,h6,y2,hf,t0,N1,f1,kO,kR,hq,hg,hb⟩:=hrel;have o0:=kO.cell 0 rfl;have o1:=kO.cell 1 rfl;have o2:=kO.cell 2 rfl;have z2:=kO.fz 0;have A2:=kO.fz 1;have B2:=kO.fz 2;have r0:=kR.cell 0 rfl;have r1:=kR.cell 1 rfl;have r2:=kR.cell 2 rfl;have E2:=kR.fz 0;have F2:=kR.fz 1;have G2:=kR.fz 2
  cases q with
  |nil=>
   have h0:mq=0:=by have:=t0.out;simpa using this.symm
   subst h0;clear kO kR;go_wp2
   go_quiet (fail)
   go_wp2;have hT:=((((zo.of_below (S:=[w.heap.size+1]) (j7 (B:=wr.heap.size) wr nq)).set (v:=uy f) (b:=w.heap.size+1) (j:=0) jv).set (v:=uy x.limit) (b:=w.heap.size+1) (j:=1) jv).set (v:= .slice aq 0 cq) (b:=w.heap.size+1) (j:=2) jv)
   have S0:=hT.below (B:=w.heap.size) hb.out.size (λk hk=>by simp only[List.mem_singleton] at hk;omega);have f0:=zE hq.out hT (λq a0 hm=>by have:=(zy hq.out q a0).1;simp only[List.mem_singleton] at hm;omega);have l0:=zE hg.out hT (λq a0 hm=>by have:=(zy hg.out q a0).1;simp only[List.mem_singleton] at hm;omega);have k0:=yy.of_owns (w0:=w) f0 jq;have i0:=f1.out;rw[(show yC f []=(f,[],[]) from rfl)] at i0;refine zM (v:= .tuple #[.agg #[uy f,uy x.limit,.slice aq 0 cq],.slice ag ng cg]) (by simp[results,Tryz.results160,go_sem,r0,r1,r2]) rfl ⟨⟨f,x.limit,[]⟩,⟨aq,0,cq⟩,⟨ag,ng,cg⟩,by rw[i0.1,i0.2.2],rfl,⟨t0.out.symm,k0.rd,k0.new,k0.cap,k0.ty⟩,?_,.inr (λq hq hu=>zx f0 l0 jk q hq hu),hb.out.trans S0⟩;rw[i0.2.1,List.append_nil];exact zw l0 jq
  |cons y q'=>
   obtain⟨t1,m1⟩:=y;have Z0:0<mq:=by have:=t0.out;rw[List.length_cons] at this;omega
   obtain⟨g,rfl,M2,N2⟩:=jF hq.out Z0;have g0:wr.cell? ⟨g,0,none⟩=some (uy t1):=by rw[hq.out.cellAt 0 jq];rfl
   have g1:wr.cell? ⟨g,1,none⟩=some (uy m1):=by rw[hq.out.cellAt 1 jq];rfl
   have hm:=N1.o (t1,m1) (List.mem_cons_self ..);have j0:(0:Int)<(mq:Int):=jq;have j1:decide ((0:Int)<(mq:Int))=true:=xK j0;by_cases F0:m1<=f
   ·have d1:decide (m1<=f)=true:=xK F0;have Q0:uH (yC f ((t1,m1)::q')=((yC (f-m1) q').1,t1::(yC (f-m1) q').2.1,(yC (f-m1) q').2.2)):=zd (by rw[yC,if_pos F0]);have y1:=zd kO;have L0:=zd kR;clear kO kR;go_wp2
    go_quiet (fail)
    go_wp2;obtain⟨WD,U0⟩:∃WD:World,WD=wr.drewN nq:=⟨_,rfl⟩
    rw[<-U0];have bD:xW wr WD:=by rw[U0];exact j7 _ _
    replace o0:=ze bD o0;replace o2:=ze bD o2;replace g0:=ze bD g0;replace g1:=ze bD g1;have J2:=bD.size;have K0:=zd (hb.out.trans (bD.mono hb.out.size));have z0:=zd (y1.out.below bD);have D0:=zd (L0.o.below bD);have B1:=zd (zl hq.out bD);have x1:=zd (zl hg.out bD);clear U0 bD o1 z2 A2 B2 r0 E2 r1 F2 r2 G2 y1 L0;have K2:=hf.out.1;have L2:=hf.out.2;have Q2:=hm.1;apply xZ 9 [.k _,.k _,.k _,.k _,.k _,.k _,.k _,.k (uy (f-m1)),.k _] trivial ?s1 ?e1
    case s1=>
     repeat' apply And.intro
     all_goals first|trivial|(intro ρ w1 hG hfr hd;obtain⟨fc,ff⟩:=xu hfr;have f4:=hfr (.tmp 4) rfl;have o0:=ze hG o0;have o2:=ze hG o2;have g1:=ze hG g1)
     exact yj;exact yI;exact yj;exact yI;exact yI;exact yI;exact yI
     ·have d0:ρ (.tmp _)=_:=hd.1;have d1:ρ (.tmp _)=_:=hd.2.1;exact dE hG (by go_simp;exact Go.IntWalk.i64_in _ jq)
     exact yj
    intro w2 hG;refine yv ?_;have u0:=z0.out.below hG;have P1:=D0.o.below hG;have D2:=u0.fz 0;have C2:=u0.cell 0 rfl;have I0:=u0.set 0 (uy (f-m1));have i1:=P1.other ⟨wc.heap.size,0,none⟩ (uy (f-m1)) G0;have N0:=(zo.refl [wc.heap.size] w2).set (v:=uy (f-m1)) (b:=wc.heap.size) (j:=0) jv;have a1:=zl B1.o hG;have X0:=zl x1.out hG;have L1:=yd u0 a1 (by decide:(74:TypeId)≠151);have K1:=yd u0 X0 (by decide:(74:TypeId)≠3);have s0:=zE a1 N0 (λq a0 hm=>by simp only[List.mem_singleton] at hm;exact L1 (by rw[a0,hm]));have Y0:=zE X0 N0 (λq a0 hm=>by simp only[List.mem_singleton] at hm;exact K1 (by rw[a0,hm]));have R0:=(K0.o.trans (hG.mono K0.o.size)).trans (N0.below (B:=w.heap.size) (jZ hG.size K0.o.size) (λk hk=>by simp only[List.mem_singleton] at hk;omega));obtain⟨WE,H1⟩:∃WE:World,WE=(w2.setCell ⟨wc.heap.size,0,none⟩ (uy (f-m1))):=⟨_,rfl⟩
    rw[<-H1] at I0 i1 s0 Y0 R0;have G1:W0.heap.size<=WE.heap.size:=by have:=I0.lt;omega
    have p2:=I0.cell 2 rfl;have e0:=s0.cellAt 0 jq;have e1:=s0.cellAt 1 jq;replace e0:WE.cell? ⟨g,0,none⟩=some (uy t1):=by rw[e0];rfl
    replace e1:WE.cell? ⟨g,1,none⟩=some (uy m1):=by rw[e1];rfl
    have V0:=(yB s0).1;have u1:(1:Int)<=(mq:Int):=jq;have u2:(mq:Int)<=(cq:Int):=jq;have u3:(1:Int)<=(cq:Int):=jq;obtain⟨A,hA⟩:∃A:Addr,(if cq=1 then (⟨g,0,none⟩:Addr) else ⟨g,2,none⟩)=A:=⟨_,rfl⟩
    have R2:∀W:World,(Instr.slice 72 (.slice (some ⟨g,0,none⟩) mq cq) (some (uy 1)) none none).run Tryz.prog W= .ok (.slice (some A) (mq-1) (cq-1)) W:=λW=>by
     go_simp;rw[<-hA];split<;>rfl
    have x2:uH (∀W:World,Rd W (some ⟨g,0,none⟩) (zK ((t1,m1)::q'))->Rd W (some A) (zK q')):=zd (λW h=>by
     rcases h with h|⟨b,o,e,h⟩
     ·simp[zK,pair] at h
     ·obtain⟨rfl,rfl⟩:g=b/\0=o:=by simpa using e
      by_cases n2:cq=1
      ·have t2:q'=[]:=List.eq_nil_of_length_eq_zero (by have:=t0.out;rw[List.length_cons] at this;omega);exact .inl (by rw[t2];rfl)
      ·rw[if_neg n2] at hA;exact .inr ⟨g,2,by rw[<-hA],λj hj=>by
        have:=h (2+j) (by rw[vZ,List.length_cons];rw[vZ] at hj;omega);rw[Nat.zero_add] at this;rw[this];congr 1;show(pair (t1,m1)++zK q').getD (2+j) undef=_;rw[xm,List.getElem?_append_right (by rw[QT];omega),QT,show 2+j-2=j by omega,<-xm]⟩)
    have n0:q'.length=mq-1:=by have:=t0.out;rw[List.length_cons] at this;omega
    have b2:=zd n0;have Y1:uH ((zK q').length=(mq-1)*2):=zd (by rw[vZ,n0]);have k1:∀u∈zK q',u.oneCell'=true:=XZ _;have x0:=zd I0;have A0:=zd i1;have z1:=zd s0;have v0:=zd Y0;have T1:=zd R0;subst H1;clear o0 o2 g0 g1 V0 n0 u0 P1 I0 i1 a1 X0 s0 Y0 R0 N0 hG L1 K1 z0 D0 B1 x1 K0
    go_wp2_with (at_builtin;first|(refine yF (m:=1) (cm:=1) (news:=[uy t1]) rfl _ _ 23 rfl Tryz.underlying23 yb rfl jk rfl v0.out (by show Value.slice (some ⟨w2.heap.size,0,none⟩) 1 1=_;simp) rfl rfl (by simp[Value.oneCell']) jq jk G1 ?_;intro f2 g2 w4 l0 b0;have h1:=x0.out.grown b0 (yd x0.out v0.out (by decide:(74:TypeId)≠3));have Q1:=A0.o.grown b0 (yd A0.o v0.out (by decide:(74:TypeId)≠3));have f0:=zk z1.out b0 (zx z1.out v0.out (by decide:(151:TypeId)≠3));have E1:=T1.o.trans (zG b0 jq (λq a0=>by have:=(zy v0.out q a0).1;omega));have bE:xW w4 (w4.alloc (.cells #[] 151)):=zY;have p4:=(h1.below bE).cell 2 rfl;have y0:=zd h1;have C0:=zd Q1;have H2:=zd f0;have p1:=zd l0;have J0:=zd E1;have k2:=b0.size;have O1:=x2.out _ ((Rd.of_owns f0).below bE);clear p2 e0 e1 D2 C2 h1 Q1 f0 l0 E1 bE b0)|(refine xG (news:=zK q') rfl _ _ 72 rfl Tryz.underlying72 JV rfl jk rfl (yg w4 151 2) rfl Y1.o O1 k1 jq jk jv ?_;intro C1 D1 w5 b1 c0;rw[Nat.zero_add,qZ] at b1;have O2:=y0.out.lt;have P2:=C0.o.lt;have O0:=(y0.out.alloc (.cells #[] 151)).grown c0 (λe=>by simp only[zj,qy] at e;omega);have R1:=(C0.o.alloc (.cells #[] 151)).grown c0 (λe=>by simp only[zj,qy] at e;omega);have I1:=zk (zl p1.out (xd.alloc yk (.cells #[] 151))) c0 (λq a0 e=>by have:=(zy p1.out q a0).2;simp only[zj,qy] at e;omega);have F1:=(J0.o.alloc J0.o.size (.cells #[] 151)).trans (zG c0 (by have:=J0.o.size;simp;omega) (λq a0=>by have:=J0.o.size;simp only[zj,qy] at a0;omega));have T2:=O0.fz 2;have S2:=O0.cell 2 rfl;have m0:=zd O0;have P0:=zd R1;have A1:=zd b1;have v1:=zd I1;have n1:=zd F1;clear p4 O1 O0 R1 b1 I1 F1 c0))
    have T0:=(zo.refl [wc.heap.size] w5).set (v:= .slice C1 (mq-1) D1) (b:=wc.heap.size) (j:=2) jv;have v2:=zE A1.o T0 (λq a0 hm=>by simp only[List.mem_singleton] at hm;exact yd m0.out A1.o (by decide:(74:TypeId)≠151) (by rw[a0,hm]));have s2:=zE v1.out T0 (λq a0 hm=>by simp only[List.mem_singleton] at hm;exact yd m0.out v1.out (by decide:(74:TypeId)≠3) (by rw[a0,hm]));have l2:W0.heap.size<=w4.heap.size:=Nat.le_trans G1 k2
    go_roundw
    case rel=>exact⟨f-m1,q',M0++[t1],C1,f2,mq-1,D1,ng+1,g2,rfl,jq,jq,zd ⟨jq,jq⟩,b2,zd (λy hy=>N1.o y (List.mem_cons_of_mem _ hy)),zd (by have h2:=f1.out;rw[Q0.o] at h2;exact⟨h2.1,by rw[h2.2.1];simp,h2.2.2⟩),m0.out.set 2 _,P0.o.other ⟨wc.heap.size,2,none⟩ _ G0,zd (zw v2 l2),zd (by simpa[zf] using s2),zd (n1.out.trans (T0.below (B:=w.heap.size) n1.out.size (λk hk=>by simp only[List.mem_singleton] at hk;omega)))⟩
    case measure=>simp;omega
   ·have d1:decide (m1<=f)=false:=xr F0;have Q0:uH (yC f ((t1,m1)::q')=(f,[],(t1,m1)::q')):=zd (by unfold yC;rw[if_neg F0]);clear F0 kO kR;go_wp2
    go_quiet (fail)
    go_wp2;have hT:=((((zo.of_below (S:=[w.heap.size+1]) (j7 (B:=wr.heap.size) wr nq)).set (v:=uy f) (b:=w.heap.size+1) (j:=0) jv).set (v:=uy x.limit) (b:=w.heap.size+1) (j:=1) jv).set (v:= .slice (some ⟨g,0,none⟩) mq cq) (b:=w.heap.size+1) (j:=2) jv)
    have S0:=hT.below (B:=w.heap.size) hb.out.size (λk hk=>by simp only[List.mem_singleton] at hk;omega);have f0:=zE hq.out hT (λq a0 hm=>by have:=(zy hq.out q a0).1;simp only[List.mem_singleton] at hm;omega);have l0:=zE hg.out hT (λq a0 hm=>by have:=(zy hg.out q a0).1;simp only[List.mem_singleton] at hm;omega);have k0:=yy.of_owns (w0:=w) f0 jq;have i0:=f1.out;rw[Q0.o] at i0;refine zM (v:= .tuple #[.agg #[uy f,uy x.limit,.slice (some ⟨g,0,none⟩) mq cq],.slice ag ng cg]) (by simp[results,Tryz.results160,go_sem,r0,r1,r2]) rfl ⟨⟨f,x.limit,((t1,m1)::q')⟩,⟨(some ⟨g,0,none⟩),mq,cq⟩,⟨ag,ng,cg⟩,by rw[i0.1,i0.2.2],rfl,⟨t0.out.symm,k0.rd,k0.new,k0.cap,k0.ty⟩,?_,.inr (λq hq hu=>zx f0 l0 jk q hq hu),hb.out.trans S0⟩;rw[i0.2.1,List.append_nil];exact zw l0 jq
theorem Ga (x:xS) (a:uQ) (n c:Nat) (m:Int) (w:World) (hl:x.queue.length=n) (hr:Rd w a (zK x.queue)) (ok:Xb x) (hm:1<=m/\m<=9):
  Calls Tryz.prog 129 #[.agg #[uy x.free,uy x.limit,.slice a n c],uy m] w λe w'=>∃(y:xS) (s u:zP) (l:List Int) (b:Bool),qP x m=(if b=true then some (y,l) else none)/\e= .returned (.tuple #[UM y s,u.val,.bool b])/\yy w w' s (zK y.queue) y.queue.length/\w'.ownsRow w.heap.size 3 1 u.val u.n (zf l)/\(zK y.queue=[]\/∀q,zj s.a=some q->zj u.a≠some q)/\xW w w':=by
 have h6:n<=6:=by rw[<-hl];simpa using ok.2.2.2.1.1
 have d1:decide (m<1)=false:=xr jq;have HL:=zd hl;have m0:=zd ok;have f1:=ok.2.1.1;have f2:=ok.2.1.2;have f3:=ok.1.2;have P0:=hm.1;have Q0:=hm.2;clear hl ok hm;obtain⟨W0,b0⟩:∃W0:World,W0=((w.alloc (.cells #[uy x.free,uy x.limit,.slice a n c] 74)).alloc (.cells #[uy 0,uy 0,uk] 74)):=⟨_,rfl⟩
 have B0:xW w W0:=by
  rw[b0];exact((xd.alloc jv _).alloc jv _)
 have kS:zm W0 (w.heap.size) #[uy x.free,uy x.limit,.slice a n c] 74:=by
  rw[b0];have h:=zm.new w #[uy x.free,uy x.limit,.slice a n c] 74;exact h|>.alloc _
 have kR:zm W0 (w.heap.size+1) #[uy 0,uy 0,uk] 74:=by
  rw[b0];have h:=zm.new (w.alloc (.cells #[uy x.free,uy x.limit,.slice a n c] 74)) #[uy 0,uy 0,uk] 74;simp only[yY] at h;exact h
 have N0:W0.heap.size=w.heap.size+2:=by rw[b0];simp
 have HR:=zd (hr.below B0);have HB:=zd B0;clear hr B0;have q0:=kS.cell 0 rfl;have q1:=kS.cell 1 rfl;have q2:=kS.cell 2 rfl;by_cases D0:m<=x.limit-x.free
 ·have d2:decide (x.limit-x.free<m)=false:=xr jq;have HV:uH (qP x m=some (⟨(yC (x.free+m) x.queue).1,x.limit,(yC (x.free+m) x.queue).2.2⟩,(yC (x.free+m) x.queue).2.1)):=zd (by unfold qP;rw[if_pos D0]);go_enter Tryz.func129,Tryz.ntmps129;go_wp2_with fail;rw[<-b0];clear b0;refine(ZP x a n c _ HL.o HR.o m0.out).mono ?_;rintro e w1 ⟨rfl,hb⟩;replace q0:=ze hb q0;replace q1:=ze hb q1;replace q2:=ze hb q2;replace kR:=kR.below hb;have h0:=zd (HB.o.trans (hb.mono HB.o.size));have l0:=zd (HR.o.below hb);have a0:=kR.lt;clear hb HR kS;go_wp2_with fail;refine(ZK x a n c _ HL.o jq l0.out).mono ?_;rintro e wc ⟨a2,c2,rfl,i0,hb⟩;have u0:=zd (h0.out.trans (hb.mono h0.out.size));replace kR:=kR.below hb;have O0:=hb.size;obtain⟨WA,g0⟩:∃WA:World,WA=wc.alloc (.cells #[uy (x.free+m),uy x.limit,.slice a2 n c2] 74):=⟨_,rfl⟩
  have bA:xW wc WA:=by rw[g0];exact zY
  have kO:zm WA wc.heap.size #[uy (x.free+m),uy x.limit,.slice a2 n c2] 74:=by rw[g0];exact zm.new _ _ _
  replace kR:=kR.below bA;have c0:=zd (zl i0 bA);have j0:=zd (u0.out.trans (bA.mono u0.out.size));have H0:(wc.alloc (.cells #[uy x.free,uy x.limit,.slice a2 n c2] 74)).cell? ⟨wc.heap.size,0,none⟩=some (uy x.free):=(zm.new _ _ _).cell 0 rfl;have I0:(wc.alloc (.cells #[uy x.free,uy x.limit,.slice a2 n c2] 74)).frozen? ⟨wc.heap.size,0,none⟩=false:=(zm.new _ _ _).fz 0;have o0:=kO.cell 0 rfl;have o1:=kO.cell 1 rfl;have o2:=kO.cell 2 rfl;have k0:=zd kR;clear hb i0 bA l0 q0 q1 q2 kO kR;subst g0;go_wp2_with fail;obtain⟨WA,g0⟩:∃WA:World,WA=wc.alloc (.cells #[uy (x.free+m),uy x.limit,.slice a2 n c2] 74):=⟨_,rfl⟩
  rw[<-g0] at c0 k0 j0⊢;clear g0 o0 o1 o2 H0 I0;refine(GT ⟨x.free+m,x.limit,x.queue⟩ a2 n c2 _ HL.o h6 (Rd.of_owns c0.out) ⟨by show 0<=x.free+m;omega,by show x.free+m<=9;omega⟩ (λy hy=>by have h1:=(m0.out.2.2.1 y hy);omega)).mono ?_;rintro e w3 ⟨y,s,u,rfl,rfl,hs,hu,C0,hb⟩;have A0:=j0.out.size;obtain⟨sa,sn,sc⟩:=s;obtain⟨ua,un,uc⟩:=u;dsimp only[zP.val] at hu;have v0:=zd (j0.out.trans (hb.mono j0.out.size));have E0:=k0.out.below hb;have HS:=zd hs;have M0:=k0.out.lt;have HU:=zd hu;have t0:=zd C0;clear hs hu hb k0 c0 C0;obtain⟨fr,hfr⟩:=jy ((yC (x.free+m) x.queue).1);dsimp only[UM,zP.val];dsimp only at HS HU t0;rw[<-hfr] at HV⊢;have bF:xW w3 (w3.alloc (.cells #[uy fr,uy x.limit,.slice sa sn sc] 74)):=zY;have f0:=E0.below bF;have r0:=f0.cell 0 rfl;have r1:=f0.cell 1 rfl;have r2:=f0.cell 2 rfl;have J0:=f0.fz 0;have K0:=f0.fz 1;have L0:=f0.fz 2;have G0:=zd (HS.o.below bF);have z0:=zd (zl HU.o bF);have y0:=zd (v0.out.trans (bF.mono v0.out.size));clear E0 f0 bF hfr HS HU;go_wp2
  have hT:=(((zo.refl [w.heap.size+1] (w3.alloc (.cells #[uy fr,uy x.limit,.slice sa sn sc] 74))).set (v:=uy fr) (b:=w.heap.size+1) (j:=0) jv).set (v:=uy x.limit) (b:=w.heap.size+1) (j:=1) jv).set (v:= .slice sa sn sc) (b:=w.heap.size+1) (j:=2) jv;have n0:=hT.below (B:=w.heap.size) y0.out.size (λk hk=>by simp only[List.mem_singleton] at hk;omega);have s0:=zE z0.out hT (λq p0 hm=>by have:=(zy z0.out q p0).1;simp only[List.mem_singleton] at hm;omega);refine zM (v:= .tuple #[.agg #[uy fr,uy x.limit,.slice sa sn sc],.slice ua un uc,.bool true]) (by simp[results,Tryz.results129,go_sem,r0,r1,r2]) rfl ⟨⟨fr,x.limit,(yC (x.free+m) x.queue).2.2⟩,⟨sa,sn,sc⟩,⟨ua,un,uc⟩,_,true,HV.o,rfl,?_,zw s0 A0,t0.out,y0.out.trans n0⟩;exact(G0.o.touch hT (by intro b hb;simp only[List.mem_singleton] at hb;omega)).mono A0
 ·have d2:decide (x.limit-x.free<m)=true:=xK jq;have HV:uH (qP x m=none):=zd (by unfold qP;rw[if_neg D0]);go_enter Tryz.func129,Tryz.ntmps129;go_wp2_with fail;rw[<-b0];clear b0;refine(ZP x a n c _ HL.o HR.o m0.out).mono ?_;rintro e w1 ⟨rfl,hb⟩;replace q0:=ze hb q0;replace q1:=ze hb q1;replace q2:=ze hb q2;replace kR:=kR.below hb;have h0:=zd (HB.o.trans (hb.mono HB.o.size));have l0:=zd (HR.o.below hb);have a0:=kR.lt;clear hb HR kS;have d0:=kR.alloc (.cells #[] 3);have r0:=d0.cell 0 rfl;have r1:=d0.cell 1 rfl;have r2:=d0.cell 2 rfl;have J0:=d0.fz 0;have K0:=d0.fz 1;have L0:=d0.fz 2;have bE:xW w1 (w1.alloc (.cells #[] 3)):=zY;have x0:=zd (h0.out.trans (bE.mono h0.out.size));have F0:=zd a0;clear kR d0 bE l0 a0;go_wp2;have a0:=F0.o;have hT:=(((zo.refl [w.heap.size+1] (w1.alloc (.cells #[] 3))).set (v:=uy 0) (b:=w.heap.size+1) (j:=0) jv).set (v:=uy 0) (b:=w.heap.size+1) (j:=1) jv).set (v:=uk) (b:=w.heap.size+1) (j:=2) jv;have n0:=hT.below (B:=w.heap.size) x0.out.size (λk hk=>by simp only[List.mem_singleton] at hk;omega);have s0:=zE (yg w1 3 1) hT (λq p0 hm=>by simp only[zj,qy] at p0;simp only[List.mem_singleton] at hm;omega)
  refine zM (v:= .tuple #[.agg #[uy 0,uy 0,uk],.slice (some ⟨w1.heap.size,0,none⟩) 0 0,.bool false]) (by simp[results,Tryz.results129,go_sem,r0,r1,r2]) rfl ⟨yi,zR,⟨some ⟨w1.heap.size,0,none⟩,0,0⟩,[],false,HV.o,rfl,yy.nil _ _,zw s0 jq,.inl rfl,x0.out.trans n0⟩
theorem UX (g:ji) (a:uQ) (n c:Nat) (m:Int) (w:World) (hl:g.waits.length=n) (hc:n<=c) (hr:Rd w a (zf g.waits)) (ok:YY g) (hm: -99<=m/\m<=99):
  Calls Tryz.prog 132 #[.agg #[uy g.count,.slice a n c],uy m] w λe w'=>∃(y:ji) (s u:zP) (l:List Int) (b:Bool),j9 g m=(if b=true then some (y,l) else none)/\e= .returned (.tuple #[dp y s,u.val,.bool b])/\yy w w' s (zf y.waits) y.waits.length/\w'.ownsRow w.heap.size 3 1 u.val u.n (zf l)/\(zf y.waits=[]\/∀q,zj s.a=some q->zj u.a≠some q)/\xW w w':=by
 have h6:n<=6:=by rw[<-hl];exact ok.2.1.1
 have g1:=ok.1.1;have g2:=ok.1.2;have d1:decide (m< -99)=false:=xr jq;have d2:decide (99<m)=false:=xr jq;have P0:=hm.1;have Q0:=hm.2;have HL:=zd hl;have E0:uH ((zf g.waits).length=n*1):=zd (by rw[yG,hl,Nat.mul_one]);have z0:=zd ok;clear hl ok hm;by_cases t0:0<=g.count+m/\g.count+m<=99
 ·have x0:decide (0<=g.count+m/\g.count+m<=99)=true:=xK t0;obtain⟨H0,I0⟩:=t0;by_cases hz:g.count+m=0
  ·have HV:uH (j9 g m=some (⟨0,[]⟩,g.waits)):=zd (by unfold j9;rw[if_pos ⟨H0,I0⟩,if_pos hz]);have o0:=zd x0;have e0:(g.count+m==0)=true:=(by simp[hz]);clear x0 hz;obtain⟨W0,c0⟩:∃W0:World,W0=((w.alloc (.cells #[uy g.count,.slice a n c] 87)).alloc (.cells #[uy 0,uk] 87)):=⟨_,rfl⟩
   have B0:xW w W0:=by
    rw[c0];exact((xd.alloc jv _).alloc jv _)
   have kS:zm W0 (w.heap.size) #[uy g.count,.slice a n c] 87:=by
    rw[c0];have h:=zm.new w #[uy g.count,.slice a n c] 87;exact h|>.alloc _
   have kR:zm W0 (w.heap.size+1) #[uy 0,uk] 87:=by
    rw[c0];have h:=zm.new (w.alloc (.cells #[uy g.count,.slice a n c] 87)) #[uy 0,uk] 87;simp only[yY] at h;exact h
   have G0:W0.heap.size=w.heap.size+2:=by rw[c0];simp
   have g0:=zd (hr.below B0);have HB:=zd B0;clear B0 hr;have q0:=kS.cell 0 rfl;have q1:=kS.cell 1 rfl;go_enter Tryz.func132,Tryz.ntmps132;go_wp2_with fail;rw[<-c0];clear c0;refine(vP g a n c _ HL.o hc g0.out z0.out).mono ?_;rintro e w1 ⟨rfl,hb⟩;replace q0:=ze hb q0;replace q1:=ze hb q1;replace kS:=kS.below hb;replace kR:=kR.below hb;replace g0:=zd (g0.out.below hb);replace HB:=zd (HB.o.trans (hb.mono HB.o.size));clear hb;go_wp2_with fail;refine(Ja (g.count+m) _).mono ?_;rintro e j0 ⟨rfl,b0⟩;have a0:=b0.symm;subst a0;rw[o0.out];have u0:=zd kR;have d0:=zd kR.lt;have k0:=zd HB.o.size;clear kS kR;have bE:xW w1 (w1.alloc (.cells #[] 3)):=zY;have A0:=g0.out.below bE;have N0:=ze bE q1;have h0:=zd (HB.o.trans (bE.mono HB.o.size));have C0:w1.heap.size<=(w1.alloc (.cells #[] 3)).heap.size:=bE.size;clear bE
   go_wp2_with (at_builtin;refine xG (news:=zf g.waits) rfl _ _ 23 rfl Tryz.underlying23 yb rfl jk rfl (yg w1 3 1) rfl E0.o A0 (yA g.waits) jq jk C0 ?_;intro a3 c3 w3 l0 i0;rw[Nat.zero_add,qZ] at l0;have f0:=(u0.out.alloc (.cells #[] 3)).grown i0 (λe=>by have:=d0.out;simp only[zj,qy] at e;omega);have n0:=zd (h0.out.trans (zG i0 h0.out.size (λq hq=>by have:=k0.out;simp only[zj,qy] at hq;omega)));have r0:=f0.cell 0 rfl;have K0:=f0.fz 0;have r1:=f0.cell 1 rfl;have L0:=f0.fz 1;have m0:=zd l0;clear f0 l0 i0);have F0:=d0.out;have s0:=k0.out;have hT:=(((zo.refl [w.heap.size+1] w3).set (v:=uy 0) (b:=w.heap.size+1) (j:=0) jv).set (v:=uk) (b:=w.heap.size+1) (j:=1) jv)
   have p0:=hT.below (B:=w.heap.size) n0.out.size (λk hk=>by simp only[List.mem_cons,jw,or_false] at hk;omega);refine zM (v:= .tuple #[.agg #[uy 0,uk],.slice a3 n c3,.bool true]) (by simp[results,Tryz.results132,go_sem,r0,r1]) rfl ⟨⟨0,[]⟩,zR,⟨a3,n,c3⟩,_,true,HV.o,rfl,yy.nil _ _,?_,.inl rfl,n0.out.trans p0⟩;exact zw (zE m0.out hT (λq hq hm=>by have:=(zy m0.out q hq).1;simp only[List.mem_singleton] at hm;omega)) s0
  ·have HV:uH (j9 g m=some (⟨g.count+m,g.waits⟩,[])):=zd (by unfold j9;rw[if_pos ⟨H0,I0⟩,if_neg hz]);have o0:=zd x0;have e0:(g.count+m==0)=false:=(by simpa using hz);clear x0 hz;obtain⟨W0,c0⟩:∃W0:World,W0=((w.alloc (.cells #[uy g.count,.slice a n c] 87)).alloc (.cells #[uy 0,uk] 87)):=⟨_,rfl⟩
   have B0:xW w W0:=by
    rw[c0];exact((xd.alloc jv _).alloc jv _)
   have kS:zm W0 (w.heap.size) #[uy g.count,.slice a n c] 87:=by
    rw[c0];have h:=zm.new w #[uy g.count,.slice a n c] 87;exact h|>.alloc _
   have kR:zm W0 (w.heap.size+1) #[uy 0,uk] 87:=by
    rw[c0];have h:=zm.new (w.alloc (.cells #[uy g.count,.slice a n c] 87)) #[uy 0,uk] 87;simp only[yY] at h;exact h
   have G0:W0.heap.size=w.heap.size+2:=by rw[c0];simp
   have g0:=zd (hr.below B0);have HB:=zd B0;clear B0 hr;have q0:=kS.cell 0 rfl;have q1:=kS.cell 1 rfl;go_enter Tryz.func132,Tryz.ntmps132;go_wp2_with fail;rw[<-c0];clear c0;refine(vP g a n c _ HL.o hc g0.out z0.out).mono ?_;rintro e w1 ⟨rfl,hb⟩;replace q0:=ze hb q0;replace q1:=ze hb q1;replace kS:=kS.below hb;replace kR:=kR.below hb;replace g0:=zd (g0.out.below hb);replace HB:=zd (HB.o.trans (hb.mono HB.o.size));clear hb;go_wp2_with fail;refine(Ja (g.count+m) _).mono ?_;rintro e j0 ⟨rfl,b0⟩;have a0:=b0.symm;subst a0;rw[o0.out];have u0:=zd kR;have d0:=zd kR.lt;have k0:=zd HB.o.size;clear kS kR;have bE:xW w1 (w1.alloc (.cells #[] 3)):=zY;have A0:=g0.out.below bE;have N0:=ze bE q1;have h0:=zd (HB.o.trans (bE.mono HB.o.size));have C0:w1.heap.size<=(w1.alloc (.cells #[] 3)).heap.size:=bE.size;clear bE
   go_wp2_with (at_builtin;refine xG (news:=zf g.waits) rfl _ _ 23 rfl Tryz.underlying23 yb rfl jk rfl (yg w1 3 1) rfl E0.o A0 (yA g.waits) jq jk C0 ?_;intro a3 c3 w3 l0 i0;rw[Nat.zero_add,qZ] at l0;have f0:=(u0.out.alloc (.cells #[] 3)).grown i0 (λe=>by have:=d0.out;simp only[zj,qy] at e;omega);have n0:=zd (h0.out.trans (zG i0 h0.out.size (λq hq=>by have:=k0.out;simp only[zj,qy] at hq;omega)));have v0:=f0.alloc (.cells #[] 3);have r0:=v0.cell 0 rfl;have K0:=v0.fz 0;have r1:=v0.cell 1 rfl;have L0:=v0.fz 1;have m0:=zd l0;have O0:=zd f0;have M0:=zd i0.size;clear f0 v0 l0 i0);have F0:=d0.out;have s0:=k0.out;have J0:=M0.o;have bF:xW w3 (w3.alloc (.cells #[] 3)):=zY;have D0:=n0.out.trans (bF.mono n0.out.size);have hT:=(((zo.refl [w.heap.size+1] (w3.alloc (.cells #[] 3))).set (v:=uy (g.count+m)) (b:=w.heap.size+1) (j:=0) jv).set (v:= .slice a3 n c3) (b:=w.heap.size+1) (j:=1) jv)
   have p0:=hT.below (B:=w.heap.size) D0.size (λk hk=>by simp only[List.mem_cons,jw,or_false] at hk;omega);refine zM (v:= .tuple #[.agg #[uy (g.count+m),.slice a3 n c3],.slice (some ⟨w3.heap.size,0,none⟩) 0 0,.bool true]) (by simp[results,Tryz.results132,go_sem,r0,r1]) rfl ⟨⟨g.count+m,g.waits⟩,⟨a3,n,c3⟩,⟨some ⟨w3.heap.size,0,none⟩,0,0⟩,[],true,HV.o,rfl,?_,?_,.inr (λq hq hu=>by have h1:=(zy m0.out q hq).2;simp only[zj,qy] at hu;omega),D0.trans p0⟩
   ·have y0:=yy.of_owns (w0:=w) (zE (zl m0.out bF) hT (λq hq hm=>by have:=(zy m0.out q hq).1;simp only[List.mem_singleton] at hm;omega)) s0;exact⟨HL.o.symm,y0.rd,y0.new,y0.cap,y0.ty⟩
   ·exact zw (zE (yg w3 3 1) hT (λq hq hm=>by simp only[zj,qy] at hq;simp only[List.mem_singleton] at hm;simp only[yY] at J0;omega)) (by simp only[yY] at J0;omega)
 ·have HV:uH (j9 g m=none):=zd (by unfold j9;rw[if_neg t0]);have o0:uH (decide (0<=g.count+m/\g.count+m<=99)=false):=zd (xr t0);clear t0;obtain⟨W0,c0⟩:∃W0:World,W0=((w.alloc (.cells #[uy g.count,.slice a n c] 87)).alloc (.cells #[uy 0,uk] 87)):=⟨_,rfl⟩
  have B0:xW w W0:=by
   rw[c0];exact((xd.alloc jv _).alloc jv _)
  have kS:zm W0 (w.heap.size) #[uy g.count,.slice a n c] 87:=by
   rw[c0];have h:=zm.new w #[uy g.count,.slice a n c] 87;exact h|>.alloc _
  have kR:zm W0 (w.heap.size+1) #[uy 0,uk] 87:=by
   rw[c0];have h:=zm.new (w.alloc (.cells #[uy g.count,.slice a n c] 87)) #[uy 0,uk] 87;simp only[yY] at h;exact h
  have G0:W0.heap.size=w.heap.size+2:=by rw[c0];simp
  have g0:=zd (hr.below B0);have HB:=zd B0;clear B0 hr;have q0:=kS.cell 0 rfl;have q1:=kS.cell 1 rfl;go_enter Tryz.func132,Tryz.ntmps132;go_wp2_with fail;rw[<-c0];clear c0;refine(vP g a n c _ HL.o hc g0.out z0.out).mono ?_;rintro e w1 ⟨rfl,hb⟩;replace q0:=ze hb q0;replace q1:=ze hb q1;replace kS:=kS.below hb;replace kR:=kR.below hb;replace g0:=zd (g0.out.below hb);replace HB:=zd (HB.o.trans (hb.mono HB.o.size));clear hb;go_wp2_with fail;refine(Ja (g.count+m) _).mono ?_;rintro e j0 ⟨rfl,b0⟩;have a0:=b0.symm;subst a0;rw[o0.out];have u0:=zd kR;have d0:=zd kR.lt;have k0:=zd HB.o.size;clear kS kR;have f0:=u0.out.alloc (.cells #[] 3);have r0:=f0.cell 0 rfl;have K0:=f0.fz 0;have r1:=f0.cell 1 rfl;have L0:=f0.fz 1;clear f0;go_wp2;have F0:=d0.out;have s0:=k0.out;have h0:=HB.o.alloc HB.o.size (.cells #[] 3);have hT:=(((zo.refl [w.heap.size+1] (w1.alloc (.cells #[] 3))).set (v:=uy 0) (b:=w.heap.size+1) (j:=0) jv).set (v:=uk) (b:=w.heap.size+1) (j:=1) jv)
  have p0:=hT.below (B:=w.heap.size) h0.size (λk hk=>by simp only[List.mem_cons,jw,or_false] at hk;omega);refine zM (v:= .tuple #[.agg #[uy 0,uk],.slice (some ⟨w1.heap.size,0,none⟩) 0 0,.bool false]) (by simp[results,Tryz.results132,go_sem,r0,r1]) rfl ⟨yH,zR,⟨some ⟨w1.heap.size,0,none⟩,0,0⟩,[],false,HV.o,rfl,yy.nil _ _,?_,.inl rfl,h0.trans p0⟩;exact zw (zE (yg w1 3 1) hT (λq hq hm=>by simp only[zj,qy] at hq;simp only[List.mem_singleton] at hm;omega)) s0
theorem UE (x:ji) (a:uQ) (n c:Nat) (t:Int) (w:World) (hl:x.waits.length=n) (hc:n<=c) (hr:Rd w a (zf x.waits)) (ok:YY x) (ht:0<=t/\t<6) (Z0:t∉x.waits):
  Calls Tryz.prog 133 #[.agg #[uy x.count,.slice a n c],uy t] w λe w'=>∃(y:ji) (s:zP),y=(jc x t).1/\e= .returned (.tuple #[dp y s,.bool (jc x t).2,.bool true])/\yy w w' s (zf y.waits) y.waits.length/\xW w w':=by
 have h6:n<=6:=by rw[<-hl];exact ok.2.1.1
 have HL:=zd hl;have i1:uH ((zf x.waits).length=n*1):=zd (by rw[yG,hl,Nat.mul_one]);have k1:=zd ok;have g1:uH (yO x.waits t= -1):=zd (uJ Z0);clear hl ok Z0;obtain⟨W0,s0⟩:∃W0:World,W0=((w.alloc (.cells #[uy x.count,.slice a n c] 87)).alloc (.cells #[uy 0,uk] 87)):=⟨_,rfl⟩
 have B0:xW w W0:=by
  rw[s0];exact((xd.alloc jv _).alloc jv _)
 have kS:zm W0 (w.heap.size) #[uy x.count,.slice a n c] 87:=by
  rw[s0];have h:=zm.new w #[uy x.count,.slice a n c] 87;exact h|>.alloc _
 have kR:zm W0 (w.heap.size+1) #[uy 0,uk] 87:=by
  rw[s0];have h:=zm.new (w.alloc (.cells #[uy x.count,.slice a n c] 87)) #[uy 0,uk] 87;simp only[yY] at h;exact h
 have C1:W0.heap.size=w.heap.size+2:=by rw[s0];simp
 have v0:=zd (hr.below B0);have HB:=zd B0;clear B0 hr;have q0:=kS.cell 0 rfl;have q1:=kS.cell 1 rfl;go_enter Tryz.func133,Tryz.ntmps133;go_wp2_with fail;rw[<-s0];clear s0;refine(vP x a n c _ HL.o hc v0.out k1.out).mono ?_;rintro e u1 ⟨rfl,hb⟩;replace q0:=ze hb q0;replace q1:=ze hb q1;replace kS:=kS.below hb;replace kR:=kR.below hb;replace v0:=zd (v0.out.below hb);replace HB:=zd (HB.o.trans (hb.mono HB.o.size));clear hb;go_wp2_with fail;refine(jz t _ ht).mono ?_;rintro e C0 ⟨rfl,b0⟩;have a0:=b0.symm;subst a0;go_wp2_with fail;refine(jM a n c x.waits t _ HL.o (by unfold maxLen;omega) v0.out).mono ?_;rintro e C0 ⟨rfl,b0⟩;have a0:=b0.symm;subst a0;rw[g1.out];have T0:=zd kR;have i0:=zd kR.lt;have J0:=zd HB.o.size;clear kS kR;go_wp2;apply xZ 8 [.k _,.k _,.r (Zl u1.heap.size 3 1),.k _,.k _,.r (Xi u1.heap.size 3 1 n (zf x.waits)),.r λdz uz wz=>uz=(.agg #[(dz.getD 0 undef),(dz.getD 1 undef)]:Value),.r (gX u1.heap.size #[uy 0,uk] 87)] ⟨Xr,Vj,(λ_ _ _ _ _ h=>h),dM,trivial⟩ ?s1 ?e1
 case s1=>
  repeat' apply And.intro
  all_goals first|trivial|(intro ρ w1 hG hfr hd;obtain⟨fc,ff⟩:=xu hfr;have f2:=hfr (.tmp 2) rfl;have q0:=ze hG q0;have q1:=ze hG q1)
  exact yj;exact yI;exact VB;exact yj;exact yI
  ·have d:ρ (.tmp _)=_:=hd.2.1;exact ky hG _ _ 23 rfl Tryz.underlying23 yb rfl jk hd.1 d i1.out (v0.out.below hG) (yA _) jq jk (λ_ _ h=>h)
  ·obtain⟨d0,d1,-⟩:=hd;have d0:(ρ (.tmp 25))=uy x.count:=d0;obtain⟨U0,V0,d1,-,-⟩:=d1;replace d1:ρ (.tmp 29)=_:=d1;refine zh (u:= .agg #[uy x.count,.slice U0 n V0]) (w':=w1) (by go_simp) ⟨Below.refl _ _,?_,yn,hG⟩;show Value.agg #[uy x.count,.slice U0 n V0]=(.agg #[(ρ (.tmp 25)),(ρ (.tmp 29))]:Value);rw[d0,d1]
  exact pz
 intro w2 hG;refine yv ?_;intro H1 D1 A1 v1 B1 a1 I1 y1;replace a1:B1=(.agg #[(uy x.count),A1]:Value):=a1;obtain⟨a2,c2,rfl,l0,-⟩:=v1;obtain⟨bo,rfl,kO,F0⟩:=y1;have m0:=(kO.set 0 (uy x.count)).set 1 (.slice a2 n c2);have G0:w.heap.size+1≠bo:=by have:=i0.out;omega
 have n0:=((T0.o.below hG).other ⟨bo,0,none⟩ (uy x.count) G0).other ⟨bo,1,none⟩ (.slice a2 n c2) G0;have E0:=((zo.refl [bo] w2).set (v:=uy x.count) (b:=bo) (j:=0) jv).set (v:= .slice a2 n c2) (b:=bo) (j:=1) jv;have g0:=zE l0 E0 (λq hq hm=>by simp only[List.mem_singleton] at hm;exact yd kO l0 (by decide:(87:TypeId)≠3) (by rw[hq,hm]));have L0:=(HB.o.trans (hG.mono HB.o.size))
 have K0:=L0.trans (E0.below (B:=w.heap.size) L0.size (λk hk=>by have:=J0.o;simp only[List.mem_singleton] at hk;omega));have Y0:=ze hG q0;have P0:=zZ E0 Y0 (by show w.heap.size∉[bo];simp only[List.mem_singleton];have:=i0.out;omega);have x0:=kO.fz 0;have x1:=kO.fz 1;have e0:=kO.cell 0 rfl;have e1:=kO.cell 1 rfl;obtain⟨WS,O0⟩:∃WS:World,WS=((w2.setCell ⟨bo,0,none⟩ (uy x.count)).setCell ⟨bo,1,none⟩ (.slice a2 n c2)):=⟨_,rfl⟩
 rw[<-O0] at m0 n0 g0 K0 P0;have I0:=zd m0;have u0:=zd n0;have f0:=zd g0;have D0:=zd K0;have H0:=zd F0;clear E0 L0 q0 q1 Y0 hG T0 l0;have o0:=m0.cell 0 rfl;have o1:=m0.cell 1 rfl;have F1:=m0.fz 0;have G1:=m0.fz 1;have r0:=n0.cell 0 rfl;have r1:=n0.cell 1 rfl;have b1:=n0.fz 0;have f1:=n0.fz 1;clear m0 n0 kO K0 g0 F0;by_cases h0:x.count=0
 ·have HV:uH (jc x t=(x,true)):=zd (by unfold jc;rw[if_pos h0]);have t0:(x.count==0)=true:=by simp[h0]
  clear h0 G0;subst O0;go_wp2;have l1:=i0.out;have F0:=H0.o;have N0:=J0.o;have hT:=(((zo.refl [w.heap.size+1] ((w2.setCell ⟨bo,0,none⟩ (uy x.count)).setCell ⟨bo,1,none⟩ (.slice a2 n c2))).set (v:=uy x.count) (b:=w.heap.size+1) (j:=0) jv).set (v:= .slice a2 n c2) (b:=w.heap.size+1) (j:=1) jv)
  have M0:=hT.below (B:=w.heap.size) D0.o.size (λk hk=>by simp only[List.mem_cons,jw,or_false] at hk;omega);refine zM (v:= .tuple #[.agg #[uy x.count,.slice a2 n c2],.bool true,.bool true]) (by simp[results,Tryz.results133,go_sem,r0,r1]) rfl ⟨x,⟨a2,n,c2⟩,by rw[HV.o],by rw[HV.o],?_,D0.o.trans M0⟩;have k0:=yy.of_owns (w0:=w) (zE f0.out hT (λq hq hm=>by have:=(zy f0.out q hq).1;simp only[List.mem_singleton] at hm;omega)) N0;exact⟨HL.o.symm,k0.rd,k0.new,k0.cap,k0.ty⟩
 ·have HV:uH (jc x t=(⟨x.count,x.waits++[t]⟩,false)):=zd (by unfold jc;rw[if_neg h0]);have t0:(x.count==0)=false:=by simpa using h0
  clear h0 r0 r1 b1 f1;subst O0;have t1:u1.heap.size<=((w2.setCell ⟨bo,0,none⟩ (uy x.count)).setCell ⟨bo,1,none⟩ (.slice a2 n c2)).heap.size:=by have:=I0.o.lt;have:=H0.o;omega
  go_wp2_with (at_builtin;refine yF (m:=1) (cm:=1) (news:=[uy t]) rfl _ _ 23 rfl Tryz.underlying23 yb rfl jk rfl f0.out (by show Value.slice (some ⟨w2.heap.size,0,none⟩) 1 1=_;simp) rfl rfl (by simp[Value.oneCell']) jq jk t1 ?_;intro a3 c3 w3 c0 j0;have z0:=I0.o.grown j0 (yd I0.o f0.out (by decide:(87:TypeId)≠3));have S0:=u0.out.grown j0 (yd u0.out f0.out (by decide:(87:TypeId)≠3));have z1:=z0.fz 1;have E1:=z0.cell 1 rfl;have R0:=z0.set 1 (.slice a3 (n+1) c3);have A0:=S0.other ⟨bo,1,none⟩ (.slice a3 (n+1) c3) G0;have p0:=R0.cell 0 rfl;have p1:=R0.cell 1 rfl;have r0:=A0.cell 0 rfl;have b1:=A0.fz 0;have r1:=A0.cell 1 rfl;have f1:=A0.fz 1;have m1:=yd z0 c0 (by decide:(87:TypeId)≠3);have n1:=yd S0 c0 (by decide:(87:TypeId)≠3);have j1:=zd c0;have h1:=zd j0;clear z0 S0 R0 A0 c0 j0);have l1:=i0.out;have F0:=H0.o;have N0:=J0.o;have X0:=D0.o.trans (zG h1.out D0.o.size (λq hq=>by have:=(zy f0.out q hq).1;omega));have hT:=((((zo.refl [bo,w.heap.size+1] w3).set (v:= .slice a3 (n+1) c3) (b:=bo) (j:=1) jv).set (v:=uy x.count) (b:=w.heap.size+1) (j:=0) jv).set (v:= .slice a3 (n+1) c3) (b:=w.heap.size+1) (j:=1) jv)
  have M0:=hT.below (B:=w.heap.size) X0.size (λk hk=>by simp only[List.mem_cons,jw,or_false] at hk;omega);refine zM (v:= .tuple #[.agg #[uy x.count,.slice a3 (n+1) c3],.bool false,.bool true]) (by simp[results,Tryz.results133,go_sem,r0,r1]) rfl ⟨⟨x.count,x.waits++[t]⟩,⟨a3,n+1,c3⟩,by rw[HV.o],by rw[HV.o],?_,X0.trans M0⟩;have y0:=zE j1.out hT (λq hq hm=>by
   simp only[List.mem_cons,jw,or_false] at hm;rcases hm with rfl|rfl
   ·exact m1 hq
   ·exact n1 hq)
  have k0:=yy.of_owns (w0:=w) y0 N0;have Q0:zf (x.waits++[t])=zf x.waits++[uy t]:=by simp[zf]
  refine⟨by show _=(x.waits++[t]).length;rw[xp,HL.o];rfl,?_,?_,k0.cap,by show zf (x.waits++[t])=[]\/_;rw[Q0];exact k0.ty⟩
  ·show Rd _ _ (zf (x.waits++[t]));rw[Q0];exact k0.rd
  ·show zf (x.waits++[t])=[]\/_;rw[Q0];exact k0.new
end Go.Proofs.YtfclolgfegdfjaaGreat
