/- Part of a proof: BaseD. -/
import Derived.Deep.Cut
import Derived.Lib.SliceRun
import Derived.ArgAppend
import Derived.Deep.RegionLaw
import Derived.Test.YtfclolgfegdfjaaGreatVBaseC
set_option maxRecDepth 100000
set_option maxHeartbeats 16000000
namespace Go.Proofs.YtfclolgfegdfjaaGreat
open Go.RowKit
variable {w w':World} {B n k i m b g c c2 sz:Nat} {a a2:uQ} {e:TypeId} {p:Pg} {P:Program} {S:List Nat} {cs vs:uZ} {z:Value}
theorem zW (hb:xW w w') (row:Option Nat):w.grownBy w' row:=
 xe (zi (row:=row) ⟨rfl,rfl,rfl,Nat.le_refl _,λ_ _ _=>rfl⟩ ⟨rfl,rfl,rfl,Nat.le_refl _,λ_ _ _=>rfl⟩) (row':=none) ⟨hb.os,hb.tape,hb.output,hb.size,λk hk _=>hb.block k hk⟩ (λi e=>by cases e)
theorem qp.drawn {v:PV} {C:Vd} {R:Nat} (h:qp w v vs C) (hg:w.grownBy w' (some R)) (hR:R∉ZD v vs):qp w' v vs C:=
 h.keep λk hk hl=>hg.block k hl (λe=>by cases e;exact hR hk)
theorem YO (R:Nat) (a:uQ) (n c:Nat) (bs:List Int) (p:Int) (m:Nat) (xs:List Int) (w:World) (h:jD w R a n c bs p) (hp:p<=1099511627776) (hl:xs.length=m) (hm:1<=m) (b0:m<=1000) (g:Nat) (hg:g=w.heap.size) (cs:Array Value) (a0:cs=(zf xs).toArray):
  Calls Tryz.prog 95 #[.pointer (some ⟨R,0,none⟩),.slice (some ⟨g,0,none⟩) m m] (w.alloc (.cells cs 3)) λe w'=>
   ∃v:Int,e= .returned (uy v)/\v∈xs/\jD w' R a n c bs (p+1)/\w.grownBy w' (some R)/\w.heap.size<=w'.heap.size:=by
 subst hg a0;have hb:xW w (w.alloc (.cells (zf xs).toArray 3)):=zY;refine(fa R a n c bs p w.heap.size m m xs _ (h.below hb) hp hl hm b0 (by simpa using Rd.of_blk (zm.new w (zf xs).toArray 3)) (jQ h.lt)).mono ?_;rintro e w' ⟨v,rfl,hv,hr,hg,hs⟩;exact⟨v,rfl,hv,hr,zi (zW hb _) hg,Nat.le_trans hb.size hg.size⟩
theorem Dv (R:Nat) (a:uQ) (n c:Nat) (bs:List Int) (pos:Int) (v:PV) (vs:uZ) (p:Pg) (w:World) (h:jD w R a n c bs pos) (hp:pos<=1099511627000) (hO:qp w v vs p.cells) (hR:R∉ZD v vs) (hz:xH v p):
  Calls Tryz.prog 120 #[.pointer (some ⟨R,0,none⟩),.agg (zF v)] w λe w'=>∃(o:xA) (pos':Int),e= .returned (.agg #[uy o.kind,uy o.on,uy o.arg])/\(1<=o.kind/\o.kind<=10/\0<=o.on/\o.on<=3/\-99<=o.arg/\o.arg<=99)/\jD w' R a n c bs pos'/\pos'<=pos+4/\w.grownBy w' (some R):=by
 have B0:v.ns<=maxLen/\v.ng<=maxLen/\v.nb<=maxLen/\v.nr<=maxLen:=by
  obtain⟨z1,z2,z3,z4,z5,z6⟩:=hz;unfold maxLen;omega
 have l0:=zd B0;have o0:=zd hO;have p0:=zd hR;have L0:=h.lt;obtain⟨W0,m0⟩:∃W0:World,W0=(w.alloc (.cells (zF v) 26)).alloc (.cells #[uy 0,uy 0,uy 0] 68):=⟨_,rfl⟩
 have b0:xW w W0:=by rw[m0];exact(zY).alloc jv _
 have kP:zm W0 w.heap.size (zF v) 26:=by rw[m0];exact(zm.new _ _ _).alloc _
 have kZ:zm W0 (w.heap.size+1) #[uy 0,uy 0,uy 0] 68:=by rw[m0];simpa using zm.new (w.alloc (.cells (zF v) 26)) #[uy 0,uy 0,uy 0] 68
 have N0:W0.heap.size=w.heap.size+1+1:=by rw[m0];simp
 have h0:=h.below b0;have r0:=zd b0;clear B0 hO hR hz b0 h;go_enter Tryz.func120,Tryz.ntmps120;go_wp2_with fail;rw[<-m0];refine(YO R a n c bs pos 13 [1,2,3,4,5,6,7,8,9,10,1,2,3] W0 h0 jq rfl jq jq _ jq _ rfl).mono ?_;rintro e w1 ⟨K,rfl,hK,h1,g1,s1⟩;have x0:=o0.out.below r0.out;have y0:=x0.drawn g1 p0.out;have C0:=kP.grown g1 (by simp;omega);have E0:=kZ.grown g1 (by simp;omega);have G1:=zi (zW r0.out (some R)) g1;have G0:=zd G1;have I0:=zd y0;clear x0 y0 kP kZ h0 g1 G1 m0;go_wp2_with fail;refine(qK R a n c bs (pos+1) 3 w1 h1 jq jq).mono ?_;rintro e w2 ⟨y,rfl,hy,h2,g2,K0⟩;have s2:=K0.o;have A0:=I0.o.drawn g2 p0.out;have D0:=C0.grown g2 (by simp;omega);have F0:=E0.grown g2 (by simp;omega);have H0:=zd (zi G0.o g2);have J0:=zd A0;have HK:uH ((K=1\/K=4\/K=8)\/(K=2\/K=3)\/K=5\/K=6\/K=7\/K=9\/K=10):=zd (by simp only[List.mem_cons,jw,or_false] at hK;omega);have a0:uH (1<=K/\K<=10):=zd (jQ HK.o);have v0:w1.heap.size=w2.heap.size:=s2.symm;obtain⟨W,hW⟩:∃W:World,W=w2.alloc (.cells #[uy K,uy (y:Int),uy 0] 68):=⟨_,rfl⟩
 have bo:xW w2 W:=by rw[hW];exact zY
 have KO:zm W w1.heap.size #[uy K,uy (y:Int),uy 0] 68:=by rw[hW,v0];exact zm.new _ _ _
 have KP:=D0.below bo;have KZ:=F0.below bo;have OW:=J0.o.below bo;have GG:=zi H0.o (zW bo _);have RD:=h2.below bo;clear A0 C0 E0 h1 g2 hK bo h2 D0 F0 v0;go_upto_region 2 with fail;rw[<-hW];clear hW;have M0:pos+1+1<=pos+3:=jq;rcases HK.o with h|h|h
 all_goals clear HK
 focus
  rcases h with rfl|rfl|rfl
  all_goals
   have e0:=KP.cell 0 rfl;have e1:=KP.cell 1 rfl;have e2:=KP.cell 2 rfl;have e3:=KP.cell 3 rfl;have e4:=KP.cell 4 rfl;have c0:=KO.cell 0 rfl;have c1:=KO.cell 1 rfl;have c2:=KO.cell 2 rfl;go_wp2_with fail;refine(YO R a n c bs _ 4 [7,1,2,99] _ RD jq rfl jq jq _ (by first|omega|simp) _ rfl).mono ?_;rintro e w3 ⟨A,rfl,hA,h3,g3,s3⟩;have d0:uH (-99<=A/\A<=99):=zd (by simp only[List.mem_cons,jw,or_false] at hA;omega);replace KO:=KO.grown g3 (by simp;omega);replace KP:=KP.grown g3 (by simp;omega);replace KZ:=KZ.grown g3 (by simp;omega);replace OW:=OW.drawn g3 p0.out;replace GG:=zi GG g3;have g0:=h3;clear RD hA g3 h3;have RD:=g0;clear g0;obtain⟨K,a0,KO⟩:∃K:Int,uH (1<=K/\K<=10)/\zm w3 w1.heap.size #[uy K,uy (y:Int),uy 0] 68:=⟨_,a0,KO⟩
   have fo:=KO.fz 2;have co:=KO.cell 2 rfl;have gs:=zv w3 w1.heap.size 2 (uy A);have f0:zm (w3.setCell ⟨w1.heap.size,2,none⟩ (uy A)) w1.heap.size #[uy K,uy (y:Int),uy A] 68:=(by simpa using KO.set 2 (uy A));replace KP:=KP.other ⟨w1.heap.size,2,none⟩ (uy A) (by simp;omega);replace KZ:=KZ.other ⟨w1.heap.size,2,none⟩ (uy A) (by simp;omega);replace OW:qp (w3.setCell ⟨w1.heap.size,2,none⟩ (uy A)) v vs p.cells:=OW.keep (λk hk hl=>gs.block k hl (λe=>by cases e;have:=o0.out.lt _ hk;omega));replace GG:=xe GG gs (λi e=>by cases e;omega);replace RD:=RD.gr gs (λi e=>by cases e;omega);clear KO gs;have KO:=f0;clear f0 c0 c1 c2 e0 e1 e2 e3 e4;have e0:=KP.cell 0 rfl;have e1:=KP.cell 1 rfl;have e2:=KP.cell 2 rfl;have e3:=KP.cell 3 rfl;have e4:=KP.cell 4 rfl;have c0:=KO.cell 0 rfl;have c1:=KO.cell 1 rfl;have c2:=KO.cell 2 rfl;go_wp2_with fail;refine(qu v p ⟨_,(y:Int),A⟩ _ OW.rd l0.out).mono ?_;rintro e w5 ⟨rfl,b5⟩;replace KP:=KP.below b5;replace KO:=KO.below b5;replace KZ:=KZ.below b5;replace OW:=OW.below b5;replace GG:=zi GG (zW b5 _);replace RD:=RD.below b5;generalize hov:zX p _=ov
   obtain⟨K,A,a0,d0,i0,KO⟩:∃K A:Int,uH (1<=K/\K<=10)/\uH (-99<=A/\A<=99)/\zX p ⟨K,(y:Int),A⟩=ov/\zm w5 w1.heap.size #[uy K,uy (y:Int),uy A] 68:=⟨_,_,a0,d0,hov,KO⟩
   obtain⟨ps,hq,RD⟩:∃q,q<=pos+3/\jD w5 R a n c bs q:=⟨_,jq,RD⟩
   clear b5 e0 e1 e2 e3 e4 c0 c1 c2;clear fo co s3
 rotate_left 3
 focus
  rcases h with rfl|rfl
  all_goals
   have e0:=KP.cell 0 rfl;have e1:=KP.cell 1 rfl;have e2:=KP.cell 2 rfl;have e3:=KP.cell 3 rfl;have e4:=KP.cell 4 rfl;have c0:=KO.cell 0 rfl;have c1:=KO.cell 1 rfl;have c2:=KO.cell 2 rfl;go_wp2_with fail;refine(YO R a n c bs _ 3 [1,1,2] _ RD jq rfl jq jq _ (by first|omega|simp) _ rfl).mono ?_;rintro e w3 ⟨A,rfl,hA,h3,g3,s3⟩;have d0:uH (-99<=A/\A<=99):=zd (by simp only[List.mem_cons,jw,or_false] at hA;omega);replace KO:=KO.grown g3 (by simp;omega);replace KP:=KP.grown g3 (by simp;omega);replace KZ:=KZ.grown g3 (by simp;omega);replace OW:=OW.drawn g3 p0.out;replace GG:=zi GG g3;have g0:=h3;clear RD hA g3 h3;have RD:=g0;clear g0;obtain⟨K,a0,KO⟩:∃K:Int,uH (1<=K/\K<=10)/\zm w3 w1.heap.size #[uy K,uy (y:Int),uy 0] 68:=⟨_,a0,KO⟩
   have fo:=KO.fz 2;have co:=KO.cell 2 rfl;have gs:=zv w3 w1.heap.size 2 (uy A);have f0:zm (w3.setCell ⟨w1.heap.size,2,none⟩ (uy A)) w1.heap.size #[uy K,uy (y:Int),uy A] 68:=(by simpa using KO.set 2 (uy A));replace KP:=KP.other ⟨w1.heap.size,2,none⟩ (uy A) (by simp;omega);replace KZ:=KZ.other ⟨w1.heap.size,2,none⟩ (uy A) (by simp;omega);replace OW:qp (w3.setCell ⟨w1.heap.size,2,none⟩ (uy A)) v vs p.cells:=OW.keep (λk hk hl=>gs.block k hl (λe=>by cases e;have:=o0.out.lt _ hk;omega));replace GG:=xe GG gs (λi e=>by cases e;omega);replace RD:=RD.gr gs (λi e=>by cases e;omega);clear KO gs;have KO:=f0;clear f0 c0 c1 c2 e0 e1 e2 e3 e4;have e0:=KP.cell 0 rfl;have e1:=KP.cell 1 rfl;have e2:=KP.cell 2 rfl;have e3:=KP.cell 3 rfl;have e4:=KP.cell 4 rfl;have c0:=KO.cell 0 rfl;have c1:=KO.cell 1 rfl;have c2:=KO.cell 2 rfl;go_wp2_with fail;refine(qu v p ⟨_,(y:Int),A⟩ _ OW.rd l0.out).mono ?_;rintro e w5 ⟨rfl,b5⟩;replace KP:=KP.below b5;replace KO:=KO.below b5;replace KZ:=KZ.below b5;replace OW:=OW.below b5;replace GG:=zi GG (zW b5 _);replace RD:=RD.below b5;generalize hov:zX p _=ov
   obtain⟨K,A,a0,d0,i0,KO⟩:∃K A:Int,uH (1<=K/\K<=10)/\uH (-99<=A/\A<=99)/\zX p ⟨K,(y:Int),A⟩=ov/\zm w5 w1.heap.size #[uy K,uy (y:Int),uy A] 68:=⟨_,_,a0,d0,hov,KO⟩
   obtain⟨ps,hq,RD⟩:∃q,q<=pos+3/\jD w5 R a n c bs q:=⟨_,jq,RD⟩
   clear b5 e0 e1 e2 e3 e4 c0 c1 c2;clear fo co s3
 rotate_left 2
 rcases h with rfl|h
 focus
  have e0:=KP.cell 0 rfl;have e1:=KP.cell 1 rfl;have e2:=KP.cell 2 rfl;have e3:=KP.cell 3 rfl;have e4:=KP.cell 4 rfl;have c0:=KO.cell 0 rfl;have c1:=KO.cell 1 rfl;have c2:=KO.cell 2 rfl;go_wp2_with fail;refine(YO R a n c bs _ 3 [-1,1,-2] _ RD jq rfl jq jq _ (by first|omega|simp) _ rfl).mono ?_;rintro e w3 ⟨A,rfl,hA,h3,g3,s3⟩;have d0:uH (-99<=A/\A<=99):=zd (by simp only[List.mem_cons,jw,or_false] at hA;omega);replace KO:=KO.grown g3 (by simp;omega);replace KP:=KP.grown g3 (by simp;omega);replace KZ:=KZ.grown g3 (by simp;omega);replace OW:=OW.drawn g3 p0.out;replace GG:=zi GG g3;have g0:=h3;clear RD hA g3 h3;have RD:=g0;clear g0;obtain⟨K,a0,KO⟩:∃K:Int,uH (1<=K/\K<=10)/\zm w3 w1.heap.size #[uy K,uy (y:Int),uy 0] 68:=⟨_,a0,KO⟩
  have fo:=KO.fz 2;have co:=KO.cell 2 rfl;have gs:=zv w3 w1.heap.size 2 (uy A);have f0:zm (w3.setCell ⟨w1.heap.size,2,none⟩ (uy A)) w1.heap.size #[uy K,uy (y:Int),uy A] 68:=by simpa using KO.set 2 (uy A)
  replace KP:=KP.other ⟨w1.heap.size,2,none⟩ (uy A) (by simp;omega);replace KZ:=KZ.other ⟨w1.heap.size,2,none⟩ (uy A) (by simp;omega);replace OW:qp (w3.setCell ⟨w1.heap.size,2,none⟩ (uy A)) v vs p.cells:=OW.keep (λk hk hl=>gs.block k hl (λe=>by cases e;have:=o0.out.lt _ hk;omega));replace GG:=xe GG gs (λi e=>by cases e;omega);replace RD:=RD.gr gs (λi e=>by cases e;omega);clear KO gs;have KO:=f0;clear f0 c0 c1 c2 e0 e1 e2 e3 e4;have e0:=KP.cell 0 rfl;have e1:=KP.cell 1 rfl;have e2:=KP.cell 2 rfl;have e3:=KP.cell 3 rfl;have e4:=KP.cell 4 rfl;have c0:=KO.cell 0 rfl;have c1:=KO.cell 1 rfl;have c2:=KO.cell 2 rfl;go_wp2_with fail;refine(qu v p ⟨_,(y:Int),A⟩ _ OW.rd l0.out).mono ?_;rintro e w5 ⟨rfl,b5⟩;replace KP:=KP.below b5;replace KO:=KO.below b5;replace KZ:=KZ.below b5;replace OW:=OW.below b5;replace GG:=zi GG (zW b5 _);replace RD:=RD.below b5;generalize hov:zX p _=ov;obtain⟨K,A,a0,d0,i0,KO⟩:∃K A:Int,uH (1<=K/\K<=10)/\uH (-99<=A/\A<=99)/\zX p ⟨K,(y:Int),A⟩=ov/\zm w5 w1.heap.size #[uy K,uy (y:Int),uy A] 68:=⟨_,_,a0,d0,hov,KO⟩
  obtain⟨ps,hq,RD⟩:∃q,q<=pos+3/\jD w5 R a n c bs q:=⟨_,jq,RD⟩
  clear b5 e0 e1 e2 e3 e4 c0 c1 c2;clear fo co s3
 rotate_left
 focus
  rcases h with rfl|rfl|rfl|rfl
  all_goals
   have d0:uH (-99<=(0:Int)/\(0:Int)<=99):=zd jq;have e0:=KP.cell 0 rfl;have e1:=KP.cell 1 rfl;have e2:=KP.cell 2 rfl;have e3:=KP.cell 3 rfl;have e4:=KP.cell 4 rfl;have c0:=KO.cell 0 rfl;have c1:=KO.cell 1 rfl;have c2:=KO.cell 2 rfl;go_wp2_with fail;refine(qu v p ⟨_,(y:Int),0⟩ _ OW.rd l0.out).mono ?_;rintro e w5 ⟨rfl,b5⟩;replace KP:=KP.below b5;replace KO:=KO.below b5;replace KZ:=KZ.below b5;replace OW:=OW.below b5;replace GG:=zi GG (zW b5 _);replace RD:=RD.below b5;generalize hov:zX p _=ov;obtain⟨K,A,a0,d0,i0,KO⟩:∃K A:Int,uH (1<=K/\K<=10)/\uH (-99<=A/\A<=99)/\zX p ⟨K,(y:Int),A⟩=ov/\zm w5 w1.heap.size #[uy K,uy (y:Int),uy A] 68:=⟨_,_,a0,d0,hov,KO⟩
   obtain⟨ps,hq,RD⟩:∃q,q<=pos+3/\jD w5 R a n c bs q:=⟨_,jq,RD⟩
   clear b5 e0 e1 e2 e3 e4 c0 c1 c2
 all_goals
  have HD:w.heap.size+1≠w1.heap.size/\w.heap.size≠w1.heap.size:=jq
  cases ov with
  |true=>
   have HV:=zd i0;have e0:=KP.cell 0 rfl;have e1:=KP.cell 1 rfl;have e2:=KP.cell 2 rfl;have e3:=KP.cell 3 rfl;have e4:=KP.cell 4 rfl;have c0:=KO.cell 0 rfl;have c1:=KO.cell 1 rfl;have c2:=KO.cell 2 rfl;go_wp2_with fail;refine(qu v p ⟨K,(y:Int),A⟩ _ OW.rd l0.out).mono ?_;rintro e w6 ⟨rfl,b5⟩;replace KP:=KP.below b5;replace KO:=KO.below b5;replace KZ:=KZ.below b5;replace OW:=OW.below b5;replace GG:=zi GG (zW b5 _);replace RD:=RD.below b5;clear b5;rw[HV.o];clear e0 e1 e2 e3 e4 c0 c1 c2;have e0:=KP.cell 0 rfl;have e1:=KP.cell 1 rfl;have e2:=KP.cell 2 rfl;have e3:=KP.cell 3 rfl;have e4:=KP.cell 4 rfl;have c0:=KO.cell 0 rfl;have c1:=KO.cell 1 rfl;have c2:=KO.cell 2 rfl;have z0:=KZ.cell 0 rfl;have s0:=KZ.fz 0;have z1:=KZ.cell 1 rfl;have t0:=KZ.fz 1;have z2:=KZ.cell 2 rfl;have u0:=KZ.fz 2;have q0:=zd RD;have n0:=zd GG;clear KP KO KZ OW GG RD;have k0:w6.grownBy (((w6.setCell ⟨w.heap.size+1,0,none⟩ (uy K)).setCell ⟨w.heap.size+1,1,none⟩ (uy (y:Int))).setCell ⟨w.heap.size+1,2,none⟩ (uy A)) (some (w.heap.size+1)):=zi (zi (zv _ _ _ _) (zv _ _ _ _)) (zv _ _ _ _);have j0:=zd k0;clear k0;go_wp2
   refine zM (v:= .agg #[uy K,uy (y:Int),uy A]) (by simp[results,Tryz.results120,go_sem,z0,z1,z2]) rfl ⟨⟨K,(y:Int),A⟩,_,rfl,⟨a0.out.1,a0.out.2,by show(0:Int)<=(y:Int);omega,by show(y:Int)<=3;omega,d0.out.1,d0.out.2⟩,q0.out.gr j0.out (λi e=>by cases e;omega),jq,xe n0.out j0.out (λi e=>by cases e;omega)⟩
  |false=>
   have e0:=KP.cell 0 rfl;have e1:=KP.cell 1 rfl;have e2:=KP.cell 2 rfl;have e3:=KP.cell 3 rfl;have e4:=KP.cell 4 rfl;have c0:=KO.cell 0 rfl;have c1:=KO.cell 1 rfl;have c2:=KO.cell 2 rfl;have fo:=KO.fz 1;have co:=KO.cell 1 rfl;have gs:=zv w5 w1.heap.size 1 (uy 0);have f0:zm (w5.setCell ⟨w1.heap.size,1,none⟩ (uy 0)) w1.heap.size #[uy K,uy 0,uy A] 68:=(by simpa using KO.set 1 (uy 0));replace KP:=KP.other ⟨w1.heap.size,1,none⟩ (uy 0) (by simp;omega);replace KZ:=KZ.other ⟨w1.heap.size,1,none⟩ (uy 0) (by simp;omega);replace OW:qp (w5.setCell ⟨w1.heap.size,1,none⟩ (uy 0)) v vs p.cells:=OW.keep (λk hk hl=>gs.block k hl (λe=>by cases e;have:=o0.out.lt _ hk;omega));replace GG:=xe GG gs (λi e=>by cases e;omega);replace RD:=RD.gr gs (λi e=>by cases e;omega);clear KO gs;have KO:=f0;clear f0 c0 c1 c2 e0 e1 e2 e3 e4;have e0:=KP.cell 0 rfl;have e1:=KP.cell 1 rfl;have e2:=KP.cell 2 rfl;have e3:=KP.cell 3 rfl;have e4:=KP.cell 4 rfl;have c0:=KO.cell 0 rfl;have c1:=KO.cell 1 rfl;have c2:=KO.cell 2 rfl;go_wp2_with fail;refine(qu v p ⟨K,0,A⟩ _ OW.rd l0.out).mono ?_;rintro e w6 ⟨rfl,b5⟩;replace KP:=KP.below b5;replace KO:=KO.below b5;replace KZ:=KZ.below b5;replace OW:=OW.below b5
   replace GG:=zi GG (zW b5 _);replace RD:=RD.below b5;clear b5
   cases hv:zX p ⟨K,0,A⟩ with
   |true=>
    clear hv;clear e0 e1 e2 e3 e4 c0 c1 c2;have e0:=KP.cell 0 rfl;have e1:=KP.cell 1 rfl;have e2:=KP.cell 2 rfl;have e3:=KP.cell 3 rfl;have e4:=KP.cell 4 rfl;have c0:=KO.cell 0 rfl;have c1:=KO.cell 1 rfl;have c2:=KO.cell 2 rfl;have z0:=KZ.cell 0 rfl;have s0:=KZ.fz 0;have z1:=KZ.cell 1 rfl;have t0:=KZ.fz 1;have z2:=KZ.cell 2 rfl;have u0:=KZ.fz 2;have q0:=zd RD;have n0:=zd GG;clear KP KO KZ OW GG RD;have k0:w6.grownBy (((w6.setCell ⟨w.heap.size+1,0,none⟩ (uy K)).setCell ⟨w.heap.size+1,1,none⟩ (uy 0)).setCell ⟨w.heap.size+1,2,none⟩ (uy A)) (some (w.heap.size+1)):=zi (zi (zv _ _ _ _) (zv _ _ _ _)) (zv _ _ _ _);have j0:=zd k0;clear k0;go_wp2;refine zM (v:= .agg #[uy K,uy 0,uy A]) (by simp[results,Tryz.results120,go_sem,z0,z1,z2]) rfl ⟨⟨K,0,A⟩,_,rfl,⟨a0.out.1,a0.out.2,jv,jv,d0.out.1,d0.out.2⟩,q0.out.gr j0.out (λi e=>by cases e;omega),jq,xe n0.out j0.out (λi e=>by cases e;omega)⟩
   |false=>
    clear hv;go_wp2_with fail;refine(qK R a n c bs _ 9 _ RD jq jq).mono ?_;rintro e w7 ⟨x,rfl,hx,h7,g7,O0⟩;replace KZ:=KZ.grown g7 (by simp;omega);replace GG:=zi GG g7;have g0:=h7;clear RD g7 h7;have RD:=g0;clear g0 e0 e1 e2 e3 e4 c0 c1 c2;have z0:=KZ.cell 0 rfl;have s0:=KZ.fz 0;have z1:=KZ.cell 1 rfl;have t0:=KZ.fz 1;have z2:=KZ.cell 2 rfl;have u0:=KZ.fz 2;have q0:=zd RD;have n0:=zd GG;clear KP KO KZ OW GG RD;have k0:w7.grownBy (((w7.setCell ⟨w.heap.size+1,0,none⟩ (uy 1)).setCell ⟨w.heap.size+1,1,none⟩ (uy 0)).setCell ⟨w.heap.size+1,2,none⟩ (uy (x:Int))) (some (w.heap.size+1)):=zi (zi (zv _ _ _ _) (zv _ _ _ _)) (zv _ _ _ _);have j0:=zd k0;clear k0;go_wp2;refine zM (v:= .agg #[uy 1,uy 0,uy (x:Int)]) (by simp[results,Tryz.results120,go_sem,z0,z1,z2]) rfl ⟨⟨1,0,(x:Int)⟩,_,rfl,⟨jv,jv,jv,jv,by show(-99:Int)<=x;omega,by show(x:Int)<=99;omega⟩,q0.out.gr j0.out (λi e=>by cases e;omega),jq,xe n0.out j0.out (λi e=>by cases e;omega)⟩
theorem qi {cs:Array Value} (h:zm w g cs e) (hB:B<=g) (hm:cs.size=m*sz) (a0:m<=maxLen):w.ownsRow B e sz (.slice (some ⟨g,0,none⟩) m m) m cs.toList:=
 ⟨by simpa using hm,.inr ⟨g,m,cs,rfl,hB,h,Nat.le_refl _,a0,hm,by rw[<-hm,<-Array.length_toList,List.take_length]⟩⟩
theorem yE.four {G:Nat} {a0 a1 a3:uQ} {n0 n1 n2 n3 c0 c1 c3:Nat} {l0 l1 l2 l3:List Int} 
  (h:zm w G #[.slice a0 n0 c0,.slice a1 n1 c1,.slice a2 n2 c2,.slice a3 n3 c3,uk] 26)
  (o0:w.ownsRow B 3 1 (.slice a0 n0 c0) n0 (zf l0)) (o1:w.ownsRow B 3 1 (.slice a1 n1 c1) n1 (zf l1)) (o2:w.ownsRow B 3 1 (.slice a2 n2 c2) n2 (zf l2)) (o3:w.ownsRow B 3 1 (.slice a3 n3 c3) n3 (zf l3)):
  yE w B G ⟨a0,n0,c0,a1,n1,c1,a2,n2,c2,a3,n3,c3,none,0,0⟩ [] ⟨l0,l1,l2,l3,[]⟩ 0:=
 ⟨h,o0,o1,o2,o3,⟨jv,.inl ⟨rfl,rfl⟩⟩,jU.nil w,by simp[uW],by simp[uW]⟩
theorem yE.drawn {G R:Nat} {v:PV} (h:yE w B G v vs p k) (hg:w.grownBy w' (some R)) (hR:R<B) (hG:R≠G):yE w' B G v vs p k:=by
 have far:∀{e:TypeId} {sz n' c':Nat} {a':uQ} {xs:uZ},w.ownsRow B e sz (.slice a' n' c') n' xs->∀q,zj a'=some q->some R=some q->False:=by
  intro e sz n' c' a' xs ho q hq e'
  cases e'
  have:=(zy (cs:=xs) ho R hq).1;omega
 exact⟨h.blk.grown hg (by simpa using hG),zk h.os hg (far h.os),zk h.og hg (far h.og),zk h.ob hg (far h.ob),zk h.orr hg (far h.orr),zk h.ot hg (far h.ot),h.inn.grown hg (λq hq hm=>by cases hq;have:=h.lo _ hm;omega),h.nd,h.lo⟩
def over (o:Nat) (us cs:uZ):uZ:=cs.take o++us++cs.drop (o+us.length)
theorem dZ (o:Nat) (u:Value) (us cs:uZ) (h:o+us.length+1<=cs.length):over (o+1) us (cs.set o u)=over o (u::us) cs:=by
 unfold over;have e1:(cs.set o u).take (o+1)=cs.take o++[u]:=by
  rw[List.take_add_one,List.take_set_of_le (Nat.le_refl o)];simp[show o<cs.length by omega]
 have e2:(cs.set o u).drop (o+1+us.length)=cs.drop (o+(us.length+1)):=by
  rw[List.drop_set_of_lt jq];congr 1;omega
 rw[e1,e2];simp
theorem ZF:∀(us:uZ) (o:Nat) (w:World) (cs:uZ),w.ownsRow B e sz (.slice (some ⟨g,0,none⟩) n c) n cs->o+us.length<=cs.length->
  (w.setCells g o us).ownsRow B e sz (.slice (some ⟨g,0,none⟩) n c) n (over o us cs)/\w.grownBy (w.setCells g o us) (some g)
 |[],o,w,cs,h,_=>by
  have:over o [] cs=cs:=by simp[over]
  rw[this];exact⟨h,World.grownBy.refl _ _⟩
 |u::us,o,w,cs,h,hl=>by
  simp only[List.length_cons] at hl;have h1:=vR h o u rfl;have h2:=ZF us (o+1) (w.setCell ⟨g,o,none⟩ u) (cs.set o u) h1.1 (by simp;omega);rw[dZ o u us cs jq] at h2;exact⟨h2.1,zi h1.2 h2.2⟩
theorem Qd (h:w.ownsRow B e sz (.slice (some ⟨g,0,none⟩) n c) n cs):
  ∃a0:uZ,w.ownsRow B e sz (.slice (some ⟨g,0,none⟩) c c) c a0/\a0.take (n*sz)=cs/\n<=c/\c<=maxLen/\a0.length=c*sz:=by
 obtain⟨hl,⟨h',_⟩|⟨g',b0,a0,h',hb,hg,h1,h2,h3,h4⟩⟩:=h
 ·cases h'
 ·cases h'
  refine⟨a0.toList,⟨by simpa using h3,.inr ⟨g,c,a0,rfl,hb,hg,Nat.le_refl _,h2,h3,?_⟩⟩,h4,h1,h2,by simpa using h3⟩;rw[Jh (by simp;omega)]
theorem Uy {a0:uZ} (h:w.ownsRow B e sz (.slice (some ⟨g,0,none⟩) c c) c a0) (hm:m<=c):
  w.ownsRow B e sz (.slice (some ⟨g,0,none⟩) m c) m (a0.take (m*sz)):=by
 obtain⟨hl,⟨h',_⟩|⟨g',b0,cc,h',hb,hg,h1,h2,h3,h4⟩⟩:=h
 ·cases h'
 ·cases h'
  have c0:m*sz<=c*sz:=Nat.mul_le_mul_right sz hm;have e1:cc.toList=a0:=by rw[<-h4,Jh (by simp;omega)]
  refine⟨by rw[jO];omega,.inr ⟨g,c,cc,rfl,hb,hg,hm,h2,h3,by rw[e1]⟩⟩
def Z8 (e:TypeId) (size n:Nat) (w w':World):Prop:=∀(B':Nat) (az:uQ) (k cz:Nat) (ys:uZ),k<=n->w.ownsRow B' e size (.slice az k cz) k ys->w'.ownsRow B' e size (.slice az k cz) k ys
theorem Vh {size:Nat} (h:w.grownBy w' none):Z8 e size n w w':=λ_ _ _ _ _ _ ho=>zk ho h (λ_ _ h2=>by cases h2)
theorem Q9 (h:w.ownsRow B e sz (.slice (some ⟨g,0,none⟩) n c) n cs):∃a0:Array Value,w.heap[g]? =some (.cells a0 e)/\a0.size=c*sz:=by
 rcases h.2 with ⟨h',_⟩|⟨g',b0,a0,h',hb,hg,h1,h2,h3,h4⟩
 ·cases h'
 ·cases h'
  exact⟨a0,hg,h3⟩
theorem fY {news:uZ} (h:w.ownsRow B e sz (.slice (some ⟨g,0,none⟩) n c) n cs) (hl:n*sz+news.length<=c*sz):Z8 e sz n w (w.setCells g (n*sz) news):=by
 intro B' az k cz ys hk ho;obtain⟨d0,hf,-,-,-,n0⟩:=Qd h;have hg:=(ZF news (n*sz) w d0 hf jq).2;by_cases hb:zj az=some g
 ·rcases ho.2 with ⟨h',h0⟩|⟨g',c0,b0,h',m0,j0,h1,h2,h3,h4⟩
  ·cases h';cases hb
  ·simp only[Value.slice.injEq,true_and] at h';obtain⟨rfl,rfl⟩:=h';obtain rfl:g'=g:=by simpa[zj] using hb
   obtain⟨f0,e1,e2⟩:=Q9 h;rw[j0] at e1;have e3:b0=f0:=(by simpa using e1);rw[<-e3,h3] at e2;obtain⟨a0,i0,l0,-,-,g0⟩:=Qd ho;have R:=ZF news (n*sz) w a0 i0 jq;have R2:=Uy R.1 h1;have k0:k*sz<=n*sz:=Nat.mul_le_mul_right sz hk;have e5:(over (n*sz) news a0).take (k*sz)=ys:=by
    unfold over;rw[qh,List.take_append_of_le_length (by rw[jO];omega),List.take_take,Nat.min_eq_left k0,l0]
   rw[e5] at R2;exact R2
 ·exact zk ho hg (λq h1 h2=>hb (h1.trans h2.symm))
theorem J6 (t ty:TypeId) {size b0:Nat} (ht:P.underlying t=some (.slice e)) (m0:(P.info? e).map (λi=>(i.zero,i.size,i.bytes))=some (some z,size,b0)) 
  (x0:z.cells.size=size) (s0:0<size) {a:uQ} {n c:Nat} {xs:uZ} (a0:w.ownsRow B e size (.slice a n c) n xs)
  {a2:uQ} {m c2:Nat} {news:uZ} (hl:news.length=m*size) (n0:Rd w a2 news) (h1:∀u∈news,u.oneCell'=true) (d0:(n+m)*b0<=140737488355328) (y0:0<b0) (l0:B<=w.heap.size):
  ∃a' c' w',(Builtin.append_ #[t,t] ty #[.slice a n c,.slice a2 m c2]).run P w= .ok (.slice a' (n+m) c') w'/\w'.ownsRow B e size (.slice a' (n+m) c') (n+m) (xs++news)/\w.grownBy w' (zj a)/\Z8 e size n w w':=by
 obtain⟨i,hi,u0,o0,v0⟩:=info_parts m0;have q0:n+m<=maxLen:=by
  have:=Nat.le_trans (Nat.le_mul_of_pos_right (n+m) y0) d0;simp only[maxLen];omega
 cases a2 with
 |none=>
  have z0:news=[]:=by
   rcases n0 with h|⟨b,o,e',_⟩
   ·exact h
   ·cases e'
  subst z0;have hm:m=0:=by
   simp only[List.length_nil] at hl;rcases Nat.mul_eq_zero.1 hl.symm with h|h
   ·exact h
   ·omega
  subst hm;refine⟨a,c,w,jV (P:=P) (w:=w) B t ty e i size ht hi _ n xs a0 c2,by simpa using a0,World.grownBy.refl _ _,Vh (World.grownBy.refl _ _)⟩
 |some ad=>
  have g0:∀j u,news[j]? =some u->w.cell? (ad.add j)=some u:=by
   intro j u hj;have r0:j<news.length:=(YN.1 hj).1;obtain⟨b,o',e',hc⟩:=n0.at jq
   cases e'
   rw[Addr.add_lit,hc j r0];rw[xm,hj];rfl
  have k0:∀v' w',(Builtin.append_ #[t,t] ty #[.slice a n c,.slice (some ad) m c2]).run P w= .ok v' w'->w'.ownsRow w.heap.size e size v' (n+m) (xs++news)->w.grownBy w' none->∃a' c' w',(Builtin.append_ #[t,t] ty #[.slice a n c,.slice (some ad) m c2]).run P w= .ok (.slice a' (n+m) c') w'/\w'.ownsRow B e size (.slice a' (n+m) c') (n+m) (xs++news)/\w.grownBy w' (zj a)/\Z8 e size n w w':=by
   intro v' w' c0 r1 r2;obtain⟨a',c',rfl⟩:=Ye r1;exact⟨a',c',w',c0,zw r1 l0,⟨r2.os,r2.tape,r2.output,r2.size,λk hk _=>r2.block k hk jv⟩,Vh r2⟩
  rcases a0.2 with ⟨h',h0⟩|⟨g,cap,B0,h',hb,hg,F0,D0,E0,t0⟩
  ·simp only[Value.slice.injEq] at h';obtain⟨rfl,rfl,rfl⟩:=h';obtain⟨v',w',c0,r1,r2,_⟩:=run_append_own (P:=P) w w.heap.size t ty e i z size b0 ht hi u0 o0 v0 x0 s0 uk 0 xs (by have:=a0.1;simp only[Nat.zero_mul] at this;rw[List.eq_nil_of_length_eq_zero this];exact jf w _ e size) ad m c2 news hl g0 h1 q0 d0 yk;exact k0 v' w' c0 r1 r2
  ·simp only[Value.slice.injEq,true_and] at h';obtain⟨rfl,rfl⟩:=h';by_cases i0:n+m<=c
   ·obtain⟨j0,f0,A0,-,-,C0⟩:=Qd a0;have p0:n*size+news.length<=c*size:=by
     rw[hl,<-Nat.add_mul];exact Nat.mul_le_mul_right size i0
    have c0:=run_append_room_cells (P:=P) (w:=w) t ty e i ht hi g 0 n c ad m c2 news (by rw[o0];exact hl) g0 h1 i0
     (λj hj=>by rw[o0,Nat.zero_add,f0.cellAt _ jq,xV jq];rfl) (λj _=>f0.frozenAt _)
    rw[o0,Nat.zero_add] at c0;have R:=ZF news (n*size) w j0 f0 jq;have R2:=Uy R.1 i0;have e5:(over (n*size) news j0).take ((n+m)*size)=xs++news:=by
     unfold over;have hx:xs.length=n*size:=a0.1;rw[A0,Nat.add_mul,<-hl,<-hx,<-xp,List.take_left' rfl]
    rw[e5] at R2;exact⟨_,_,_,c0,R2,R.2,fY a0 p0⟩
   ·obtain⟨v',w',c0,r1,r2⟩:=run_append_arg_grows (P:=P) w t ty e i z size b0 ht hi u0 o0 v0 x0 s0 ⟨g,0,none⟩ n c xs a0.1 (λj u hj=>by
     have r0:j<xs.length:=(YN.1 hj).1;rw[Addr.add_lit,Nat.zero_add,a0.cellAt j (jQ a0.1)];exact hj) ad m c2 news hl g0 jq q0 d0
    exact k0 v' w' c0 r1 r2
theorem Yr {o:Oper} {ρ:Operand->Value} {f0:Value->World->Prop} (s x:Operand) (t:TypeId) 
  (ho:o.op= .call {callee:= .builtin .append,args:= #[s,x],argTypes:= #[t,t]}) {B:Nat} {e:TypeId} {z:Value} {size a0:Nat} (ht:P.underlying t=some (.slice e)) (d0:(P.info? e).map (λi=>(i.zero,i.size,i.bytes))=some (some z,size,a0))
  (k0:z.cells.size=size) (j0:0<size) {a:uQ} {n c:Nat} {xs:uZ} (hs:ρ s= .slice a n c) (g0:w.ownsRow B e size (.slice a n c) n xs)
  {a2:uQ} {m c2:Nat} {news:uZ} (hx:ρ x= .slice a2 m c2) (hl:news.length=m*size) (h0:Rd w a2 news) (h1:∀u∈news,u.oneCell'=true) (b0:(n+m)*a0<=140737488355328) (i0:0<a0) (c0:B<=w.heap.size)
  (h:∀a' c' w',w'.ownsRow B e size (.slice a' (n+m) c') (n+m) (xs++news)->w.grownBy w' (zj a)->Z8 e size n w w'->f0 (.slice a' (n+m) c') w'):xO P o ρ w f0:=by
 obtain⟨a',c',w',hr,h2,h3,h4⟩:=J6 (P:=P) (c2:=c2) t o.type ht d0 k0 j0 g0 hl h0 h1 b0 i0 c0;refine zh (u:= .slice a' (n+m) c') (w':=w') ?_ (h a' c' w' h2 h3 h4);unfold execOp;simp only[ho,resolve,invoke,builtin,Sem.run_bind,Sem.run_pure,Result.andThen_ok,List.map_toArray,List.map_cons,List.map_nil,hs,hx,hr]
structure Zj (p:Pg) (k:Nat):Prop where
 s:p.sems.length<=k
 g:p.groups.length<=k
 b:p.barriers.length<=k
 r:p.rooms.length<=k
 t:p.threads.length<=k
 i:∀t∈p.threads,t.length<=8
theorem Zj.mono (h:Zj p k) (hm:k<=m):Zj p m:=⟨Nat.le_trans h.s hm,Nat.le_trans h.g hm,Nat.le_trans h.b hm,Nat.le_trans h.r hm,Nat.le_trans h.t hm,h.i⟩
theorem JN.few (h:JN p k) (hk:k<=9):Zj p 9:=⟨by have:=h.s;omega,by have:=h.g;omega,by have:=h.b;omega,by have:=h.r;omega,by have:=h.t;omega,h.i⟩
theorem tE:Zj xX 9:=⟨by simp[xX],by simp[xX],by simp[xX],by simp[xX],by simp[xX],by simp[xX]⟩
theorem dP (s:ByteArray):Zj ((ub s).getD xX) 9:=by
 unfold ub;split
 ·split
  ·exact(Jf _ _).few (Nat.min_le_right _ _)
  ·exact tE
 ·exact tE
theorem Zj.small' {v:PV} (h:yK w v p) (hf:Zj p k) (hk:k<=1000):xH v p:=by
 refine⟨by have:=h.ls;have:=hf.s;omega,by have:=h.lg;have:=hf.g;omega,by have:=h.lb;have:=hf.b;omega,by have:=h.lr;have:=hf.r;omega,by have:=h.lt;have:=hf.t;omega,λi=> ?_⟩;rw[xm]
 cases hi:p.threads[i]? with
 |none=>simp
 |some t=>
  have:=hf.i t (vB hi);simp only[Option.getD_some];omega
theorem Zj.small {v:PV} (hf:Zj p k) (h:qp w v vs p.cells) (hk:k<=1000):xH v p:=Zj.small' h.rd hf hk
theorem Zj.addS (h:Zj p k) (y:Int):Zj {p with sems:=p.sems++[y]} (k+1):=⟨by have:=h.s;simp;omega,by have:=h.g;show p.groups.length<=_;omega,by have:=h.b;show p.barriers.length<=_;omega,by have:=h.r;show p.rooms.length<=_;omega,by have:=h.t;show p.threads.length<=_;omega,h.i⟩
theorem Zj.addR (h:Zj p k) (y:Int):Zj {p with rooms:=p.rooms++[y]} (k+1):=⟨by have:=h.s;show p.sems.length<=_;omega,by have:=h.g;show p.groups.length<=_;omega,by have:=h.b;show p.barriers.length<=_;omega,by have:=h.r;simp;omega,by have:=h.t;show p.threads.length<=_;omega,h.i⟩
theorem Zj.addT (h:Zj p k) (t:List xA) (ht:t.length<=8):Zj {p with threads:=p.threads++[t]} (k+1):=⟨by have:=h.s;show p.sems.length<=_;omega,by have:=h.g;show p.groups.length<=_;omega,by have:=h.b;show p.barriers.length<=_;omega,by have:=h.r;show p.rooms.length<=_;omega,by have:=h.t;simp;omega,λu hu=>by
 rcases xM hu with hu|hu
 ·exact h.i u hu
 ·obtain rfl:=yh hu;exact ht⟩
theorem Zj.noT (h:Zj p k):Zj {p with threads:=[]} (k+1):=⟨by have:=h.s;show p.sems.length<=_;omega,by have:=h.g;show p.groups.length<=_;omega,by have:=h.b;show p.barriers.length<=_;omega,by have:=h.r;show p.rooms.length<=_;omega,jv,jv⟩
theorem X7 {B':Nat} (h:w.ownsRow B' e sz (.slice a n c) n cs) (hB:∀k,zj a=some k->B<=k):w.ownsRow B e sz (.slice a n c) n cs:=by
 refine⟨h.1,?_⟩;rcases h.2 with h'|⟨g,cap,a0,h',hb,rest⟩
 ·exact .inl h'
 ·refine .inr ⟨g,cap,a0,h',?_,rest⟩;simp only[Value.slice.injEq,true_and] at h';exact hB g (by rw[h'.1];rfl)
theorem yE.of_own {G:Nat} {v:PV} (hb:zm w G (zF v) 26) (h:qp w v vs p.cells) (hf:∀k∈ZD v vs,B<=k) (hn:(uW vs).Nodup):yE w B G v vs p p.threads.length:=by
 refine⟨hb,X7 h.os λk hk=>hf k (by unfold ZD;simp[hk]),X7 h.og λk hk=>hf k (by unfold ZD;simp[hk]),X7 h.ob λk hk=>hf k (by unfold ZD;simp[hk]),X7 h.orr λk hk=>hf k (by unfold ZD;simp[hk]),X7 h.ot.out λk hk=>hf k (by unfold ZD Vm;simp[hk]),?_,hn,λq hq=>hf q (by unfold ZD;rw[Dg];simp[hq])⟩;rw[List.take_length];exact h.ot.inner
theorem UO (t ty:TypeId) {size a0:Nat} (ht:P.underlying t=some (.slice e)) (d0:(P.info? e).map (λi=>(i.zero,i.size,i.bytes))=some (some z,size,a0)) 
  (j0:z.cells.size=size) (i0:0<size) {a:uQ} {n c:Nat} {xs:uZ} (f0:w.ownsRow B e size (.slice a n c) n xs) (hz:n=0->c=0)
  {a2:uQ} {m c2:Nat} {news:uZ} (hl:news.length=m*size) (g0:Rd w a2 news) (h1:∀u∈news,u.oneCell'=true) (b0:(n+m)*a0<=140737488355328) (h0:0<a0) (c0:B<=w.heap.size):
  ∃a' c' w',(Builtin.append_ #[t,t] ty #[.slice a n c,.slice a2 m c2]).run P w= .ok (.slice a' (n+m) c') w'/\w'.ownsRow B e size (.slice a' (n+m) c') (n+m) (xs++news)/\w.grownBy w' (yQ n (.slice a n c)):=by
 by_cases hn:n=0
 ·subst hn;obtain rfl:=hz rfl;obtain rfl:xs=[]:=List.eq_nil_of_length_eq_zero (by have:=f0.1;simpa using this);obtain⟨a',c',w',hr,h2,h3,h4,h5⟩:=XF (P:=P) (c2:=c2) t ty ht d0 j0 i0 f0 hl g0 h1 (by simpa using b0) h0 c0;rw[Nat.zero_add];refine⟨a',c',w',hr,by simpa using h2,Uq h3⟩
 ·obtain⟨a',c',w',hr,h2,h3,_⟩:=J6 (P:=P) (c2:=c2) t ty ht d0 j0 i0 f0 hl g0 h1 b0 h0 c0;exact⟨a',c',w',hr,h2,by rw[yQ,if_neg hn,yu];exact h3⟩
theorem UY {wr:World} {o:Oper} {ac:Act} {K:Act->World->Prop} {Q:Exit->Act->World->Prop} (s x:Operand) (t:TypeId) 
  (ho:o.op= .call {callee:= .builtin .append,args:= #[s,x],argTypes:= #[t,t]})
  {B:Nat} {e:TypeId} {z:Value} {size a0:Nat} (ht:P.underlying t=some (.slice e)) (d0:(P.info? e).map (λi=>(i.zero,i.size,i.bytes))=some (some z,size,a0))
  (j0:z.cells.size=size) (i0:0<size)
  {a:uQ} {n c:Nat} {xs:uZ} (hs:ac.eval s= .slice a n c) (f0:wr.ownsRow B e size (.slice a n c) n xs) (hz:n=0->c=0)
  {a2:uQ} {m c2:Nat} {news:uZ} (hx:ac.eval x= .slice a2 m c2) (hl:news.length=m*size) (g0:Rd wr a2 news) (h1:∀u∈news,u.oneCell'=true)
  (b0:(n+m)*a0<=140737488355328) (h0:0<a0) (c0:B<=wr.heap.size)
  (h:∀a' c' w',w'.ownsRow B e size (.slice a' (n+m) c') (n+m) (xs++news)->wr.grownBy w' (yQ n (.slice a n c))->K (ac.put o.dst (.slice a' (n+m) c')) w'):o.wp P ac wr K Q:=by
 obtain⟨a',c',w',hr,h2,h3⟩:=UO (P:=P) (c2:=c2) t o.type ht d0 j0 i0 f0 hz hl g0 h1 b0 h0 c0;unfold Oper.wp execOp;simp only[ho,resolve,invoke,builtin,Sem.run_bind,Sem.run_pure,Result.andThen_ok,List.map_toArray,List.map_cons,List.map_nil,hs,hx,hr];exact h a' c' w' h2 h3
theorem Ji {wr:World} {h0:Array Oper} {o:Oper} {ac:Act} {K:Act->World->Prop} {Q:Exit->Act->World->Prop} {E:Prop} (j0:o.guard=none) (s x:Operand) (t:TypeId) 
  (ho:o.op= .call {callee:= .builtin .append,args:= #[s,x],argTypes:= #[t,t]})
  {B:Nat} {e:TypeId} {z:Value} {size a0:Nat} (ht:P.underlying t=some (.slice e)) (d0:(P.info? e).map (λi=>(i.zero,i.size,i.bytes))=some (some z,size,a0))
  (l0:z.cells.size=size) (k0:0<size)
  {a:uQ} {n c:Nat} {xs:uZ} (hs:ac.eval s= .slice a n c) (f0:wr.ownsRow B e size (.slice a n c) n xs) (hz:n=0->c=0)
  {a2:uQ} {m c2:Nat} {news:uZ} (hx:ac.eval x= .slice a2 m c2) (hl:news.length=m*size) (g0:Rd wr a2 news) (h1:∀u∈news,u.oneCell'=true)
  (b0:(n+m)*a0<=140737488355328) (i0:0<a0) (c0:B<=wr.heap.size)
  (h:∀a' c' w',w'.ownsRow B e size (.slice a' (n+m) c') (n+m) (xs++news)->wr.grownBy w' (yQ n (.slice a n c))->K (ac.put o.dst (.slice a' (n+m) c')) w'):
  if Region.wanted o (yielded h0 ac.tmps)=true then Oper.wp P o ac wr K Q else E:=by
 have hw:Region.wanted o (yielded h0 ac.tmps)=true:=by simp[Region.wanted,j0]
 rw[if_pos hw];exact UY s x t ho ht d0 l0 k0 hs f0 hz hx hl g0 h1 b0 i0 c0 h
theorem QD (R:Nat) (a:uQ) (n c:Nat) (bs:List Int) (p:Int) (m:Nat) (xs:List Int) (W:World) (h:jD W R a n c bs p) (hp:p<=1099511627776) (hl:xs.length=m) (hm:1<=m) (b0:m<=1000) (g:Nat) (cs:Array Value) (hb:zm W g cs 3) (a0:cs=(zf xs).toArray) (hg:g≠R):
  Calls Tryz.prog 95 #[.pointer (some ⟨R,0,none⟩),.slice (some ⟨g,0,none⟩) m m] W λe w'=>
   ∃v:Int,e= .returned (uy v)/\v∈xs/\jD w' R a n c bs (p+1)/\W.grownBy w' (some R):=by
 subst a0;refine(fa R a n c bs p g m m xs W h hp hl hm b0 (by simpa using Rd.of_blk hb) hg).mono ?_;rintro e w' ⟨v,rfl,hv,hr,hg,hs⟩;exact⟨v,rfl,hv,hr,hg⟩
theorem zo.blk {cs:Array Value} {t:TypeId} (h:zo S w w') (hb:zm w b cs t) (hn:b∉S):zm w' b cs t:=(h.block b hb.lt hn).trans hb
theorem Dw {B':Nat} {e':TypeId} {f0:Nat} {a':uQ} {cs':uZ} (h:w.ownsRow B e sz (.slice a n c) n cs) (hn:n≠0) (d0:0<sz) (h':w.ownsRow B' e' f0 (.slice a' 0 0) 0 cs'):∀q,zj a=some q->zj a'=some q->False:=by
 intro q h1 h2;obtain⟨g,rfl,-,-⟩:=jF h jq;obtain rfl:g=q:=by simpa[zj] using h1
 obtain⟨c0,e1,e2⟩:=Q9 h;have hc:=(yB h).1;rcases h'.2 with ⟨h0,_⟩|⟨g',b0,a0,h0,hb,hg,h3,h4,h5,h6⟩
 ·simp only[Value.slice.injEq] at h0;rw[h0.1] at h2;cases h2
 ·simp only[Value.slice.injEq,true_and] at h0;obtain⟨rfl,rfl⟩:=h0;obtain rfl:g'=g:=by simpa[zj] using h2
  rw[e1] at hg;have e3:c0=a0:=by simpa using congrArg (λx=>match x with|some (Obj.cells c _ _)=>c|_=> #[]) hg
  rw[e3,h5,Nat.zero_mul] at e2;have:=Nat.mul_pos (show 0<c by omega) d0;omega
theorem QN {B':Nat} {n' c':Nat} {a':uQ} {cs':uZ} (h:w.ownsRow B 3 1 (.slice a n c) n cs) (h':w.ownsRow B' 3 1 (.slice a' n' c') n' cs') (hz:n'=0->c'=0) 
  (hf:∀k,yQ n (.slice a n c)=some k->yQ n' (.slice a' n' c')≠some k):∀q,zj a'=some q->yQ n (.slice a n c)=some q->False:=by
 intro q h1 h2;have hn:n≠0:=λe=>by rw[yQ,if_pos e] at h2;cases h2
 by_cases h0:n'=0
 ·subst h0;obtain rfl:=hz rfl;rw[yQ,if_neg hn,yu] at h2;exact Dw h hn jk h' q h2 h1
 ·exact hf q h2 (by rw[yQ,if_neg h0,yu];exact h1)
theorem uS {q:Nat} (h:yQ n (.slice a n c)=some q):zj a=some q:=by
 by_cases hn:n=0
 ·rw[yQ,if_pos hn] at h;cases h
 ·rw[yQ,if_neg hn,yu] at h;exact h
theorem yE.pushS {G:Nat} {v:PV} (h:yE w B G v vs p k) (f:VO v) {l:List Int} (ho:w'.ownsRow B 3 1 (.slice a n c) n (zf l)) (hg:w.grownBy w' (yQ v.ns (.slice v.s v.ns v.cs))):
  yE (w'.setCell ⟨G,0,none⟩ (.slice a n c)) B G {v with s:=a,ns:=n,cs:=c} vs {p with sems:=l} k:=by
 obtain⟨t1,t2,t3,t4,t5,t6⟩:=jY;have b1:=h.blk.grown hg (λe=>yd h.blk h.os t3 (uS e));have s1:=zk h.og hg (QN h.os h.og f.zg f.sg);have s2:=zk h.ob hg (QN h.os h.ob f.zb f.sb);have s3:=zk h.orr hg (QN h.os h.orr f.zr f.sr);have s4:=zk h.ot hg (λq h1 h2=>zx h.os h.ot t1 q (uS h2) h1);have i1:=h.inn.grown hg (λq h2=>h.inn.not_row h.os (λe=>t6 e.symm) q (uS h2));have g2:=zv w' G 0 (.slice a n c);have far:∀{e:TypeId} {sz n' c' B':Nat} {a':uQ} {xs:uZ},w'.ownsRow B' e sz (.slice a' n' c') n' xs->26≠e->∀q,zj a'=some q->some G=some q->False:=by
  intro e sz n' c' B' a' xs b0 a0 q hq e'
  cases e'
  exact yd b1 b0 a0 hq
 exact⟨by simpa using b1.set 0 (.slice a n c),zk ho g2 (far ho t3),zk s1 g2 (far s1 t3),zk s2 g2 (far s2 t3),zk s3 g2 (far s3 t3),zk s4 g2 (far s4 t4),i1.grown g2 (λq hq=>by cases hq;exact i1.not_blk b1 (λe=>t5 e.symm)),h.nd,h.lo⟩
theorem yE.pushR {G:Nat} {v:PV} (h:yE w B G v vs p k) (f:VO v) {l:List Int} (ho:w'.ownsRow B 3 1 (.slice a n c) n (zf l)) (hg:w.grownBy w' (yQ v.nr (.slice v.r v.nr v.cr))):
  yE (w'.setCell ⟨G,3,none⟩ (.slice a n c)) B G {v with r:=a,nr:=n,cr:=c} vs {p with rooms:=l} k:=by
 obtain⟨t1,t2,t3,t4,t5,t6⟩:=jY;have b1:=h.blk.grown hg (λe=>yd h.blk h.orr t3 (uS e));have s1:=zk h.og hg (QN h.orr h.og f.zg (λk e1 e2=>f.gr k e2 e1));have s2:=zk h.ob hg (QN h.orr h.ob f.zb (λk e1 e2=>f.br k e2 e1));have s3:=zk h.os hg (QN h.orr h.os f.zs (λk e1 e2=>f.sr k e2 e1));have s4:=zk h.ot hg (λq h1 h2=>zx h.orr h.ot t1 q (uS h2) h1);have i1:=h.inn.grown hg (λq h2=>h.inn.not_row h.orr (λe=>t6 e.symm) q (uS h2));have g2:=zv w' G 3 (.slice a n c);have far:∀{e:TypeId} {sz n' c' B':Nat} {a':uQ} {xs:uZ},w'.ownsRow B' e sz (.slice a' n' c') n' xs->26≠e->∀q,zj a'=some q->some G=some q->False:=by
  intro e sz n' c' B' a' xs b0 a0 q hq e'
  cases e'
  exact yd b1 b0 a0 hq
 exact⟨by simpa using b1.set 3 (.slice a n c),zk s3 g2 (far s3 t3),zk s1 g2 (far s1 t3),zk s2 g2 (far s2 t3),zk ho g2 (far ho t3),zk s4 g2 (far s4 t4),i1.grown g2 (λq hq=>by cases hq;exact i1.not_blk b1 (λe=>t5 e.symm)),h.nd,h.lo⟩
theorem yE.noThr {G:Nat} {v:PV} (h:yE w B G v vs p k) (hB:B<=w.heap.size):
  yE ((w.alloc (.cells #[] 48)).setCell ⟨G,4,none⟩ (.slice (some ⟨w.heap.size,0,none⟩) 0 0)) B G (v.thr (some ⟨w.heap.size,0,none⟩) 0 0) [] {p with threads:=[]} 0:=by
 obtain⟨t1,t2,t3,t4,t5,t6⟩:=jY;have hb:xW w (w.alloc (.cells #[] 48)):=zY;have h1:=h.below hb;have ho:=zw (yg w 48 1) hB;have g2:=zv (w.alloc (.cells #[] 48)) G 4 (.slice (some ⟨w.heap.size,0,none⟩) 0 0);have far:∀{e:TypeId} {sz n' c' B':Nat} {a':uQ} {xs:uZ},(w.alloc (.cells #[] 48)).ownsRow B' e sz (.slice a' n' c') n' xs->26≠e->∀q,zj a'=some q->some G=some q->False:=by
  intro e sz n' c' B' a' xs b0 a0 q hq e'
  cases e'
  exact yd h1.blk b0 a0 hq
 exact⟨by simpa[PV.thr] using h1.blk.set 4 (.slice (some ⟨w.heap.size,0,none⟩) 0 0),zk h1.os g2 (far h1.os t3),zk h1.og g2 (far h1.og t3),zk h1.ob g2 (far h1.ob t3),zk h1.orr g2 (far h1.orr t3),zk ho g2 (far ho t4),jU.nil _,by simp[uW],by simp[uW]⟩
theorem QX (R:Nat) (a:uQ) (n c:Nat) (bs:List Int) (pos:Int) (w:World) (h:jD w R a n c bs pos) (hp:pos<=1099511600000):
  Calls Tryz.prog 79 #[.pointer (some ⟨R,0,none⟩)] w λe w'=>∃(v:PV) (vs:uZ) (p:Pg) (b0:Int),e= .returned (.agg (zF v))/\qp w' v vs p.cells/\(∀q∈ZD v vs,w.heap.size<=q)/\Zj p 9/\jD w' R a n c bs b0/\b0<=pos+100/\w.grownBy w' (some R):=by
 have X1:=h.lt;have bR:xW w (w.alloc (.cells #[uk,uk,uk,uk,uk] 26)):=zY;have kR:zm (w.alloc (.cells #[uk,uk,uk,uk,uk] 26)) w.heap.size #[uk,uk,uk,uk,uk] 26:=zm.new _ _ _;have h0:=h.below bR;have G0:=zW bR (some R);clear bR h;go_enter Tryz.func79,Tryz.ntmps79;go_wp2_with fail;refine(qK R a n c bs pos 2 _ h0 jq jq).mono ?_;rintro e w1 ⟨x,rfl,hx,h1,g1,N1⟩;have s1:=g1.size;have p2:w.heap.size+1<=w1.heap.size:=by simpa using s1
 have C0:=kR.grown g1 (by simp;omega);have Z0:=zd (zi G0 g1);clear kR g1 G0 h0 s1 N1;by_cases S0:x=0
 ·have t0:((x:Int)==0)=true:=by rw[S0];rfl
  clear S0;go_wp2_with fail;refine(GN _).mono ?_;rintro e w2 ⟨g,l,rfl,hl,L1,i1,Z1,b2⟩;have h2:=h1.below b2;have r0:=C0.below b2;have I0:=zd (zi Z0.o (zW b2 _));have s2:=b2.size;have d1:∀j:Nat,j<8->∃y:ByteArray,w2.cell? ⟨g,j,none⟩=some (.string y)/\y.size<=4294967296:=λj hj=>by
   obtain⟨y,h1,h2⟩:=i1 j hj;exact⟨y,hl.cell j h1,h2⟩
  have r1:=zd d1;clear h1 C0 b2 hl L1 i1 d1;go_wp2_with fail;refine(pv R a n c bs _ g 8 8 _ h2 jq jq jq r1.out jq).mono ?_;rintro e w3 ⟨y,rfl,hy,h3,g3,O1⟩;have s3:=g3.size;have s0:=r0.grown g3 (by simp;omega);have J0:=zd (zi I0.o g3);clear h2 r0 g3 O1;go_wp2_with fail;refine(VX y _ hy).mono ?_;rintro e w4 ⟨v,vs,rfl,o4,f4,z4,b4⟩;have F1:=zd (h3.below b4);have s4:=b4.size;have u0:=s0.below b4;have K0:=zd (zi J0.o (zW b4 _));have bK:xW w4 (w4.alloc (.cells (zF v) 26)):=zY;have n0:zm (w4.alloc (.cells (zF v) 26)) w4.heap.size (zF v) 26:=zm.new _ _ _;have d0:=u0.alloc (.cells (zF v) 26);have e0:=n0.cell 0 rfl;have e1:=n0.cell 1 rfl;have e2:=n0.cell 2 rfl;have e3:=n0.cell 3 rfl;have e4:=n0.cell 4 rfl;have y0:=d0.cell 0 rfl;have x0:=d0.fz 0;have y1:=d0.cell 1 rfl;have x1:=d0.fz 1;have y2:=d0.cell 2 rfl;have x2:=d0.fz 2;have y3:=d0.cell 3 rfl;have x3:=d0.fz 3;have y4:=d0.cell 4 rfl;have x4:=d0.fz 4;have HO:=zd o4;have HZ:=zd z4;have HF:=zd f4;have D0:=zd bK;clear h3 s0 u0 d0 n0 b4 o4 z4 f4 bK
  have q0:(w4.alloc (.cells (zF v) 26)).grownBy (((((((w4.alloc (.cells (zF v) 26)).setCell ⟨w.heap.size,0,none⟩ (.slice v.s v.ns v.cs)).setCell ⟨w.heap.size,1,none⟩ (.slice v.g v.ng v.cg)).setCell ⟨w.heap.size,2,none⟩ (.slice v.b v.nb v.cb)).setCell ⟨w.heap.size,3,none⟩ (.slice v.r v.nr v.cr)).setCell ⟨w.heap.size,4,none⟩ (.slice v.t v.nt v.ct))) (some w.heap.size):=zi (zi (zi (zi (zv _ _ _ _) (zv _ _ _ _)) (zv _ _ _ _)) (zv _ _ _ _)) (zv _ _ _ _);have l0:=zd q0;clear q0;go_wp2;refine zM (v:= .agg (zF v)) (by simp[results,Tryz.results79,go_sem,y0,y1,y2,y3,y4]) rfl ⟨v,vs,_,pos+1+1,rfl,(HO.o.below D0.o).keep (λk hk hl=>l0.out.block k hl (λe=>by cases e;have:=HF.o _ hk;omega)),λq hq=>by have:=HF.o q hq;omega,dP y,(F1.o.below D0.o).gr l0.out (λi e=>by cases e;omega),jq,xe (zi K0.o (zW D0.o _)) l0.out (λi e=>by cases e;omega)⟩
 ·have t0:((x:Int)==0)=false:=by simp;omega
  clear S0;go_wp2_with fail;refine(YO R a n c bs (pos+1) 3 [1,2,3] w1 h1 jq rfl jq jq _ jv _ rfl).mono ?_;rintro e w2 ⟨A0,rfl,T1,h2,g2,s2⟩;have r0:=C0.grown g2 (by simp;omega);have I0:=zd (zi Z0.o g2);have b2:xW w2 (w2.alloc (.cells #[uy A0,uy 1] 3)):=zY;have o2:=qi (B:=w1.heap.size) (zm.new w2 #[uy A0,uy 1] 3) jq (sz:=1) (m:=2) rfl jk;have s0:=r0.below b2;have h3:=h2.below b2;have J0:=zd (zi I0.o (zW b2 _));clear h1 C0 g2 b2 r0 h2;go_wp2_with fail;refine(YO R a n c bs (pos+1+1) 3 [1,2,0] _ h3 jq rfl jq jq _ jv _ rfl).mono ?_;rintro e w3 ⟨A1,rfl,U1,h4,g4,s4⟩;have u0:=s0.grown g4 (by simp;omega);have K0:=zd (zi J0.o g4);have m1:=zk ((zl o2 xd)) g4 (λk e1 e2=>by cases e2;have:=zy o2 _ e1;omega);have r2:w2.heap.size+1<=w3.heap.size:=by simpa using s4
  have b3:xW w3 (w3.alloc (.cells #[uy A1] 3)):=zY;have o3:=qi (B:=w1.heap.size) (zm.new w3 #[uy A1] 3) jq (sz:=1) (m:=1) rfl jk;obtain⟨W3,z0⟩:=jy (w3.alloc (.cells #[uy A1] 3));have Q0:W3.heap.size=w3.heap.size+1:=by rw[z0];simp
  rw[<-z0] at b3 o3;have n1:=zl m1 b3;have d0:=u0.below b3;have h5:=h4.below b3;have u1:=zd (zi K0.o (zW b3 _));have b4:xW W3 (W3.alloc (.cells #[uy 2] 3)):=zY;have o4:=qi (B:=w1.heap.size) (zm.new W3 #[uy 2] 3) jq (sz:=1) (m:=1) rfl jk;have T0:=zl n1 b4;have U0:=zl o3 b4;have j1:=d0.below b4;have h6:=h5.below b4;have v1:=zd (zi u1.out (zW b4 _));clear h4 h5 s0 u0 d0 b3 b4 o2 m1 n1 o3 g4 h3;go_wp2_with fail;rw[<-z0];refine(YO R a n c bs (pos+1+1+1) 3 [1,0,2] _ h6 jq rfl jq jq _ (by simp;omega) _ rfl).mono ?_;rintro e w4 ⟨A2,rfl,V1,h7,g7,s7⟩;have t2:w3.heap.size+2<=w4.heap.size:=by have:=s7;simp at this;omega
  have k1:=j1.grown g7 (by simp;omega);have z1:=zd (zi v1.out g7);have o1:=zk T0 g7 (λk e1 e2=>by cases e2;have:=zy T0 _ e1;omega);have p1:=zk U0 g7 (λk e1 e2=>by cases e2;have:=zy U0 _ e1;omega);have V0:=zk o4 g7 (λk e1 e2=>by cases e2;have:=zy o4 _ e1;omega);clear j1 h6 g7 T0 U0 o4 z0;obtain⟨W4,m0⟩:=jy (w4.alloc (.cells #[uy A2] 3));have R0:W4.heap.size=w4.heap.size+1:=by rw[m0];simp
  have b5:xW w4 W4:=by rw[m0];exact zY
  have o5:=qi (B:=w1.heap.size) (zm.new w4 #[uy A2] 3) jq (sz:=1) (m:=1) rfl jk;rw[<-m0] at o5;obtain⟨W5,p0⟩:=jy (W4.alloc (.cells #[.slice (some ⟨w2.heap.size,0,none⟩) 2 2,.slice (some ⟨w3.heap.size,0,none⟩) 1 1,.slice (some ⟨w3.heap.size+1,0,none⟩) 1 1,.slice (some ⟨w4.heap.size,0,none⟩) 1 1,uk] 26));have b6:xW W4 W5:=by rw[p0];exact zY
  have kB:zm W5 (w4.heap.size+1) #[.slice (some ⟨w2.heap.size,0,none⟩) 2 2,.slice (some ⟨w3.heap.size,0,none⟩) 1 1,.slice (some ⟨w3.heap.size+1,0,none⟩) 1 1,.slice (some ⟨w4.heap.size,0,none⟩) 1 1,uk] 26:=by rw[p0,<-R0];exact zm.new _ _ _
  rw[Q0] at V0;have HC:uH (yE W5 w1.heap.size (w4.heap.size+1) ⟨some ⟨w2.heap.size,0,none⟩,2,2,some ⟨w3.heap.size,0,none⟩,1,1,some ⟨w3.heap.size+1,0,none⟩,1,1,some ⟨w4.heap.size,0,none⟩,1,1,none,0,0⟩ [] ⟨[A0,1],[A1],[2],[A2],[]⟩ 0):=zd (yE.four kB (zl (zl o1 b5) b6) (zl (zl p1 b5) b6) (zl (zl V0 b5) b6) (zl o5 b6));have l1:=(k1.below b5).below b6;have h8:=(h7.below b5).below b6;have B1:=zd (zi (zi z1.out (zW b5 _)) (zW b6 _));have s8:=b6.size;clear h7 k1 b5 b6 o1 p1 V0 o5 kB;go_wp2_with fail;rw[<-m0,<-p0];refine(qK R a n c bs (pos+1+1+1+1) 2 _ h8 jq jq).mono ?_;rintro e w5 ⟨z,rfl,hz,h9,g9,P1⟩;have s9:=g9.size;have I1:W5.heap.size=w4.heap.size+2:=by rw[p0,m0];simp
  have q1:=zd (HC.o.drawn g9 jq jq);have Q1:=l1.grown g9 (by simp;omega);have C1:=zd (zi B1.o g9);clear h8 l1 g9 P1 m0 p0 HC;have n2:2+z<=3:=jq;go_wp2_with fail
  go_loopw [6] (λvi wr=>∃(j:Nat) (v:PV) (vs:uZ) (p:Pg) (b0:Int),vi=uy j/\p.threads.length+j<=3/\b0<=pos+5+17*p.threads.length/\uH (yE wr w1.heap.size (w4.heap.size+1) v vs p p.threads.length)/\uH (JN p p.threads.length)/\uH (jD wr R a n c bs b0)/\uH (zm wr w.heap.size #[uk,uk,uk,uk,uk] 26)/\uH (w.grownBy wr (some R))/\w4.heap.size+2<=wr.heap.size) (λvi _=>(intOf vi).toNat)
  case atStart=>exact⟨2+z,_,_,⟨[A0,1],[A1],[2],[A2],[]⟩,pos+1+1+1+1+1,by go_num,by simp;omega,by simp;omega,q1,zd ⟨jv,jv,jv,jv,jv,jv⟩,zd h9,zd Q1,C1,by have:=I1;omega⟩
  case round=>
   obtain⟨wo,rfl⟩:=jy wr;obtain⟨j,v,vs,p,b0,rfl,a2,M1,HC,HS,HD,HR,HG,hS⟩:=hrel;by_cases hj:0<j
   ·have u2:decide ((0:Int)<(j:Int))=true:=xK jq;have bE:xW wo (wo.alloc (.cells #[] 68)):=zY;have oE:=yg wo 68 3;have t1:=zd (HD.o.below bE);have D1:=zd (zW bE (some R));clear bE;go_wp2_with fail;refine(YO R a n c bs b0 5 [2,3,1,4,0] _ t1.out jq rfl jq jq _ jv _ rfl).mono ?_;rintro e w6 ⟨Q,rfl,hQ,a1,O0,S1⟩;have Y0:wo.heap.size+1<=w6.heap.size:=(by simpa using S1);have R1:=zk oE O0 (λk e1 e2=>by cases e2;have:=zy oE _ e1;omega);have M0:=zd (zi D1.o O0);have E0:=zd a1;obtain⟨q,rfl,k2⟩:∃q:Nat,Q=(q:Int)/\q<=4:=by
     simp only[List.mem_cons,jw,or_false] at hQ;rcases hQ with rfl|rfl|rfl|rfl|rfl
     ·exact⟨2,rfl,jq⟩
     ·exact⟨3,rfl,jq⟩
     ·exact⟨1,rfl,jq⟩
     ·exact⟨4,rfl,jq⟩
     ·exact⟨0,rfl,jq⟩
    clear hQ a1 O0 oE;go_wp2_with fail
    go_loopw [7,8] (λv7 v8 wi=>∃(u:Nat) (l:List xA) (an:uQ) (cn:Nat) (k0:Int),v7= .slice an l.length cn/\v8=uy u/\l.length+u<=4/\k0<=b0+1+4*l.length/\wi.ownsRow wo.heap.size 68 3 (.slice an l.length cn) l.length (qR l)/\uH (wo.grownBy wi (some R))/\uH (jD wi R a n c bs k0)/\wo.heap.size+1<=wi.heap.size) (λ_ v8 _=>(intOf v8).toNat)
    case atStart=>exact⟨q,[],_,_,b0+1,rfl,rfl,by simp;omega,jv,R1,M0,E0,Y0⟩
    case round=>
     obtain⟨wi,rfl⟩:=jy wr;obtain⟨u,l,an,cn,k0,rfl,rfl,d2,f1,f0,o0,H0,Y1⟩:=hrel;have c0:=zd (HC.o.drawn o0.out jq jq);by_cases hu:0<u
     ·have e0:=c0.out.blk.cell 0 rfl;have e1:=c0.out.blk.cell 1 rfl;have e2:=c0.out.blk.cell 2 rfl;have e3:=c0.out.blk.cell 3 rfl;have e4:=c0.out.blk.cell 4 rfl;go_wp2_with fail;refine(Dv R a n c bs k0 v vs p _ H0.o jq (c0.out.own rfl) (λhm=>by have:=c0.out.fresh _ hm;omega) (c0.out.small HS.o jq)).mono ?_;rintro e w7 ⟨o,X0,rfl,i2,b1,j2,v0⟩;have q2:=v0.size;have i0:=zk f0 v0 (λk e1 e2=>by cases e2;have:=zy f0 _ e1;omega);have N0:=zd (zi o0.out v0);have F0:=zd b1;have J1:wo.heap.size<=w7.heap.size:=jq;have H1:uH (∀u∈opv o,u.oneCell'=true):=zd (by intro u hu;simp only[opv,List.mem_cons,jw,or_false] at hu;rcases hu with rfl|rfl|rfl<;>rfl);obtain⟨u',rfl⟩:∃u',u=u'+1:=⟨u-1,jq⟩
      clear e0 e1 e2 e3 e4 f0 b1 v0 c0 H0 o0;go_wp2_with (at_builtin;refine yF (m:=1) (cm:=1) (news:=opv o) rfl (.tmp 49) (.tmp 53) 48 rfl Tryz.underlying48 VU rfl jk rfl i0 rfl (by rw[QP]) rfl H1.o jq jk J1 ?_;intro a5 c5 w8 j0 a0;have L0:=zd i0;clear i0)
      go_roundw
      case rel=>
       have s8:=a0.size;have g0:∀k,zj an=some k->wo.heap.size<=k:=λk hk=>(zy L0.o k hk).1;refine⟨u',l++[o],a5,c5,X0,jv,by go_num,by simp;omega,by simp;omega,by simpa[qR] using j0,zd (xe N0.o a0 (λq hq=>g0 q hq)),zd (F0.o.gr a0 (λq hq=>by have:=g0 q hq;omega)),jq⟩
      case measure=>simp[intOf]
     ·obtain rfl:u=0:=jq;have e4:=c0.out.blk.cell 4 rfl;have B0:=c0.out.ot;have P0:w1.heap.size<=wi.heap.size:=jq;have HO:=zd (zw f0 (B':=0) (Nat.zero_le _));have HF:uH (∀q,zj an=some q->w1.heap.size<=q/\q∉uW vs):=zd (λq hq=>by
       have h1:=(zy f0 q hq).1;exact⟨jq,λhm=>by have h2:=HC.o.inn.lt q hm;omega⟩)
      have G1:=zd (HR.o.grown o0.out (by simp;omega));have E1:=zd (zi HG.o o0.out);have f2:v.nt<=9:=by
       have h1:=HC.o.ot.1;have h2:=HC.o.inn.len;simp only[yG,List.take_length] at h2;omega
      obtain⟨j',rfl⟩:∃j',j=j'+1:=⟨j-1,jq⟩
      clear f0;go_wp2_with (at_builtin;refine yF (news:=[.slice an l.length cn]) rfl (.tmp 56) (.tmp 58) 24 rfl Tryz.underlying24 QW rfl jk rfl B0 rfl rfl rfl (by simp[Value.oneCell']) jq jk P0 ?_;intro a6 c6 w8 j0 a0;have m2:=(c0.out.blk.grown a0 (yd c0.out.blk B0 jY.2.2.2.1)).fz 4;have l2:=(c0.out.blk.grown a0 (yd c0.out.blk B0 jY.2.2.2.1)).cell 4 rfl)
      go_roundw
      case rel=>
       have s8:=a0.size;have g0:∀k,zj v.t=some k->w1.heap.size<=k:=λk hk=>(zy B0 k hk).1;have gs:=zv w8 (w4.heap.size+1) 4 (.slice a6 (v.nt+1) c6);refine⟨j',v.thr a6 (v.nt+1) c6,vs++[.slice an l.length cn],{p with threads:=p.threads++[l]},k0,by go_num,by simp;omega,by simp;omega,zd (c0.out.more HO.o HF.o j0 a0),zd ⟨HS.o.s,HS.o.g,HS.o.b,HS.o.r,jv,λt ht=> ?_⟩,zd ((H0.o.gr a0 (λq hq=>by have:=g0 q hq;omega)).gr gs (λi e=>by cases e;omega)),zd ((G1.o.grown a0 (λe=>by have:=g0 _ e;omega)).other _ _ (by simp;omega)),zd (xe (xe E1.o a0 (λq hq=>by have:=g0 q hq;omega)) gs (λi e=>by cases e;omega)),by simp;omega⟩;rcases xM ht with ht|ht
       ·exact HS.o.i t ht
       ·obtain rfl:=yh ht;omega
      case measure=>simp[intOf]
   ·have K1:j=0:=jq;subst K1;have e0:=HC.o.blk.cell 0 rfl;have e1:=HC.o.blk.cell 1 rfl;have e2:=HC.o.blk.cell 2 rfl;have e3:=HC.o.blk.cell 3 rfl;have e4:=HC.o.blk.cell 4 rfl;have y0:=HR.o.cell 0 rfl;have x0:=HR.o.fz 0;have y1:=HR.o.cell 1 rfl;have x1:=HR.o.fz 1;have y2:=HR.o.cell 2 rfl;have x2:=HR.o.fz 2;have y3:=HR.o.cell 3 rfl;have x3:=HR.o.fz 3;have y4:=HR.o.cell 4 rfl;have x4:=HR.o.fz 4;have q0:wo.grownBy (((((wo.setCell ⟨w.heap.size,0,none⟩ (.slice v.s v.ns v.cs)).setCell ⟨w.heap.size,1,none⟩ (.slice v.g v.ng v.cg)).setCell ⟨w.heap.size,2,none⟩ (.slice v.b v.nb v.cb)).setCell ⟨w.heap.size,3,none⟩ (.slice v.r v.nr v.cr)).setCell ⟨w.heap.size,4,none⟩ (.slice v.t v.nt v.ct)) (some w.heap.size):=zi (zi (zi (zi (zv _ _ _ _) (zv _ _ _ _)) (zv _ _ _ _)) (zv _ _ _ _)) (zv _ _ _ _);have l0:=zd q0;clear q0;go_wp2;refine zM (v:= .agg (zF v)) (by simp[results,Tryz.results79,go_sem,y0,y1,y2,y3,y4]) rfl ⟨v,vs,p,b0,rfl,(HC.o.own rfl).keep (λk hk hl=>l0.out.block k hl (λe=>by cases e;have:=HC.o.fresh _ hk;omega)),λq hq=>by have:=HC.o.fresh q hq;omega,HS.o.few jq,HD.o.gr l0.out (λi e=>by cases e;omega),jq,xe HG.o l0.out (λi e=>by cases e;omega)⟩
theorem fQ (v:PV) (p:Pg) (w:World) (hr:yK w v p) (hz:xH v p):
  Calls Tryz.prog 116 #[.agg (zF v)] w λe w'=>∃(u:PV) (us:uZ),e= .returned (.agg (zF u))/\qp w' u us p.cells/\(uW us).Nodup/\(∀k∈ZD u us,w.heap.size<=k)/\VO u/\xW w w':=by
 have hs:v.ns<=maxLen/\v.ng<=maxLen/\v.nb<=maxLen/\v.nr<=maxLen:=by
  obtain⟨z1,z2,z3,z4,z5,z6⟩:=hz;unfold maxLen;omega
 have zz:uH (v.ns<=maxLen/\v.ng<=maxLen/\v.nb<=maxLen/\v.nr<=maxLen):=zd hs;have HZ:=zd hz;have z5:v.nt<=1048576:=hz.lt;have Z6:=zd hz.inn;have ls:=zd hr.ls;have lg:=zd hr.lg;have lb:=zd hr.lb;have lr:=zd hr.lr;have lt:=zd hr.lt;clear hz;have B0:xW w (w.alloc (.cells (zF v) 26)):=zY;have k0:zm (w.alloc (.cells (zF v) 26)) w.heap.size (zF v) 26:=zm.new _ _ _;have q0:(w.alloc (.cells (zF v) 26)).cell? ⟨w.heap.size,0,none⟩=some (.slice v.s v.ns v.cs):=k0.cell 0 rfl;have q1:(w.alloc (.cells (zF v) 26)).cell? ⟨w.heap.size,1,none⟩=some (.slice v.g v.ng v.cg):=k0.cell 1 rfl;have q2:(w.alloc (.cells (zF v) 26)).cell? ⟨w.heap.size,2,none⟩=some (.slice v.b v.nb v.cb):=k0.cell 2 rfl;have q3:(w.alloc (.cells (zF v) 26)).cell? ⟨w.heap.size,3,none⟩=some (.slice v.r v.nr v.cr):=k0.cell 3 rfl;have q4:(w.alloc (.cells (zF v) 26)).cell? ⟨w.heap.size,4,none⟩=some (.slice v.t v.nt v.ct):=k0.cell 4 rfl;clear k0;have zs:v.ns<=1048576:=HZ.o.ls;have zg:v.ng<=1048576:=HZ.o.lg;have zb:v.nb<=1048576:=HZ.o.lb;have zr:v.nr<=1048576:=HZ.o.lr;have Hs:uH ((zf p.sems).length=v.ns*1):=zd (by simp[ls.out]);have Hg:uH ((zf p.groups).length=v.ng*1):=zd (by simp[lg.out])
 have Hb:uH ((zf p.barriers).length=v.nb*1):=zd (by simp[lb.out]);have Hr:uH ((zf p.rooms).length=v.nr*1):=zd (by simp[lr.out]);go_enter Tryz.func116,Tryz.ntmps116;go_wp2;obtain⟨W0,L0⟩:∃W0:World,W0=(w.alloc (.cells (zF v) 26)):=⟨_,rfl⟩
 have D0:W0.heap.size=w.heap.size+1:=by rw[L0];simp
 have m1:=zd D0;clear D0;rw[<-L0] at B0 q0 q1 q2 q3 q4⊢;clear L0;obtain⟨W1,V0⟩:∃W1:World,W1=W0.alloc (.cells #[uk,uk,uk,uk,uk] 26):=⟨_,rfl⟩
 have b1:xW W0 (W0.alloc (.cells #[uk,uk,uk,uk,uk] 26)):=zY;have kR:zm (W0.alloc (.cells #[uk,uk,uk,uk,uk] 26)) (w.heap.size+1) #[uk,uk,uk,uk,uk] 26:=by rw[<-m1.out];exact zm.new _ _ _
 rw[<-V0] at b1 kR⊢;have K1:=kR.lt;clear V0;replace q0:=ze b1 q0;replace q1:=ze b1 q1;replace q2:=ze b1 q2;replace q3:=ze b1 q3;replace q4:=ze b1 q4;replace B0:=B0.trans (b1.mono B0.size);clear b1;apply dL 18 [nB,nB,nB,yQ v.ns,nB,nB,nB,yQ v.ng,nB,nB,nB,yQ v.nb,nB,nB,nB,yQ v.nr,nB,nB] [.r (Zl W1.heap.size 3 1),.k _,.k _,.r (Xi W1.heap.size 3 1 v.ns (zf p.sems)),.r (Zl W1.heap.size 3 1),.k _,.k _,.r (Xi W1.heap.size 3 1 v.ng (zf p.groups)),.r (Zl W1.heap.size 3 1),.k _,.k _,.r (Xi W1.heap.size 3 1 v.nb (zf p.barriers)),.r (Zl W1.heap.size 3 1),.k _,.k _,.r (Xi W1.heap.size 3 1 v.nr (zf p.rooms)),.r λdz uz wz=>uz=Value.agg #[(dz.getD 0 undef),(dz.getD 1 undef),(dz.getD 2 undef),(dz.getD 3 undef),uk],.r (gX W1.heap.size #[uk,uk,uk,uk,uk] 26)] ⟨Xr,Vj,Xr,Vj,Xr,Vj,Xr,Vj,(λ_ _ _ _ _ h=>h),dM,trivial⟩ ?s1 ?e1
 case s1=>
  repeat' apply And.intro
  all_goals first|trivial|(intro ρ w1 hG hfr hd;obtain⟨fc,ff⟩:=xu hfr;have f1:=hfr (.tmp 1) rfl;have q0:=ze hG q0;have q1:=ze hG q1;have q2:=ze hG q2;have q3:=ze hG q3)
  exact VB;exact yj;exact yI
  ·have d:ρ (.tmp _)=_:=hd.2.1;exact fP hG _ _ 23 rfl Tryz.underlying23 yb rfl jk hd.1 d Hs.o (hr.rs.below (B0.trans (hG.mono B0.size))) (yA p.sems) jq jk (λ_ _ h=>h)
  exact VB;exact yj;exact yI
  ·have d:ρ (.tmp _)=_:=hd.2.1;exact fP hG _ _ 23 rfl Tryz.underlying23 yb rfl jk hd.1 d Hg.o (hr.rg.below (B0.trans (hG.mono B0.size))) (yA p.groups) jq jk (λ_ _ h=>h)
  exact VB;exact yj;exact yI
  ·have d:ρ (.tmp _)=_:=hd.2.1;exact fP hG _ _ 23 rfl Tryz.underlying23 yb rfl jk hd.1 d Hb.o (hr.rb.below (B0.trans (hG.mono B0.size))) (yA p.barriers) jq jk (λ_ _ h=>h)
  exact VB;exact yj;exact yI
  ·have d:ρ (.tmp _)=_:=hd.2.1;exact fP hG _ _ 23 rfl Tryz.underlying23 yb rfl jk hd.1 d Hr.o (hr.rr.below (B0.trans (hG.mono B0.size))) (yA p.rooms) jq jk (λ_ _ h=>h)
  ·obtain⟨d0,d1,d2,d3,-⟩:=hd;obtain⟨a0,c0,d0,-,-⟩:=d0;replace d0:ρ (.tmp 8)=_:=d0;obtain⟨a1,c1,d1,-,-⟩:=d1;replace d1:ρ (.tmp 12)=_:=d1;obtain⟨a2,c2,d2,-,-⟩:=d2;replace d2:ρ (.tmp 16)=_:=d2;obtain⟨a3,c3,d3,-,-⟩:=d3;replace d3:ρ (.tmp 20)=_:=d3;refine zh (u:= .agg #[.slice a0 v.ns c0,.slice a1 v.ng c1,.slice a2 v.nb c2,.slice a3 v.nr c3,uk]) (w':=w1) (by go_simp) ⟨Below.refl _ _,?_,yn,hG⟩;show Value.agg #[.slice a0 v.ns c0,.slice a1 v.ng c1,.slice a2 v.nb c2,.slice a3 v.nr c3,uk]=Value.agg #[(ρ (.tmp 8)),(ρ (.tmp 12)),(ρ (.tmp 16)),(ρ (.tmp 20)),uk];rw[d0,d1,d2,d3]
  exact pz
 intro w2 hG;refine yv ?_;intro Q1 L1 I0 D1 S1 N1 J0 E1 j1 Z0 p0 M0 F1 C1 r0 N0 Q0 u0 G1 O0 t0;replace u0:Q0=Value.agg #[I0,J0,p0,r0,uk]:=u0;have s0:∀k,(yQ v.ns) I0=some k->(yQ v.ng) J0≠some k:=t0 3 7 jv jv jk;have g0:∀k,(yQ v.ns) I0=some k->(yQ v.nb) p0≠some k:=t0 3 11 jv jv jk;have h0:∀k,(yQ v.ns) I0=some k->(yQ v.nr) r0≠some k:=t0 3 15 jv jv jk;have j0:∀k,(yQ v.ng) J0=some k->(yQ v.nb) p0≠some k:=t0 7 11 jv jv jk;have l0:∀k,(yQ v.ng) J0=some k->(yQ v.nr) r0≠some k:=t0 7 15 jv jv jk;have b0:∀k,(yQ v.nb) p0=some k->(yQ v.nr) r0≠some k:=t0 11 15 jv jv jk;clear t0;obtain⟨a0,c0,rfl,o0,z0⟩:=D1;obtain⟨a1,c1,rfl,o1,z1⟩:=E1;obtain⟨a2,c2,rfl,o2,z2⟩:=M0;obtain⟨a3,c3,rfl,o3,z3⟩:=N0;obtain⟨G,rfl,kG,v0⟩:=O0;subst u0;have e0:=kG.cell 0 rfl;have y0:=kG.fz 0;have e1:=kG.cell 1 rfl;have y1:=kG.fz 1;have e2:=kG.cell 2 rfl;have y2:=kG.fz 2;have e3:=kG.cell 3 rfl;have y3:=kG.fz 3;have e4:=kG.cell 4 rfl;have y4:=kG.fz 4;have four:VO ⟨a0,v.ns,c0,a1,v.ng,c1,a2,v.nb,c2,a3,v.nr,c3,none,0,0⟩:=⟨s0,g0,h0,j0,l0,b0,z0,z1,z2,z3⟩
 have C0:yE (((((w2.setCell ⟨G,0,none⟩ (.slice a0 v.ns c0)).setCell ⟨G,1,none⟩ (.slice a1 v.ng c1)).setCell ⟨G,2,none⟩ (.slice a2 v.nb c2)).setCell ⟨G,3,none⟩ (.slice a3 v.nr c3)).setCell ⟨G,4,none⟩ uk) W1.heap.size G ⟨a0,v.ns,c0,a1,v.ng,c1,a2,v.nb,c2,a3,v.nr,c3,none,0,0⟩ [] p 0:=by
  obtain⟨t1,t2,t3,t4,t5,t6⟩:=jY;have g5:w2.grownBy (((((w2.setCell ⟨G,0,none⟩ (.slice a0 v.ns c0)).setCell ⟨G,1,none⟩ (.slice a1 v.ng c1)).setCell ⟨G,2,none⟩ (.slice a2 v.nb c2)).setCell ⟨G,3,none⟩ (.slice a3 v.nr c3)).setCell ⟨G,4,none⟩ uk) (some G):=zi (zi (zi (zi (zv _ _ _ _) (zv _ _ _ _)) (zv _ _ _ _)) (zv _ _ _ _)) (zv _ _ _ _);have far:∀{e:TypeId} {sz n' c' B':Nat} {a':uQ} {xs:uZ},w2.ownsRow B' e sz (.slice a' n' c') n' xs->26≠e->∀q,zj a'=some q->some G=some q->False:=by
   intro e sz n' c' B' a' xs A1 v1 q hq e'
   cases e'
   exact yd kG A1 v1 hq
  refine⟨?_,zk o0 g5 (far o0 t3),zk o1 g5 (far o1 t3),zk o2 g5 (far o2 t3),zk o3 g5 (far o3 t3),jf _ _ _ _,by simpa using jU.nil _,by simp[uW],by simp[uW]⟩;have:=((((kG.set 0 (.slice a0 v.ns c0)).set 1 (.slice a1 v.ng c1)).set 2 (.slice a2 v.nb c2)).set 3 (.slice a3 v.nr c3)).set 4 uk;simpa using this
 have BB:xW W1 (((((w2.setCell ⟨G,0,none⟩ (.slice a0 v.ns c0)).setCell ⟨G,1,none⟩ (.slice a1 v.ng c1)).setCell ⟨G,2,none⟩ (.slice a2 v.nb c2)).setCell ⟨G,3,none⟩ (.slice a3 v.nr c3)).setCell ⟨G,4,none⟩ uk):=((((hG.setCell v0 _).setCell v0 _).setCell v0 _).setCell v0 _).setCell v0 _;have R0:=zd C0;have HF:=zd four;clear C0 four s0 g0 h0 j0 l0 b0 o0 o1 o2 o3 z0 z1 z2 z3;go_wp2;obtain⟨W6,X0⟩:∃W6:World,W6=((((w2.setCell ⟨G,0,none⟩ (.slice a0 v.ns c0)).setCell ⟨G,1,none⟩ (.slice a1 v.ng c1)).setCell ⟨G,2,none⟩ (.slice a2 v.nb c2)).setCell ⟨G,3,none⟩ (.slice a3 v.nr c3)).setCell ⟨G,4,none⟩ uk:=⟨_,rfl⟩
 rw[<-X0] at R0 BB⊢;clear X0 e0 e1 e2 e3 e4 y0 y1 y2 y3 y4 kG hG
 go_loopw [4] (λi wr=>∃(j:Nat) (U:PV) (us:uZ),j<=v.nt/\i=uy j/\uH (VO U)/\uH (yE wr W1.heap.size G U us p j)/\xW W1 wr) (λi _=>v.nt-(intOf i).toNat)
 case atStart=>exact⟨0,_,_,jq,rfl,HF,R0,BB⟩
 case round=>
  obtain⟨j,U,us,hj,rfl,S0,HC,m0⟩:=hrel;have c4:=ze m0 q4;by_cases J1:j<v.nt
  ·obtain⟨b1,o1,ea,U0⟩:=(hr.below B0).thr (jQ lt.out);obtain⟨a2,x2,g1,r2⟩:=U0 j (jQ lt.out);rw[ea] at c4;obtain⟨m,hm⟩:=jy ((p.threads.getD j []).length);rw[<-hm] at g1;replace g1:=ze m0 g1;replace r2:=r2.below m0;have u1:=Z6.o j;rw[<-hm] at u1;have HM:=zd hm;have e4:wr.cell? ⟨G,4,none⟩=some (.slice U.t U.nt U.ct):=HC.o.blk.cell 4 rfl;have H0:U.nt=j:=by
    have h1:=HC.o.ot.1;have h2:=HC.o.inn.len;simp only[yG,jO] at h2;have:=lt.out;omega
   have HU:=zd H0;have B1:U.nt<=1048576:=jq;have K0:uH ((qR (p.threads.getD j [])).length=m*3):=zd (by rw[tP,hm]);clear U0 hm ea H0;go_wp2;apply xZ 10 [.k _,.k _,.r (Zl wr.heap.size 68 3),.k _,.k _,.k _,.k _,.k _,.r (Xi wr.heap.size 68 3 m (qR (p.threads.getD j []))),.r λdz uz wz=>∃gz:Nat,uz= .slice (some ⟨gz,0,none⟩) 1 1/\zm wz gz #[(dz.getD 0 undef)] 48/\wr.heap.size<=gz] ⟨Xr,Vj,(λ_ _ _ _ hb ⟨g,e,h,hs⟩=>⟨g,e,h.below hb,hs⟩),trivial⟩ ?s2 ?e2
   case s2=>
    repeat' apply And.intro
    all_goals first|trivial|(intro ρ w1 hG hfr hd;obtain⟨fc,ff⟩:=xu hfr;have f1:=hfr (.tmp 1) rfl;have f3:=hfr (.tmp 3) rfl;have f4:=hfr (.tmp 4) rfl;have e4:=ze hG e4;have c4:=ze hG c4;have g1:=ze hG g1)
    exact yj;exact yI;exact VB;exact yj;exact yI;exact yj
    ·have d0:ρ (.tmp _)=_:=hd.1;have d1:ρ (.tmp _)=_:=hd.2.1;have i0:(0:Int)<=(j:Int):=jq;have i1:(j:Int)<v.nt:=jq;exact yj
    exact yI
    ·have d:ρ (.tmp _)=_:=hd.2.1;exact ky hG _ _ 48 rfl Tryz.underlying48 VU rfl jk hd.1 d K0.o (r2.below hG) (DE _) jq jk (λ_ _ h=>h)
    ·obtain⟨d0,-⟩:=hd;obtain⟨a,c,d0,-,-⟩:=d0;replace d0:ρ (.tmp 37)=_:=d0;refine zh (u:= .slice (some ⟨w1.heap.size,0,none⟩) 1 1) (w':=w1.alloc (.cells #[.slice a m c] 48)) (by go_simp) ⟨zY,⟨_,rfl,?_,hG.size⟩,yn,hG.alloc hG.size _⟩;show zm _ _ #[(ρ (.tmp 37))] _;rw[d0];exact zm.new _ _ _
   intro w2 hG;refine yv ?_;intro R1 M1 j1 Z0 H1 P0;replace P0:∃gz:Nat,H1= .slice (some ⟨gz,0,none⟩) 1 1/\zm w2 gz #[j1] 48/\wr.heap.size<=gz:=P0;obtain⟨a3,c3,rfl,o3,z3⟩:=Z0;obtain⟨g9,rfl,k9,I1⟩:=P0;have E0:=HC.o.below hG;have p1:=ze hG e4;have y4:w2.frozen? ⟨G,4,none⟩=false:=E0.blk.fz 4;have hB:W1.heap.size<=w2.heap.size:=Nat.le_trans m0.size hG.size;have Y0:∀q,zj a3=some q->W1.heap.size<=q/\q∉uW us:=λq hq=>⟨Nat.le_trans m0.size (zy o3 q hq).1,λhm=>by have h1:=HC.o.inn.lt q hm;have h2:=(zy o3 q hq).1;omega⟩
   have k1:=zd Y0;have l1:=zd o3;have F0:=zd E0;have G0:=E0.ot;clear Y0 o3 E0;go_wp2_with (at_builtin;refine xG (news:=[.slice a3 m c3]) rfl _ _ 24 rfl Tryz.underlying24 QW rfl jk rfl G0 rfl rfl (Rd.of_blk k9) (by simp[Value.oneCell']) jq jk hB ?_;intro a4 n1 w3 A0 n0;have O1:=pR n0 p1 (yd F0.o.blk G0 jY.2.2.2.1);have P1:=(F0.o.blk.grown n0 (yd F0.o.blk G0 jY.2.2.2.1)).fz 4)
   go_roundw
   case rel=>
    refine⟨j+1,U.thr a4 (U.nt+1) n1,us++[.slice a3 m c3],jq,by go_num,zd (S0.o.thr _ _ _),zd ?_,?_⟩
    ·exact F0.o.step (jQ lt.out) (zw l1.out (Nat.zero_le _)) k1.out A0 n0
    ·exact(((m0.trans (hG.mono m0.size)).trans (zG n0 hB (λq hq=>(zy G0 q hq).1))).setCell v0 _)
   case measure=>exact uq
  ·have r1:v.nt=j:=jq;subst r1;have HO:=zd (HC.o.own lt.out.symm);have T0:=zd HC.o.fresh;have H0:U.nt=v.nt:=by
    have h1:=HC.o.ot.1;have h2:=HC.o.inn.len;simp only[yG,jO] at h2;have:=lt.out;omega
   have e0:=HC.o.blk.cell 0 rfl;have e1:=HC.o.blk.cell 1 rfl;have e2:=HC.o.blk.cell 2 rfl;have e3:=HC.o.blk.cell 3 rfl;have e4:=HC.o.blk.cell 4 rfl;have f0:=kR.below m0;have y0:=f0.cell 0 rfl;have y1:=f0.cell 1 rfl;have y2:=f0.cell 2 rfl;have y3:=f0.cell 3 rfl;have y4:=f0.cell 4 rfl;have x0:=f0.fz 0;have x1:=f0.fz 1;have x2:=f0.fz 2;have x3:=f0.fz 3;have x4:=f0.fz 4;have BE:=B0.trans (m0.mono B0.size);clear f0 H0;go_wp2;refine zM (v:= .agg (zF U)) (by simp[results,Tryz.results116,go_sem,y0,y1,y2,y3,y4]) rfl ⟨U,us,rfl,?_,HC.o.nd,λq hq=>Nat.le_trans B0.size (T0.o q hq),S0.o,?_⟩
   ·refine HO.o.touch (S:=[w.heap.size+1]) ?_ (λq hq hm=>by have:=T0.o q hq;simp at hm;omega);exact zo.set (zo.set (zo.set (zo.set (zo.set (zo.refl _ _) jv) jv) jv) jv) jv
   ·exact((((BE.setCell (Nat.le_add_right _ _) _).setCell (Nat.le_add_right _ _) _).setCell (Nat.le_add_right _ _) _).setCell (Nat.le_add_right _ _) _).setCell (Nat.le_add_right _ _) _
theorem Yt (R:Nat) (a:uQ) (n c:Nat) (bs:List Int) (pos:Int) (v:PV) (p:Pg) (k:Nat) (w:World) (h:jD w R a n c bs pos) (hp:pos<=1099511620000) (hr:yK w v p) (hk:Zj p k) (d1:k<=900):
  Calls Tryz.prog 78 #[.pointer (some ⟨R,0,none⟩),.agg (zF v)] w λe w'=>∃(v':PV) (vs':uZ) (p':Pg) (pos':Int),e= .returned (.agg (zF v'))/\qp w' v' vs' p'.cells/\(∀q∈ZD v' vs',w.heap.size<=q)/\Zj p' (k+1)/\jD w' R a n c bs pos'/\pos'<=pos+5/\w.grownBy w' (some R):=by
 have Z0:=h.lt;have hz:=hk.small' hr jq;have b0:xW w ((w.alloc (.cells (zF v) 26)).alloc (.cells #[uk,uk,uk,uk,uk] 26)):=(zY).alloc jv _;have kR:zm ((w.alloc (.cells (zF v) 26)).alloc (.cells #[uk,uk,uk,uk,uk] 26)) (w.heap.size+1) #[uk,uk,uk,uk,uk] 26:=by simpa using zm.new (w.alloc (.cells (zF v) 26)) #[uk,uk,uk,uk,uk] 26
 have h0:=h.below b0;have F0:=zd (zW b0 (some R));have S0:=hr.below b0;have HK:=zd hk;clear b0 h hr hk;go_enter Tryz.func78,Tryz.ntmps78;go_wp2_with fail;refine(fQ v p _ S0 hz).mono ?_;rintro e w1 ⟨u,us,rfl,ho,O0,hfr,h4,b1⟩;have s1:w.heap.size+2<=w1.heap.size:=by have:=b1.size;simp at this;omega
 have C0:∀q∈ZD u us,w.heap.size+2<=q:=λq hq=>by have:=hfr q hq;simp at this;omega
 have V0:=kR.below b1;have h1:=h0.below b1;have G0:=zd (zi F0.o (zW b1 _));clear S0 hz hfr kR h0;obtain⟨W1,B0⟩:=jy (w1.alloc (.cells (zF u) 26));have bW:xW w1 W1:=by rw[B0];exact zY
 have sW:W1.heap.size=w1.heap.size+1:=by rw[B0];simp
 have kG:zm W1 w1.heap.size (zF u) 26:=by rw[B0];exact zm.new _ _ _
 have E0:=zd (yE.of_own (B:=w.heap.size+2) kG (ho.below bW) C0 O0);have h2:=h1.below bW;have X0:=V0.below bW;have H0:=zd (zi G0.o (zW bW _));have H4:=zd h4;clear ho O0 C0 V0 h1 bW kG b1 h4;go_wp2_with fail;rw[<-B0];refine(qK R a n c bs pos 24 W1 h2 jq jq).mono ?_;rintro e w2 ⟨x,rfl,hx,h3,g2,Y0⟩;have s2:W1.heap.size<=w2.heap.size:=g2.size;have g0:=zd (E0.o.drawn g2 jq jq);have n0:=zd (X0.grown g2 (by simp;omega));have A0:=zd (zi H0.o g2);have v0:=zd h3;clear h2 X0 g2 Y0 B0 E0 H0 G0 F0 h3;rcases(by omega:x=0\/x=1\/x=2\/x=3\/4<=x) with k0|k0|k0|k0|f1
 ·have t0:((x:Int)==0)=true:=by rw[k0];rfl
  clear k0;have z0:=g0.out.blk.cell 0 rfl;have zA:=(g0.out.blk.alloc (.cells #[uy 0,uy 10,uy 1] 3)).cell 0 rfl;have T0:u.ns<=901:=by have:=g0.out.os.1;have:=HK.o.s;simp[zf] at*;omega
  go_wp2_with fail
  go_region_law (first|(refine Ji (news:=[uy y]) (by rfl) _ _ 23 (by rfl) Tryz.underlying23 yb rfl jk (by rfl) (i0.out.os.alloc _) H4.o.zs (by rfl) (by rfl) (Rd.of_blk (zm.new _ _ _)) (by simp[Value.oneCell']) jq jk (by simp;omega) ?_;intro a1 c1 w5 f0 d0;have HP:=zd ((i0.out.below (xd.alloc yk (.cells #[uy y] 3))).pushS (l:=p.sems++[y]) H4.o (by simpa[zf] using f0) d0);have k5:=(i0.out.blk.alloc (.cells #[uy y] 3)).grown d0 (λe=>yd i0.out.blk i0.out.os jY.2.2.1 (uS e));have z5:=k5.cell 0 rfl;have f5:=k5.fz 0;have m0:=zd d0;clear k5 f0 d0)|(go_simp;go_at_call 95;refine(QD R a n c bs (pos+1) 3 [0,10,1] _ (v0.out.below (zY).drew) jq rfl jq jq _ _ (zm.new w2 _ _) rfl jq).mono ?_;rintro e w3 ⟨y,rfl,hy,r0,g3⟩;have G3:=zi (zW ((Below.refl w2.heap.size w2).alloc yk _).drew (some R)) g3;have i0:=zd (g0.out.drawn G3 jq jq);have s3:=G3.size;have z3:=i0.out.blk.cell 0 rfl;have zB:=(i0.out.blk.alloc (.cells #[uy y] 3)).cell 0 rfl;have l0:=zd G3;clear G3))
  all_goals
   obtain⟨W9,o0⟩:=jy (w5.setCell ⟨w1.heap.size,0,none⟩ (.slice a1 (u.ns+1) c1));obtain⟨q,hq⟩:∃q:PV,q={u with s:=a1,ns:=u.ns+1,cs:=c1}:=⟨_,rfl⟩
   rw[<-o0,<-hq] at HP;rw[<-o0];have c0:∀i,yQ u.ns (.slice u.s u.ns u.cs)=some i->w.heap.size+2<=i:=λi e=>(zy i0.out.os i (uS e)).1;have ba:=(Below.refl w3.heap.size w3).alloc yk (.cells #[uy y] 3);have gs:=zv w5 w1.heap.size 0 (.slice a1 (u.ns+1) c1);rw[<-o0] at gs;have s0:=zd (((r0.below ba).gr m0.out (λi e=>by have:=c0 i e;omega)).gr gs (λi e=>by cases e;omega));have a0:=zd ((((n0.out.grown l0.out (by simp;omega)).below ba).grown m0.out (λe=>by have:=c0 _ e;omega)).grown gs (by simp;omega));have u0:=zd (xe (xe (zi (zi A0.o l0.out) (zW ba _)) m0.out (λi e=>by have:=c0 i e;omega)) gs (λi e=>by cases e;omega));clear z0 zA z3 zB z5 f5 o0 hq gs ba c0 r0 l0 m0 i0 g3;have e0:=HP.o.blk.cell 0 rfl;have e1:=HP.o.blk.cell 1 rfl;have e2:=HP.o.blk.cell 2 rfl;have e3:=HP.o.blk.cell 3 rfl;have e4:=HP.o.blk.cell 4 rfl;have y0:=a0.out.cell 0 rfl;have y1:=a0.out.cell 1 rfl;have y2:=a0.out.cell 2 rfl;have y3:=a0.out.cell 3 rfl;have y4:=a0.out.cell 4 rfl;have x0:=a0.out.fz 0;have x1:=a0.out.fz 1;have x2:=a0.out.fz 2;have x3:=a0.out.fz 3;have x4:=a0.out.fz 4
   have p0:W9.grownBy (((((W9.setCell ⟨w.heap.size+1,0,none⟩ (.slice q.s q.ns q.cs)).setCell ⟨w.heap.size+1,1,none⟩ (.slice q.g q.ng q.cg)).setCell ⟨w.heap.size+1,2,none⟩ (.slice q.b q.nb q.cb)).setCell ⟨w.heap.size+1,3,none⟩ (.slice q.r q.nr q.cr)).setCell ⟨w.heap.size+1,4,none⟩ (.slice q.t q.nt q.ct)) (some (w.heap.size+1)):=zi (zi (zi (zi (zv _ _ _ _) (zv _ _ _ _)) (zv _ _ _ _)) (zv _ _ _ _)) (zv _ _ _ _);have j0:=zd p0;clear p0;go_wp2;refine zM (v:= .agg (zF q)) (by simp[results,Tryz.results78,go_sem,y0,y1,y2,y3,y4]) rfl ⟨q,us,_,(pos+1+1),rfl,(HP.o.own rfl).keep (λk hk hl=>j0.out.block k hl (λe=>by cases e;have:=HP.o.fresh _ hk;omega)),λq hq=>by have:=HP.o.fresh q hq;omega,HK.o.addS y,s0.out.gr j0.out (λi e=>by cases e;omega),jq,xe u0.out j0.out (λi e=>by cases e;omega)⟩
 ·have t0:((x:Int)==0)=false:=by rw[k0];rfl
  have t1:((x:Int)==1)=true:=by rw[k0];rfl
  clear k0;have z0:=g0.out.blk.cell 4 rfl;have zA:=(g0.out.blk.alloc (.cells #[uy 11,uy 0,uy 2] 3)).cell 4 rfl;have I0:zm ((w2.alloc (.cells #[uy 11,uy 0,uy 2] 3)).drew) w2.heap.size #[uy 11,uy 0,uy 2] 3:=zm.new w2 _ _;have J0:jD ((w2.alloc (.cells #[uy 11,uy 0,uy 2] 3)).drew) R a n c bs (pos+1):=v0.out.below (zY).drew;have K0:uH (#[uy 11,uy 0,uy 2]=(zf [11,0,2]).toArray):=zd rfl;have N0:uH (([11,0,2]:List Int).length=3):=zd rfl;have P0:pos+1<=1099511627776:=jq;have Q0:pos+1+1<=1099511627776:=jq;have R0:pos+1+1+1<=1099511627776:=jq;have U0:w2.heap.size≠R:=jq;have T0:u.nt<=901:=by have h1:=g0.out.ot.1;have h2:=g0.out.inn.len;have:=HK.o.t;simp only[yG,List.take_length] at h2;omega
  go_wp2_with fail
  go_region_law (first|(refine KT (news:=[.slice (some ⟨w5.heap.size,0,none⟩) 1 1]) (by rfl) _ _ 24 (by rfl) Tryz.underlying24 QW rfl jk (by rfl) ((q0.out.ot.alloc _).alloc _) (by rfl) (by rfl) (Rd.of_blk (by simpa using zm.new (w5.alloc (.cells #[uy A,uy (B:Int),uy (C:Int)] 68)) #[.slice (some ⟨w5.heap.size,0,none⟩) 1 1] 48)) (by simp[Value.oneCell']) jq jk (by simp;omega) ?_;intro a1 c1 w6 f0 d0;have HO:=zd f0;have m0:=zd d0;have k6:=((q0.out.blk.alloc (.cells #[uy A,uy (B:Int),uy (C:Int)] 68)).alloc (.cells #[.slice (some ⟨w5.heap.size,0,none⟩) 1 1] 48)).grown d0 (yd q0.out.blk q0.out.ot jY.2.2.2.1);have z6:=k6.cell 4 rfl;have f6:=k6.fz 4;clear k6 f0 d0)|(go_simp;go_at_call 95;(with_reducible refine(QD R a n c bs (pos+1) 3 [11,0,2] _ J0 P0 N0.o jk jk _ _ I0 K0.o U0).mono ?_);rintro e w3 ⟨A,rfl,hA,r0,g3⟩;have G3:=zi (zW ((Below.refl w2.heap.size w2).alloc yk _).drew (some R)) g3;have i0:=zd (g0.out.drawn G3 jq jq);have s3:=G3.size;have z3:=i0.out.blk.cell 4 rfl;have l0:=zd G3;clear G3)|(go_simp;go_at_call 94;(with_reducible refine(qK R a n c bs (pos+1+1) 4 _ r0 Q0 jk).mono ?_);rintro e w4 ⟨B,rfl,hB,L0,g4,_⟩;have D0:=zd (i0.out.drawn g4 jq jq);have s4:=g4.size;have z4:=D0.o.blk.cell 4 rfl;have l0:=zd (zi l0.out g4);clear g4)|(go_simp;go_at_call 94;(with_reducible refine(qK R a n c bs (pos+1+1+1) 3 _ L0 R0 jk).mono ?_);rintro e w5 ⟨C,rfl,hC,M0,g5,_⟩;have q0:=zd (D0.o.drawn g5 jq jq);have s5:=g5.size;have z5:=q0.out.blk.cell 4 rfl;have zB:=(q0.out.blk.alloc (.cells #[uy A,uy (B:Int),uy (C:Int)] 68)).cell 4 rfl;have zC:=((q0.out.blk.alloc (.cells #[uy A,uy (B:Int),uy (C:Int)] 68)).alloc (.cells #[.slice (some ⟨w5.heap.size,0,none⟩) 1 1] 48)).cell 4 rfl;have l0:=zd (zi l0.out g5);clear g5))
  all_goals
   have ba:xW w5 ((w5.alloc (.cells #[uy A,uy (B:Int),uy (C:Int)] 68)).alloc (.cells #[.slice (some ⟨w5.heap.size,0,none⟩) 1 1] 48)):=(zY).alloc jv _;have h2:((w5.alloc (.cells #[uy A,uy (B:Int),uy (C:Int)] 68)).alloc (.cells #[.slice (some ⟨w5.heap.size,0,none⟩) 1 1] 48)).ownsRow 0 68 3 (.slice (some ⟨w5.heap.size,0,none⟩) 1 1) 1 (qR [⟨A,B,C⟩]):=qi ((zm.new w5 #[uy A,uy (B:Int),uy (C:Int)] 68).alloc _) (Nat.zero_le _) rfl jk;have HP:=zd ((q0.out.below ba).more h2 (λi hi=>by
    obtain rfl:w5.heap.size=i:=by simpa[zj] using hi
    exact⟨jq,λhm=>by have:=q0.out.inn.lt _ hm;omega⟩) HO.o m0.out)
   have gs:=zv w6 w1.heap.size 4 (.slice a1 (u.nt+1) c1);obtain⟨W9,o0⟩:=jy (w6.setCell ⟨w1.heap.size,4,none⟩ (.slice a1 (u.nt+1) c1));obtain⟨q,hq⟩:∃q:PV,q=u.thr a1 (u.nt+1) c1:=⟨_,rfl⟩
   rw[<-o0] at gs;rw[<-o0,<-hq] at HP;rw[<-o0];have c0:∀i,zj u.t=some i->w.heap.size+2<=i:=λi e=>(zy q0.out.ot i e).1;have s0:=zd (((M0.below ba).gr m0.out (λi e=>by have:=c0 i e;omega)).gr gs (λi e=>by cases e;omega));have a0:=zd ((((n0.out.grown l0.out (by simp;omega)).below ba).grown m0.out (λe=>by have:=c0 _ e;omega)).grown gs (by simp;omega));have u0:=zd (xe (xe (zi (zi A0.o l0.out) (zW ba _)) m0.out (λi e=>by have:=c0 i e;omega)) gs (λi e=>by cases e;omega));clear I0 J0 K0 N0 P0 Q0 R0 U0 z0 zA z3 z4 z5 zB zC z6 f6 o0 hq gs ba c0 r0 L0 M0 l0 m0 i0 D0 q0 g3 h2 HO;have e0:=HP.o.blk.cell 0 rfl;have e1:=HP.o.blk.cell 1 rfl;have e2:=HP.o.blk.cell 2 rfl;have e3:=HP.o.blk.cell 3 rfl;have e4:=HP.o.blk.cell 4 rfl;have y0:=a0.out.cell 0 rfl;have y1:=a0.out.cell 1 rfl;have y2:=a0.out.cell 2 rfl;have y3:=a0.out.cell 3 rfl;have y4:=a0.out.cell 4 rfl;have x0:=a0.out.fz 0;have x1:=a0.out.fz 1;have x2:=a0.out.fz 2;have x3:=a0.out.fz 3;have x4:=a0.out.fz 4
   have p0:W9.grownBy (((((W9.setCell ⟨w.heap.size+1,0,none⟩ (.slice q.s q.ns q.cs)).setCell ⟨w.heap.size+1,1,none⟩ (.slice q.g q.ng q.cg)).setCell ⟨w.heap.size+1,2,none⟩ (.slice q.b q.nb q.cb)).setCell ⟨w.heap.size+1,3,none⟩ (.slice q.r q.nr q.cr)).setCell ⟨w.heap.size+1,4,none⟩ (.slice q.t q.nt q.ct)) (some (w.heap.size+1)):=zi (zi (zi (zi (zv _ _ _ _) (zv _ _ _ _)) (zv _ _ _ _)) (zv _ _ _ _)) (zv _ _ _ _);have j0:=zd p0;clear p0;go_wp2;refine zM (v:= .agg (zF q)) (by simp[results,Tryz.results78,go_sem,y0,y1,y2,y3,y4]) rfl ⟨q,(us++[.slice (some ⟨w5.heap.size,0,none⟩) 1 1]),_,(pos+1+1+1+1),rfl,(HP.o.own rfl).keep (λk hk hl=>j0.out.block k hl (λe=>by cases e;have:=HP.o.fresh _ hk;omega)),λq hq=>by have:=HP.o.fresh q hq;omega,HK.o.addT [⟨A,B,C⟩] jv,s0.out.gr j0.out (λi e=>by cases e;omega),jq,xe u0.out j0.out (λi e=>by cases e;omega)⟩
 ·have t0:((x:Int)==0)=false:=by rw[k0];rfl
  have t1:((x:Int)==1)=false:=by rw[k0];rfl
  have t2:((x:Int)==2)=true:=by rw[k0];rfl
  clear k0;have z4:=(g0.out.blk.alloc (.cells #[] 48)).cell 4 rfl;have f4:=(g0.out.blk.alloc (.cells #[] 48)).fz 4;have HP:=zd (g0.out.noThr jq);have ba:=(Below.refl w2.heap.size w2).alloc yk (.cells #[] 48);have gs:=zv (w2.alloc (.cells #[] 48)) w1.heap.size 4 (.slice (some ⟨w2.heap.size,0,none⟩) 0 0);have s0:=zd ((v0.out.below ba).gr gs (λi e=>by cases e;omega));have a0:=zd ((n0.out.below ba).grown gs (by simp;omega));have u0:=zd (xe (zi A0.o (zW ba _)) gs (λi e=>by cases e;omega));clear gs ba;have e0:((w2.alloc (.cells #[] 48)).setCell ⟨w1.heap.size,4,none⟩ (.slice (some ⟨w2.heap.size,0,none⟩) 0 0)).cell? ⟨w1.heap.size,0,none⟩=some (.slice u.s u.ns u.cs):=HP.o.blk.cell 0 rfl;have e1:((w2.alloc (.cells #[] 48)).setCell ⟨w1.heap.size,4,none⟩ (.slice (some ⟨w2.heap.size,0,none⟩) 0 0)).cell? ⟨w1.heap.size,1,none⟩=some (.slice u.g u.ng u.cg):=HP.o.blk.cell 1 rfl;have e2:((w2.alloc (.cells #[] 48)).setCell ⟨w1.heap.size,4,none⟩ (.slice (some ⟨w2.heap.size,0,none⟩) 0 0)).cell? ⟨w1.heap.size,2,none⟩=some (.slice u.b u.nb u.cb):=HP.o.blk.cell 2 rfl
  have e3:((w2.alloc (.cells #[] 48)).setCell ⟨w1.heap.size,4,none⟩ (.slice (some ⟨w2.heap.size,0,none⟩) 0 0)).cell? ⟨w1.heap.size,3,none⟩=some (.slice u.r u.nr u.cr):=HP.o.blk.cell 3 rfl;have e4:((w2.alloc (.cells #[] 48)).setCell ⟨w1.heap.size,4,none⟩ (.slice (some ⟨w2.heap.size,0,none⟩) 0 0)).cell? ⟨w1.heap.size,4,none⟩=some (.slice (some ⟨w2.heap.size,0,none⟩) 0 0):=HP.o.blk.cell 4 rfl;have y0:=a0.out.cell 0 rfl;have y1:=a0.out.cell 1 rfl;have y2:=a0.out.cell 2 rfl;have y3:=a0.out.cell 3 rfl;have y4:=a0.out.cell 4 rfl;have x0:=a0.out.fz 0;have x1:=a0.out.fz 1;have x2:=a0.out.fz 2;have x3:=a0.out.fz 3;have x4:=a0.out.fz 4
  have p0:((w2.alloc (.cells #[] 48)).setCell ⟨w1.heap.size,4,none⟩ (.slice (some ⟨w2.heap.size,0,none⟩) 0 0)).grownBy (((((((w2.alloc (.cells #[] 48)).setCell ⟨w1.heap.size,4,none⟩ (.slice (some ⟨w2.heap.size,0,none⟩) 0 0)).setCell ⟨w.heap.size+1,0,none⟩ (.slice u.s u.ns u.cs)).setCell ⟨w.heap.size+1,1,none⟩ (.slice u.g u.ng u.cg)).setCell ⟨w.heap.size+1,2,none⟩ (.slice u.b u.nb u.cb)).setCell ⟨w.heap.size+1,3,none⟩ (.slice u.r u.nr u.cr)).setCell ⟨w.heap.size+1,4,none⟩ (.slice (some ⟨w2.heap.size,0,none⟩) 0 0)) (some (w.heap.size+1)):=zi (zi (zi (zi (zv _ _ _ _) (zv _ _ _ _)) (zv _ _ _ _)) (zv _ _ _ _)) (zv _ _ _ _);have j0:=zd p0;clear p0;go_wp2;refine zM (v:= .agg #[.slice u.s u.ns u.cs,.slice u.g u.ng u.cg,.slice u.b u.nb u.cb,.slice u.r u.nr u.cr,.slice (some ⟨w2.heap.size,0,none⟩) 0 0]) (by simp[results,Tryz.results78,go_sem,y0,y1,y2,y3,y4]) rfl ⟨u.thr (some ⟨w2.heap.size,0,none⟩) 0 0,[],_,(pos+1),rfl,(HP.o.own rfl).keep (λk hk hl=>j0.out.block k hl (λe=>by cases e;have:=HP.o.fresh _ hk;omega)),λq hq=>by have:=HP.o.fresh q hq;omega,HK.o.noT,s0.out.gr j0.out (λi e=>by cases e;omega),jq,xe u0.out j0.out (λi e=>by cases e;omega)⟩
 ·have t0:((x:Int)==3)=true:=by rw[k0];rfl
  have t1:((x:Int)==0)=false:=by rw[k0];rfl
  have t2:((x:Int)==1)=false:=by rw[k0];rfl
  have t3:((x:Int)==2)=false:=by rw[k0];rfl
  clear k0;have z0:=g0.out.blk.cell 3 rfl;have zA:=(g0.out.blk.alloc (.cells #[uy 5,uy (-1)] 3)).cell 3 rfl;have T0:u.nr<=901:=by have:=g0.out.orr.1;have:=HK.o.r;simp[zf] at*;omega
  go_wp2_with fail
  go_region_law (first|(refine Ji (news:=[uy y]) (by rfl) _ _ 23 (by rfl) Tryz.underlying23 yb rfl jk (by rfl) (i0.out.orr.alloc _) H4.o.zr (by rfl) (by rfl) (Rd.of_blk (zm.new _ _ _)) (by simp[Value.oneCell']) jq jk (by simp;omega) ?_;intro a1 c1 w5 f0 d0;have HP:=zd ((i0.out.below (xd.alloc yk (.cells #[uy y] 3))).pushR (l:=p.rooms++[y]) H4.o (by simpa[zf] using f0) d0);have k5:=(i0.out.blk.alloc (.cells #[uy y] 3)).grown d0 (λe=>yd i0.out.blk i0.out.orr jY.2.2.1 (uS e));have z5:=k5.cell 3 rfl;have f5:=k5.fz 3;have m0:=zd d0;clear k5 f0 d0)|(go_simp;go_at_call 95;refine(QD R a n c bs (pos+1) 2 [5,-1] _ (v0.out.below (zY).drew) jq rfl jq jq _ _ (zm.new w2 _ _) rfl jq).mono ?_;rintro e w3 ⟨y,rfl,hy,r0,g3⟩;have G3:=zi (zW ((Below.refl w2.heap.size w2).alloc yk _).drew (some R)) g3;have i0:=zd (g0.out.drawn G3 jq jq);have s3:=G3.size;have z3:=i0.out.blk.cell 3 rfl;have zB:=(i0.out.blk.alloc (.cells #[uy y] 3)).cell 3 rfl;have l0:=zd G3;clear G3))
  all_goals
   obtain⟨W9,o0⟩:=jy (w5.setCell ⟨w1.heap.size,3,none⟩ (.slice a1 (u.nr+1) c1));obtain⟨q,hq⟩:∃q:PV,q={u with r:=a1,nr:=u.nr+1,cr:=c1}:=⟨_,rfl⟩
   rw[<-o0,<-hq] at HP;rw[<-o0];have c0:∀i,yQ u.nr (.slice u.r u.nr u.cr)=some i->w.heap.size+2<=i:=λi e=>(zy i0.out.orr i (uS e)).1;have ba:=(Below.refl w3.heap.size w3).alloc yk (.cells #[uy y] 3);have gs:=zv w5 w1.heap.size 3 (.slice a1 (u.nr+1) c1);rw[<-o0] at gs;have s0:=zd (((r0.below ba).gr m0.out (λi e=>by have:=c0 i e;omega)).gr gs (λi e=>by cases e;omega));have a0:=zd ((((n0.out.grown l0.out (by simp;omega)).below ba).grown m0.out (λe=>by have:=c0 _ e;omega)).grown gs (by simp;omega));have u0:=zd (xe (xe (zi (zi A0.o l0.out) (zW ba _)) m0.out (λi e=>by have:=c0 i e;omega)) gs (λi e=>by cases e;omega));clear z0 zA z3 zB z5 f5 o0 hq gs ba c0 r0 l0 m0 i0 g3;have e0:=HP.o.blk.cell 0 rfl;have e1:=HP.o.blk.cell 1 rfl;have e2:=HP.o.blk.cell 2 rfl;have e3:=HP.o.blk.cell 3 rfl;have e4:=HP.o.blk.cell 4 rfl;have y0:=a0.out.cell 0 rfl;have y1:=a0.out.cell 1 rfl;have y2:=a0.out.cell 2 rfl;have y3:=a0.out.cell 3 rfl;have y4:=a0.out.cell 4 rfl;have x0:=a0.out.fz 0;have x1:=a0.out.fz 1;have x2:=a0.out.fz 2;have x3:=a0.out.fz 3;have x4:=a0.out.fz 4
   have p0:W9.grownBy (((((W9.setCell ⟨w.heap.size+1,0,none⟩ (.slice q.s q.ns q.cs)).setCell ⟨w.heap.size+1,1,none⟩ (.slice q.g q.ng q.cg)).setCell ⟨w.heap.size+1,2,none⟩ (.slice q.b q.nb q.cb)).setCell ⟨w.heap.size+1,3,none⟩ (.slice q.r q.nr q.cr)).setCell ⟨w.heap.size+1,4,none⟩ (.slice q.t q.nt q.ct)) (some (w.heap.size+1)):=zi (zi (zi (zi (zv _ _ _ _) (zv _ _ _ _)) (zv _ _ _ _)) (zv _ _ _ _)) (zv _ _ _ _);have j0:=zd p0;clear p0;go_wp2;refine zM (v:= .agg (zF q)) (by simp[results,Tryz.results78,go_sem,y0,y1,y2,y3,y4]) rfl ⟨q,us,_,(pos+1+1),rfl,(HP.o.own rfl).keep (λk hk hl=>j0.out.block k hl (λe=>by cases e;have:=HP.o.fresh _ hk;omega)),λq hq=>by have:=HP.o.fresh q hq;omega,HK.o.addR y,s0.out.gr j0.out (λi e=>by cases e;omega),jq,xe u0.out j0.out (λi e=>by cases e;omega)⟩
 ·have t0:((x:Int)==0)=false:=by simp;omega
  have t1:((x:Int)==1)=false:=by simp;omega
  have t2:((x:Int)==2)=false:=by simp;omega
  have t3:((x:Int)==3)=false:=by simp;omega
  have e0:=g0.out.blk.cell 0 rfl;have e1:=g0.out.blk.cell 1 rfl;have e2:=g0.out.blk.cell 2 rfl;have e3:=g0.out.blk.cell 3 rfl;have e4:=g0.out.blk.cell 4 rfl;have y0:=n0.out.cell 0 rfl;have y1:=n0.out.cell 1 rfl;have y2:=n0.out.cell 2 rfl;have y3:=n0.out.cell 3 rfl;have y4:=n0.out.cell 4 rfl;have x0:=n0.out.fz 0;have x1:=n0.out.fz 1;have x2:=n0.out.fz 2;have x3:=n0.out.fz 3;have x4:=n0.out.fz 4;have p0:w2.grownBy (((((w2.setCell ⟨w.heap.size+1,0,none⟩ (.slice u.s u.ns u.cs)).setCell ⟨w.heap.size+1,1,none⟩ (.slice u.g u.ng u.cg)).setCell ⟨w.heap.size+1,2,none⟩ (.slice u.b u.nb u.cb)).setCell ⟨w.heap.size+1,3,none⟩ (.slice u.r u.nr u.cr)).setCell ⟨w.heap.size+1,4,none⟩ (.slice u.t u.nt u.ct)) (some (w.heap.size+1)):=zi (zi (zi (zi (zv _ _ _ _) (zv _ _ _ _)) (zv _ _ _ _)) (zv _ _ _ _)) (zv _ _ _ _);have j0:=zd p0;clear p0;go_wp2;refine zM (v:= .agg (zF u)) (by simp[results,Tryz.results78,go_sem,y0,y1,y2,y3,y4]) rfl ⟨u,us,_,(pos+1),rfl,(g0.out.own rfl).keep (λk hk hl=>j0.out.block k hl (λe=>by cases e;have:=g0.out.fresh _ hk;omega)),λq hq=>by have:=g0.out.fresh q hq;omega,HK.o.mono jq,v0.out.gr j0.out (λi e=>by cases e;omega),jq,xe A0.o j0.out (λi e=>by cases e;omega)⟩
structure qw (w:World) (a:Option Addr) (n c:Nat) (bs:List Int):Prop where
 len:bs.length=n
 rd:Rd w a (uf bs)
 cap:n<=c
 byte:∀b∈bs,0<=b/\b<=255
 few:n<=1048576
theorem qw.below {bs:List Int} (h:qw w a n c bs) (hb:xW w w'):qw w' a n c bs:=⟨h.len,h.rd.below hb,h.cap,h.byte,h.few⟩
theorem qw.open {bs:List Int} (h:qw w a n c bs):
  Calls Tryz.prog 77 #[.slice a n c] w λe w'=>e= .returned (.pointer (some ⟨w.heap.size,0,none⟩))/\∃n' bs',jD w' w.heap.size a n' c bs' 0/\xW w w'/\w'.heap.size=w.heap.size+1:=
 fI a n c bs w h.len h.rd h.cap h.byte h.few
structure ZC (w:World) (B:Nat) (v:PV) (vs:List Value) (p:Pg) (k:Nat):Prop where
 own:qp w v vs p.cells
 lo:∀q∈ZD v vs,B<=q
 few:Zj p k
theorem ZC.below {v:PV} (h:ZC w B v vs p k) (hb:xW w w'):ZC w' B v vs p k:=⟨h.own.below hb,h.lo,h.few⟩
theorem ZC.gr {v:PV} (h:ZC w B v vs p k) (hg:w.grownBy w' (some i)) (hi:i<B):ZC w' B v vs p k:=
 ⟨h.own.keep (λk hk hl=>hg.block k hl (λe=>by cases e;have:=h.lo _ hk;omega)),h.lo,h.few⟩
theorem ZC.mono {B':Nat} {v:PV} (h:ZC w B v vs p k) (hB:B'<=B):ZC w B' v vs p k:=⟨h.own,λq hq=>by have:=h.lo q hq;omega,h.few⟩
theorem ZC.small {v:PV} (h:ZC w B v vs p k) (hk:k<=1000):xH v p:=h.few.small h.own hk
theorem KA (a:uQ) (n c:Nat) (bs:List Int) (w:World) (hC:qw w a n c bs):
  Calls Tryz.prog 44 #[.slice a n c] w λe w'=>∃(v:PV) (vs:uZ) (p:Pg),e= .returned (.agg (zF v))/\ZC w' w.heap.size v vs p 10/\xW w w':=by
 have b0:xW w (w.alloc (.cells #[uk,uk,uk,uk,uk] 26)):=zY;have k0:zm (w.alloc (.cells #[uk,uk,uk,uk,uk] 26)) w.heap.size #[uk,uk,uk,uk,uk] 26:=zm.new _ _ _;have s0:(w.alloc (.cells #[uk,uk,uk,uk,uk] 26)).heap.size=w.heap.size+1:=jv;have g0:=hC.below b0;go_enter Tryz.func44,Tryz.ntmps44;go_wp2_with fail;refine g0.open.mono ?_;rintro e w1 ⟨rfl,n',f0,r1,b1,s1⟩;have k1:=k0.below b1;have j0:=zd (b0.trans (b1.mono b0.size));rw[s0] at r1 s1;have c0:=zd s1;clear b0 k0 b1 hC g0 s1;rw[s0];clear s0;go_wp2_with fail;refine(QX (w.heap.size+1) a n' c f0 0 w1 r1 jq).mono ?_;rintro e w2 ⟨v,vs,p,a0,rfl,o2,f2,z2,r2,o0,g2⟩;have s1:=c0.out;have s2:=g2.size;have k2:=k1.grown g2 jv;have l0:=zd (j0.out.trans (zG g2 jq (λi e=>by cases e;omega)));clear r1 g2 k1;go_wp2_with fail;refine(Yt (w.heap.size+1) a n' c f0 a0 v p 9 w2 r2 jq o2.rd z2 jq).mono ?_;rintro e w3 ⟨v',i0,p',n0,rfl,o3,f3,z3,r3,p0,g3⟩;have s3:=g3.size;have q0:w.heap.size+2<=w3.heap.size:=jq;have k3:=k2.grown g3 jv;have m0:=zd (l0.out.trans (zG g3 jq (λi e=>by cases e;omega)));have HO:uH (ZC w3 (w.heap.size+1) v' i0 p' 10):=zd ⟨o3,λq hq=>by have:=f3 q hq;omega,z3⟩;clear r2 r3 g3 k2 o2 f2 z2 o3 f3 z3 c0 s1;have y0:=k3.cell 0 rfl
 have x0:=k3.fz 0;have y1:=k3.cell 1 rfl;have x1:=k3.fz 1;have y2:=k3.cell 2 rfl;have x2:=k3.fz 2;have y3:=k3.cell 3 rfl;have x3:=k3.fz 3;have y4:=k3.cell 4 rfl;have x4:=k3.fz 4;have h0:w3.grownBy ((((((w3).setCell ⟨w.heap.size,0,none⟩ (.slice v'.s v'.ns v'.cs)).setCell ⟨w.heap.size,1,none⟩ (.slice v'.g v'.ng v'.cg)).setCell ⟨w.heap.size,2,none⟩ (.slice v'.b v'.nb v'.cb)).setCell ⟨w.heap.size,3,none⟩ (.slice v'.r v'.nr v'.cr)).setCell ⟨w.heap.size,4,none⟩ (.slice v'.t v'.nt v'.ct)) (some (w.heap.size)):=zi (zi (zi (zi (zv _ _ _ _) (zv _ _ _ _)) (zv _ _ _ _)) (zv _ _ _ _)) (zv _ _ _ _);have d0:=zd h0;clear h0;go_wp2;refine zM (v:= .agg (zF v')) (by simp[results,Tryz.results44,go_sem,y0,y1,y2,y3,y4]) rfl ⟨v',i0,p',rfl,(HO.o.gr d0.out jq).mono jq,m0.out.trans (zG d0.out jq (λi e=>by cases e;omega))⟩
end Go.Proofs.YtfclolgfegdfjaaGreat
