/- Part of a proof: IStepT. -/
import Derived.Test.YtnlijgjpgdjpiaaGreatQPIFit
set_option maxRecDepth 100000
set_option maxHeartbeats 16000000
namespace Go.Proofs.YtnlijgjpgdjpiaaGreat
open Go.RowKit
theorem zjx (u:PV) (v:StV) (w:World):(Instr.build 141 #[(0,.agg (pvC u)),(1,v.val)]).run Tryz.prog w= .ok (.agg (mC u v false)) w:=run_build w 141 _ _ (by kernel_rfl)
theorem ziU (u:PV) (p:Pg) (v:StV) (L:StL) (s:StD) (t:Int) (w:World) (hp:RdP w u p) (hr:StR w v L s) (hf:Run p s) (ht:t∈zD s):
  Calls Tryz.prog 63 #[.agg (pvC u),v.val,.int .i64 t] w λe w'=>∃(v':StV) (L':StL),e= .returned (.tuple #[v'.val,.bool true])/\StO [] w.heap.size w' v' L' (zx p s t)/\NewB w.heap.size L'/\xW w w':=by
 have HS:=xH1 hr;have HP:=xH1 hp;have HR:=xH1 hf;have HF:=xH1 hf.fits;have HT:=xH1 (hf.fits.turn ht);have HZ:=xH1 hf.fits.sm;have HRD:=xH1 ht;have r8:(zD s).length<=8/\s.status.length<=8:=by
  have h1:=hf.fits.nst;have h2:=(zR hf.fits.prog).2.2.2.2.1;refine⟨?_,by omega⟩;rw[zcl];split
  ·have:=zc8 s s.status.length;omega
  ·simp
 clear hr hp hf ht;have F:=(((Fr.start w).alloc (pvC u) 40).alloc (svC v) 33).alloc zC 33;simp only[xDe] at F;have cs:=F.c9 1 rfl;have cp:=F.c5 2 rfl;go_enter Tryz.func63,Tryz.ntmps63;go_wp2_with fail;refine(zej u p v L s _ (HP.out.below F.bel) (HS.out.below F.bel) HF.out).mono ?_;rintro e w1 ⟨rfl,hb⟩;replace F:=F.call hb;replace cs:=F.c9 1 rfl;replace cp:=F.c5 2 rfl;clear hb;clear cp;go_wp2_with fail;refine(zed v L s _ (HS.out.below F.bel) r8.2).mono ?_;rintro e w1 ⟨a1,c1,rfl,ho,hb⟩;have F2:=F.row hb ho;clear hb ho F cs;go_wp2_with fail;refine(zaP a1 _ c1 (zD s) t _ rfl (by have:=r8.1;unfold maxLen;omega) (F2.rdRow 0 rfl)).mono ?_;rintro e wz ⟨rfl,hw⟩;obtain rfl:=hw;rw[ziv HRD.out];replace F:=F2.sub (.cons _ (.refl _));clear F2 r8;go_upto_region 3 with fail;obtain⟨u1,hu,F0⟩:=F.named;rw[<-hu];clear hu F;have F:=F0;clear F0;go_wp2_with fail
 apply zbc 5 [.k _,.k _,.r λdz uz wz=>∃(v':StV) (L':StL),uz=v'.val/\StO [] u1.heap.size wz v' L' s/\NewB u1.heap.size L',.r λdz uz wz=>∃(v':StV) (L':StL),uz= .agg (mC u v' false)/\StO [] u1.heap.size wz v' L' s/\NewB u1.heap.size L',.r λdz uz wz=>∃(M:Nat) (v':StV) (L':StL),uz= .pointer (some ⟨M,0,none⟩)/\Sf w wz (.blk M (mC u v' false) 141::sb3 w u v zC) v' L' s] ⟨λ_ _ _ _ hb ⟨v',L',e,h,hn⟩=>⟨v',L',e,h.below hb,hn⟩,λ_ _ _ _ hb ⟨v',L',e,h,hn⟩=>⟨v',L',e,h.below hb,hn⟩,λ_ _ _ _ hb ⟨M,v',L',e,h⟩=>⟨M,v',L',e,h.call hb⟩,trivial⟩ ?s1 ?e1
 case s1=>
  repeat' apply And.intro
  all_goals first|trivial|(intro ρ w1 hG hfr hd;obtain⟨fc,ff⟩:=fcff hfr;have f3:=hfr (.tmp 3) rfl;have f4:=hfr (.tmp 4) rfl;have F1:=F.call hG;have cs:=F1.c9 1 rfl;have cp:=F1.c5 2 rfl;clear F1)
  exact rk0;exact rk0
  ·obtain⟨d0,-⟩:=hd;have d0:ρ (.tmp 59)=_:=d0;refine zac (by go_simp;exact⟨⟨rfl,rfl⟩,rfl⟩) ?_;refine(zdk v L s _ ((HS.out.below F.bel).below hG) HZ.out).mono ?_;rintro e w2 ⟨v',L',rfl,ho,hn,hb⟩;exact⟨_,rfl,hb,⟨v',L',rfl,ho.lower hG.size,NewB.lower hn hG.size⟩,xN1,hG.trans (hb.mono hG.size)⟩
  ·obtain⟨d0,d1,-⟩:=hd;have d0:ρ (.tmp 58)=_:=d0;have d1:∃(v':StV) (L':StL),(ρ (.tmp 60))=v'.val/\StO [] u1.heap.size w1 v' L' s/\NewB u1.heap.size L':=d1;obtain⟨v',L',d1,ho,hn⟩:=d1;have hbd:=zjx u v' w1;exact gvF hG (by go_simp) ⟨v',L',rfl,ho,hn⟩ xN1
  ·obtain⟨d0,-⟩:=hd;have d0:∃(v':StV) (L':StL),(ρ (.tmp 61))= .agg (mC u v' false)/\StO [] u1.heap.size w1 v' L' s/\NewB u1.heap.size L':=d0;obtain⟨v',L',d0,ho,hn⟩:=d0;have h9:=(Sf.gain F ho hn hG).alloc (mC u v' false) 141;refine zh (u:= .pointer (some ⟨w1.heap.size,0,none⟩)) (w':=w1.alloc (.cells (mC u v' false) 141)) (by go_simp) ⟨xA1,⟨_,v',L',rfl,h9⟩,xN1,hG.alloc hG.size _⟩
 intro w2 hG;refine zao ?_;intro xv2 hv2 xv3 hv3 xv4 hv4;obtain⟨M,v',L',rfl,h⟩:=hv4;clear hv2 hv3 F hG;have hrg:=HT.out.rg;have hlt:=HT.out.lt;have hge:=HT.out.ge;obtain⟨j,rfl⟩:∃j:Nat,t=(j:Int):=⟨t.toNat,by omega⟩
 have hj:j<p.threads.length:=by omega
 rw[show((j:Int)).toNat=j from rfl] at hlt hge;rw[zbj] at hlt;obtain⟨bt,ot,et,hth4⟩:=HP.out.thr (by omega);obtain⟨a2,c2,ct,r2⟩:=hth4 j hj;obtain⟨bp,op,ep,gp⟩:=HS.out.pl.rd.int (by rw[HF.out.np];omega);replace gp:=gp j (by rw[HF.out.np];exact hj);obtain⟨i,hi⟩:∃i:Nat,s.places.getD j 0=(i:Int):=⟨(s.places.getD j 0).toNat,by omega⟩
 rw[hi] at gp hlt;obtain⟨m,hm⟩:∃m,m=(p.threads.getD j []).length:=⟨_,rfl⟩
 rw[<-hm] at hlt ct;have him:i<m:=by omega
 obtain⟨b2,o2,rfl,g'⟩:=r2.op (by omega);obtain⟨g0,g1,g2⟩:=g' i (by omega);have hop:(p.threads.getD j []).getD i noOp=opAt p s j:=by unfold opAt zbY;rw[show((j:Int)).toNat=j from rfl,hi];rfl
 rw[hop] at g0 g1 g2;have hopv:=HF.out.opv HT.out;obtain⟨⟨kd,on,ar⟩,ho⟩:∃o,o=opAt p s j:=⟨_,rfl⟩
 rw[<-ho] at g0 g1 g2 hopv;have HO:=xH1 ho;have HOV:=xH1 hopv;dsimp only at g0 g1 g2;replace ct:=zd h.fr.bel ct;replace gp:=zd h.fr.bel gp;replace g0:=zd h.fr.bel g0;replace g1:=zd h.fr.bel g1;replace g2:=zd h.fr.bel g2;have k0:(0:Int)<=(j:Int):=by omega
 have k1:(j:Int)<(u.nt:Int):=by rw[<-HP.out.lt];omega
 have k2:(j:Int)<(v.pl.n:Int):=by rw[HS.out.pl.len,HF.out.np];omega
 have k3:(j:Int)<(v.st.n:Int):=by rw[HS.out.st.len,HF.out.nst];omega
 have k4:(i:Int)<(m:Int):=by omega
 have k5:(0:Int)<=(i:Int):=by omega
 have m8:m<=8:=by rw[hm];exact(zR HF.out.prog).2.2.2.2.2 j
 have ET:=xH1 et;have EP:=xH1 ep;clear hrg hge hlt hth4 r2 g' hop ho hopv et ep hi hm hj;obtain⟨u2,rfl⟩:∃x,x=w2:=⟨_,rfl⟩
 go_wp2_with fail;apply zbc 13 [.k _,.k _,.k _,.k _,.k _,.k _,.k _,.k _,.k _,.k _,.k _,.k _,.r λdz uz wz=>∃gz:Nat,uz= .pointer (some ⟨gz,0,none⟩)/\Blk wz gz #[.int .i64 0,.int .i64 0,.int .i64 0] 113/\u2.heap.size<=gz] ⟨λ_ _ _ _ hb ⟨g,e,h,hs⟩=>⟨g,e,h.below hb,hs⟩,trivial⟩ ?s2 ?e2
 case s2=>
  repeat' apply And.intro
  all_goals first|trivial|(intro ρ w1 hG hfr hd;obtain⟨fc,ff⟩:=fcff hfr;have f3:=hfr (.tmp 3) rfl;have f2:=hfr (.tmp 2) rfl;have f4:=hfr (.tmp 4) rfl;have F1:=h.fr.call hG;have cs:=F1.c9 2 rfl;have cp:=F1.c5 3 rfl;have ct:=(λ_=>zd hG ct) F1;have gp:=(λ_=>zd hG gp) F1;have g0:=(λ_=>zd hG g0) F1;have g1:=(λ_=>zd hG g1) F1;have g2:=(λ_=>zd hG g2) F1;clear F1)
  exact rk0;exact rk1;exact rk0
  ·have d:ρ (.tmp _)=_:=hd.1;have d':ρ (.tmp _)=_:=hd.2.1;rw[ET.out] at d;exact rk0
  exact rk1;exact rk0;exact rk1;exact rk0
  ·have d:ρ (.tmp _)=_:=hd.1;have d':ρ (.tmp _)=_:=hd.2.1;rw[EP.out] at d;exact rk0
  exact rk1;exact rk2;exact rk1
  ·refine zh (u:= .pointer (some ⟨w1.heap.size,0,none⟩)) (w':=w1.alloc (.cells #[.int .i64 0,.int .i64 0,.int .i64 0] 113)) (by go_simp) ⟨xA1,⟨_,rfl,Blk.new _ _ _,hG.size⟩,xN1,hG.alloc hG.size _⟩
 intro w2 hG;refine zao ?_;intro xv12 hv12;obtain⟨bo,rfl,kO,hbo⟩:=hv12;replace h:=h.more hG (i:= .blk bo #[.int .i64 0,.int .i64 0,.int .i64 0] 113) ⟨hbo,kO⟩;have co:=h.c3 0 rfl;have h2:=h.set3 0 rfl (.int .i64 kd) (.int .i64 on) (.int .i64 ar);clear ct gp g0 g1 g2 hG kO hbo;go_upto_region 5 with fail;obtain⟨W,hw,h3⟩:=h2.named;rw[<-hw];clear hw h2 h co;have hmf:∀(fn:Fn) (first cap:Array Value) (w:World),(Instr.makeFunc fn first cap).run Tryz.prog w= .ok (.func fn first cap) w:=λ_ _ _ _=>rfl;have co:=h3.c3 0 rfl;go_upto_region 7 with fail;clear co;have hk:=zg1 HOV.out;have h:Sf w W (.blk M (mC u v' false) 141:: .blk bo #[.int .i64 kd,.int .i64 on,.int .i64 ar] 113::sb3 w u v zC) v' L' s:=h3.pull 1 rfl;clear h3;have P8:Hid (0<s.places.length/\s.places.length<=8/\s.places.length=s.status.length):=xH1 (by have h1:=HF.out.np;have h2:=HF.out.nst;have:=(zR HF.out.prog).2.2.2.2.1;omega);have PL8:Hid (∀i,0<=s.places.getD i 0/\s.places.getD i 0<=8):=xH1 (λi=>HF.out.place_le i);have TT:Hid (0<=(j:Int)/\(j:Int)<p.threads.length/\(j:Int)<s.places.length):=xH1 (by have h1:=HF.out.np;have h2:=HP.out.lt;omega);have HST:Hid (Run p (zx p s j)):=xH1 (HR.out.step HT.out)
 have HVS:=xH1 (zbK HF.out.prog HP.out);dsimp only at hk;have T6:Hid (0<=(j:Int)/\(j:Int)<6):=xH1 (by have:=TT.out;have:=(zR HF.out.prog).2.2.2.2.1;omega);have NOT:Hid ((j:Int)∉oT s\/kd=4):=xH1 (by
  rcases HT.out.st with ⟨-,h1⟩|⟨-,h1,-⟩
  ·exact .inl h1
  ·rw[<-HO.out] at h1;exact .inr h1)
 have hkk:kd=1\/kd=2\/kd=3\/kd=4\/kd=5\/kd=6\/kd=7\/kd=8\/kd=9\/kd=10:=by omega
 clear hk;rcases hkk with rfl|rfl|rfl|rfl|rfl|rfl|rfl|rfl|rfl|rfl
 focus
  have HE:Hid (zx p s j=goAll p (sayIt s ar) [(j:Int)]):=xH1 (by unfold zx;rw[<-HO.out];rfl);have hsl:s.said.length<64:=by have h1:=HR.out.said;have h2:=HF.out.sum32;omega
  go_upto_region 8 with fail;have co:=h.fr.c3 1 rfl;go_wp2_with fail;refine(ze2 w _ _ M u v' L' s false ar h hsl).mono ?_;rintro e Wa ⟨rfl,r,h1⟩;clear h hsl co;have h2:=h1.alloc #[.int .i64 j] 3;have hw:SlR (StV.blks {v' with sa:=r}) (World.alloc Wa (.cells #[.int .i64 j] 3)) ⟨some ⟨Wa.heap.size,0,none⟩,1,1⟩ (ints [(j:Int)]) [(j:Int)].length:=⟨rfl,Rd.of_blk (h2.fr.blk 0 rfl),.inr (λb hb hm=>by have h9:=(h1.st.from b hm).2;simp only[ze,xDn] at hb;omega),Nat.le_refl _⟩
  go_wp2_with fail;refine(zaD w _ _ M u p {v' with sa:=r} L' (sayIt s ar) false _ 1 1 [(j:Int)] (h2.pull 1 rfl) HP.out HVS.out hw (by simp) P8.out (λz hz'=>by obtain rfl:=xS1 hz';exact TT.out) PL8.out).mono ?_;rintro e Wb ⟨rfl,h3,-⟩;clear h2 hw h1;have h:=h3.sub (l':= .blk M (mC u {v' with sa:=r} false) 141:: .blk bo #[.int .i64 1,.int .i64 on,.int .i64 ar] 113::sb3 w u v zC) (.cons_cons _ (.cons _ (.refl _)));clear h3;obtain⟨vv,hvv⟩:∃x,x={v' with sa:=r}:=⟨_,rfl⟩
  rw[<-hvv] at h;clear hvv
 rotate_left
 focus
  obtain⟨on0,on1⟩:=za7 HOV.out;rw[show zw p (2:Int)=p.sems.length by unfold zw;rw[if_neg (by omega),if_pos (.inl rfl)]] at on1;dsimp only at on0 on1;obtain⟨i2,rfl⟩:∃z:Nat,on=z:=⟨on.toNat,by omega⟩
  have hi:i2<s.sems.length:=by rw[HF.out.nse];omega
  have HI:=xH1 hi;obtain⟨x,q,b1,o1,HX,ea,g0,g1,g2,Q0,QL0,QC0⟩:=HS.out.at_se (j:=i2) hi;have HOK:=xH1 (HF.out.se i2 hi);rw[<-HX.out] at HOK;have j0:(0:Int)<=(i2:Int):=by omega
  have j1:(i2:Int)<(v.se.n:Int):=by rw[HS.out.se.len];omega
  have EA:=xH1 ea;replace g0:=zd h.fr.bel g0;replace g1:=zd h.fr.bel g1;replace g2:=zd h.fr.bel g2;clear hi ea on0 on1;have hperm:=zd7 HOV.out (.inl rfl);dsimp only at hperm;rw[show((i2:Nat):Int).toNat=i2 from rfl,<-HOK.out.2] at hperm;have HPM:=xH1 hperm;have hno:(j:Int)∉oT s:=NOT.out.resolve_right (by decide);have HNW:Hid ((j:Int)∉x.queue.map (·.1)):=xH1 (λhm=>by
   obtain⟨z,hz,e⟩:=xDl.1 hm;exact HT.out.ne (xDl.2 ⟨(z.1,2,((i2:Nat):Int),z.2),zdB HI.out (by rw[<-HX.out];exact xDl.2 ⟨z,hz,rfl⟩),e⟩))
  have HE:Hid (zx p s j=zaN p (setSem s i2 (zaH x j ar).1) j (zaH x j ar).2):=xH1 (by
   unfold zx;rw[<-HO.out,HX.out];rfl)
  obtain⟨YB,hYB⟩:∃Y,Y=zaH x j ar:=⟨_,rfl⟩
  have HYB:=xH1 hYB;rw[<-hYB] at HE;obtain⟨Y,bb⟩:=YB;clear hno hperm hYB;go_upto_region 11 with fail;go_wp2_with fail;obtain⟨u3,rfl⟩:∃x,x=W:=⟨_,rfl⟩
  apply zdc 17 9 3 1 3 74 (λu w=>∃(r:SlV),u= .tuple #[.agg #[.int .i64 Y.free,.int .i64 Y.limit,.slice r.a r.n r.c],.bool bb,.bool true]/\SlN u3 w r (zt Y.queue) Y.queue.length) [.k _,.k _,.k _,.k _,.k _,.k _,.k _,.k _,.k _] (λ_ _ _ hb ⟨r,e,m0⟩=>⟨r,e,m0.below hb⟩) (λ_ _ _ hT ⟨r,e,m0⟩=>⟨r,e,m0.ts hT (by decide)⟩) (λ_ _ ⟨_,e,_⟩=>⟨_,e,rfl⟩) (λ_ _ ⟨_,e,_⟩=>⟨_,congrArg (λz=>zK z 0) e,rfl,rfl⟩) ?s3 ?e3
  case s3=>
   intro hM1 hM2
   repeat' apply And.intro
   all_goals first|trivial|(intro ρ w1 L hG hny hfr hd;obtain⟨fc,ff⟩:=fcff hfr;have f4:=hfr (.tmp 4) rfl;have f9:=hfr (.tmp 9) rfl;have f2:=hfr (.tmp 2) rfl;have F1:=h.fr.call hG;have cs:=F1.c9 3 rfl;have co:=F1.c3 1 rfl;have g0:=(λ_=>zd hG g0) F1;have g1:=(λ_=>zd hG g1) F1;have g2:=(λ_=>zd hG g2) F1;clear F1)
   exact rt0;exact rt1;exact rt0;exact rt1
   ·have d:ρ (.tmp _)=_:=hd.1;have d':ρ (.tmp _)=_:=hd.2.1;rw[EA.out] at d;exact rt0
   exact rt1;exact rt0;exact rt0;exact rt1
   ·obtain⟨d0,d1,d2,-⟩:=hd;have d0:ρ (.tmp 96)=_:=d0;have d1:ρ (.tmp 97)=_:=d1;have d2:ρ (.tmp 99)=_:=d2;refine gtC hG (by go_simp) (zgS x q.a q.n q.c j ar w1 QL0.out.symm ((h.fr.call hG).rd Q0.out) HOK.out.1 T6.out HPM.out HNW.out) ?_;rintro e w2 ⟨y,r,hy,rfl,hr,hb⟩;obtain rfl:y=Y:=by rw[hy,<-HYB.out]
    have hbb:(zaH x j ar).2=bb:=(by rw[<-HYB.out]);rw[hbb];exact⟨_,rfl,hb,⟨r,rfl,hr.mono hG.size⟩⟩
   exact rtM;exact rtX;exact rtX;exact rtX;exact rtL;exact rtS;exact rtG
  intro w2 hG;refine zcH ?_;intro u0 hu0 u1 hu1 e0 he0 e1 he1 e2 he2 al hal so hso as0 has0;obtain rfl:u1=u0:=hu1.1;obtain rfl:e0=zK u1 0:=he0.1;obtain rfl:e1=zK u1 1:=he1.1;obtain rfl:e2=zK u1 2:=he2.1;obtain rfl:as0=zK u1 1:=has0;have kN:∃g,al= .pointer (some ⟨g,0,none⟩)/\Blk w2 g (aggC (zK u1 0)) 74:=hso;obtain⟨gA1,dA1,rfl,-,-,hgA1⟩:=hal;obtain⟨gA,eA,kN⟩:=kN;obtain rfl:gA1=gA:=by simpa using eA
  clear hu1 he0 he1 he2 hso eA;obtain⟨r,rfl,hm0⟩:=hu0;replace kN:Blk w2 gA1 #[.int .i64 Y.free,.int .i64 Y.limit,.slice r.a r.n r.c] 74:=kN;simp only[zbv,List.getD_cons_zero,List.getD_cons_succ];replace hm0:=hm0;have hq:semR (zv (.blk M (mC u v' false) 141:: .blk bo #[.int .i64 2,.int .i64 (i2:Int),.int .i64 ar] 113::sb3 w u v zC)++v'.blks) w2 Y r:=h.apart hm0;replace h:=h.call hG;clear g0 g1 g2 hG hm0;obtain⟨gt,eg,hgm,j2,j2',h6,hP,fz0,⟨y0,cg0⟩,fz1,⟨y1,cg1⟩,fz2,⟨y2,cg2⟩⟩:=h.putf_se HI.out (x:=Y) (q:=r) hq;have EG:=xH1 eg;clear hgm hP;have qm:World.cell? _ ⟨M,7,none⟩=some (.slice v'.se.a v'.se.n v'.se.c):=h.fr.cell 0 7 rfl rfl;rw[EG.out] at qm;have co:=h.fr.c3 1 rfl;have n0:=kN.cell 0 rfl;have n1:=kN.cell 1 rfl;have n2:=kN.cell 2 rfl;clear eg;go_wp2;go_still_tail 9,(by kernel_rfl)
  go_upto_region 13 with fail;obtain⟨W3,hw,h7⟩:=h6.drew.named;rw[<-hw];clear h6 h hw kN co qm hq n0 fz0 cg0 n1 fz1 cg1 n2 fz2 cg2;replace HE:Hid (zx p s j=zaN p {s with sems:=s.sems.set i2 Y} j bb):=xH1 HE.out;go_wp2_with fail;refine(zbC w _ _ M u p v' _ _ false j bb h7 HP.out HVS.out P8.out TT.out PL8.out).mono ?_;rintro e Wb ⟨rfl,h⟩;clear h7;obtain⟨vv,hvv⟩:∃x,x=v':=⟨_,rfl⟩
  rw[<-hvv] at h;clear hvv
 rotate_left
 focus
  obtain⟨on0,on1⟩:=za7 HOV.out;rw[show zw p (3:Int)=p.sems.length by unfold zw;rw[if_neg (by omega),if_pos (.inr rfl)]] at on1;dsimp only at on0 on1;obtain⟨i2,rfl⟩:∃z:Nat,on=z:=⟨on.toNat,by omega⟩
  have hi:i2<s.sems.length:=by rw[HF.out.nse];omega
  have HI:=xH1 hi;obtain⟨x,q,b1,o1,HX,ea,g0,g1,g2,Q0,QL0,QC0⟩:=HS.out.at_se (j:=i2) hi;have HOK:=xH1 (HF.out.se i2 hi);rw[<-HX.out] at HOK;have j0:(0:Int)<=(i2:Int):=by omega
  have j1:(i2:Int)<(v.se.n:Int):=by rw[HS.out.se.len];omega
  have EA:=xH1 ea;replace g0:=zd h.fr.bel g0;replace g1:=zd h.fr.bel g1;replace g2:=zd h.fr.bel g2;clear hi ea on0 on1;have hperm:=zd7 HOV.out (.inr rfl);dsimp only at hperm;rw[show((i2:Nat):Int).toNat=i2 from rfl,<-HOK.out.2] at hperm;have HPM:Hid (1<=ar/\ar<=9):=xH1 (by have:=HOK.out.1.1;omega);obtain⟨bb,hbb⟩:∃b,b=(zbd x ar).isSome:=⟨_,rfl⟩
  have HBB:=xH1 hbb;clear hperm hbb;go_upto_region 15 with fail;go_wp2_with fail;obtain⟨u3,rfl⟩:∃x,x=W:=⟨_,rfl⟩
  apply zdc 16 8 3 1 3 74 (λu w=>∃(y:SemD) (r z:SlV) (l:List Int),u= .tuple #[.agg #[.int .i64 y.free,.int .i64 y.limit,.slice r.a r.n r.c],.slice z.a z.n z.c,.bool bb]/\SlN u3 w r (zt y.queue) y.queue.length/\w.ownsRow u3.heap.size 3 1 (.slice z.a z.n z.c) z.n (ints l)/\zbd x ar=(if bb=true then some (y,l) else none)) [.k _,.k _,.k _,.k _,.k _,.k _,.k _,.k _] (λ_ _ _ hb ⟨y,r,z,l,e,m0,m1,m2⟩=>⟨y,r,z,l,e,m0.below hb,zf m1 hb,m2⟩) (λ_ _ _ hT ⟨y,r,z,l,e,m0,m1,m2⟩=>⟨y,r,z,l,e,m0.ts hT (by decide),zdv m1 hT (by decide),m2⟩) (λ_ _ ⟨_,_,_,_,e,_⟩=>⟨_,e,rfl⟩) (λ_ _ ⟨_,_,_,_,e,_⟩=>⟨_,congrArg (λz=>zK z 0) e,rfl,rfl⟩) ?s4 ?e4
  case s4=>
   intro hM1 hM2
   repeat' apply And.intro
   all_goals first|trivial|(intro ρ w1 L hG hny hfr hd;obtain⟨fc,ff⟩:=fcff hfr;have f4:=hfr (.tmp 4) rfl;have f9:=hfr (.tmp 9) rfl;have F1:=h.fr.call hG;have cs:=F1.c9 3 rfl;have co:=F1.c3 1 rfl;have g0:=(λ_=>zd hG g0) F1;have g1:=(λ_=>zd hG g1) F1;have g2:=(λ_=>zd hG g2) F1;clear F1)
   exact rt0;exact rt1;exact rt0;exact rt1
   ·have d:ρ (.tmp _)=_:=hd.1;have d':ρ (.tmp _)=_:=hd.2.1;rw[EA.out] at d;exact rt0
   exact rt1;exact rt0;exact rt1
   ·obtain⟨d0,d1,-⟩:=hd;have d0:ρ (.tmp 125)=_:=d0;have d1:ρ (.tmp 127)=_:=d1;refine gtC hG (by go_simp) (zgU x q.a q.n q.c ar w1 QL0.out.symm ((h.fr.call hG).rd Q0.out) HOK.out.1 HPM.out) ?_;rintro e w2 ⟨y,r,z,l,b,hy,rfl,hr,hz,-,hb⟩;obtain rfl:b=bb:=by rw[HBB.out,hy];cases b<;>rfl
    exact⟨_,rfl,hb,⟨y,r,z,l,rfl,hr.mono hG.size,zl hz hG.size,hy⟩⟩
   exact rtM;exact rtX;exact rtX;exact rtX;exact rtL;exact rtS;exact rtG
  intro w2 hG;refine zcH ?_;intro u0 hu0 u1 hu1 e0 he0 e1 he1 e2 he2 al hal so hso as0 has0;obtain rfl:u1=u0:=hu1.1;obtain rfl:e0=zK u1 0:=he0.1;obtain rfl:e1=zK u1 1:=he1.1;obtain rfl:e2=zK u1 2:=he2.1;obtain rfl:as0=zK u1 1:=has0;have kN:∃g,al= .pointer (some ⟨g,0,none⟩)/\Blk w2 g (aggC (zK u1 0)) 74:=hso;obtain⟨gA1,dA1,rfl,-,-,hgA1⟩:=hal;obtain⟨gA,eA,kN⟩:=kN;obtain rfl:gA1=gA:=by simpa using eA
  clear hu1 he0 he1 he2 hso eA;obtain⟨y,r,z,l,rfl,hm0,hm1,hm2⟩:=hu0;replace kN:Blk w2 gA1 #[.int .i64 y.free,.int .i64 y.limit,.slice r.a r.n r.c] 74:=kN;simp only[zbv,List.getD_cons_zero,List.getD_cons_succ];have hu:SlR v'.blks w2 z (ints l) l.length:=zdG h hm1;have hq:semR (zv (.blk M (mC u v' false) 141:: .blk bo #[.int .i64 3,.int .i64 (i2:Int),.int .i64 ar] 113::sb3 w u v zC)++v'.blks) w2 y r:=h.apart hm0;replace h:=h.call hG;clear g0 g1 g2 hG hm0 hm1
  cases bb
  ·clear hu hq kN;rw[if_neg (by decide)] at hm2;have HE:Hid (zx p s j=zaW s 1):=xH1 (by
    unfold zx;rw[<-HO.out];show doRel p s j ⟨3,((i2:Nat):Int),ar⟩=_;unfold doRel;dsimp only;rw[show((i2:Nat):Int).toNat=i2 from rfl,<-HX.out,hm2])
   go_wp2_with fail;refine(zdn (w.heap.size+1) 1 v L s _ (h.fr.blk 3 rfl) (HS.out.below h.bel) HF.out.sm).mono ?_;rintro e Wc ⟨v2,L2,rfl,ho,hn,hb⟩;have HN2:=NewB.lower hn h.bel.size;have g:=Sf.gain h.fr ho hn hb;clear ho hn hb h;have cz:=g.c9 2 rfl;have g2:=g.setV 2 rfl v2;go_wp2;exact xDd (v:= .tuple #[v2.val,.bool true]) (by simp[results,Tryz.results63,go_sem,g2.c9 2 rfl]) rfl ⟨v2,L2,rfl,by rw[HE.out];exact g2.st.sub (by simp),HN2,g2.bel⟩
  rw[if_pos rfl] at hm2;have HE:Hid (zx p s j=goAll p (goAll p (setSem s i2 y) l) [(j:Int)]):=xH1 (by
   unfold zx;rw[<-HO.out];show doRel p s j ⟨3,((i2:Nat):Int),ar⟩=_;unfold doRel;dsimp only;rw[show((i2:Nat):Int).toNat=i2 from rfl,<-HX.out,hm2];exact zc6 p _ l [(j:Int)])
  have HTO:Hid (Told p s l):=xH1 (ziu HF.out HI.out (m:=ar) (by have:=HPM.out;omega) (by rw[<-HX.out];exact hm2));have PLB:Hid (∀i,0<=(goAll p (setSem s i2 y) l).places.getD i 0/\(goAll p (setSem s i2 y) l).places.getD i 0<=8):=xH1 (le8 (s:=s) HST.out.fits (λi=>(PL8.out i).1) (λi=>(zaC l (setSem s i2 y) i).1) (λi=>by rw[HE.out];exact(zaC [(j:Int)] _ i).1));clear hm2;obtain⟨gt,eg,hgm,j2,j2',h6,hP,fz0,⟨y0,cg0⟩,fz1,⟨y1,cg1⟩,fz2,⟨y2,cg2⟩⟩:=h.putf_se HI.out (x:=y) (q:=r) hq;have EG:=xH1 eg;have hu6:=(hu.touch hP (λb hb=>by obtain rfl:=xS1 hb;exact hgm)).drew;clear hgm hP hu;have qm:World.cell? _ ⟨M,7,none⟩=some (.slice v'.se.a v'.se.n v'.se.c):=h.fr.cell 0 7 rfl rfl;rw[EG.out] at qm;have co:=h.fr.c3 1 rfl;have n0:=kN.cell 0 rfl;have n1:=kN.cell 1 rfl;have n2:=kN.cell 2 rfl;clear eg;go_wp2;go_still_tail 9,(by kernel_rfl)
  go_upto_region 19 with fail;obtain⟨W3,hw,h7⟩:=h6.drew.named;rw[<-hw];rw[<-hw] at hu6;clear h6 h hw kN co qm hq n0 fz0 cg0 n1 fz1 cg1 n2 fz2 cg2;go_wp2_with fail;refine(zaD w _ _ M u p v' _ _ false z.a z.n z.c l h7 HP.out HVS.out hu6 HTO.out.1 P8.out HTO.out.2 PL8.out).mono ?_;rintro e Wt ⟨rfl,h8,-⟩;clear h7 hu6;have h2:=h8.alloc #[.int .i64 j] 3;have hw:SlR (StV.blks v') (World.alloc Wt (.cells #[.int .i64 j] 3)) ⟨some ⟨Wt.heap.size,0,none⟩,1,1⟩ (ints [(j:Int)]) [(j:Int)].length:=⟨rfl,Rd.of_blk (h2.fr.blk 0 rfl),.inr (λb hb hm=>by have h9:=(h8.st.from b hm).2;simp only[ze,xDn] at hb;omega),Nat.le_refl _⟩
  go_wp2_with fail;refine(zaD w _ _ M u p v' _ _ false _ 1 1 [(j:Int)] (h2.pull 1 rfl) HP.out HVS.out hw (by simp) (by rw[zaB,zbn];exact P8.out) (λz hz'=>by obtain rfl:=xS1 hz';exact(by have:=TT.out;rw[zaB];exact this)) PLB.out).mono ?_;rintro e Wb ⟨rfl,h3,-⟩;clear h2 hw h8;have h:=h3.sub (l':= .blk M (mC u v' false) 141:: .blk bo #[.int .i64 3,.int .i64 (i2:Int),.int .i64 ar] 113::sb3 w u v zC) (.cons_cons _ (.cons _ (.refl _)));clear h3;obtain⟨vv,hvv⟩:∃x,x=v':=⟨_,rfl⟩
  rw[<-hvv] at h;clear hvv
 rotate_left
 focus
  obtain⟨on0,on1⟩:=za7 HOV.out;rw[show zw p (4:Int)=3 by unfold zw;rw[if_neg (by omega),if_neg (by omega),if_pos rfl]] at on1;dsimp only at on0 on1;obtain⟨i2,rfl⟩:∃z:Nat,on=z:=⟨on.toNat,by omega⟩
  have hi:i2<s.onces.length:=by rw[HF.out.non];omega
  have HI:=xH1 hi;obtain⟨x,q,b1,o1,HX,ea,g0,g1,g2,g3,Q0,QL0,QC0⟩:=HS.out.at_on (j:=i2) hi;have HOK:=xH1 (HF.out.on i2 hi);rw[<-HX.out] at HOK;have j0:(0:Int)<=(i2:Int):=by omega
  have j1:(i2:Int)<(v.on.n:Int):=by rw[HS.out.on.len];omega
  have EA:=xH1 ea;replace g0:=zd h.fr.bel g0;replace g1:=zd h.fr.bel g1;replace g2:=zd h.fr.bel g2;replace g3:=zd h.fr.bel g3;clear hi ea on0 on1;have hval:=zee HOV.out (.inr (.inl rfl));dsimp only at hval;have HV:=xH1 hval;have hst:=HT.out.st;rw[<-HO.out] at hst;dsimp only at hst;obtain⟨bs,os,es,gs⟩:=HS.out.st.rd.int (by have:=P8.out;omega);replace gs:=gs j (by have:=TT.out;have:=P8.out;omega);obtain⟨sx,esx⟩:∃x,x=s.status.getD j 0:=⟨_,rfl⟩
  rw[<-esx] at gs;have ESX:=xH1 esx;replace gs:=zd h.fr.bel gs;rw[show((j:Nat):Int).toNat=j from rfl,<-esx] at hst;have k3:(j:Int)<(v.st.n:Int):=by rw[HS.out.st.len];have:=TT.out;have:=P8.out;omega
  have cs:=h.fr.c9 3 rfl;rw[es,EA.out] at cs;clear hval es esx;go_upto_region 22 with fail;by_cases h2:sx=2
  focus
   subst h2;have how:=zjF ((hst.resolve_left (λh=>absurd h.1 (by decide))).2.2);rw[<-HX.out] at how;have hok:=HOK.out;have HXX:=xH1 HX.out;clear HX HOK hst k3;obtain⟨x0,x1,x2,ws⟩:=x;dsimp only at how;obtain⟨-,rfl,rfl⟩:=how;have hv0:x2=0:=by
    rcases hok with h|h|h
    ·exact absurd h.1 (by simp)
    ·exact h.2.2.1
    ·exact absurd h.1 (by simp)
   subst hv0;have HOK:=xH1 hok;clear hok;dsimp only at g0 g1 g2 g3 Q0 QL0;have HTO:Hid (Told p s ws):=xH1 (by have:=zg7 HF.out HI.out;rw[<-HXX.out] at this;exact this);go_upto_region 23 with fail;clear cs gs;go_wp2_with fail;obtain⟨u3,rfl⟩:∃x,x=W:=⟨_,rfl⟩
   apply zdc 17 9 3 1 4 78 (λu w=>∃(z:SlV),u= .tuple #[.agg #[.int .i64 2,.int .i64 j,.int .i64 ar,.slice none 0 0],.slice z.a z.n z.c,.bool true]/\w.ownsRow u3.heap.size 3 1 (.slice z.a z.n z.c) z.n (ints ws)) [.k _,.k _,.k _,.k _,.k _,.k _,.k _,.k _,.k _] (λ_ _ _ hb ⟨z,e,m0⟩=>⟨z,e,zf m0 hb⟩) (λ_ _ _ hT ⟨z,e,m0⟩=>⟨z,e,zdv m0 hT (by decide)⟩) (λ_ _ ⟨_,e,_⟩=>⟨_,e,rfl⟩) (λ_ _ ⟨_,e,_⟩=>⟨_,congrArg (λz=>zK z 0) e,rfl,rfl⟩) ?s5 ?e5
   case s5=>
    intro hM1 hM2
    repeat' apply And.intro
    all_goals first|trivial|(intro ρ w1 L hG hny hfr hd;obtain⟨fc,ff⟩:=fcff hfr;have f4:=hfr (.tmp 4) rfl;have f9:=hfr (.tmp 9) rfl;have f2:=hfr (.tmp 2) rfl;have F1:=h.fr.call hG;have cs:=F1.c9 3 rfl;have co:=F1.c3 1 rfl;have g0:=(λ_=>zd hG g0) F1;have g1:=(λ_=>zd hG g1) F1;have g2:=(λ_=>zd hG g2) F1;have g3:=(λ_=>zd hG g3) F1;clear F1)
    exact rt0;exact rt1;exact rt0;exact rt1
    ·have d:ρ (.tmp _)=_:=hd.1;have d':ρ (.tmp _)=_:=hd.2.1;rw[EA.out] at d;exact rt0
    exact rt1;exact rt0;exact rt0;exact rt1
    ·obtain⟨d0,d1,d2,-⟩:=hd;have d0:ρ (.tmp 168)=_:=d0;have d1:ρ (.tmp 169)=_:=d1;have d2:ρ (.tmp 171)=_:=d2;refine gtC hG (by go_simp) (zfx ws q.a q.n q.c j ar w1 QL0.out.symm ((h.fr.call hG).rd Q0.out) HOK.out HV.out) ?_;rintro e w2 ⟨z,rfl,hz,hb⟩;exact⟨_,rfl,hb,⟨z,rfl,zl hz hG.size⟩⟩
    exact rtM;exact rtX;exact rtX;exact rtX;exact rtL;exact rtS;exact rtG
   intro w2 hG;refine zcH ?_;intro u0 hu0 u1 hu1 e0 he0 e1 he1 e2 he2 al hal so hso as0 has0;obtain rfl:u1=u0:=hu1.1;obtain rfl:e0=zK u1 0:=he0.1;obtain rfl:e1=zK u1 1:=he1.1;obtain rfl:e2=zK u1 2:=he2.1;obtain rfl:as0=zK u1 1:=has0;have kN:∃g,al= .pointer (some ⟨g,0,none⟩)/\Blk w2 g (aggC (zK u1 0)) 78:=hso;obtain⟨gA1,dA1,rfl,-,-,hgA1⟩:=hal;obtain⟨gA,eA,kN⟩:=kN;obtain rfl:gA1=gA:=by simpa using eA
   clear hu1 he0 he1 he2 hso eA;obtain⟨z,rfl,hm0⟩:=hu0;replace kN:Blk w2 gA1 #[.int .i64 2,.int .i64 j,.int .i64 ar,.slice none 0 0] 78:=kN;simp only[zbv,List.getD_cons_zero,List.getD_cons_succ];have hu:SlR v'.blks w2 z (ints ws) ws.length:=zdG h hm0;have hq:zda (zv (.blk M (mC u v' false) 141:: .blk bo #[.int .i64 4,.int .i64 (i2:Int),.int .i64 ar] 113::sb3 w u v zC)++v'.blks) w2 ⟨2,(j:Int),ar,[]⟩ nilV:=SlR.nil _ _;replace h:=h.call hG;clear g0 g1 g2 g3 hG hm0;have HE:Hid (zx p s j=goAll p (goAll p (setOnce s i2 ⟨2,(j:Int),ar,[]⟩) ws) [(j:Int)]):=xH1 (by
    unfold zx;rw[<-HO.out];show doOnce p s j ⟨4,((i2:Nat):Int),ar⟩=_;unfold doOnce;dsimp only;rw[show((i2:Nat):Int).toNat=i2 from rfl,show((j:Nat):Int).toNat=j from rfl,<-ESX.out,if_pos rfl,<-HXX.out];exact zc6 p _ ws [(j:Int)])
   have PLB:Hid (∀i,0<=(goAll p (setOnce s i2 ⟨2,(j:Int),ar,[]⟩) ws).places.getD i 0/\(goAll p (setOnce s i2 ⟨2,(j:Int),ar,[]⟩) ws).places.getD i 0<=8):=xH1 (le8 (s:=s) HST.out.fits (λi=>(PL8.out i).1) (λi=>(zaC ws (setOnce s i2 ⟨2,(j:Int),ar,[]⟩) i).1) (λi=>by rw[HE.out];exact(zaC [(j:Int)] _ i).1));obtain⟨gt,eg,hgm,j2,j2',h6,hP,fz0,⟨y0,cg0⟩,fz1,⟨y1,cg1⟩,fz2,⟨y2,cg2⟩,fz3,⟨y3,cg3⟩⟩:=h.putf_on HI.out (x:=⟨2,(j:Int),ar,[]⟩) (q:=nilV) hq;have EG:=xH1 eg;have hu6:=(hu.touch hP (λb hb=>by obtain rfl:=xS1 hb;exact hgm)).drew;rw[show nilV.val= .slice none 0 0 from rfl] at h6 hu6;clear hgm hP hu;have qm:World.cell? _ ⟨M,8,none⟩=some (.slice v'.on.a v'.on.n v'.on.c):=h.fr.cell 0 8 rfl rfl;rw[EG.out] at qm;have co:=h.fr.c3 1 rfl;have n0:=kN.cell 0 rfl;have n1:=kN.cell 1 rfl;have n2:=kN.cell 2 rfl;have n3:=kN.cell 3 rfl;clear eg;go_wp2;go_still_tail 9,(by kernel_rfl)
   go_upto_region 25 with fail;obtain⟨W3,hw,h7⟩:=h6.drew.named;rw[<-hw];rw[<-hw] at hu6;clear h6 h hw kN co qm hq n0 fz0 cg0 n1 fz1 cg1 n2 fz2 cg2 n3 fz3 cg3;go_wp2_with fail;refine(zaD w _ _ M u p v' _ _ false z.a z.n z.c ws h7 HP.out HVS.out hu6 HTO.out.1 P8.out HTO.out.2 PL8.out).mono ?_;rintro e Wt ⟨rfl,h8,-⟩;clear h7 hu6;have h2:=h8.alloc #[.int .i64 j] 3;have hw:SlR (StV.blks v') (World.alloc Wt (.cells #[.int .i64 j] 3)) ⟨some ⟨Wt.heap.size,0,none⟩,1,1⟩ (ints [(j:Int)]) [(j:Int)].length:=⟨rfl,Rd.of_blk (h2.fr.blk 0 rfl),.inr (λb hb hm=>by have h9:=(h8.st.from b hm).2;simp only[ze,xDn] at hb;omega),Nat.le_refl _⟩
   go_wp2_with fail;refine(zaD w _ _ M u p v' _ _ false _ 1 1 [(j:Int)] (h2.pull 1 rfl) HP.out HVS.out hw (by simp) (by rw[zaB,zbn];exact P8.out) (λz hz'=>by obtain rfl:=xS1 hz';exact(by have:=TT.out;rw[zaB];exact this)) PLB.out).mono ?_;rintro e Wb ⟨rfl,h3,-⟩;clear h2 hw h8;have h:=h3.sub (l':= .blk M (mC u v' false) 141:: .blk bo #[.int .i64 4,.int .i64 (i2:Int),.int .i64 ar] 113::sb3 w u v zC) (.cons_cons _ (.cons _ (.refl _)));clear h3;obtain⟨vv,hvv⟩:∃x,x=v':=⟨_,rfl⟩
   rw[<-hvv] at h;clear hvv
  rotate_left
  focus
   have hno:(j:Int)∉oT s:=by
    rcases hst with h|h
    ·exact h.2
    ·exact absurd h.1 h2
   have HNO:Hid (x.state=1->(j:Int)≠x.owner/\(j:Int)∉x.waits):=xH1 (by have:=zhk HI.out HT.out.ne hno;rw[<-HX.out] at this;exact this);have N2:=xH1 h2;clear hst hno;go_upto_region 27 with fail;clear gs cs h2 k3;have cs:=h.fr.c9 3 rfl;have co:=h.fr.c3 1 rfl;rw[EA.out] at cs;go_wp2_with fail;refine(zf3 x q.a q.n q.c j _ QL0.out.symm (h.fr.rd Q0.out) HOK.out T6.out HNO.out).mono ?_;rintro e w2 ⟨y,r,hy,rfl,hr,hb⟩;have bA:xW w2 (Go.World.alloc w2 (.cells #[.int .i64 y.state,.int .i64 y.owner,.int .i64 y.value,.slice r.a r.n r.c] 78)):=xA1;have HY:=xH1 hy;clear hy;have hq:=h.apart (hr.below bA);have kN:Blk (Go.World.alloc w2 (.cells #[.int .i64 y.state,.int .i64 y.owner,.int .i64 y.value,.slice r.a r.n r.c] 78)) w2.heap.size #[.int .i64 y.state,.int .i64 y.owner,.int .i64 y.value,.slice r.a r.n r.c] 78:=Blk.new _ _ _;replace h:=(h.call hb).call bA;clear cs co g0 g1 g2 g3 hb bA hr;go_upto_region 28 with fail;obtain⟨WA,hWA⟩:∃x,x=(Go.World.alloc w2 (.cells #[.int .i64 y.state,.int .i64 y.owner,.int .i64 y.value,.slice r.a r.n r.c] 78)):=⟨_,rfl⟩
   rw[<-hWA] at h kN hq⊢;clear hWA;obtain⟨gt,eg,hgm,j2,j2',h6,hP,fz0,⟨y0,cg0⟩,fz1,⟨y1,cg1⟩,fz2,⟨y2,cg2⟩,fz3,⟨y3,cg3⟩⟩:=h.putf_on HI.out (x:=y) (q:=r) hq;have EG:=xH1 eg;clear hgm hP;have qm:World.cell? _ ⟨M,8,none⟩=some (.slice v'.on.a v'.on.n v'.on.c):=h.fr.cell 0 8 rfl rfl;rw[EG.out] at qm;have co:=h.fr.c3 1 rfl;have n0:=kN.cell 0 rfl;have n1:=kN.cell 1 rfl;have n2:=kN.cell 2 rfl;have n3:=kN.cell 3 rfl;clear eg;go_wp2;go_still_tail 9,(by kernel_rfl)
   go_upto_region 29 with fail;obtain⟨W3,hw,h7⟩:=h6.drew.named;rw[<-hw];clear h6 h hw kN co qm hq n0 fz0 cg0 n1 fz1 cg1 n2 fz2 cg2 n3 fz3 cg3;have hst3:x.state=0\/x.state=1\/x.state=2:=by
    rcases HOK.out with h|h|h
    ·exact .inl h.1
    ·exact .inr (.inl h.1)
    ·exact .inr (.inr h.1)
   obtain⟨sq,hsq⟩:∃z,z=x.state:=⟨_,rfl⟩
   rw[<-hsq] at hst3⊢;have HSQ:=xH1 hsq;clear hsq;rcases hst3 with rfl|rfl|rfl
   focus
    have HE:Hid (zx p s j=zX (setOnce s i2 y) j 2):=xH1 (by
     unfold zx;rw[<-HO.out];show doOnce p s j ⟨4,((i2:Nat):Int),ar⟩=_;unfold doOnce;dsimp only;rw[show((i2:Nat):Int).toNat=i2 from rfl,show((j:Nat):Int).toNat=j from rfl,<-ESX.out,if_neg N2.out,<-HX.out,if_pos HSQ.out.symm,<-HY.out])
    obtain⟨gs,es,-,-⟩:=zaf h7.st.st (by rw[h7.st.nst];have:=P8.out;show 0<s.status.length;omega);have m6:W3.cell? ⟨M,6,none⟩=some (.slice v'.st.a v'.st.n v'.st.c):=h7.fr.cell 0 6 rfl rfl;rw[es] at m6;have q1:=h7.stAt es (j:Int) (by have:=TT.out;have:=P8.out;show j<s.status.length;omega);have tm:(j:Int)<(v'.st.n:Int):=by rw[h7.st.nst];have:=TT.out;have:=P8.out;show(j:Int)<(s.status.length:Int);omega
    have h:=h7.setSt es (j:Int) 2;rw[show((j:Nat):Int).toNat=j from rfl] at h q1;clear es h7;go_upto_region 80 with fail;obtain⟨W4,hw,h8⟩:=h.named;rw[<-hw];clear hw h m6 q1 tm;have h:=h8;clear h8;obtain⟨vv,hvv⟩:∃x,x=v':=⟨_,rfl⟩
    rw[<-hvv] at h;clear hvv
   rotate_left
   focus
    have HE:Hid (zx p s j=zX (setOnce s i2 y) j 1):=xH1 (by
     unfold zx;rw[<-HO.out];show doOnce p s j ⟨4,((i2:Nat):Int),ar⟩=_;unfold doOnce;dsimp only;rw[show((i2:Nat):Int).toNat=i2 from rfl,show((j:Nat):Int).toNat=j from rfl,<-ESX.out,if_neg N2.out,<-HX.out,if_neg (by rw[<-HSQ.out];decide),if_pos HSQ.out.symm,<-HY.out])
    obtain⟨gs,es,-,-⟩:=zaf h7.st.st (by rw[h7.st.nst];have:=P8.out;show 0<s.status.length;omega);have m6:W3.cell? ⟨M,6,none⟩=some (.slice v'.st.a v'.st.n v'.st.c):=h7.fr.cell 0 6 rfl rfl;rw[es] at m6;have q1:=h7.stAt es (j:Int) (by have:=TT.out;have:=P8.out;show j<s.status.length;omega);have tm:(j:Int)<(v'.st.n:Int):=by rw[h7.st.nst];have:=TT.out;have:=P8.out;show(j:Int)<(s.status.length:Int);omega
    have h:=h7.setSt es (j:Int) 1;rw[show((j:Nat):Int).toNat=j from rfl] at h q1;clear es h7;go_upto_region 80 with fail;obtain⟨W4,hw,h8⟩:=h.named;rw[<-hw];clear hw h m6 q1 tm;have h:=h8;clear h8;obtain⟨vv,hvv⟩:∃x,x=v':=⟨_,rfl⟩
    rw[<-hvv] at h;clear hvv
   rotate_left
   focus
    have hyx:y=x:=by rw[HY.out];unfold zbm;rw[if_neg (by rw[<-HSQ.out];decide),if_neg (by rw[<-HSQ.out];decide)]
    have HYX:Hid (setOnce s i2 y=s):=xH1 (by rw[hyx,HX.out];exact zfk s i2);clear hyx;have HE:Hid (zx p s j=goAll p (setOnce s i2 y) [(j:Int)]):=xH1 (by
     unfold zx;rw[<-HO.out];show doOnce p s j ⟨4,((i2:Nat):Int),ar⟩=_;unfold doOnce;dsimp only;rw[show((i2:Nat):Int).toNat=i2 from rfl,show((j:Nat):Int).toNat=j from rfl,<-ESX.out,if_neg N2.out,<-HX.out,if_neg (by rw[<-HSQ.out];decide),if_neg (by rw[<-HSQ.out];decide),HYX.out];rfl)
    have h2:=h7.alloc #[.int .i64 j] 3;have hw:SlR (StV.blks v') (World.alloc W3 (.cells #[.int .i64 j] 3)) ⟨some ⟨W3.heap.size,0,none⟩,1,1⟩ (ints [(j:Int)]) [(j:Int)].length:=⟨rfl,Rd.of_blk (h2.fr.blk 0 rfl),.inr (λb hb hm=>by have h9:=(h7.st.from b hm).2;simp only[ze,xDn] at hb;omega),Nat.le_refl _⟩
    go_wp2_with fail;refine(zaD w _ _ M u p v' _ _ false _ 1 1 [(j:Int)] (h2.pull 1 rfl) HP.out HVS.out hw (by simp) P8.out (λz hz'=>by obtain rfl:=xS1 hz';exact TT.out) PL8.out).mono ?_;rintro e Wb ⟨rfl,h3,-⟩;clear h2 hw h7;have h:=h3.sub (l':= .blk M (mC u v' false) 141:: .blk bo #[.int .i64 4,.int .i64 (i2:Int),.int .i64 ar] 113::sb3 w u v zC) (.cons_cons _ (.cons _ (.refl _)));clear h3;obtain⟨vv,hvv⟩:∃x,x=v':=⟨_,rfl⟩
    rw[<-hvv] at h;clear hvv
   rotate_left
  rotate_left 3
 rotate_left 4
 focus
  obtain⟨on0,on1⟩:=za7 HOV.out;rw[show zw p (5:Int)=p.groups.length by unfold zw;rw[if_neg (by omega),if_neg (by omega),if_neg (by omega),if_pos (.inl rfl)]] at on1;dsimp only at on0 on1;obtain⟨i2,rfl⟩:∃z:Nat,on=z:=⟨on.toNat,by omega⟩
  have hi:i2<s.groups.length:=by rw[HF.out.ngr];omega
  have HI:=xH1 hi;obtain⟨x,q,b1,o1,HX,ea,g0,g1,Q0,QL0,QC0⟩:=HS.out.at_gr (j:=i2) hi;have HOK:=xH1 (HF.out.gr i2 hi);rw[<-HX.out] at HOK;have j0:(0:Int)<=(i2:Int):=by omega
  have j1:(i2:Int)<(v.gr.n:Int):=by rw[HS.out.gr.len];omega
  have EA:=xH1 ea;replace g0:=zd h.fr.bel g0;replace g1:=zd h.fr.bel g1;clear hi ea on0 on1;have hadd:=zjG HOV.out rfl;dsimp only at hadd;have HPM:Hid (-99<=ar/\ar<=99):=xH1 (by omega);obtain⟨bb,hbb⟩:∃b,b=(zaU x ar).isSome:=⟨_,rfl⟩
  have HBB:=xH1 hbb;clear hadd hbb;go_upto_region 36 with fail;go_wp2_with fail;obtain⟨u3,rfl⟩:∃x,x=W:=⟨_,rfl⟩
  apply zdc 16 8 3 1 2 80 (λu w=>∃(y:GrpD) (r z:SlV) (l:List Int),u= .tuple #[.agg #[.int .i64 y.count,.slice r.a r.n r.c],.slice z.a z.n z.c,.bool bb]/\SlN u3 w r (ints y.waits) y.waits.length/\w.ownsRow u3.heap.size 3 1 (.slice z.a z.n z.c) z.n (ints l)/\zaU x ar=(if bb=true then some (y,l) else none)) [.k _,.k _,.k _,.k _,.k _,.k _,.k _,.k _] (λ_ _ _ hb ⟨y,r,z,l,e,m0,m1,m2⟩=>⟨y,r,z,l,e,m0.below hb,zf m1 hb,m2⟩) (λ_ _ _ hT ⟨y,r,z,l,e,m0,m1,m2⟩=>⟨y,r,z,l,e,m0.ts hT (by decide),zdv m1 hT (by decide),m2⟩) (λ_ _ ⟨_,_,_,_,e,_⟩=>⟨_,e,rfl⟩) (λ_ _ ⟨_,_,_,_,e,_⟩=>⟨_,congrArg (λz=>zK z 0) e,rfl,rfl⟩) ?s6 ?e6
  case s6=>
   intro hM1 hM2
   repeat' apply And.intro
   all_goals first|trivial|(intro ρ w1 L hG hny hfr hd;obtain⟨fc,ff⟩:=fcff hfr;have f4:=hfr (.tmp 4) rfl;have f9:=hfr (.tmp 9) rfl;have F1:=h.fr.call hG;have cs:=F1.c9 3 rfl;have co:=F1.c3 1 rfl;have g0:=(λ_=>zd hG g0) F1;have g1:=(λ_=>zd hG g1) F1;clear F1)
   exact rt0;exact rt1;exact rt0;exact rt1
   ·have d:ρ (.tmp _)=_:=hd.1;have d':ρ (.tmp _)=_:=hd.2.1;rw[EA.out] at d;exact rt0
   exact rt1;exact rt0;exact rt1
   ·obtain⟨d0,d1,-⟩:=hd;have d0:ρ (.tmp 244)=_:=d0;have d1:ρ (.tmp 246)=_:=d1;refine gtC hG (by go_simp) (zgz x q.a q.n q.c ar w1 QL0.out.symm ((h.fr.call hG).rd Q0.out) HOK.out HPM.out) ?_;rintro e w2 ⟨y,r,z,l,b,hy,rfl,hr,hz,-,hb⟩;obtain rfl:b=bb:=by rw[HBB.out,hy];cases b<;>rfl
    exact⟨_,rfl,hb,⟨y,r,z,l,rfl,hr.mono hG.size,zl hz hG.size,hy⟩⟩
   exact rtM;exact rtX;exact rtX;exact rtX;exact rtL;exact rtS;exact rtG
  intro w2 hG;refine zcH ?_;intro u0 hu0 u1 hu1 e0 he0 e1 he1 e2 he2 al hal so hso as0 has0;obtain rfl:u1=u0:=hu1.1;obtain rfl:e0=zK u1 0:=he0.1;obtain rfl:e1=zK u1 1:=he1.1;obtain rfl:e2=zK u1 2:=he2.1;obtain rfl:as0=zK u1 1:=has0;have kN:∃g,al= .pointer (some ⟨g,0,none⟩)/\Blk w2 g (aggC (zK u1 0)) 80:=hso;obtain⟨gA1,dA1,rfl,-,-,hgA1⟩:=hal;obtain⟨gA,eA,kN⟩:=kN;obtain rfl:gA1=gA:=by simpa using eA
  clear hu1 he0 he1 he2 hso eA;obtain⟨y,r,z,l,rfl,hm0,hm1,hm2⟩:=hu0;replace kN:Blk w2 gA1 #[.int .i64 y.count,.slice r.a r.n r.c] 80:=kN;simp only[zbv,List.getD_cons_zero,List.getD_cons_succ];have hu:SlR v'.blks w2 z (ints l) l.length:=zdG h hm1;have hq:grpR (zv (.blk M (mC u v' false) 141:: .blk bo #[.int .i64 5,.int .i64 (i2:Int),.int .i64 ar] 113::sb3 w u v zC)++v'.blks) w2 y r:=h.apart hm0;replace h:=h.call hG;clear g0 g1 hG hm0 hm1
  cases bb
  ·clear hu hq kN;rw[if_neg (by decide)] at hm2;have HE:Hid (zx p s j=zaW s 2):=xH1 (by
    unfold zx;rw[<-HO.out];show doAdd p s j ⟨5,((i2:Nat):Int),ar⟩=_;unfold doAdd;dsimp only;rw[show((i2:Nat):Int).toNat=i2 from rfl,<-HX.out,hm2])
   go_wp2_with fail;refine(zdn (w.heap.size+1) 2 v L s _ (h.fr.blk 3 rfl) (HS.out.below h.bel) HF.out.sm).mono ?_;rintro e Wc ⟨v2,L2,rfl,ho,hn,hb⟩;have HN2:=NewB.lower hn h.bel.size;have g:=Sf.gain h.fr ho hn hb;clear ho hn hb h;have cz:=g.c9 2 rfl;have g2:=g.setV 2 rfl v2;go_wp2;exact xDd (v:= .tuple #[v2.val,.bool true]) (by simp[results,Tryz.results63,go_sem,g2.c9 2 rfl]) rfl ⟨v2,L2,rfl,by rw[HE.out];exact g2.st.sub (by simp),HN2,g2.bel⟩
  rw[if_pos rfl] at hm2;have HE:Hid (zx p s j=goAll p (goAll p (setGrp s i2 y) l) [(j:Int)]):=xH1 (by
   unfold zx;rw[<-HO.out];show doAdd p s j ⟨5,((i2:Nat):Int),ar⟩=_;unfold doAdd;dsimp only;rw[show((i2:Nat):Int).toNat=i2 from rfl,<-HX.out,hm2];exact zc6 p _ l [(j:Int)])
  have HTO:Hid (Told p s l):=xH1 (zit HF.out HI.out (by rw[<-HX.out];exact hm2));have PLB:Hid (∀i,0<=(goAll p (setGrp s i2 y) l).places.getD i 0/\(goAll p (setGrp s i2 y) l).places.getD i 0<=8):=xH1 (le8 (s:=s) HST.out.fits (λi=>(PL8.out i).1) (λi=>(zaC l (setGrp s i2 y) i).1) (λi=>by rw[HE.out];exact(zaC [(j:Int)] _ i).1));clear hm2;obtain⟨gt,eg,hgm,j2,j2',h6,hP,fz0,⟨y0,cg0⟩,fz1,⟨y1,cg1⟩⟩:=h.putf_gr HI.out (x:=y) (q:=r) hq;have EG:=xH1 eg;have hu6:=(hu.touch hP (λb hb=>by obtain rfl:=xS1 hb;exact hgm)).drew;clear hgm hP hu;have qm:World.cell? _ ⟨M,9,none⟩=some (.slice v'.gr.a v'.gr.n v'.gr.c):=h.fr.cell 0 9 rfl rfl;rw[EG.out] at qm;have co:=h.fr.c3 1 rfl;have n0:=kN.cell 0 rfl;have n1:=kN.cell 1 rfl;clear eg;go_wp2;go_still_tail 9,(by kernel_rfl)
  go_upto_region 40 with fail;obtain⟨W3,hw,h7⟩:=h6.drew.named;rw[<-hw];rw[<-hw] at hu6;clear h6 h hw kN co qm hq n0 fz0 cg0 n1 fz1 cg1;go_wp2_with fail;refine(zaD w _ _ M u p v' _ _ false z.a z.n z.c l h7 HP.out HVS.out hu6 HTO.out.1 P8.out HTO.out.2 PL8.out).mono ?_;rintro e Wt ⟨rfl,h8,-⟩;clear h7 hu6;have h2:=h8.alloc #[.int .i64 j] 3;have hw:SlR (StV.blks v') (World.alloc Wt (.cells #[.int .i64 j] 3)) ⟨some ⟨Wt.heap.size,0,none⟩,1,1⟩ (ints [(j:Int)]) [(j:Int)].length:=⟨rfl,Rd.of_blk (h2.fr.blk 0 rfl),.inr (λb hb hm=>by have h9:=(h8.st.from b hm).2;simp only[ze,xDn] at hb;omega),Nat.le_refl _⟩
  go_wp2_with fail;refine(zaD w _ _ M u p v' _ _ false _ 1 1 [(j:Int)] (h2.pull 1 rfl) HP.out HVS.out hw (by simp) (by rw[zaB,zbn];exact P8.out) (λz hz'=>by obtain rfl:=xS1 hz';exact(by have:=TT.out;rw[zaB];exact this)) PLB.out).mono ?_;rintro e Wb ⟨rfl,h3,-⟩;clear h2 hw h8;have h:=h3.sub (l':= .blk M (mC u v' false) 141:: .blk bo #[.int .i64 5,.int .i64 (i2:Int),.int .i64 ar] 113::sb3 w u v zC) (.cons_cons _ (.cons _ (.refl _)));clear h3;obtain⟨vv,hvv⟩:∃x,x=v':=⟨_,rfl⟩
  rw[<-hvv] at h;clear hvv
 rotate_left
 focus
  obtain⟨on0,on1⟩:=za7 HOV.out;rw[show zw p (6:Int)=p.groups.length by unfold zw;rw[if_neg (by omega),if_neg (by omega),if_neg (by omega),if_pos (.inr rfl)]] at on1;dsimp only at on0 on1;obtain⟨i2,rfl⟩:∃z:Nat,on=z:=⟨on.toNat,by omega⟩
  have hi:i2<s.groups.length:=by rw[HF.out.ngr];omega
  have HI:=xH1 hi;obtain⟨x,q,b1,o1,HX,ea,g0,g1,Q0,QL0,QC0⟩:=HS.out.at_gr (j:=i2) hi;have HOK:=xH1 (HF.out.gr i2 hi);rw[<-HX.out] at HOK;have j0:(0:Int)<=(i2:Int):=by omega
  have j1:(i2:Int)<(v.gr.n:Int):=by rw[HS.out.gr.len];omega
  have EA:=xH1 ea;replace g0:=zd h.fr.bel g0;replace g1:=zd h.fr.bel g1;clear hi ea on0 on1;have hno:(j:Int)∉oT s:=NOT.out.resolve_right (by decide);have HNW:Hid ((j:Int)∉x.waits):=xH1 (λhm=>HT.out.ne (xDl.2 ⟨((j:Int),6,((i2:Nat):Int),0),zdC HI.out (by rw[<-HX.out];exact xDl.2 ⟨_,hm,rfl⟩),rfl⟩));have HE:Hid (zx p s j=zaN p (setGrp s i2 (zaz x j).1) j (zaz x j).2):=xH1 (by
   unfold zx;rw[<-HO.out,HX.out];rfl)
  clear hno;go_upto_region 43 with fail;have cs:=h.fr.c9 3 rfl;have co:=h.fr.c3 1 rfl;rw[EA.out] at cs;go_wp2_with fail;refine(zf1 x q.a q.n q.c j _ QL0.out.symm (h.fr.rd Q0.out) HOK.out T6.out HNW.out).mono ?_;rintro e w2 ⟨y,r,hy,rfl,hr,hb⟩;have bA:xW w2 (Go.World.alloc w2 (.cells #[.int .i64 y.count,.slice r.a r.n r.c] 80)):=xA1;have HY:=xH1 hy;clear hy;have hq:=h.apart (hr.below bA);have kN:Blk (Go.World.alloc w2 (.cells #[.int .i64 y.count,.slice r.a r.n r.c] 80)) w2.heap.size #[.int .i64 y.count,.slice r.a r.n r.c] 80:=Blk.new _ _ _;replace h:=(h.call hb).call bA;clear cs co g0 g1 hb bA hr;go_upto_region 44 with fail;obtain⟨WA,hWA⟩:∃x,x=(Go.World.alloc w2 (.cells #[.int .i64 y.count,.slice r.a r.n r.c] 80)):=⟨_,rfl⟩
  rw[<-hWA] at h kN hq⊢;clear hWA;rw[<-HY.out] at HE;obtain⟨gt,eg,hgm,j2,j2',h6,hP,fz0,⟨y0,cg0⟩,fz1,⟨y1,cg1⟩⟩:=h.putf_gr HI.out (x:=y) (q:=r) hq;have EG:=xH1 eg;clear hgm hP;have qm:World.cell? _ ⟨M,9,none⟩=some (.slice v'.gr.a v'.gr.n v'.gr.c):=h.fr.cell 0 9 rfl rfl;rw[EG.out] at qm;have co:=h.fr.c3 1 rfl;have n0:=kN.cell 0 rfl;have n1:=kN.cell 1 rfl;clear eg;go_wp2;go_still_tail 9,(by kernel_rfl)
  go_upto_region 45 with fail;obtain⟨W3,hw,h7⟩:=h6.drew.named;rw[<-hw];clear h6 h hw kN co qm hq n0 fz0 cg0 n1 fz1 cg1;replace HE:Hid (zx p s j=zaN p {s with groups:=s.groups.set i2 y} j (zaz x j).2):=xH1 HE.out;go_wp2_with fail;refine(zbC w _ _ M u p v' _ _ false j _ h7 HP.out HVS.out P8.out TT.out PL8.out).mono ?_;rintro e Wb ⟨rfl,h⟩;clear h7;obtain⟨vv,hvv⟩:∃x,x=v':=⟨_,rfl⟩
  rw[<-hvv] at h;clear hvv
 rotate_left
 focus
  obtain⟨on0,on1⟩:=za7 HOV.out;rw[show zw p (7:Int)=p.barriers.length by unfold zw;rw[if_neg (by omega),if_neg (by omega),if_neg (by omega),if_neg (by omega),if_pos rfl]] at on1;dsimp only at on0 on1;obtain⟨i2,rfl⟩:∃z:Nat,on=z:=⟨on.toNat,by omega⟩
  have hi:i2<s.bars.length:=by rw[HF.out.nba];omega
  have HI:=xH1 hi;obtain⟨x,q,b1,o1,HX,ea,g0,g1,g2,Q0,QL0,QC0⟩:=HS.out.at_ba (j:=i2) hi;have HOK:=xH1 (HF.out.ba i2 hi);rw[<-HX.out] at HOK;have j0:(0:Int)<=(i2:Int):=by omega
  have j1:(i2:Int)<(v.ba.n:Int):=by rw[HS.out.ba.len];omega
  have EA:=xH1 ea;replace g0:=zd h.fr.bel g0;replace g1:=zd h.fr.bel g1;replace g2:=zd h.fr.bel g2;clear hi ea on0 on1;have hno:(j:Int)∉oT s:=NOT.out.resolve_right (by decide);have HNW:Hid ((j:Int)∉x.waits):=xH1 (λhm=>HT.out.ne (xDl.2 ⟨((j:Int),7,((i2:Nat):Int),0),zdz HI.out (by rw[<-HX.out];exact xDl.2 ⟨_,hm,rfl⟩),rfl⟩));have HRD':Hid (x.round<9999):=xH1 (by have h1:=HR.out.rnd i2;have h2:=HF.out.sum32;rw[<-HX.out] at h1;omega);clear hno;go_upto_region 47 with fail;have cs:=h.fr.c9 3 rfl;have co:=h.fr.c3 1 rfl;rw[EA.out] at cs;go_wp2_with fail;refine(zhH x q.a q.n q.c j _ QL0.out.symm (h.fr.rd Q0.out) HOK.out.1 T6.out HNW.out HRD'.out).mono ?_;rintro e w2 ⟨y,r,z,l,hm2,rfl,hr,hz,-,-,hb⟩;have bA:xW w2 (Go.World.alloc w2 (.cells #[.int .i64 y.parties,.int .i64 y.round,.slice r.a r.n r.c] 82)):=xA1;have hu:SlR v'.blks (Go.World.alloc w2 (.cells #[.int .i64 y.parties,.int .i64 y.round,.slice r.a r.n r.c] 82)) z (ints l) l.length:=(zdG h hz).below bA;have hq:=h.apart (hr.below bA);have kN:Blk (Go.World.alloc w2 (.cells #[.int .i64 y.parties,.int .i64 y.round,.slice r.a r.n r.c] 82)) w2.heap.size #[.int .i64 y.parties,.int .i64 y.round,.slice r.a r.n r.c] 82:=Blk.new _ _ _
  replace h:=(h.call hb).call bA;clear cs co g0 g1 g2 hb bA hr;go_upto_region 48 with fail;obtain⟨WA,hWA⟩:∃x,x=(Go.World.alloc w2 (.cells #[.int .i64 y.parties,.int .i64 y.round,.slice r.a r.n r.c] 82)):=⟨_,rfl⟩
  rw[<-hWA] at h kN hq hu⊢;clear hWA;clear hz;have HM:=xH1 hm2;have HTO:Hid (Told p s l):=xH1 (zhU HF.out HI.out TT.out (by rw[<-HX.out];exact hm2));have ZN:Hid (z.n=l.length):=xH1 hu.len;clear hm2;obtain⟨gt,eg,hgm,j2,j2',h6,hP,fz0,⟨y0,cg0⟩,fz1,⟨y1,cg1⟩,fz2,⟨y2,cg2⟩⟩:=h.putf_ba HI.out (x:=y) (q:=r) hq;have EG:=xH1 eg;have hu6:=(hu.touch hP (λb hb=>by obtain rfl:=xS1 hb;exact hgm)).drew;clear hgm hP hu;have qm:World.cell? _ ⟨M,10,none⟩=some (.slice v'.ba.a v'.ba.n v'.ba.c):=h.fr.cell 0 10 rfl rfl;rw[EG.out] at qm;have co:=h.fr.c3 1 rfl;have n0:=kN.cell 0 rfl;have n1:=kN.cell 1 rfl;have n2:=kN.cell 2 rfl;clear eg;go_wp2;go_still_tail 9,(by kernel_rfl)
  go_upto_region 51 with fail;obtain⟨W3,hw,h7⟩:=h6.drew.named;rw[<-hw];rw[<-hw] at hu6;clear h6 h hw kN co qm hq n0 fz0 cg0 n1 fz1 cg1 n2 fz2 cg2;have zn:=hu6.len;rcases l with _|⟨l0,l1⟩
  focus
   have HE:Hid (zx p s j=goAll p (zX (setBar s i2 y) j 1) []):=xH1 (by
    unfold zx;rw[<-HO.out];show doCome p s j ⟨7,((i2:Nat):Int),ar⟩=_;unfold doCome;dsimp only;rw[show((i2:Nat):Int).toNat=i2 from rfl,<-HX.out,HM.out];exact if_pos rfl)
   obtain⟨za,zn',zc⟩:=z;obtain rfl:zn'=0:=zn;obtain⟨gs,es,-,-⟩:=zaf h7.st.st (by rw[h7.st.nst];have:=P8.out;show 0<s.status.length;omega);have ES:=xH1 es;have m6:W3.cell? ⟨M,6,none⟩=some (.slice v'.st.a v'.st.n v'.st.c):=h7.fr.cell 0 6 rfl rfl;rw[es] at m6;have q1:=h7.stAt es (j:Int) (by have:=TT.out;have:=P8.out;show j<s.status.length;omega);have tm:(j:Int)<(v'.st.n:Int):=by rw[h7.st.nst];have:=TT.out;have:=P8.out;show(j:Int)<(s.status.length:Int);omega
   have h8:=h7.setSt es (j:Int) 1;have hu7:=hu6.touch ((zi.refl [gs] W3).set (v:= .int .i64 1) (b:=gs) (j:=(j:Int).toNat) (by simp)) (λb hb=>by obtain rfl:=xS1 hb;exact StV.mem_st (by rw[ES.out];rfl));rw[show((j:Nat):Int).toNat=j from rfl] at h8 q1 hu7;clear es h7 hu6;go_wp2_with fail;refine(zaD w _ _ M u p v' _ _ false za 0 zc [] h8 HP.out HVS.out hu7 (by simp) (by have h9:=P8.out;refine⟨h9.1,h9.2.1,?_⟩;show s.places.length=(s.status.set _ _).length;rw[List.length_set];exact h9.2.2) (by simp) PL8.out).mono ?_;rintro e Wb ⟨rfl,h,-⟩;clear h8 hu7 m6 q1 tm;obtain⟨vv,hvv⟩:∃x,x=v':=⟨_,rfl⟩
   rw[<-hvv] at h;clear hvv
  rotate_left
  focus
   have HE:Hid (zx p s j=goAll p (setBar s i2 y) (l0::l1)):=xH1 (by
    unfold zx;rw[<-HO.out];show doCome p s j ⟨7,((i2:Nat):Int),ar⟩=_;unfold doCome;dsimp only;rw[show((i2:Nat):Int).toNat=i2 from rfl,<-HX.out,HM.out];exact if_neg (by simp))
   have zn1:((z.n:Nat):Int)≠0:=by rw[zn];simp only[List.length_cons];omega
   clear zn;go_wp2_with fail;refine(zaD w _ _ M u p v' _ _ false z.a z.n z.c (l0::l1) h7 HP.out HVS.out hu6 HTO.out.1 P8.out HTO.out.2 PL8.out).mono ?_;rintro e Wb ⟨rfl,h,-⟩;clear h7 hu6 zn1;obtain⟨vv,hvv⟩:∃x,x=v':=⟨_,rfl⟩
   rw[<-hvv] at h;clear hvv
  rotate_left
 rotate_left 2
 focus
  obtain⟨on0,on1⟩:=za7 HOV.out;rw[show zw p (8:Int)=p.rooms.length by unfold zw;rw[if_neg (by omega),if_neg (by omega),if_neg (by omega),if_neg (by omega),if_neg (by omega)]] at on1;dsimp only at on0 on1;obtain⟨i2,rfl⟩:∃z:Nat,on=z:=⟨on.toNat,by omega⟩
  have hi:i2<s.chans.length:=by rw[HF.out.nch];omega
  have HI:=xH1 hi;obtain⟨x,q,b1,o1,HX,ea,g0,g1,g2,g3,g4,Q0,QL0,QC0,Q1,QL1,QC1,Q2,QL2,QC2⟩:=HS.out.at_ch (j:=i2) hi;have HOK:=xH1 (HF.out.ch i2 hi);rw[<-HX.out] at HOK;have j0:(0:Int)<=(i2:Int):=by omega
  have j1:(i2:Int)<(v.ch.n:Int):=by rw[HS.out.ch.len];omega
  have EA:=xH1 ea;replace g0:=zd h.fr.bel g0;replace g1:=zd h.fr.bel g1;replace g2:=zd h.fr.bel g2;replace g3:=zd h.fr.bel g3;replace g4:=zd h.fr.bel g4;clear hi ea on0 on1;have hno:(j:Int)∉oT s:=NOT.out.resolve_right (by decide);have HNS:Hid ((j:Int)∉x.senders.map (·.1)):=xH1 (λhm=>by
   obtain⟨z,hz,e⟩:=xDl.1 hm;exact HT.out.ne (by rw[<-e];exact zdK HI.out z (by rw[<-HX.out];exact hz)))
  have HNG:Hid ((j:Int)∉x.getters):=xH1 (λhm=>HT.out.ne (xDl.2 ⟨((j:Int),9,((i2:Nat):Int),0),zbJ HI.out (by rw[<-HX.out];exact xQ1 (.inr (xDl.2 ⟨_,hm,rfl⟩))),rfl⟩));have HSAY:Hid (s.said.length<64):=xH1 (by have h1:=HR.out.said;have h2:=HF.out.sum32;omega);clear hno;have hval:=zee HOV.out (.inr (.inr rfl));dsimp only at hval;have HV:=xH1 hval;obtain⟨bb,hbb⟩:∃b,b=(zaO x j ar).isSome:=⟨_,rfl⟩
  have HBB:=xH1 hbb;clear hval hbb;go_upto_region 55 with fail;go_wp2_with fail;obtain⟨u3,rfl⟩:∃x,x=W:=⟨_,rfl⟩
  apply zdc 19 9 4 2 5 87 (λu w=>∃(y:ChnD) (s1 s2 s3 z:SlV) (l:List Int) (sent:Bool),u= .tuple #[.agg #[.int .i64 y.room,.slice s1.a s1.n s1.c,.slice s2.a s2.n s2.c,.slice s3.a s3.n s3.c,.bool y.closed],.slice z.a z.n z.c,.bool sent,.bool bb]/\SlN u3 w s1 (ints y.items) y.items.length/\SlN u3 w s2 (zt y.senders) y.senders.length/\SlN u3 w s3 (ints y.getters) y.getters.length/\w.ownsRow u3.heap.size 3 1 (.slice z.a z.n z.c) z.n (ints l)/\zaO x j ar=(if bb=true then some (y,l,sent) else none)) [.k _,.k _,.k _,.k _,.k _,.k _,.k _,.k _,.k _] (λ_ _ _ hb ⟨y,s1,s2,s3,z,l,sent,e,m0,m1,m2,m3,m4⟩=>⟨y,s1,s2,s3,z,l,sent,e,m0.below hb,m1.below hb,m2.below hb,zf m3 hb,m4⟩) (λ_ _ _ hT ⟨y,s1,s2,s3,z,l,sent,e,m0,m1,m2,m3,m4⟩=>⟨y,s1,s2,s3,z,l,sent,e,m0.ts hT (by decide),m1.ts hT (by decide),m2.ts hT (by decide),zdv m3 hT (by decide),m4⟩) (λ_ _ ⟨_,_,_,_,_,_,_,e,_⟩=>⟨_,e,rfl⟩) (λ_ _ ⟨_,_,_,_,_,_,_,e,_⟩=>⟨_,congrArg (λz=>zK z 0) e,rfl,rfl⟩) ?s7 ?e7
  case s7=>
   intro hM1 hM2
   repeat' apply And.intro
   all_goals first|trivial|(intro ρ w1 L hG hny hfr hd;obtain⟨fc,ff⟩:=fcff hfr;have f4:=hfr (.tmp 4) rfl;have f9:=hfr (.tmp 9) rfl;have f2:=hfr (.tmp 2) rfl;have F1:=h.fr.call hG;have cs:=F1.c9 3 rfl;have co:=F1.c3 1 rfl;have g0:=(λ_=>zd hG g0) F1;have g1:=(λ_=>zd hG g1) F1;have g2:=(λ_=>zd hG g2) F1;have g3:=(λ_=>zd hG g3) F1;have g4:=(λ_=>zd hG g4) F1;clear F1)
   exact rt0;exact rt1;exact rt0;exact rt1
   ·have d:ρ (.tmp _)=_:=hd.1;have d':ρ (.tmp _)=_:=hd.2.1;rw[EA.out] at d;exact rt0
   exact rt1;exact rt0;exact rt0;exact rt1
   ·obtain⟨d0,d1,d2,-⟩:=hd;have d0:ρ (.tmp 347)=_:=d0;have d1:ρ (.tmp 348)=_:=d1;have d2:ρ (.tmp 350)=_:=d2;refine gtC hG (by go_simp) (zgs x q.1.a q.2.1.a q.2.2.a q.1.n q.1.c q.2.1.n q.2.1.c q.2.2.n q.2.2.c j ar w1 QL0.out.symm QL1.out.symm QL2.out.symm ((h.fr.call hG).rd Q0.out) ((h.fr.call hG).rd Q1.out) ((h.fr.call hG).rd Q2.out) HOK.out.1 T6.out HV.out HNS.out HNG.out) ?_;rintro e w2 ⟨y,s1,s2,s3,z,l,sent,b,hy,rfl,hr1,hr2,hr3,hz,hb⟩;obtain rfl:b=bb:=by rw[HBB.out,hy];cases b<;>rfl
    exact⟨_,rfl,hb,⟨y,s1,s2,s3,z,l,sent,rfl,hr1.mono hG.size,hr2.mono hG.size,hr3.mono hG.size,zl hz hG.size,hy⟩⟩
   exact rtM;exact rtX;exact rtX;exact rtX;exact rtX;exact rtL;exact rtS;exact rtG;exact rtG
  intro w2 hG;refine zcH ?_;intro u0 hu0 u1 hu1 e0 he0 e1 he1 e2 he2 e3 he3 al hal so hso as0 has0 as1 has1;obtain rfl:u1=u0:=hu1.1;obtain rfl:e0=zK u1 0:=he0.1;obtain rfl:e1=zK u1 1:=he1.1;obtain rfl:e2=zK u1 2:=he2.1;obtain rfl:e3=zK u1 3:=he3.1;obtain rfl:as0=zK u1 1:=has0;obtain rfl:as1=zK u1 2:=has1;have kN:∃g,al= .pointer (some ⟨g,0,none⟩)/\Blk w2 g (aggC (zK u1 0)) 87:=hso;obtain⟨gA1,dA1,rfl,-,-,hgA1⟩:=hal;obtain⟨gA,eA,kN⟩:=kN;obtain rfl:gA1=gA:=by simpa using eA
  clear hu1 he0 he1 he2 he3 hso eA;obtain⟨y,s1,s2,s3,z,l,sent,rfl,hm0,hm1,hm2,hm3,hm4⟩:=hu0;replace kN:Blk w2 gA1 #[.int .i64 y.room,.slice s1.a s1.n s1.c,.slice s2.a s2.n s2.c,.slice s3.a s3.n s3.c,.bool y.closed] 87:=kN;simp only[zbv,List.getD_cons_zero,List.getD_cons_succ];have hu:SlR v'.blks w2 z (ints l) l.length:=zdG h hm3;have hq:chnR (zv (.blk M (mC u v' false) 141:: .blk bo #[.int .i64 8,.int .i64 (i2:Int),.int .i64 ar] 113::sb3 w u v zC)++v'.blks) w2 y (s1,s2,s3):=⟨h.apart hm0,h.apart hm1,h.apart hm2⟩
  replace h:=h.call hG;clear g0 g1 g2 g3 g4 hG hm0 hm1 hm2 hm3
  cases bb
  ·clear hu hq kN;rw[if_neg (by decide)] at hm4;have HE:Hid (zx p s j=zaW s 3):=xH1 (by
    unfold zx;rw[<-HO.out];show doSend p s j ⟨8,((i2:Nat):Int),ar⟩=_;unfold doSend;dsimp only;rw[show((i2:Nat):Int).toNat=i2 from rfl,<-HX.out,hm4])
   go_wp2_with fail;refine(zdn (w.heap.size+1) 3 v L s _ (h.fr.blk 3 rfl) (HS.out.below h.bel) HF.out.sm).mono ?_;rintro e Wc ⟨v2,L2,rfl,ho,hn,hb⟩;have HN2:=NewB.lower hn h.bel.size;have g:=Sf.gain h.fr ho hn hb;clear ho hn hb h;have cz:=g.c9 2 rfl;have g2:=g.setV 2 rfl v2;go_wp2;exact xDd (v:= .tuple #[v2.val,.bool true]) (by simp[results,Tryz.results63,go_sem,g2.c9 2 rfl]) rfl ⟨v2,L2,rfl,by rw[HE.out];exact g2.st.sub (by simp),HN2,g2.bel⟩
  rw[if_pos rfl] at hm4;have HM:=xH1 hm4;have htl:=zhc HF.out HI.out (t:=(j:Int)) (v:=ar) (y:=y) (l:=l) (b:=sent) (by rw[<-HX.out];exact hm4);have HTO:Hid (Told p s l):=xH1 htl.1;have hl2:=htl.2;clear hm4 htl;obtain⟨gt,eg,hgm,j2,j2',h6,hP,fz0,⟨y0,cg0⟩,fz1,⟨y1,cg1⟩,fz2,⟨y2,cg2⟩,fz3,⟨y3,cg3⟩,fz4,⟨y4,cg4⟩⟩:=h.putf_ch HI.out (x:=y) (q:=(s1,s2,s3)) hq;have EG:=xH1 eg;have hu6:=(hu.touch hP (λb hb=>by obtain rfl:=xS1 hb;exact hgm)).drew;clear hgm hP hu;have qm:World.cell? _ ⟨M,11,none⟩=some (.slice v'.ch.a v'.ch.n v'.ch.c):=h.fr.cell 0 11 rfl rfl;rw[EG.out] at qm;have co:=h.fr.c3 1 rfl;have n0:=kN.cell 0 rfl;have n1:=kN.cell 1 rfl;have n2:=kN.cell 2 rfl;have n3:=kN.cell 3 rfl;have n4:=kN.cell 4 rfl;clear eg;go_wp2;go_still_tail 9,(by kernel_rfl)
  go_upto_region 59 with fail;obtain⟨W3,hw,h7⟩:=h6.drew.named;rw[<-hw];rw[<-hw] at hu6;clear h6 h hw kN co qm hq n0 fz0 cg0 n1 fz1 cg1 n2 fz2 cg2 n3 fz3 cg3 n4 fz4 cg4;have zn:=hu6.len;obtain⟨za,zn',zc⟩:=z;rcases hl2 with rfl|⟨g,rfl,rfl⟩
  focus
   have HE:Hid (zx p s j=zaN p (setChn s i2 y) j sent):=xH1 (by
    unfold zx;rw[<-HO.out];show doSend p s j ⟨8,((i2:Nat):Int),ar⟩=_;unfold doSend;dsimp only;rw[show((i2:Nat):Int).toNat=i2 from rfl,<-HX.out,HM.out];rfl)
   obtain rfl:zn'=0:=zn;clear hu6;go_wp2_with fail
   go_loopw [373] (λi wr=>i= .int .i64 0/\wr=W3) (λ_ _=>0)
   case atStart=>exact⟨rfl,rfl⟩
   case' round=>
    obtain⟨rfl,rfl⟩:=hrel;go_wp2_with fail;refine(zbC w _ _ M u p v' _ _ false j _ h7 HP.out HVS.out P8.out TT.out PL8.out).mono ?_;rintro e Wb ⟨rfl,h⟩;clear h7;obtain⟨vv,hvv⟩:∃x,x=v':=⟨_,rfl⟩
    rw[<-hvv] at h;clear hvv
  rotate_left
  focus
   have HE:Hid (zx p s j=zaN p (goAll p (sayIt (setChn s i2 y) ar) [g]) j true):=xH1 (by
    unfold zx;rw[<-HO.out];show doSend p s j ⟨8,((i2:Nat):Int),ar⟩=_;unfold doSend;dsimp only;rw[show((i2:Nat):Int).toNat=i2 from rfl,<-HX.out,HM.out];rfl)
   obtain rfl:zn'=1:=zn;obtain⟨bz,oz,ez,gz'⟩:=hu6.rd.int (by simp);obtain rfl:za=some ⟨bz,oz,none⟩:=ez;have gz:W3.cell? ⟨bz,oz,none⟩=some (.int .i64 g):=gz' 0 (by simp);clear gz';have TG:Hid (0<=g/\g<p.threads.length/\g<s.places.length):=xH1 (HTO.out.2 g (by simp));have PLB:Hid (∀i,0<=(goAll p (sayIt (setChn s i2 y) ar) [g]).places.getD i 0/\(goAll p (sayIt (setChn s i2 y) ar) [g]).places.getD i 0<=8):=xH1 (le8 (s:=s) HST.out.fits (λi=>(PL8.out i).1) (λi=>(zaC [g] (sayIt (setChn s i2 y) ar) i).1) (λi=>by rw[HE.out];exact ze9 (p:=p) _ (j:Int) true i));go_wp2_with fail
   go_loopw [373] (λi wr=>(i= .int .i64 0/\wr=W3)\/(i= .int .i64 1/\∃r LL,Sf w wr (.blk M (mC u {v' with sa:=r} false) 141:: .blk bo #[.int .i64 8,.int .i64 (i2:Int),.int .i64 ar] 113::sb3 w u v zC) {v' with sa:=r} LL (goAll p (sayIt (setChn s i2 y) ar) [g]))) (λi _=>1-(intOf i).toNat)
   case atStart=>exact .inl ⟨rfl,rfl⟩
   case' round=>
    rcases hrel with ⟨rfl,rfl⟩|⟨rfl,r,LL,h9⟩
    ·have co:=h7.fr.c3 1 rfl;have hsl:(setChn s i2 y).said.length<64:=HSAY.out;go_wp2_with fail;refine(ze2 w _ _ M u v' _ _ false ar h7 hsl).mono ?_;rintro e Wa ⟨rfl,r,h9⟩;clear h7 hsl co gz;have h2:=h9.alloc #[.int .i64 g] 3;have hw:SlR (StV.blks {v' with sa:=r}) (World.alloc Wa (.cells #[.int .i64 g] 3)) ⟨some ⟨Wa.heap.size,0,none⟩,1,1⟩ (ints [g]) [g].length:=⟨rfl,Rd.of_blk (h2.fr.blk 0 rfl),.inr (λb hb hm=>by have h9:=(h9.st.from b hm).2;simp only[ze,xDn] at hb;omega),Nat.le_refl _⟩
     go_wp2_with fail;refine(zaD w _ _ M u p {v' with sa:=r} _ _ false _ 1 1 [g] (h2.pull 1 rfl) HP.out HVS.out hw (by simp) P8.out (λz hz'=>by obtain rfl:=xS1 hz';exact TG.out) PL8.out).mono ?_;rintro e Wb ⟨rfl,h3,-⟩;clear h2 hw h9;have h:=h3.sub (l':= .blk M (mC u {v' with sa:=r} false) 141:: .blk bo #[.int .i64 8,.int .i64 (i2:Int),.int .i64 ar] 113::sb3 w u v zC) (.cons_cons _ (.cons _ (.refl _)));clear h3;go_wp2;exact⟨.inr ⟨rfl,r,_,h⟩,by decide⟩
    go_wp2_with fail;refine(zbC w _ _ M u p {v' with sa:=r} _ _ false j _ h9 HP.out HVS.out (by rw[zaB,zbn];exact P8.out) (by have:=TT.out;rw[zaB];exact this) PLB.out).mono ?_;rintro e Wb ⟨rfl,h⟩;clear h9;obtain⟨vv,hvv⟩:∃x,x={v' with sa:=r}:=⟨_,rfl⟩
    rw[<-hvv] at h;clear hvv
  rotate_left
 rotate_left 2
 focus
  obtain⟨on0,on1⟩:=za7 HOV.out;rw[show zw p (9:Int)=p.rooms.length by unfold zw;rw[if_neg (by omega),if_neg (by omega),if_neg (by omega),if_neg (by omega),if_neg (by omega)]] at on1;dsimp only at on0 on1;obtain⟨i2,rfl⟩:∃z:Nat,on=z:=⟨on.toNat,by omega⟩
  have hi:i2<s.chans.length:=by rw[HF.out.nch];omega
  have HI:=xH1 hi;obtain⟨x,q,b1,o1,HX,ea,g0,g1,g2,g3,g4,Q0,QL0,QC0,Q1,QL1,QC1,Q2,QL2,QC2⟩:=HS.out.at_ch (j:=i2) hi;have HOK:=xH1 (HF.out.ch i2 hi);rw[<-HX.out] at HOK;have j0:(0:Int)<=(i2:Int):=by omega
  have j1:(i2:Int)<(v.ch.n:Int):=by rw[HS.out.ch.len];omega
  have EA:=xH1 ea;replace g0:=zd h.fr.bel g0;replace g1:=zd h.fr.bel g1;replace g2:=zd h.fr.bel g2;replace g3:=zd h.fr.bel g3;replace g4:=zd h.fr.bel g4;clear hi ea on0 on1;have hno:(j:Int)∉oT s:=NOT.out.resolve_right (by decide);have HNS:Hid ((j:Int)∉x.senders.map (·.1)):=xH1 (λhm=>by
   obtain⟨z,hz,e⟩:=xDl.1 hm;exact HT.out.ne (by rw[<-e];exact zdK HI.out z (by rw[<-HX.out];exact hz)))
  have HNG:Hid ((j:Int)∉x.getters):=xH1 (λhm=>HT.out.ne (xDl.2 ⟨((j:Int),9,((i2:Nat):Int),0),zbJ HI.out (by rw[<-HX.out];exact xQ1 (.inr (xDl.2 ⟨_,hm,rfl⟩))),rfl⟩));have HSAY:Hid (s.said.length<64):=xH1 (by have h1:=HR.out.said;have h2:=HF.out.sum32;omega);clear hno;go_upto_region 67 with fail;have cs:=h.fr.c9 3 rfl;have co:=h.fr.c3 1 rfl;rw[EA.out] at cs;go_wp2_with fail;refine(zgN x q.1.a q.2.1.a q.2.2.a q.1.n q.1.c q.2.1.n q.2.1.c q.2.2.n q.2.2.c j _ QL0.out.symm QL1.out.symm QL2.out.symm (h.fr.rd Q0.out) (h.fr.rd Q1.out) (h.fr.rd Q2.out) HOK.out.1 T6.out HNS.out HNG.out).mono ?_;rintro e w2 ⟨y,s1,s2,s3,z,l,val,how,hm2,rfl,hr1,hr2,hr3,hz,hb⟩;have bA:xW w2 (Go.World.alloc w2 (.cells #[.int .i64 y.room,.slice s1.a s1.n s1.c,.slice s2.a s2.n s2.c,.slice s3.a s3.n s3.c,.bool y.closed] 87)):=xA1;have hu:SlR v'.blks (Go.World.alloc w2 (.cells #[.int .i64 y.room,.slice s1.a s1.n s1.c,.slice s2.a s2.n s2.c,.slice s3.a s3.n s3.c,.bool y.closed] 87)) z (ints l) l.length:=(zdG h hz).below bA
  have hq:chnR _ (Go.World.alloc w2 (.cells #[.int .i64 y.room,.slice s1.a s1.n s1.c,.slice s2.a s2.n s2.c,.slice s3.a s3.n s3.c,.bool y.closed] 87)) y (s1,s2,s3):=⟨h.apart (hr1.below bA),h.apart (hr2.below bA),h.apart (hr3.below bA)⟩
  have kN:Blk (Go.World.alloc w2 (.cells #[.int .i64 y.room,.slice s1.a s1.n s1.c,.slice s2.a s2.n s2.c,.slice s3.a s3.n s3.c,.bool y.closed] 87)) w2.heap.size #[.int .i64 y.room,.slice s1.a s1.n s1.c,.slice s2.a s2.n s2.c,.slice s3.a s3.n s3.c,.bool y.closed] 87:=Blk.new _ _ _;replace h:=(h.call hb).call bA;clear cs co g0 g1 g2 g3 g4 hb bA hr1 hr2 hr3;go_upto_region 68 with fail;obtain⟨WA,hWA⟩:∃x,x=(Go.World.alloc w2 (.cells #[.int .i64 y.room,.slice s1.a s1.n s1.c,.slice s2.a s2.n s2.c,.slice s3.a s3.n s3.c,.bool y.closed] 87)):=⟨_,rfl⟩
  rw[<-hWA] at h kN hq hu⊢;clear hWA;clear hz;have HM:=xH1 hm2;have htg:=zh6 HF.out HI.out (t:=(j:Int)) (v:=val) (how:=how) (y:=y) (l:=l) (by rw[<-HX.out];exact hm2);have HTO:Hid (Told p s l):=xH1 htg.1;have HH0:=xH1 htg.2.1;have hhow:=htg.2.2;clear hm2 htg;obtain⟨gt,eg,hgm,j2,j2',h6,hP,fz0,⟨y0,cg0⟩,fz1,⟨y1,cg1⟩,fz2,⟨y2,cg2⟩,fz3,⟨y3,cg3⟩,fz4,⟨y4,cg4⟩⟩:=h.putf_ch HI.out (x:=y) (q:=(s1,s2,s3)) hq;have EG:=xH1 eg;have hu6:=(hu.touch hP (λb hb=>by obtain rfl:=xS1 hb;exact hgm)).drew;clear hgm hP hu;have qm:World.cell? _ ⟨M,11,none⟩=some (.slice v'.ch.a v'.ch.n v'.ch.c):=h.fr.cell 0 11 rfl rfl;rw[EG.out] at qm;have co:=h.fr.c3 1 rfl;have n0:=kN.cell 0 rfl;have n1:=kN.cell 1 rfl;have n2:=kN.cell 2 rfl;have n3:=kN.cell 3 rfl;have n4:=kN.cell 4 rfl;clear eg;go_wp2;go_still_tail 9,(by kernel_rfl)
  go_upto_region 69 with fail;obtain⟨W3,hw,h7⟩:=h6.drew.named;rw[<-hw];rw[<-hw] at hu6;clear h6 h hw kN co qm hq n0 fz0 cg0 n1 fz1 cg1 n2 fz2 cg2 n3 fz3 cg3 n4 fz4 cg4;go_wp2_with fail;refine(zaD w _ _ M u p v' _ _ false z.a z.n z.c l h7 HP.out HVS.out hu6 HTO.out.1 P8.out HTO.out.2 PL8.out).mono ?_;rintro e Wt ⟨rfl,h8,-⟩;clear h7 hu6;rcases hhow with rfl|rfl|rfl
  focus
   obtain rfl:=HH0.out rfl;have HE:Hid (zx p s j=zaN p (goAll p (setChn s i2 y) []) j false):=xH1 (by
    unfold zx;rw[<-HO.out];show doGet p s j ⟨9,((i2:Nat):Int),ar⟩=_;unfold doGet;dsimp only;rw[show((i2:Nat):Int).toNat=i2 from rfl,<-HX.out,HM.out];rfl)
   have PLB:Hid (∀i,0<=(goAll p (setChn s i2 y) []).places.getD i 0/\(goAll p (setChn s i2 y) []).places.getD i 0<=8):=xH1 PL8.out;go_wp2_with fail;refine(zbC w _ _ M u p v' _ _ false j _ h8 HP.out HVS.out (by rw[zaB,zbn];exact P8.out) (by have:=TT.out;rw[zaB];exact this) PLB.out).mono ?_;rintro e Wb ⟨rfl,h⟩;clear h8;obtain⟨vv,hvv⟩:∃x,x=v':=⟨_,rfl⟩
   rw[<-hvv] at h;clear hvv
  rotate_left
  focus
   have HE:Hid (zx p s j=zaN p (sayIt (goAll p (setChn s i2 y) l) val) j true):=xH1 (by
    unfold zx;rw[<-HO.out];show doGet p s j ⟨9,((i2:Nat):Int),ar⟩=_;unfold doGet;dsimp only;rw[show((i2:Nat):Int).toNat=i2 from rfl,<-HX.out,HM.out];exact(zc6 p (sayIt (setChn s i2 y) val) l [(j:Int)]).trans (by rw[zhp];rfl))
   have PLB:Hid (∀i,0<=(goAll p (setChn s i2 y) l).places.getD i 0/\(goAll p (setChn s i2 y) l).places.getD i 0<=8):=xH1 (le8 (s:=s) HST.out.fits (λi=>(PL8.out i).1) (λi=>(zaC l (setChn s i2 y) i).1) (λi=>by rw[HE.out];exact ze9 (p:=p) (sayIt (goAll p (setChn s i2 y) l) val) (j:Int) true i));have hsl:(goAll p (setChn s i2 y) l).said.length<64:=by rw[zaY];exact HSAY.out
   go_wp2_with fail;refine(ze2 w _ _ M u v' _ _ false val h8 hsl).mono ?_;rintro e Wa ⟨rfl,r,h9⟩;clear h8 hsl;go_wp2_with fail;refine(zbC w _ _ M u p {v' with sa:=r} _ _ false j _ h9 HP.out HVS.out (by show 0<(goAll p _ l).places.length/\(goAll p _ l).places.length<=8/\(goAll p _ l).places.length=(goAll p _ l).status.length;rw[zaB,zbn];exact P8.out) (by have:=TT.out;show 0<=(j:Int)/\(j:Int)<p.threads.length/\(j:Int)<((goAll p _ l).places.length:Int);rw[zaB];exact this) PLB.out).mono ?_;rintro e Wb ⟨rfl,h⟩;clear h9;obtain⟨vv,hvv⟩:∃x,x={v' with sa:=r}:=⟨_,rfl⟩
   rw[<-hvv] at h;clear hvv
  rotate_left
  focus
   have HE:Hid (zx p s j=zaN p (goAll p (setChn s i2 y) l) j true):=xH1 (by
    unfold zx;rw[<-HO.out];show doGet p s j ⟨9,((i2:Nat):Int),ar⟩=_;unfold doGet;dsimp only;rw[show((i2:Nat):Int).toNat=i2 from rfl,<-HX.out,HM.out];exact zc6 p _ l [(j:Int)])
   have PLB:Hid (∀i,0<=(goAll p (setChn s i2 y) l).places.getD i 0/\(goAll p (setChn s i2 y) l).places.getD i 0<=8):=xH1 (le8 (s:=s) HST.out.fits (λi=>(PL8.out i).1) (λi=>(zaC l (setChn s i2 y) i).1) (λi=>by rw[HE.out];exact ze9 (p:=p) (goAll p (setChn s i2 y) l) (j:Int) true i));go_wp2_with fail;refine(zbC w _ _ M u p v' _ _ false j _ h8 HP.out HVS.out (by rw[zaB,zbn];exact P8.out) (by have:=TT.out;rw[zaB];exact this) PLB.out).mono ?_;rintro e Wb ⟨rfl,h⟩;clear h8;obtain⟨vv,hvv⟩:∃x,x=v':=⟨_,rfl⟩
   rw[<-hvv] at h;clear hvv
  rotate_left
 rotate_left 3
 focus
  obtain⟨on0,on1⟩:=za7 HOV.out;rw[show zw p (10:Int)=p.rooms.length by unfold zw;rw[if_neg (by omega),if_neg (by omega),if_neg (by omega),if_neg (by omega),if_neg (by omega)]] at on1;dsimp only at on0 on1;obtain⟨i2,rfl⟩:∃z:Nat,on=z:=⟨on.toNat,by omega⟩
  have hi:i2<s.chans.length:=by rw[HF.out.nch];omega
  have HI:=xH1 hi;obtain⟨x,q,b1,o1,HX,ea,g0,g1,g2,g3,g4,Q0,QL0,QC0,Q1,QL1,QC1,Q2,QL2,QC2⟩:=HS.out.at_ch (j:=i2) hi;have HOK:=xH1 (HF.out.ch i2 hi);rw[<-HX.out] at HOK;have j0:(0:Int)<=(i2:Int):=by omega
  have j1:(i2:Int)<(v.ch.n:Int):=by rw[HS.out.ch.len];omega
  have EA:=xH1 ea;replace g0:=zd h.fr.bel g0;replace g1:=zd h.fr.bel g1;replace g2:=zd h.fr.bel g2;replace g3:=zd h.fr.bel g3;replace g4:=zd h.fr.bel g4;clear hi ea on0 on1;go_upto_region 74 with fail;have cs:=h.fr.c9 3 rfl;have co:=h.fr.c3 1 rfl;rw[EA.out] at cs;go_wp2_with fail;refine(zfO x q.1.a q.2.1.a q.2.2.a q.1.n q.1.c q.2.1.n q.2.1.c q.2.2.n q.2.2.c _ QL0.out.symm QL1.out.symm QL2.out.symm (h.fr.rd Q0.out) (h.fr.rd Q1.out) (h.fr.rd Q2.out) HOK.out.1).mono ?_;rintro e w2 ⟨y,s1,s2,s3,z,l,bb,hm2,rfl,hr1,hr2,hr3,hz,hb⟩;have bA:xW w2 (Go.World.alloc w2 (.cells #[.int .i64 y.room,.slice s1.a s1.n s1.c,.slice s2.a s2.n s2.c,.slice s3.a s3.n s3.c,.bool y.closed] 87)):=xA1;have hu:SlR v'.blks (Go.World.alloc w2 (.cells #[.int .i64 y.room,.slice s1.a s1.n s1.c,.slice s2.a s2.n s2.c,.slice s3.a s3.n s3.c,.bool y.closed] 87)) z (ints l) l.length:=(zdG h hz).below bA;have hq:chnR _ (Go.World.alloc w2 (.cells #[.int .i64 y.room,.slice s1.a s1.n s1.c,.slice s2.a s2.n s2.c,.slice s3.a s3.n s3.c,.bool y.closed] 87)) y (s1,s2,s3):=⟨h.apart (hr1.below bA),h.apart (hr2.below bA),h.apart (hr3.below bA)⟩
  have kN:Blk (Go.World.alloc w2 (.cells #[.int .i64 y.room,.slice s1.a s1.n s1.c,.slice s2.a s2.n s2.c,.slice s3.a s3.n s3.c,.bool y.closed] 87)) w2.heap.size #[.int .i64 y.room,.slice s1.a s1.n s1.c,.slice s2.a s2.n s2.c,.slice s3.a s3.n s3.c,.bool y.closed] 87:=Blk.new _ _ _;replace h:=(h.call hb).call bA;clear cs co g0 g1 g2 g3 g4 hb bA hr1 hr2 hr3;go_upto_region 75 with fail;obtain⟨WA,hWA⟩:∃x,x=(Go.World.alloc w2 (.cells #[.int .i64 y.room,.slice s1.a s1.n s1.c,.slice s2.a s2.n s2.c,.slice s3.a s3.n s3.c,.bool y.closed] 87)):=⟨_,rfl⟩
  rw[<-hWA] at h kN hq hu⊢;clear hWA;clear hz
  cases bb
  ·clear hu hq kN;rw[if_neg (by decide)] at hm2;have HE:Hid (zx p s j=zaW s 4):=xH1 (by
    unfold zx;rw[<-HO.out];show doClose p s j ⟨10,((i2:Nat):Int),ar⟩=_;unfold doClose;dsimp only;rw[show((i2:Nat):Int).toNat=i2 from rfl,<-HX.out,hm2])
   go_wp2_with fail;refine(zdn (w.heap.size+1) 4 v L s _ (h.fr.blk 3 rfl) (HS.out.below h.bel) HF.out.sm).mono ?_;rintro e Wc ⟨v2,L2,rfl,ho,hn,hb⟩;have HN2:=NewB.lower hn h.bel.size;have g:=Sf.gain h.fr ho hn hb;clear ho hn hb h;have cz:=g.c9 2 rfl;have g2:=g.setV 2 rfl v2;go_wp2;exact xDd (v:= .tuple #[v2.val,.bool true]) (by simp[results,Tryz.results63,go_sem,g2.c9 2 rfl]) rfl ⟨v2,L2,rfl,by rw[HE.out];exact g2.st.sub (by simp),HN2,g2.bel⟩
  rw[if_pos rfl] at hm2;have HE:Hid (zx p s j=goAll p (goAll p (setChn s i2 y) l) [(j:Int)]):=xH1 (by
   unfold zx;rw[<-HO.out];show doClose p s j ⟨10,((i2:Nat):Int),ar⟩=_;unfold doClose;dsimp only;rw[show((i2:Nat):Int).toNat=i2 from rfl,<-HX.out,hm2];exact zc6 p _ l [(j:Int)])
  have HTO:Hid (Told p s l):=xH1 (zgH HF.out HI.out (by rw[<-HX.out];exact hm2));have PLB:Hid (∀i,0<=(goAll p (setChn s i2 y) l).places.getD i 0/\(goAll p (setChn s i2 y) l).places.getD i 0<=8):=xH1 (le8 (s:=s) HST.out.fits (λi=>(PL8.out i).1) (λi=>(zaC l (setChn s i2 y) i).1) (λi=>by rw[HE.out];exact(zaC [(j:Int)] _ i).1));clear hm2;obtain⟨gt,eg,hgm,j2,j2',h6,hP,fz0,⟨y0,cg0⟩,fz1,⟨y1,cg1⟩,fz2,⟨y2,cg2⟩,fz3,⟨y3,cg3⟩,fz4,⟨y4,cg4⟩⟩:=h.putf_ch HI.out (x:=y) (q:=(s1,s2,s3)) hq;have EG:=xH1 eg;have hu6:=(hu.touch hP (λb hb=>by obtain rfl:=xS1 hb;exact hgm)).drew;clear hgm hP hu;have qm:World.cell? _ ⟨M,11,none⟩=some (.slice v'.ch.a v'.ch.n v'.ch.c):=h.fr.cell 0 11 rfl rfl;rw[EG.out] at qm;have co:=h.fr.c3 1 rfl;have n0:=kN.cell 0 rfl;have n1:=kN.cell 1 rfl;have n2:=kN.cell 2 rfl;have n3:=kN.cell 3 rfl;have n4:=kN.cell 4 rfl;clear eg;go_wp2;go_still_tail 9,(by kernel_rfl)
  go_upto_region 78 with fail;obtain⟨W3,hw,h7⟩:=h6.drew.named;rw[<-hw];rw[<-hw] at hu6;clear h6 h hw kN co qm hq n0 fz0 cg0 n1 fz1 cg1 n2 fz2 cg2 n3 fz3 cg3 n4 fz4 cg4;go_wp2_with fail;refine(zaD w _ _ M u p v' _ _ false z.a z.n z.c l h7 HP.out HVS.out hu6 HTO.out.1 P8.out HTO.out.2 PL8.out).mono ?_;rintro e Wt ⟨rfl,h8,-⟩;clear h7 hu6;have h2:=h8.alloc #[.int .i64 j] 3;have hw:SlR (StV.blks v') (World.alloc Wt (.cells #[.int .i64 j] 3)) ⟨some ⟨Wt.heap.size,0,none⟩,1,1⟩ (ints [(j:Int)]) [(j:Int)].length:=⟨rfl,Rd.of_blk (h2.fr.blk 0 rfl),.inr (λb hb hm=>by have h9:=(h8.st.from b hm).2;simp only[ze,xDn] at hb;omega),Nat.le_refl _⟩
  go_wp2_with fail;refine(zaD w _ _ M u p v' _ _ false _ 1 1 [(j:Int)] (h2.pull 1 rfl) HP.out HVS.out hw (by simp) (by rw[zaB,zbn];exact P8.out) (λz hz'=>by obtain rfl:=xS1 hz';exact(by have:=TT.out;rw[zaB];exact this)) PLB.out).mono ?_;rintro e Wb ⟨rfl,h3,-⟩;clear h2 hw h8;have h:=h3.sub (l':= .blk M (mC u v' false) 141:: .blk bo #[.int .i64 10,.int .i64 (i2:Int),.int .i64 ar] 113::sb3 w u v zC) (.cons_cons _ (.cons _ (.refl _)));clear h3;obtain⟨vv,hvv⟩:∃x,x=v':=⟨_,rfl⟩
  rw[<-hvv] at h;clear hvv
 rotate_left
 all_goals
  have q5:World.cell? _ ⟨M,5,none⟩=some (.slice vv.pl.a vv.pl.n vv.pl.c):=h.fr.cell 0 5 rfl rfl;have q6:World.cell? _ ⟨M,6,none⟩=some (.slice vv.st.a vv.st.n vv.st.c):=h.fr.cell 0 6 rfl rfl;have q7:World.cell? _ ⟨M,7,none⟩=some (.slice vv.se.a vv.se.n vv.se.c):=h.fr.cell 0 7 rfl rfl;have q8:World.cell? _ ⟨M,8,none⟩=some (.slice vv.on.a vv.on.n vv.on.c):=h.fr.cell 0 8 rfl rfl;have q9:World.cell? _ ⟨M,9,none⟩=some (.slice vv.gr.a vv.gr.n vv.gr.c):=h.fr.cell 0 9 rfl rfl;have q10:World.cell? _ ⟨M,10,none⟩=some (.slice vv.ba.a vv.ba.n vv.ba.c):=h.fr.cell 0 10 rfl rfl;have q11:World.cell? _ ⟨M,11,none⟩=some (.slice vv.ch.a vv.ch.n vv.ch.c):=h.fr.cell 0 11 rfl rfl;have q12:World.cell? _ ⟨M,12,none⟩=some (.slice vv.sa.a vv.sa.n vv.sa.c):=h.fr.cell 0 12 rfl rfl;have q13:World.cell? _ ⟨M,13,none⟩=some (.int .i64 vv.fl):=h.fr.cell 0 13 rfl rfl;have q14:World.cell? _ ⟨M,14,none⟩=some (.bool false):=h.fr.cell 0 14 rfl rfl;go_wp2_with fail;refine(zdk vv _ _ _ h.rd (by have h9:=HST.out.fits.sm;rw[HE.out] at h9;exact h9)).mono ?_;rintro e Wc ⟨v2,L2,rfl,ho,hn,hb⟩;have HN2:=NewB.lower hn h.bel.size;have g:=Sf.gain h.fr ho hn hb;clear ho hn hb h q5 q6 q7 q8 q9 q10 q11 q12 q13 q14;have cz:=g.c9 2 rfl
  have g2:=g.setV 2 rfl v2;go_wp2;exact xDd (v:= .tuple #[v2.val,.bool true]) (by simp[results,Tryz.results63,go_sem,g2.c9 2 rfl]) rfl ⟨v2,L2,rfl,by rw[HE.out];exact g2.st.sub (by simp),HN2,g2.bel⟩
end Go.Proofs.YtnlijgjpgdjpiaaGreat
