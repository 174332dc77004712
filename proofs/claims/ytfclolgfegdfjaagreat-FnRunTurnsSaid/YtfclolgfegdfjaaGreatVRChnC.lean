/- Part of a proof: RChnC. -/
import Derived.Test.YtfclolgfegdfjaaGreatVPRk
import Derived.Test.YtfclolgfegdfjaaGreatVPMRef
set_option maxRecDepth 100000
set_option maxHeartbeats 16000000
namespace Go.Proofs.YtfclolgfegdfjaaGreat
open Go.RowKit
theorem ZM (x:xi) (ai al ag:uQ) (ni ci nl cl ng cg:Nat) (w:World) (h1:x.items.length=ni) (h2:x.senders.length=nl) (h3:x.getters.length=ng) (n1:ni<=1048576) (n2:nl<=1048576) (n3:ng<=1048576) (r1:Rd w ai (zf x.items)) (r2:Rd w al (zK x.senders)) (r3:Rd w ag (zf x.getters)):
  Calls Tryz.prog 139 #[.agg #[uy x.room,.slice ai ni ci,.slice al nl cl,.slice ag ng cg,.bool x.closed]] w λe w'=>∃(bi bs bg:uQ) (di ds dg:Nat),e= .returned (.agg #[uy x.room,.slice bi ni di,.slice bs nl ds,.slice bg ng dg,.bool x.closed])/\Fr w w' [.row bi ni di 3 1 (zf x.items),.row bs nl ds 154 2 (zK x.senders),.row bg ng dg 3 1 (zf x.getters)]:=by
 have L1:=zd h1;have L2:=zd h2;have L3:=zd h3;clear h1 h2 h3;have F0:=((Fr.start w).alloc #[uy x.room,.slice ai ni ci,.slice al nl cl,.slice ag ng cg,.bool x.closed] 98).alloc #[uy 0,uk,uk,uk,.bool false] 98;simp only[yY] at F0;go_enter Tryz.func139,Tryz.ntmps139;go_wp2_with fail;obtain⟨u1,hu,F⟩:=F0.named;rw[<-hu];clear hu F0;apply dL 17 [nB,nB,Value.ownBlock,nB,nB,yQ ni,Value.ownBlock,nB,nB,yQ nl,Value.ownBlock,nB,nB,yQ ng] [.k _,.k _,.r (Zl u1.heap.size 3 1),.k _,.k _,.r (fm u1.heap.size 3 1 ni (zf x.items)),.r (Zl u1.heap.size 154 2),.k _,.k _,.r (fm u1.heap.size 154 2 nl (zK x.senders)),.r (Zl u1.heap.size 3 1),.k _,.k _,.r (fm u1.heap.size 3 1 ng (zf x.getters)),.k _,.k _,.r λds u _=>u= .agg ds.toArray] ⟨Xr,pK,Xr,pK,Xr,pK,λ_ _ _ _ _ h=>h,trivial⟩ ?s1 ?e1
 case s1=>
  repeat' apply And.intro
  all_goals first|trivial|(intro ρ w1 hG hfr hd;obtain⟨fc,ff⟩:=xu hfr;have f1:=hfr (.tmp 1) rfl;have F1:=F.call hG;have cs:=F1.c5 1 rfl)
  exact yj;exact yI;exact Dy;exact yj;exact yI
  ·have d:ρ (.tmp _)=_:=hd.2.1;exact px hG _ _ 23 rfl Tryz.underlying23 yb rfl jk hd.1 d (by rw[yG,L1.o,Nat.mul_one]) ((F.rd r1).below hG) (yA x.items) jq jk (λ_ _ h=>h)
  exact Dy;exact yj;exact yI
  ·have d:ρ (.tmp _)=_:=hd.2.1;exact px hG _ _ 96 rfl Tryz.underlying96 GA rfl jk hd.1 d (by rw[vZ,L2.o]) ((F.rd r2).below hG) (XZ x.senders) jq jk (λ_ _ h=>h)
  exact Dy;exact yj;exact yI
  ·have d:ρ (.tmp _)=_:=hd.2.1;exact px hG _ _ 23 rfl Tryz.underlying23 yb rfl jk hd.1 d (by rw[yG,L3.o,Nat.mul_one]) ((F.rd r3).below hG) (yA x.getters) jq jk (λ_ _ h=>h)
  exact yj;exact yI
  ·obtain⟨d0,⟨a1,c1,d1,-⟩,⟨a2,c2,d2,-⟩,⟨a3,c3,d3,-⟩,d4,-⟩:=hd;replace d0:ρ (.tmp 4)=_:=d0;replace d1:ρ (.tmp 8)=_:=d1;replace d2:ρ (.tmp 12)=_:=d2;replace d3:ρ (.tmp 16)=_:=d3;replace d4:ρ (.tmp 18)=_:=d4;refine PE hG (V:= .agg #[uy x.room,.slice a1 ni c1,.slice a2 nl c2,.slice a3 ng c3,.bool x.closed]) (by go_simp) ?_;show Value.agg _=Value.agg #[ρ (.tmp 4),ρ (.tmp 8),ρ (.tmp 12),ρ (.tmp 16),ρ (.tmp 18)];rw[d0,d1,d2,d3,d4]
 intro w2 hG;refine yv ?_;intro x2 h0 x5 i0 x6 j0 x9 k0 g0 b0 m0 c0 l0 f0 a0;obtain⟨a1,c1,rfl,o1,z1⟩:=i0;obtain⟨a2,c2,rfl,o2,z2⟩:=k0;obtain⟨a3,c3,rfl,o3,z3⟩:=c0;obtain rfl:l0= .agg #[uy x.room,.slice a1 ni c1,.slice a2 nl c2,.slice a3 ng c3,.bool x.closed]:=f0;have F2:=F.rows3 hG o1 o2 o3 (KW (e:=x2) (f:=x6) (a0 2 6 jv jv jk) (a0 2 9 jv jv jk) (a0 5 6 jv jv jk) (a0 5 9 jv jv jk) z1 z2) (KW (e:=x2) (f:=g0) (a0 2 10 jv jv jk) (a0 2 13 jv jv jk) (a0 5 10 jv jv jk) (a0 5 13 jv jv jk) z1 z3) (KW (e:=x6) (f:=g0) (a0 6 10 jv jv jk) (a0 6 13 jv jv jk) (a0 9 10 jv jv jk) (a0 9 13 jv jv jk) z2 z3);clear a0 h0 j0 b0 o1 o2 o3 z1 z2 z3 hG F;have cz:=F2.c5 3 rfl;have F3:=(F2.set5 3 rfl (uy x.room) (.slice a1 ni c1) (.slice a2 nl c2) (.slice a3 ng c3) (.bool x.closed))
 clear F2;go_wp2;exact zM (v:= .agg #[uy x.room,.slice a1 ni c1,.slice a2 nl c2,.slice a3 ng c3,.bool x.closed]) (by simp[results,Tryz.results139,go_sem,F3.c5 3 rfl]) rfl ⟨a1,a2,a3,c1,c2,c3,rfl,F3.sub jv⟩
end Go.Proofs.YtfclolgfegdfjaaGreat
