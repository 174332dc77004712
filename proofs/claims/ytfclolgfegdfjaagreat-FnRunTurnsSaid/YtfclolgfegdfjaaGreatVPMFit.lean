/- Part of a proof: MWaits MThread MFits MOn. -/
import Derived.Deep.Cut
import Derived.Test.YtfclolgfegdfjaaGreatVMQueued
set_option maxRecDepth 100000
set_option maxHeartbeats 16000000
namespace Go.Proofs.YtfclolgfegdfjaaGreat
open Go.RowKit Go.Sort
variable {w:World} {s:zp} {i:Nat} {p:Pg} {S:List Nat} {t:Int}
theorem Du {e:xq} (h:e∈yD s):
  (e.2.1=2/\∃i,i<s.sems.length/\e.2.2.1=i/\(e.1,e.2.2.2)∈(s.sems.getD i yi).queue)\/(e.2.1=4/\∃i,i<s.onces.length/\e.2.2.1=i/\e.1∈(s.onces.getD i zH).waits)\/
  (e.2.1=6/\∃i,i<s.groups.length/\e.2.2.1=i/\e.1∈(s.groups.getD i yH).waits)\/(e.2.1=7/\∃i,i<s.bars.length/\e.2.2.1=i/\e.1∈(s.bars.getD i ye).waits)\/
  (e.2.1=8/\∃i,i<s.chans.length/\e.2.2.1=i/\(e.1,e.2.2.2)∈(s.chans.getD i yq).senders)\/(e.2.1=9/\∃i,i<s.chans.length/\e.2.2.1=i/\e.1∈(s.chans.getD i yq).getters):=by
 unfold yD at h;rcases xM h with h|h
 ·obtain⟨i,hi,h⟩:=qD.1 h;obtain⟨w,hw,rfl⟩:=yU.1 h;exact .inl ⟨rfl,i,hi,rfl,hw⟩
 rcases xM h with h|h
 ·obtain⟨i,hi,h⟩:=qD.1 h;obtain⟨w,hw,rfl⟩:=yU.1 h;exact .inr (.inl ⟨rfl,i,hi,rfl,hw⟩)
 rcases xM h with h|h
 ·obtain⟨i,hi,h⟩:=qD.1 h;obtain⟨w,hw,rfl⟩:=yU.1 h;exact .inr (.inr (.inl ⟨rfl,i,hi,rfl,hw⟩))
 rcases xM h with h|h
 ·obtain⟨i,hi,h⟩:=qD.1 h;obtain⟨w,hw,rfl⟩:=yU.1 h;exact .inr (.inr (.inr (.inl ⟨rfl,i,hi,rfl,hw⟩)))
 ·obtain⟨i,hi,h⟩:=qD.1 h;rcases xM h with h|h
  ·obtain⟨w,hw,rfl⟩:=yU.1 h;exact .inr (.inr (.inr (.inr (.inl ⟨rfl,i,hi,rfl,hw⟩))))
  ·obtain⟨w,hw,rfl⟩:=yU.1 h;exact .inr (.inr (.inr (.inr (.inr ⟨rfl,i,hi,rfl,hw⟩))))
theorem J8 {l:List (Int×Int)} {c:Int} (hn:(l.map (·.1)).Nodup) (hm:(t,c)∈l):∃i:Nat,i<l.length/\yO (l.map (·.1)) t=i/\l.getD i (0,0)=(t,c):=by
 obtain⟨i,hi,e⟩:=List.mem_iff_getElem.1 hm;have e2:l.getD i (0,0)=(t,c):=by rw[xm,xV hi];exact e
 have e3:(l.map (·.1)).getD i 0=t:=by
  rw[xm,xV (by rw[yG];exact hi),List.getElem_map];show(l[i]).1=t;rw[e]
 refine⟨i,hi,JS (by rw[yG];exact hi) e3 (λj hj h=> ?_),e2⟩;exact Js hn (by rw[yG];exact hi) hj (h.trans e3.symm)
theorem GY (p:Pg) (v:zu) (L:zQ) (s:zp) (o:xA) (t:Int) (w:World) (hr:yZ w v L s) (hf:yp p s) (hw:Z3 o t∈yD s):
  Calls Tryz.prog 171 #[.agg #[.slice v.pl.a v.pl.n v.pl.c,.slice v.st.a v.st.n v.st.c,.slice v.se.a v.se.n v.se.c,.slice v.on.a v.on.n v.on.c,.slice v.gr.a v.gr.n v.gr.c,.slice v.ba.a v.ba.n v.ba.c,.slice v.ch.a v.ch.n v.ch.c,.slice v.sa.a v.sa.n v.sa.c,.int .i64 v.fl],.agg #[.int .i64 o.kind,.int .i64 o.on,.int .i64 o.arg],.int .i64 t] w λe w'=>e= .returned (.bool true)/\Below w.heap.size w w':=by
 have HS:=zd hr;have HF:=zd hf;obtain⟨kind,on,c0⟩:=o;have E0:=zd hr.se.len;have D0:=zd hr.on.len;have C0:=zd hr.gr.len;have A0:=zd hr.ba.len;have y0:=zd hr.ch.len;have hm:=Du hw;unfold Z3 at hm;dsimp only at hm;clear hr hf hw;rcases hm with ⟨rfl,i,hi,rfl,hq⟩|⟨rfl,i,hi,rfl,hq⟩|⟨rfl,i,hi,rfl,hq⟩|⟨rfl,i,hi,rfl,hq⟩|⟨rfl,i,hi,rfl,hq⟩|⟨rfl,i,hi,rfl,hq⟩
 ·have n0:(t,c0)∈(s.sems.getD i yi).queue:=by simpa using hq
  obtain⟨x,q,b1,o1,HX,ea,g0,g1,g2,Q0,j0,q0⟩:=HS.o.at_se (j:=i) hi;have b0:=(HF.o.se i hi).1;rw[<-HX.o] at b0 hq n0;obtain⟨W0,a0⟩:∃W0:World,W0=((w.alloc (.cells #[.slice v.pl.a v.pl.n v.pl.c,.slice v.st.a v.st.n v.st.c,.slice v.se.a v.se.n v.se.c,.slice v.on.a v.on.n v.on.c,.slice v.gr.a v.gr.n v.gr.c,.slice v.ba.a v.ba.n v.ba.c,.slice v.ch.a v.ch.n v.ch.c,.slice v.sa.a v.sa.n v.sa.c,.int .i64 v.fl] 38)).alloc (.cells #[.int .i64 2,.int .i64 i,.int .i64 c0] 68)):=⟨_,rfl⟩
  have B0:Below w.heap.size w W0:=by
   rw[a0];exact((xd.alloc (by simp) _).alloc (by simp) _)
  have kS:zm W0 (w.heap.size) #[.slice v.pl.a v.pl.n v.pl.c,.slice v.st.a v.st.n v.st.c,.slice v.se.a v.se.n v.se.c,.slice v.on.a v.on.n v.on.c,.slice v.gr.a v.gr.n v.gr.c,.slice v.ba.a v.ba.n v.ba.c,.slice v.ch.a v.ch.n v.ch.c,.slice v.sa.a v.sa.n v.sa.c,.int .i64 v.fl] 38:=by
   rw[a0];have h:=zm.new w #[.slice v.pl.a v.pl.n v.pl.c,.slice v.st.a v.st.n v.st.c,.slice v.se.a v.se.n v.se.c,.slice v.on.a v.on.n v.on.c,.slice v.gr.a v.gr.n v.gr.c,.slice v.ba.a v.ba.n v.ba.c,.slice v.ch.a v.ch.n v.ch.c,.slice v.sa.a v.sa.n v.sa.c,.int .i64 v.fl] 38;exact h|>.alloc _
  have kO:zm W0 (w.heap.size+1) #[.int .i64 2,.int .i64 i,.int .i64 c0] 68:=by
   rw[a0];have h:=zm.new (w.alloc (.cells #[.slice v.pl.a v.pl.n v.pl.c,.slice v.st.a v.st.n v.st.c,.slice v.se.a v.se.n v.se.c,.slice v.on.a v.on.n v.on.c,.slice v.gr.a v.gr.n v.gr.c,.slice v.ba.a v.ba.n v.ba.c,.slice v.ch.a v.ch.n v.ch.c,.slice v.sa.a v.sa.n v.sa.c,.int .i64 v.fl] 38)) #[.int .i64 2,.int .i64 i,.int .i64 c0] 68;simp only[World.size_alloc] at h;exact h
  have s0:W0.heap.size=w.heap.size+2:=by rw[a0];simp
  have cq:=kS.cell 2 rfl;have o0:=kO.cell 0 rfl;have p0:=kO.cell 1 rfl;have o2:=kO.cell 2 rfl;rw[ea] at cq;have HB:=zd B0;have i0:(0:Int)<=(i:Int):=by omega
  have i1:(i:Int)<v.se.n:=by have:=E0.o;omega
  replace g0:=ze B0 g0;replace g1:=ze B0 g1;replace g2:=ze B0 g2;replace Q0:=zd (Q0.o.below B0);clear kS kO ea hi B0;obtain⟨f,hf,u0,v0⟩:=J8 b0.2.2.2.1.2.2 n0;have h0:=b0.2.2.2.1.1;rw[List.length_map] at h0;have z6:q.n<=6:=by rw[j0.out];exact h0
  obtain⟨b3,o3,m0,hc⟩:=Q0.o.pair (by omega);have c2:=(hc f hf).2;rw[v0] at c2;dsimp only at c2;have k0:=zd u0;have f0:(0:Int)<=(f:Int):=by omega
  have f1:(f:Int)<(q.n:Int):=by have:=j0.out;omega
  have t0:(c0==c0)=true:=by simp
  rw[m0] at g2;clear hc v0 hq n0 b0 h0 u0;go_enter Tryz.func171,Tryz.ntmps171;go_upto_region 1 with fail;rw[<-a0];clear a0;go_wp2_with fail;refine(Vv (some ⟨b3,o3,none⟩) q.n q.c x.queue t _ j0.out.symm (by unfold maxLen;omega) (by rw[<-m0];exact Q0.o)).mono ?_;rintro e w1 ⟨rfl,l0⟩;have d0:=l0.symm;subst d0;rw[k0.out];clear m0 hf;go_wp2
  go_quiet (fail)
  go_wp2;go_ret;exact⟨rfl,below_drewN HB.o _⟩
 ·obtain⟨x,q,b1,o1,HX,ea,g0,g1,g2,g3,Q0,j0,q0⟩:=HS.o.at_on (j:=i) hi;have b0:=HF.o.on i hi;rw[<-HX.o] at b0 hq;obtain⟨W0,a0⟩:∃W0:World,W0=((w.alloc (.cells #[.slice v.pl.a v.pl.n v.pl.c,.slice v.st.a v.st.n v.st.c,.slice v.se.a v.se.n v.se.c,.slice v.on.a v.on.n v.on.c,.slice v.gr.a v.gr.n v.gr.c,.slice v.ba.a v.ba.n v.ba.c,.slice v.ch.a v.ch.n v.ch.c,.slice v.sa.a v.sa.n v.sa.c,.int .i64 v.fl] 38)).alloc (.cells #[.int .i64 4,.int .i64 i,.int .i64 c0] 68)):=⟨_,rfl⟩
  have B0:Below w.heap.size w W0:=by
   rw[a0];exact((xd.alloc (by simp) _).alloc (by simp) _)
  have kS:zm W0 (w.heap.size) #[.slice v.pl.a v.pl.n v.pl.c,.slice v.st.a v.st.n v.st.c,.slice v.se.a v.se.n v.se.c,.slice v.on.a v.on.n v.on.c,.slice v.gr.a v.gr.n v.gr.c,.slice v.ba.a v.ba.n v.ba.c,.slice v.ch.a v.ch.n v.ch.c,.slice v.sa.a v.sa.n v.sa.c,.int .i64 v.fl] 38:=by
   rw[a0];have h:=zm.new w #[.slice v.pl.a v.pl.n v.pl.c,.slice v.st.a v.st.n v.st.c,.slice v.se.a v.se.n v.se.c,.slice v.on.a v.on.n v.on.c,.slice v.gr.a v.gr.n v.gr.c,.slice v.ba.a v.ba.n v.ba.c,.slice v.ch.a v.ch.n v.ch.c,.slice v.sa.a v.sa.n v.sa.c,.int .i64 v.fl] 38;exact h|>.alloc _
  have kO:zm W0 (w.heap.size+1) #[.int .i64 4,.int .i64 i,.int .i64 c0] 68:=by
   rw[a0];have h:=zm.new (w.alloc (.cells #[.slice v.pl.a v.pl.n v.pl.c,.slice v.st.a v.st.n v.st.c,.slice v.se.a v.se.n v.se.c,.slice v.on.a v.on.n v.on.c,.slice v.gr.a v.gr.n v.gr.c,.slice v.ba.a v.ba.n v.ba.c,.slice v.ch.a v.ch.n v.ch.c,.slice v.sa.a v.sa.n v.sa.c,.int .i64 v.fl] 38)) #[.int .i64 4,.int .i64 i,.int .i64 c0] 68;simp only[World.size_alloc] at h;exact h
  have s0:W0.heap.size=w.heap.size+2:=by rw[a0];simp
  have cq:=kS.cell 3 rfl;have o0:=kO.cell 0 rfl;have p0:=kO.cell 1 rfl;have o2:=kO.cell 2 rfl;rw[ea] at cq;have HB:=zd B0;have i0:(0:Int)<=(i:Int):=by omega
  have i1:(i:Int)<v.on.n:=by have:=D0.o;omega
  replace g0:=ze B0 g0;replace g1:=ze B0 g1;replace g2:=ze B0 g2;replace g3:=ze B0 g3;replace Q0:=zd (Q0.o.below B0);clear kS kO ea hi B0;have h0:x.waits.length<=6:=by
   rcases b0 with ⟨-,-,-,h⟩|⟨-,-,-,h,-⟩|⟨-,-,-,h⟩
   ·rw[h];simp
   ·exact h.1
   ·rw[h];simp
  have z6:q.n<=6:=by rw[j0.out];exact h0
  obtain⟨f,hf⟩:∃f,f=yO x.waits t:=⟨_,rfl⟩
  have f0:0<=f:=by rw[hf];exact(vE hq).1
  have k0:=zd hf;clear b0 hq h0 hf;go_enter Tryz.func171,Tryz.ntmps171;go_upto_region 1 with fail;rw[<-a0];clear a0;go_wp2_with fail;refine(jM q.a q.n q.c x.waits t _ j0.out.symm (by unfold maxLen;omega) Q0.o).mono ?_;rintro e w2 ⟨rfl,l0⟩;have d0:=l0.symm;subst d0;rw[<-k0.out];go_wp2;go_ret;exact⟨rfl,HB.o⟩
 ·obtain⟨x,q,b1,o1,HX,ea,g0,g1,Q0,j0,q0⟩:=HS.o.at_gr (j:=i) hi;have b0:=HF.o.gr i hi;rw[<-HX.o] at b0 hq;obtain⟨W0,a0⟩:∃W0:World,W0=((w.alloc (.cells #[.slice v.pl.a v.pl.n v.pl.c,.slice v.st.a v.st.n v.st.c,.slice v.se.a v.se.n v.se.c,.slice v.on.a v.on.n v.on.c,.slice v.gr.a v.gr.n v.gr.c,.slice v.ba.a v.ba.n v.ba.c,.slice v.ch.a v.ch.n v.ch.c,.slice v.sa.a v.sa.n v.sa.c,.int .i64 v.fl] 38)).alloc (.cells #[.int .i64 6,.int .i64 i,.int .i64 c0] 68)):=⟨_,rfl⟩
  have B0:Below w.heap.size w W0:=by
   rw[a0];exact((xd.alloc (by simp) _).alloc (by simp) _)
  have kS:zm W0 (w.heap.size) #[.slice v.pl.a v.pl.n v.pl.c,.slice v.st.a v.st.n v.st.c,.slice v.se.a v.se.n v.se.c,.slice v.on.a v.on.n v.on.c,.slice v.gr.a v.gr.n v.gr.c,.slice v.ba.a v.ba.n v.ba.c,.slice v.ch.a v.ch.n v.ch.c,.slice v.sa.a v.sa.n v.sa.c,.int .i64 v.fl] 38:=by
   rw[a0];have h:=zm.new w #[.slice v.pl.a v.pl.n v.pl.c,.slice v.st.a v.st.n v.st.c,.slice v.se.a v.se.n v.se.c,.slice v.on.a v.on.n v.on.c,.slice v.gr.a v.gr.n v.gr.c,.slice v.ba.a v.ba.n v.ba.c,.slice v.ch.a v.ch.n v.ch.c,.slice v.sa.a v.sa.n v.sa.c,.int .i64 v.fl] 38;exact h|>.alloc _
  have kO:zm W0 (w.heap.size+1) #[.int .i64 6,.int .i64 i,.int .i64 c0] 68:=by
   rw[a0];have h:=zm.new (w.alloc (.cells #[.slice v.pl.a v.pl.n v.pl.c,.slice v.st.a v.st.n v.st.c,.slice v.se.a v.se.n v.se.c,.slice v.on.a v.on.n v.on.c,.slice v.gr.a v.gr.n v.gr.c,.slice v.ba.a v.ba.n v.ba.c,.slice v.ch.a v.ch.n v.ch.c,.slice v.sa.a v.sa.n v.sa.c,.int .i64 v.fl] 38)) #[.int .i64 6,.int .i64 i,.int .i64 c0] 68;simp only[World.size_alloc] at h;exact h
  have s0:W0.heap.size=w.heap.size+2:=by rw[a0];simp
  have cq:=kS.cell 4 rfl;have o0:=kO.cell 0 rfl;have p0:=kO.cell 1 rfl;have o2:=kO.cell 2 rfl;rw[ea] at cq;have HB:=zd B0;have i0:(0:Int)<=(i:Int):=by omega
  have i1:(i:Int)<v.gr.n:=by have:=C0.o;omega
  replace g0:=ze B0 g0;replace g1:=ze B0 g1;replace Q0:=zd (Q0.o.below B0);clear kS kO ea hi B0;have h0:x.waits.length<=6:=b0.2.1.1;have z6:q.n<=6:=by rw[j0.out];exact h0
  obtain⟨f,hf⟩:∃f,f=yO x.waits t:=⟨_,rfl⟩
  have f0:0<=f:=by rw[hf];exact(vE hq).1
  have k0:=zd hf;clear b0 hq h0 hf;go_enter Tryz.func171,Tryz.ntmps171;go_upto_region 1 with fail;rw[<-a0];clear a0;go_wp2_with fail;refine(jM q.a q.n q.c x.waits t _ j0.out.symm (by unfold maxLen;omega) Q0.o).mono ?_;rintro e w2 ⟨rfl,l0⟩;have d0:=l0.symm;subst d0;rw[<-k0.out];go_wp2;go_ret;exact⟨rfl,HB.o⟩
 ·obtain⟨x,q,b1,o1,HX,ea,g0,g1,g2,Q0,j0,q0⟩:=HS.o.at_ba (j:=i) hi;have b0:=(HF.o.ba i hi).1;rw[<-HX.o] at b0 hq;obtain⟨W0,a0⟩:∃W0:World,W0=((w.alloc (.cells #[.slice v.pl.a v.pl.n v.pl.c,.slice v.st.a v.st.n v.st.c,.slice v.se.a v.se.n v.se.c,.slice v.on.a v.on.n v.on.c,.slice v.gr.a v.gr.n v.gr.c,.slice v.ba.a v.ba.n v.ba.c,.slice v.ch.a v.ch.n v.ch.c,.slice v.sa.a v.sa.n v.sa.c,.int .i64 v.fl] 38)).alloc (.cells #[.int .i64 7,.int .i64 i,.int .i64 c0] 68)):=⟨_,rfl⟩
  have B0:Below w.heap.size w W0:=by
   rw[a0];exact((xd.alloc (by simp) _).alloc (by simp) _)
  have kS:zm W0 (w.heap.size) #[.slice v.pl.a v.pl.n v.pl.c,.slice v.st.a v.st.n v.st.c,.slice v.se.a v.se.n v.se.c,.slice v.on.a v.on.n v.on.c,.slice v.gr.a v.gr.n v.gr.c,.slice v.ba.a v.ba.n v.ba.c,.slice v.ch.a v.ch.n v.ch.c,.slice v.sa.a v.sa.n v.sa.c,.int .i64 v.fl] 38:=by
   rw[a0];have h:=zm.new w #[.slice v.pl.a v.pl.n v.pl.c,.slice v.st.a v.st.n v.st.c,.slice v.se.a v.se.n v.se.c,.slice v.on.a v.on.n v.on.c,.slice v.gr.a v.gr.n v.gr.c,.slice v.ba.a v.ba.n v.ba.c,.slice v.ch.a v.ch.n v.ch.c,.slice v.sa.a v.sa.n v.sa.c,.int .i64 v.fl] 38;exact h|>.alloc _
  have kO:zm W0 (w.heap.size+1) #[.int .i64 7,.int .i64 i,.int .i64 c0] 68:=by
   rw[a0];have h:=zm.new (w.alloc (.cells #[.slice v.pl.a v.pl.n v.pl.c,.slice v.st.a v.st.n v.st.c,.slice v.se.a v.se.n v.se.c,.slice v.on.a v.on.n v.on.c,.slice v.gr.a v.gr.n v.gr.c,.slice v.ba.a v.ba.n v.ba.c,.slice v.ch.a v.ch.n v.ch.c,.slice v.sa.a v.sa.n v.sa.c,.int .i64 v.fl] 38)) #[.int .i64 7,.int .i64 i,.int .i64 c0] 68;simp only[World.size_alloc] at h;exact h
  have s0:W0.heap.size=w.heap.size+2:=by rw[a0];simp
  have cq:=kS.cell 5 rfl;have o0:=kO.cell 0 rfl;have p0:=kO.cell 1 rfl;have o2:=kO.cell 2 rfl;rw[ea] at cq;have HB:=zd B0;have i0:(0:Int)<=(i:Int):=by omega
  have i1:(i:Int)<v.ba.n:=by have:=A0.o;omega
  replace g0:=ze B0 g0;replace g1:=ze B0 g1;replace g2:=ze B0 g2;replace Q0:=zd (Q0.o.below B0);clear kS kO ea hi B0;have h0:x.waits.length<=6:=b0.2.2.1.1;have z6:q.n<=6:=by rw[j0.out];exact h0
  obtain⟨f,hf⟩:∃f,f=yO x.waits t:=⟨_,rfl⟩
  have f0:0<=f:=by rw[hf];exact(vE hq).1
  have k0:=zd hf;clear b0 hq h0 hf;go_enter Tryz.func171,Tryz.ntmps171;go_upto_region 1 with fail;rw[<-a0];clear a0;go_wp2_with fail;refine(jM q.a q.n q.c x.waits t _ j0.out.symm (by unfold maxLen;omega) Q0.o).mono ?_;rintro e w2 ⟨rfl,l0⟩;have d0:=l0.symm;subst d0;rw[<-k0.out];go_wp2;go_ret;exact⟨rfl,HB.o⟩
 ·have n0:(t,c0)∈(s.chans.getD i yq).senders:=by simpa using hq
  obtain⟨x,q,b1,o1,HX,ea,g0,g1,g2,g3,g4,Q0,j0,q0,Q1,r0,F0,Q2,x0,G0⟩:=HS.o.at_ch (j:=i) hi;have b0:=(HF.o.ch i hi).1;rw[<-HX.o] at b0 hq n0;obtain⟨W0,a0⟩:∃W0:World,W0=((w.alloc (.cells #[.slice v.pl.a v.pl.n v.pl.c,.slice v.st.a v.st.n v.st.c,.slice v.se.a v.se.n v.se.c,.slice v.on.a v.on.n v.on.c,.slice v.gr.a v.gr.n v.gr.c,.slice v.ba.a v.ba.n v.ba.c,.slice v.ch.a v.ch.n v.ch.c,.slice v.sa.a v.sa.n v.sa.c,.int .i64 v.fl] 38)).alloc (.cells #[.int .i64 8,.int .i64 i,.int .i64 c0] 68)):=⟨_,rfl⟩
  have B0:Below w.heap.size w W0:=by
   rw[a0];exact((xd.alloc (by simp) _).alloc (by simp) _)
  have kS:zm W0 (w.heap.size) #[.slice v.pl.a v.pl.n v.pl.c,.slice v.st.a v.st.n v.st.c,.slice v.se.a v.se.n v.se.c,.slice v.on.a v.on.n v.on.c,.slice v.gr.a v.gr.n v.gr.c,.slice v.ba.a v.ba.n v.ba.c,.slice v.ch.a v.ch.n v.ch.c,.slice v.sa.a v.sa.n v.sa.c,.int .i64 v.fl] 38:=by
   rw[a0];have h:=zm.new w #[.slice v.pl.a v.pl.n v.pl.c,.slice v.st.a v.st.n v.st.c,.slice v.se.a v.se.n v.se.c,.slice v.on.a v.on.n v.on.c,.slice v.gr.a v.gr.n v.gr.c,.slice v.ba.a v.ba.n v.ba.c,.slice v.ch.a v.ch.n v.ch.c,.slice v.sa.a v.sa.n v.sa.c,.int .i64 v.fl] 38;exact h|>.alloc _
  have kO:zm W0 (w.heap.size+1) #[.int .i64 8,.int .i64 i,.int .i64 c0] 68:=by
   rw[a0];have h:=zm.new (w.alloc (.cells #[.slice v.pl.a v.pl.n v.pl.c,.slice v.st.a v.st.n v.st.c,.slice v.se.a v.se.n v.se.c,.slice v.on.a v.on.n v.on.c,.slice v.gr.a v.gr.n v.gr.c,.slice v.ba.a v.ba.n v.ba.c,.slice v.ch.a v.ch.n v.ch.c,.slice v.sa.a v.sa.n v.sa.c,.int .i64 v.fl] 38)) #[.int .i64 8,.int .i64 i,.int .i64 c0] 68;simp only[World.size_alloc] at h;exact h
  have s0:W0.heap.size=w.heap.size+2:=by rw[a0];simp
  have cq:=kS.cell 6 rfl;have o0:=kO.cell 0 rfl;have p0:=kO.cell 1 rfl;have o2:=kO.cell 2 rfl;rw[ea] at cq;have HB:=zd B0;have i0:(0:Int)<=(i:Int):=by omega
  have i1:(i:Int)<v.ch.n:=by have:=y0.out;omega
  replace g0:=ze B0 g0;replace g1:=ze B0 g1;replace g2:=ze B0 g2;replace g3:=ze B0 g3;replace g4:=ze B0 g4;replace Q0:=zd (Q0.o.below B0);replace Q1:=zd (Q1.o.below B0);replace Q2:=zd (Q2.o.below B0);clear kS kO ea hi B0;obtain⟨f,hf,u0,v0⟩:=J8 (List.nodup_append.1 (by have:=b0.2.2.2.2.1.2.2;exact this)).1 n0;have h0:=b0.2.2.2.2.1.1;rw[List.length_append,List.length_map] at h0;have z6:q.2.1.n<=6:=by rw[r0.out];omega
  obtain⟨b3,o3,m0,hc⟩:=Q1.o.pair (by omega);have c2:=(hc f hf).2;rw[v0] at c2;dsimp only at c2;have k0:=zd u0;have f0:(0:Int)<=(f:Int):=by omega
  have f1:(f:Int)<(q.2.1.n:Int):=by have:=r0.out;omega
  have t0:(c0==c0)=true:=by simp
  rw[m0] at g2;clear hc v0 hq n0 b0 h0 u0;go_enter Tryz.func171,Tryz.ntmps171;go_upto_region 1 with fail;rw[<-a0];clear a0;go_wp2_with fail;refine(Zv x.senders (some ⟨b3,o3,none⟩) q.2.1.n q.2.1.c _ r0.out.symm (by omega) (by rw[<-m0];exact Q1.o)).mono ?_;rintro e w1 ⟨a4,c4,rfl,ho,hb⟩;have HO:=zd (Rd.of_owns ho);have z0:=zd (HB.o.trans (hb.mono HB.o.size));replace cq:=ze hb cq;replace o0:=ze hb o0;replace p0:=ze hb p0;replace o2:=ze hb o2;replace g2:=ze hb g2;replace c2:=ze hb c2;clear ho hb m0 hf HB g0 g1 g3 g4;go_wp2_with fail;refine(jM a4 q.2.1.n c4 (x.senders.map (·.1)) t _ (by rw[List.length_map,r0.out]) (by unfold maxLen;omega) HO.o).mono ?_;rintro e w2 ⟨rfl,l0⟩;have d0:=l0.symm;subst d0;rw[k0.out];go_wp2
  go_quiet (fail)
  go_wp2;go_ret;exact⟨rfl,below_drewN z0.out _⟩
 ·obtain⟨x,q,b1,o1,HX,ea,g0,g1,g2,g3,g4,Q0,j0,q0,Q1,r0,F0,Q2,x0,G0⟩:=HS.o.at_ch (j:=i) hi;have b0:=(HF.o.ch i hi).1;rw[<-HX.o] at b0 hq;obtain⟨W0,a0⟩:∃W0:World,W0=((w.alloc (.cells #[.slice v.pl.a v.pl.n v.pl.c,.slice v.st.a v.st.n v.st.c,.slice v.se.a v.se.n v.se.c,.slice v.on.a v.on.n v.on.c,.slice v.gr.a v.gr.n v.gr.c,.slice v.ba.a v.ba.n v.ba.c,.slice v.ch.a v.ch.n v.ch.c,.slice v.sa.a v.sa.n v.sa.c,.int .i64 v.fl] 38)).alloc (.cells #[.int .i64 9,.int .i64 i,.int .i64 c0] 68)):=⟨_,rfl⟩
  have B0:Below w.heap.size w W0:=by
   rw[a0];exact((xd.alloc (by simp) _).alloc (by simp) _)
  have kS:zm W0 (w.heap.size) #[.slice v.pl.a v.pl.n v.pl.c,.slice v.st.a v.st.n v.st.c,.slice v.se.a v.se.n v.se.c,.slice v.on.a v.on.n v.on.c,.slice v.gr.a v.gr.n v.gr.c,.slice v.ba.a v.ba.n v.ba.c,.slice v.ch.a v.ch.n v.ch.c,.slice v.sa.a v.sa.n v.sa.c,.int .i64 v.fl] 38:=by
   rw[a0];have h:=zm.new w #[.slice v.pl.a v.pl.n v.pl.c,.slice v.st.a v.st.n v.st.c,.slice v.se.a v.se.n v.se.c,.slice v.on.a v.on.n v.on.c,.slice v.gr.a v.gr.n v.gr.c,.slice v.ba.a v.ba.n v.ba.c,.slice v.ch.a v.ch.n v.ch.c,.slice v.sa.a v.sa.n v.sa.c,.int .i64 v.fl] 38;exact h|>.alloc _
  have kO:zm W0 (w.heap.size+1) #[.int .i64 9,.int .i64 i,.int .i64 c0] 68:=by
   rw[a0];have h:=zm.new (w.alloc (.cells #[.slice v.pl.a v.pl.n v.pl.c,.slice v.st.a v.st.n v.st.c,.slice v.se.a v.se.n v.se.c,.slice v.on.a v.on.n v.on.c,.slice v.gr.a v.gr.n v.gr.c,.slice v.ba.a v.ba.n v.ba.c,.slice v.ch.a v.ch.n v.ch.c,.slice v.sa.a v.sa.n v.sa.c,.int .i64 v.fl] 38)) #[.int .i64 9,.int .i64 i,.int .i64 c0] 68;simp only[World.size_alloc] at h;exact h
  have s0:W0.heap.size=w.heap.size+2:=by rw[a0];simp
  have cq:=kS.cell 6 rfl;have o0:=kO.cell 0 rfl;have p0:=kO.cell 1 rfl;have o2:=kO.cell 2 rfl;rw[ea] at cq;have HB:=zd B0;have i0:(0:Int)<=(i:Int):=by omega
  have i1:(i:Int)<v.ch.n:=by have:=y0.out;omega
  replace g0:=ze B0 g0;replace g1:=ze B0 g1;replace g2:=ze B0 g2;replace g3:=ze B0 g3;replace g4:=ze B0 g4;replace Q0:=zd (Q0.o.below B0);replace Q1:=zd (Q1.o.below B0);replace Q2:=zd (Q2.o.below B0);clear kS kO ea hi B0;have h0:x.getters.length<=6:=by
   have:=b0.2.2.2.2.1.1;rw[List.length_append] at this;omega
  have z6:q.2.2.n<=6:=by rw[x0.out];exact h0
  obtain⟨f,hf⟩:∃f,f=yO x.getters t:=⟨_,rfl⟩
  have f0:0<=f:=by rw[hf];exact(vE hq).1
  have k0:=zd hf;clear b0 hq h0 hf;go_enter Tryz.func171,Tryz.ntmps171;go_upto_region 1 with fail;rw[<-a0];clear a0;go_wp2_with fail;refine(jM q.2.2.a q.2.2.n q.2.2.c x.getters t _ x0.out.symm (by unfold maxLen;omega) Q2.o).mono ?_;rintro e w2 ⟨rfl,l0⟩;have d0:=l0.symm;subst d0;rw[<-k0.out];go_wp2;go_ret;exact⟨rfl,HB.o⟩
theorem Gb (u:PV) (p:Pg) (v:zu) (L:zQ) (s:zp) (t:Nat) (w:World) (hp:yK w u p) (hr:yZ w v L s) (hf:yp p s) (ht:t<p.threads.length):
  Calls Tryz.prog 143 #[.agg #[.slice u.s u.ns u.cs,.slice u.g u.ng u.cg,.slice u.b u.nb u.cb,.slice u.r u.nr u.cr,.slice u.t u.nt u.ct],.agg #[.slice v.pl.a v.pl.n v.pl.c,.slice v.st.a v.st.n v.st.c,.slice v.se.a v.se.n v.se.c,.slice v.on.a v.on.n v.on.c,.slice v.gr.a v.gr.n v.gr.c,.slice v.ba.a v.ba.n v.ba.c,.slice v.ch.a v.ch.n v.ch.c,.slice v.sa.a v.sa.n v.sa.c,.int .i64 v.fl],.int .i64 t,.int .i64 ((eT s).count (t:Int):Nat)] w λe w'=>e= .returned (.bool true)/\Below w.heap.size w w':=by
 have HS:=zd hr;have HF:=zd hf;have LT:=zd hp.lt;have j1:=zd hr.pl.len;have l1:=zd hr.st.len;have Z0:=zd hr.on.len;obtain⟨z1,z2,z3,z4,⟨z5,z6⟩,z7⟩:=yf hf.prog;obtain⟨bp,op,z0,G0⟩:=hr.pl.rd.int (by rw[hf.np];omega);obtain⟨bs,os,A0,H0⟩:=hr.st.rd.int (by rw[hf.nst];omega);obtain⟨bt,ot,et,I0⟩:=hp.thr (by omega);obtain⟨a2,x2,ct,r2⟩:=I0 t ht;have y0:=G0 t (by rw[hf.np];exact ht);have j0:=H0 t (by rw[hf.nst];exact ht);have i1:=z7 t;have b0:=hf.th t ht;have e1:((t:Nat):Int).toNat=t:=by simp
 unfold JF at b0;rw[e1,qW] at b0;obtain⟨pl,f0⟩:∃x,x=s.places.getD t 0:=⟨_,rfl⟩
 obtain⟨sx,p0⟩:∃x,x=s.status.getD t 0:=⟨_,rfl⟩
 obtain⟨m,em⟩:∃m,m=(p.threads.getD t []).length:=⟨_,rfl⟩
 rw[<-f0] at y0 b0;rw[<-p0] at j0 b0;rw[<-em] at ct i1 b0;have x0:=zd f0;have HM:=zd em;have HT:=zd ht;have npl:v.pl.n=u.nt:=by rw[hr.pl.len,hf.np,hp.lt]
 have nst:v.st.n=u.nt:=by rw[hr.st.len,hf.nst,hp.lt]
 have t0:(0:Int)<=(t:Int):=by omega
 have t1:(t:Int)<(u.nt:Int):=by rw[<-hp.lt];omega
 have t2:(t:Int)<(v.pl.n:Int):=by rw[npl];exact t1
 have t3:(t:Int)<(v.st.n:Int):=by rw[nst];exact t1
 have z8:u.nt<=4:=by rw[<-hp.lt];exact z6
 clear hp hr hf ht G0 H0 I0 z1 z2 z3 z4 z5 z6 z7 e1 npl nst f0 p0 em;obtain⟨W0,c0⟩:∃W0:World,W0=((w.alloc (.cells #[.slice u.s u.ns u.cs,.slice u.g u.ng u.cg,.slice u.b u.nb u.cb,.slice u.r u.nr u.cr,.slice u.t u.nt u.ct] 26)).alloc (.cells #[.slice v.pl.a v.pl.n v.pl.c,.slice v.st.a v.st.n v.st.c,.slice v.se.a v.se.n v.se.c,.slice v.on.a v.on.n v.on.c,.slice v.gr.a v.gr.n v.gr.c,.slice v.ba.a v.ba.n v.ba.c,.slice v.ch.a v.ch.n v.ch.c,.slice v.sa.a v.sa.n v.sa.c,.int .i64 v.fl] 38)):=⟨_,rfl⟩
 have B0:Below w.heap.size w W0:=by
  rw[c0];exact((xd.alloc (by simp) _).alloc (by simp) _)
 have kP:zm W0 (w.heap.size) #[.slice u.s u.ns u.cs,.slice u.g u.ng u.cg,.slice u.b u.nb u.cb,.slice u.r u.nr u.cr,.slice u.t u.nt u.ct] 26:=by
  rw[c0];have h:=zm.new w #[.slice u.s u.ns u.cs,.slice u.g u.ng u.cg,.slice u.b u.nb u.cb,.slice u.r u.nr u.cr,.slice u.t u.nt u.ct] 26;exact h|>.alloc _
 have kS:zm W0 (w.heap.size+1) #[.slice v.pl.a v.pl.n v.pl.c,.slice v.st.a v.st.n v.st.c,.slice v.se.a v.se.n v.se.c,.slice v.on.a v.on.n v.on.c,.slice v.gr.a v.gr.n v.gr.c,.slice v.ba.a v.ba.n v.ba.c,.slice v.ch.a v.ch.n v.ch.c,.slice v.sa.a v.sa.n v.sa.c,.int .i64 v.fl] 38:=by
  rw[c0];have h:=zm.new (w.alloc (.cells #[.slice u.s u.ns u.cs,.slice u.g u.ng u.cg,.slice u.b u.nb u.cb,.slice u.r u.nr u.cr,.slice u.t u.nt u.ct] 26)) #[.slice v.pl.a v.pl.n v.pl.c,.slice v.st.a v.st.n v.st.c,.slice v.se.a v.se.n v.se.c,.slice v.on.a v.on.n v.on.c,.slice v.gr.a v.gr.n v.gr.c,.slice v.ba.a v.ba.n v.ba.c,.slice v.ch.a v.ch.n v.ch.c,.slice v.sa.a v.sa.n v.sa.c,.int .i64 v.fl] 38;simp only[World.size_alloc] at h;exact h
 have C0:W0.heap.size=w.heap.size+2:=by rw[c0];simp
 have p4:=kP.cell 4 rfl;have q0:=kS.cell 0 rfl;have q1:=kS.cell 1 rfl;have q2:=kS.cell 2 rfl;have q3:=kS.cell 3 rfl;have q4:=kS.cell 4 rfl;have q5:=kS.cell 5 rfl;have q6:=kS.cell 6 rfl;have q7:=kS.cell 7 rfl;have q8:=kS.cell 8 rfl;have HB:=zd B0;rw[et] at p4;rw[z0] at q0;rw[A0] at q1;replace ct:=ze B0 ct;replace y0:=ze B0 y0;replace j0:=ze B0 j0;have R2:=zd (r2.below B0);have E0:=zd (HS.o.below B0);have Y0:uH (∀W,yZ W v L s->yZ W ⟨⟨some ⟨bp,op,none⟩,v.pl.n,v.pl.c⟩,⟨some ⟨bs,os,none⟩,v.st.n,v.st.c⟩,v.se,v.on,v.gr,v.ba,v.ch,v.sa,v.fl⟩ L s):=zd (by intro W h;rw[<-z0,<-A0];exact h);clear kP kS B0 r2 et z0 A0 HS;obtain⟨h0,h1,hc⟩:=b0;rcases hc with ⟨c1,c2,c3,c4⟩|⟨c1,⟨c2,c3,c4⟩|⟨c2,c3,c4⟩|⟨c2,c3,c4,c5⟩⟩
 ·have HN:uH ((eT s).count (t:Int)=0):=zd (List.count_eq_zero.2 c3);rw[HN.o];subst c1 c2;have t4:((m:Int)==(m:Int))=true:=by simp
  clear c3 c4 h0 h1;go_enter Tryz.func143,Tryz.ntmps143;go_upto_region 1 with fail;rw[<-c0];clear c0;go_wp2;go_ret;exact⟨rfl,HB.o⟩
 ·have HN:uH ((eT s).count (t:Int)=0):=zd (List.count_eq_zero.2 c3);rw[HN.o];subst c2;obtain⟨b2,o2,o0,d0⟩:=R2.o.op (by have:=HM.o;omega);obtain⟨k0,l0,m0⟩:=d0 pl.toNat (by have:=HM.o;omega)
  obtain⟨o,ho⟩:∃o,o=(p.threads.getD t []).getD pl.toNat qf:=⟨_,rfl⟩
  have r0:ya p s t=o:=by unfold ya;rw[qW,show((t:Nat):Int).toNat=t by simp,<-x0.out,ho]
  rw[<-ho] at k0 l0 m0;subst o0;have t4:(pl==(m:Int))=false:=by simp;omega
  clear d0 ho;have bA:Below W0.heap.size W0 (W0.alloc (.cells #[.int .i64 o.kind,.int .i64 o.on,.int .i64 o.arg] 68)):=zY;have kA:zm (W0.alloc (.cells #[.int .i64 o.kind,.int .i64 o.on,.int .i64 o.arg] 68)) W0.heap.size #[.int .i64 o.kind,.int .i64 o.on,.int .i64 o.arg] 68:=zm.new _ _ _;have n0:=ze bA j0;have M0:=ze bA q0;have N0:=ze bA q1;have O0:=ze bA q2;have P0:=ze bA q3;have R0:=ze bA q4;have S0:=ze bA q5;have T0:=ze bA q6;have U0:=ze bA q7;have V0:=ze bA q8;rw[C0] at kA;have J0:=kA.cell 0 rfl;have K0:=kA.cell 1 rfl;have L0:=kA.cell 2 rfl;clear bA kA;clear c3 c4;go_enter Tryz.func143,Tryz.ntmps143;go_upto_region 1 with fail;rw[<-c0];clear c0;go_wp2;go_ret;exact⟨rfl,HB.o.alloc HB.o.size _⟩
 ·subst c2;obtain⟨b2,o2,o0,d0⟩:=R2.o.op (by have:=HM.o;omega);obtain⟨k0,l0,m0⟩:=d0 pl.toNat (by have:=HM.o;omega)
  obtain⟨o,ho⟩:∃o,o=(p.threads.getD t []).getD pl.toNat qf:=⟨_,rfl⟩
  have r0:ya p s t=o:=by unfold ya;rw[qW,show((t:Nat):Int).toNat=t by simp,<-x0.out,ho]
  rw[<-ho] at k0 l0 m0;subst o0;have t4:(pl==(m:Int))=false:=by simp;omega
  clear d0 ho;rw[r0] at c3;have HN:uH ((eT s).count (t:Int)=1):=zd (by
   have hm:(t:Int)∈eT s:=List.mem_map.2 ⟨_,c3,rfl⟩;have h1:=List.count_pos_iff.2 hm;have h2:=List.nodup_iff_count.1 HF.o.ne (t:Int);omega)
  rw[HN.o];have HW:=zd c3;clear c3 c4;have bA:Below W0.heap.size W0 (W0.alloc (.cells #[.int .i64 o.kind,.int .i64 o.on,.int .i64 o.arg] 68)):=zY;have kA:zm (W0.alloc (.cells #[.int .i64 o.kind,.int .i64 o.on,.int .i64 o.arg] 68)) W0.heap.size #[.int .i64 o.kind,.int .i64 o.on,.int .i64 o.arg] 68:=zm.new _ _ _;have n0:=ze bA j0;have M0:=ze bA q0;have N0:=ze bA q1;have O0:=ze bA q2;have P0:=ze bA q3;have R0:=ze bA q4;have S0:=ze bA q5;have T0:=ze bA q6;have U0:=ze bA q7;have V0:=ze bA q8;have i0:=GY p ⟨⟨some ⟨bp,op,none⟩,v.pl.n,v.pl.c⟩,⟨some ⟨bs,os,none⟩,v.st.n,v.st.c⟩,v.se,v.on,v.gr,v.ba,v.ch,v.sa,v.fl⟩ L s o t (W0.alloc (.cells #[.int .i64 o.kind,.int .i64 o.on,.int .i64 o.arg] 68)) (Y0.o _ (E0.o.below bA)) HF.o HW.o
  try dsimp only at i0
  have v0:=zd i0;clear i0;rw[C0] at kA;have J0:=kA.cell 0 rfl;have K0:=kA.cell 1 rfl;have L0:=kA.cell 2 rfl;clear bA kA;go_enter Tryz.func143,Tryz.ntmps143;go_upto_region 1 with fail;rw[<-c0];clear c0;go_wp2_with fail;refine v0.out.mono ?_;rintro e w1 ⟨rfl,hb⟩;go_wp2;go_ret;exact⟨rfl,(HB.o.alloc HB.o.size _).trans (hb.mono (HB.o.alloc HB.o.size _).size)⟩
 ·have HN:uH ((eT s).count (t:Int)=0):=zd (List.count_eq_zero.2 c3);rw[HN.o];subst c2;obtain⟨b2,o2,o0,d0⟩:=R2.o.op (by have:=HM.o;omega);obtain⟨k0,l0,m0⟩:=d0 pl.toNat (by have:=HM.o;omega)
  obtain⟨o,ho⟩:∃o,o=(p.threads.getD t []).getD pl.toNat qf:=⟨_,rfl⟩
  have r0:ya p s t=o:=by unfold ya;rw[qW,show((t:Nat):Int).toNat=t by simp,<-x0.out,ho]
  rw[<-ho] at k0 l0 m0;subst o0;have t4:(pl==(m:Int))=false:=by simp;omega
  clear d0 ho;rw[r0] at c4 c5;obtain⟨i,hi,a0⟩:=qD.1 c5;have f1:(s.onces.getD i zH).state=1/\(t:Int)=(s.onces.getD i zH).owner/\o.on=i:=by
   unfold xP at a0;by_cases D0:(s.onces.getD i zH).state=1
   ·rw[if_pos D0] at a0;have:=yh a0;simp only[Prod.mk.injEq] at this;exact⟨D0,this.1,this.2⟩
   ·rw[if_neg D0] at a0;cases a0
  obtain⟨x1,x2,x3⟩:=f1;have u0:=HF.o.on i hi;have s0:(s.onces.getD i zH).value=0:=by
   rcases u0 with ⟨k1,-⟩|⟨-,-,k3,-⟩|⟨k1,-⟩
   ·omega
   ·exact k3
   ·omega
  obtain⟨x,q,b1,o1,HX,ea,g0,g1,g2,g3,Q0,d1,a1⟩:=E0.o.at_on (j:=i) hi;rw[<-HX.o] at x1 x2 u0 s0;rw[x1] at g0;rw[<-x2] at g1;rw[s0] at g2;rw[ea] at q3;have F0:uF ⟨1,t,0,x.waits⟩:=by
   have:x=⟨1,t,0,x.waits⟩:=by
    obtain⟨xs,xo,xv,xw⟩:=x;dsimp only at x1 x2 s0;subst x1 x2 s0;rfl
   rw[<-this];exact u0
  have X0:=zd F0;obtain⟨ok,oo,oa⟩:=o;dsimp only at c4 x3 k0 l0 m0;subst c4 x3;have i2:(0:Int)<=(i:Int):=by omega
  have i3:(i:Int)<(v.on.n:Int):=by have:=Z0.o;omega
  clear c3 c5 a0 x1 x2 u0 s0 ea F0 r0 hi;have bA:Below W0.heap.size W0 (W0.alloc (.cells #[.int .i64 4,.int .i64 i,.int .i64 oa] 68)):=zY;have kA:zm (W0.alloc (.cells #[.int .i64 4,.int .i64 i,.int .i64 oa] 68)) W0.heap.size #[.int .i64 4,.int .i64 i,.int .i64 oa] 68:=zm.new _ _ _;have n0:=ze bA j0;have M0:=ze bA q0;have N0:=ze bA q1;have O0:=ze bA q2;have P0:=ze bA q3;have R0:=ze bA q4;have S0:=ze bA q5;have T0:=ze bA q6;have U0:=ze bA q7;have V0:=ze bA q8;have m1:=ze bA g0;have n1:=ze bA g1;have p1:=ze bA g2;have r1:=ze bA g3;have i0:=Uc x.waits q.a q.n q.c t (W0.alloc (.cells #[.int .i64 4,.int .i64 i,.int .i64 oa] 68)) d1.out.symm a1.out (Q0.o.below bA) X0.o
  try dsimp only at i0
  have v0:=zd i0;clear i0;rw[C0] at kA;have J0:=kA.cell 0 rfl;have K0:=kA.cell 1 rfl;have L0:=kA.cell 2 rfl;clear bA kA;go_enter Tryz.func143,Tryz.ntmps143;go_upto_region 1 with fail;rw[<-c0];clear c0;go_wp2_with fail;refine v0.out.mono ?_;rintro e w1 ⟨rfl,hb⟩;go_wp2;go_ret;exact⟨rfl,(HB.o.alloc HB.o.size _).trans (hb.mono (HB.o.alloc HB.o.size _).size)⟩
theorem pk (hf:yp p s) (hi:i<s.onces.length) (h1:(s.onces.getD i zH).state=1):
  ∃t:Nat,(s.onces.getD i zH).owner=t/\t<p.threads.length/\s.status.getD t 0=2/\0<=s.places.getD t 0/\s.places.getD t 0<(p.threads.getD t []).length/\(ya p s t).on=i:=by
 have hm:((s.onces.getD i zH).owner,(i:Int))∈jg s:=KS hi (by unfold xP;rw[if_pos h1];simp);have hr:=hf.oe _ hm;obtain⟨t,ht⟩:∃t:Nat,(s.onces.getD i zH).owner=t:=⟨(s.onces.getD i zH).owner.toNat,by have:=hr.1;dsimp only at this;omega⟩
 rw[ht] at hm hr;have c0:t<p.threads.length:=by have:=hr.2;dsimp only at this;omega
 have a0:=hf.th t c0;unfold JF at a0;rw[show((t:Nat):Int).toNat=t by simp,qW] at a0;have b0:(t:Int)∈oT s:=yU.2 ⟨_,hm,rfl⟩;obtain⟨h0,-,hc⟩:=a0;rcases hc with ⟨-,-,-,c4⟩|⟨c1,⟨-,-,c4⟩|⟨-,-,c4⟩|⟨c2,-,-,c5⟩⟩
 ·exact absurd b0 c4
 ·exact absurd b0 c4
 ·exact absurd b0 c4
 ·refine⟨t,ht,c0,c2,h0,c1,?_⟩;have e:∀{l:List (Int×Int)} {a b c:Int},(l.map (·.1)).Nodup->(a,b)∈l->(a,c)∈l->b=c:=by
   intro l a b c hn hb hc;obtain⟨i,-,e1,e2⟩:=J8 hn hb;obtain⟨j,-,e3,e4⟩:=J8 hn hc;rw[e1] at e3;have:i=j:=jq;subst this;rw[e2] at e4;exact(Prod.mk.inj e4).2
  exact e hf.no c5 hm
theorem KV (u:PV) (p:Pg) (v:zu) (L:zQ) (s:zp) (w:World) (hp:yK w u p) (hr:yZ w v L s) (hf:yp p s):
  Calls Tryz.prog 144 #[.agg #[.slice u.s u.ns u.cs,.slice u.g u.ng u.cg,.slice u.b u.nb u.cb,.slice u.r u.nr u.cr,.slice u.t u.nt u.ct],.agg #[.slice v.pl.a v.pl.n v.pl.c,.slice v.st.a v.st.n v.st.c,.slice v.se.a v.se.n v.se.c,.slice v.on.a v.on.n v.on.c,.slice v.gr.a v.gr.n v.gr.c,.slice v.ba.a v.ba.n v.ba.c,.slice v.ch.a v.ch.n v.ch.c,.slice v.sa.a v.sa.n v.sa.c,.int .i64 v.fl]] w λe w'=>e= .returned (.bool true)/\Below w.heap.size w w':=by
 have HS:=zd hr;have HP:=zd hp;have HF:=zd hf;have LT:=zd hp.lt;have y0:=zd hr.on.len;have npl:v.pl.n=u.nt:=by rw[hr.pl.len,hf.np,hp.lt]
 have nst:v.st.n=u.nt:=by rw[hr.st.len,hf.nst,hp.lt]
 have z0:=zd npl;have A0:=zd nst;have I0:v.on.n<=3:=by rw[hr.on.len,hf.non];omega
 clear hp hr hf npl nst;obtain⟨W0,d0⟩:∃W0:World,W0=((w.alloc (.cells #[.slice u.s u.ns u.cs,.slice u.g u.ng u.cg,.slice u.b u.nb u.cb,.slice u.r u.nr u.cr,.slice u.t u.nt u.ct] 26)).alloc (.cells #[.slice v.pl.a v.pl.n v.pl.c,.slice v.st.a v.st.n v.st.c,.slice v.se.a v.se.n v.se.c,.slice v.on.a v.on.n v.on.c,.slice v.gr.a v.gr.n v.gr.c,.slice v.ba.a v.ba.n v.ba.c,.slice v.ch.a v.ch.n v.ch.c,.slice v.sa.a v.sa.n v.sa.c,.int .i64 v.fl] 38)):=⟨_,rfl⟩
 have B0:Below w.heap.size w W0:=by
  rw[d0];exact((xd.alloc (by simp) _).alloc (by simp) _)
 have kP:zm W0 (w.heap.size) #[.slice u.s u.ns u.cs,.slice u.g u.ng u.cg,.slice u.b u.nb u.cb,.slice u.r u.nr u.cr,.slice u.t u.nt u.ct] 26:=by
  rw[d0];have h:=zm.new w #[.slice u.s u.ns u.cs,.slice u.g u.ng u.cg,.slice u.b u.nb u.cb,.slice u.r u.nr u.cr,.slice u.t u.nt u.ct] 26;exact h|>.alloc _
 have kS:zm W0 (w.heap.size+1) #[.slice v.pl.a v.pl.n v.pl.c,.slice v.st.a v.st.n v.st.c,.slice v.se.a v.se.n v.se.c,.slice v.on.a v.on.n v.on.c,.slice v.gr.a v.gr.n v.gr.c,.slice v.ba.a v.ba.n v.ba.c,.slice v.ch.a v.ch.n v.ch.c,.slice v.sa.a v.sa.n v.sa.c,.int .i64 v.fl] 38:=by
  rw[d0];have h:=zm.new (w.alloc (.cells #[.slice u.s u.ns u.cs,.slice u.g u.ng u.cg,.slice u.b u.nb u.cb,.slice u.r u.nr u.cr,.slice u.t u.nt u.ct] 26)) #[.slice v.pl.a v.pl.n v.pl.c,.slice v.st.a v.st.n v.st.c,.slice v.se.a v.se.n v.se.c,.slice v.on.a v.on.n v.on.c,.slice v.gr.a v.gr.n v.gr.c,.slice v.ba.a v.ba.n v.ba.c,.slice v.ch.a v.ch.n v.ch.c,.slice v.sa.a v.sa.n v.sa.c,.int .i64 v.fl] 38;simp only[World.size_alloc] at h;exact h
 have F0:W0.heap.size=w.heap.size+2:=by rw[d0];simp
 have p4:=kP.cell 4 rfl;have q0:=kS.cell 0 rfl;have q1:=kS.cell 1 rfl;have q3:=kS.cell 3 rfl;have H0:=zd (HS.o.below B0);have x0:=zd (HP.o.below B0);have HB:=zd B0;clear HS HP B0 kS kP;go_enter Tryz.func144,Tryz.ntmps144;go_wp2;rw[<-d0];clear d0
 go_loopw [5] (λi wr=>∃j:Nat,j<=v.on.n/\i= .int .i64 j/\Below W0.heap.size W0 wr) (λi _=>v.on.n-(intOf i).toNat)
 case atStart=>exact⟨0,by omega,rfl,Below.refl _ _⟩
 case round=>
  obtain⟨j,hj,rfl,b0⟩:=hrel;have cq:=ze b0 q3;by_cases G0:j<v.on.n
  rotate_left
  ·obtain rfl:j=v.on.n:=by omega
   go_wp2;go_ret;exact⟨rfl,HB.o.trans (b0.mono HB.o.size)⟩
  ·have s0:j<s.onces.length:=by have:=y0.out;omega
   obtain⟨x,q,b1,o1,HX,ea,g0,g1,g2,g3,Q0,E0,D0⟩:=(H0.o.below b0).at_on (j:=j) s0;rw[ea] at cq;have i0:(0:Int)<=(j:Int):=(by omega);have i1:(j:Int)<v.on.n:=(by omega);obtain⟨WA,r0⟩:∃WA:World,WA=wr.alloc (.cells #[.int .i64 x.state,.int .i64 x.owner,.int .i64 x.value,.slice q.a q.n q.c] 81):=⟨_,rfl⟩
   have bA:Below wr.heap.size wr (wr.alloc (.cells #[.int .i64 x.state,.int .i64 x.owner,.int .i64 x.value,.slice q.a q.n q.c] 81)):=zY;have kA:zm (wr.alloc (.cells #[.int .i64 x.state,.int .i64 x.owner,.int .i64 x.value,.slice q.a q.n q.c] 81)) wr.heap.size #[.int .i64 x.state,.int .i64 x.owner,.int .i64 x.value,.slice q.a q.n q.c] 81:=zm.new _ _ _;have a0:=kA.cell 0 rfl;have a1:=kA.cell 1 rfl;by_cases f0:x.state=1
   rotate_left
   ·have t0:(x.state !=1)=true:=(by simpa using f0);clear f0;go_wp2
    go_roundw
    case rel=>exact⟨j+1,by omega,by go_num,b0.trans (bA.mono b0.size)⟩
    case measure=>simp[intOf];omega
   ·obtain⟨t,ht,k0,h0,C0,v0,u0⟩:=pk HF.o s0 (by rw[<-HX.o];exact f0);rw[<-HX.o] at ht;have t0:(x.state !=1)=false:=(by simp[f0]);obtain⟨pl,j0⟩:∃y,y=s.places.getD t 0:=⟨_,rfl⟩
    rw[<-j0] at C0 v0;obtain⟨m,em⟩:∃m,m=(p.threads.getD t []).length:=⟨_,rfl⟩
    have bB:=b0.trans (bA.mono b0.size);obtain⟨bp,op,e1,h1⟩:=H0.o.pl.rd.int (by rw[HF.o.np];omega);obtain⟨bs,os,e2,h2⟩:=H0.o.st.rd.int (by rw[HF.o.nst];omega);obtain⟨bt,ot,e3,h3⟩:=x0.out.thr (by omega);obtain⟨a2,x2,ct,r2⟩:=h3 t k0;obtain⟨b2,o2,e4,h4⟩:=r2.op (by omega);have n0:=(h4 pl.toNat (by omega)).2.1;have p0:(p.threads.getD t []).getD pl.toNat qf=ya p s t:=by unfold ya;rw[qW,show((t:Nat):Int).toNat=t by simp,<-j0]
    rw[p0,u0] at n0;have l0:=ze bB (h1 t (by rw[HF.o.np];exact k0));have m0:=ze bB (h2 t (by rw[HF.o.nst];exact k0));rw[<-j0] at l0;rw[h0] at m0;rw[<-em] at ct v0;rw[e4] at ct;replace ct:=ze bB ct;have o0:=ze bB n0;have c0:=ze bB q0;have c1:=ze bB q1;have c4:=ze bB p4;have c3:=ze bA cq;rw[e1] at c0;rw[e2] at c1;rw[e3] at c4;rw[ht] at a1 kA bA c0 c1 c4 ct o0 l0 m0 bB c3 g1 r0 a0;have t1:(t:Int)<(u.nt:Int):=by rw[<-LT.o];omega
    have t2:(t:Int)<(v.pl.n:Int):=by rw[z0.out];exact t1
    have t3:(t:Int)<(v.st.n:Int):=by rw[A0.o];exact t1
    have t4:(0:Int)<=(t:Int):=(by omega);have t5:((j:Int) !=(j:Int))=false:=(by simp);have t6:decide (u.nt<=t)=false:=decide_eq_false (by omega);have t7:((2:Int) !=2)=false:=(by decide);rw[f0] at g0 a0 kA bA c0 c1 c4 ct o0 l0 m0 bB c3 a1;clear f0 ht k0 h0 u0 j0 em e1 h1 e2 h2 e3 h3 r2 e4 h4 n0 p0 t0 r0 kA;have t0:((1:Int) !=1)=false:=(by decide);go_wp2
    go_quiet (fail)
    go_wp2
    go_roundw
    case rel=>exact⟨j+1,by omega,by go_num,below_drewN bB _⟩
    case measure=>simp[intOf];omega
theorem Ui (u:PV) (p:Pg) (v:zu) (L:zQ) (s:zp) (w:World) (hp:yK w u p) (hr:yZ w v L s) (hf:yp p s):
  Calls Tryz.prog 104 #[.agg #[.slice u.s u.ns u.cs,.slice u.g u.ng u.cg,.slice u.b u.nb u.cb,.slice u.r u.nr u.cr,.slice u.t u.nt u.ct],.agg #[.slice v.pl.a v.pl.n v.pl.c,.slice v.st.a v.st.n v.st.c,.slice v.se.a v.se.n v.se.c,.slice v.on.a v.on.n v.on.c,.slice v.gr.a v.gr.n v.gr.c,.slice v.ba.a v.ba.n v.ba.c,.slice v.ch.a v.ch.n v.ch.c,.slice v.sa.a v.sa.n v.sa.c,.int .i64 v.fl]] w λe w'=>e= .returned (.bool true)/\Below w.heap.size w w':=by
 have HS:=zd hr;have HP:=zd hp;have HF:=zd hf;have HV:=zd hf.prog;have HZ:=zd (vx hf.prog hp);have LT:=zd hp.lt;have l0:=zd hr.sa.len;have npl:v.pl.n=u.nt:=by rw[hr.pl.len,hf.np,hp.lt]
 have nst:v.st.n=u.nt:=by rw[hr.st.len,hf.nst,hp.lt]
 have m1:((v.pl.n:Int) !=(u.nt:Int))=false:=by rw[npl];simp
 have m2:((v.st.n:Int) !=(u.nt:Int))=false:=by rw[nst];simp
 have nsa:v.sa.n<=64:=by rw[hr.sa.len];exact hf.nsa
 have f0:0<=v.fl:=by rw[hr.fl];exact hf.flt.1
 have f4:v.fl<=4:=by rw[hr.fl];exact hf.flt.2
 have n4:1<=u.nt/\u.nt<=4:=by rw[<-hp.lt];exact vM hf.prog
 have Q0:=n4.1;have R0:=n4.2;clear hp hr hf npl nst n4;obtain⟨W0,b0⟩:∃W0:World,W0=((w.alloc (.cells #[.slice u.s u.ns u.cs,.slice u.g u.ng u.cg,.slice u.b u.nb u.cb,.slice u.r u.nr u.cr,.slice u.t u.nt u.ct] 26)).alloc (.cells #[.slice v.pl.a v.pl.n v.pl.c,.slice v.st.a v.st.n v.st.c,.slice v.se.a v.se.n v.se.c,.slice v.on.a v.on.n v.on.c,.slice v.gr.a v.gr.n v.gr.c,.slice v.ba.a v.ba.n v.ba.c,.slice v.ch.a v.ch.n v.ch.c,.slice v.sa.a v.sa.n v.sa.c,.int .i64 v.fl] 38)):=⟨_,rfl⟩
 have B0:Below w.heap.size w W0:=by
  rw[b0];exact((xd.alloc (by simp) _).alloc (by simp) _)
 have kP:zm W0 (w.heap.size) #[.slice u.s u.ns u.cs,.slice u.g u.ng u.cg,.slice u.b u.nb u.cb,.slice u.r u.nr u.cr,.slice u.t u.nt u.ct] 26:=by
  rw[b0];have h:=zm.new w #[.slice u.s u.ns u.cs,.slice u.g u.ng u.cg,.slice u.b u.nb u.cb,.slice u.r u.nr u.cr,.slice u.t u.nt u.ct] 26;exact h|>.alloc _
 have kS:zm W0 (w.heap.size+1) #[.slice v.pl.a v.pl.n v.pl.c,.slice v.st.a v.st.n v.st.c,.slice v.se.a v.se.n v.se.c,.slice v.on.a v.on.n v.on.c,.slice v.gr.a v.gr.n v.gr.c,.slice v.ba.a v.ba.n v.ba.c,.slice v.ch.a v.ch.n v.ch.c,.slice v.sa.a v.sa.n v.sa.c,.int .i64 v.fl] 38:=by
  rw[b0];have h:=zm.new (w.alloc (.cells #[.slice u.s u.ns u.cs,.slice u.g u.ng u.cg,.slice u.b u.nb u.cb,.slice u.r u.nr u.cr,.slice u.t u.nt u.ct] 26)) #[.slice v.pl.a v.pl.n v.pl.c,.slice v.st.a v.st.n v.st.c,.slice v.se.a v.se.n v.se.c,.slice v.on.a v.on.n v.on.c,.slice v.gr.a v.gr.n v.gr.c,.slice v.ba.a v.ba.n v.ba.c,.slice v.ch.a v.ch.n v.ch.c,.slice v.sa.a v.sa.n v.sa.c,.int .i64 v.fl] 38;simp only[World.size_alloc] at h;exact h
 have P0:W0.heap.size=w.heap.size+2:=by rw[b0];simp
 have p0:=kP.cell 0 rfl;have p1:=kP.cell 1 rfl;have p2:=kP.cell 2 rfl;have p3:=kP.cell 3 rfl;have p4:=kP.cell 4 rfl;have q0:=kS.cell 0 rfl;have q1:=kS.cell 1 rfl;have q2:=kS.cell 2 rfl;have q3:=kS.cell 3 rfl;have q4:=kS.cell 4 rfl;have q5:=kS.cell 5 rfl;have q6:=kS.cell 6 rfl;have q7:=kS.cell 7 rfl;have q8:=kS.cell 8 rfl;have H0:=zd (HS.o.below B0);have h0:=zd (HP.o.below B0);have HB:=zd B0;clear HS HP B0 kS kP;go_enter Tryz.func104,Tryz.ntmps104;go_wp2_with fail;rw[<-b0];clear b0;refine(jX u p _ h0.out HZ.o).mono ?_;rintro e w1 ⟨rfl,hb⟩;rw[HV.o];have H1:=zd (H0.o.below hb);have j0:=zd (h0.out.below hb);have d0:=zd (HB.o.trans (hb.mono HB.o.size));replace p0:=ze hb p0;replace p1:=ze hb p1;replace p2:=ze hb p2;replace p3:=ze hb p3;replace p4:=ze hb p4;replace q0:=ze hb q0;replace q1:=ze hb q1;replace q2:=ze hb q2;replace q3:=ze hb q3;replace q4:=ze hb q4;replace q5:=ze hb q5;replace q6:=ze hb q6;replace q7:=ze hb q7;replace q8:=ze hb q8;clear hb H0 h0 HB;go_wp2_with fail;refine(GM u p v L s _ j0.out HV.o H1.o HF.o.things).mono ?_;rintro e w2 ⟨rfl,hb⟩;have H2:=zd (H1.o.below hb);have k0:=zd (j0.out.below hb);have g0:=zd (d0.out.trans (hb.mono d0.out.size));replace p0:=ze hb p0
 replace p1:=ze hb p1;replace p2:=ze hb p2;replace p3:=ze hb p3;replace p4:=ze hb p4;replace q0:=ze hb q0;replace q1:=ze hb q1;replace q2:=ze hb q2;replace q3:=ze hb q3;replace q4:=ze hb q4;replace q5:=ze hb q5;replace q6:=ze hb q6;replace q7:=ze hb q7;replace q8:=ze hb q8;clear hb H1 j0 d0;go_wp2
 go_loopw [6] (λi wr=>∃j:Nat,j<=v.sa.n/\i= .int .i64 j/\wr=w2) (λi _=>v.sa.n-(intOf i).toNat)
 case atStart=>exact⟨0,by omega,rfl,rfl⟩
 case round=>
  obtain⟨j,hj,rfl,rfl⟩:=hrel;by_cases c0:j<v.sa.n
  ·obtain⟨b,o,ea,g'⟩:=H2.o.sa.rd.int (by have:=l0.out;omega);have g:=g' j (by have:=l0.out;omega);obtain⟨x,hx⟩:∃x,x=s.said.getD j 0:=⟨_,rfl⟩
   have t0:0<=x/\x<=99:=by
    rw[hx,List.getD_eq_getElem?_getD,List.getElem?_eq_getElem (by have:=l0.out;omega)];exact HF.o.sa _ (List.getElem_mem _)
   rw[<-hx] at g;have N0:=q7;rw[ea] at N0;have i0:(0:Int)<=(j:Int):=(by omega);have i1:(j:Int)<(v.sa.n:Int):=(by omega);have HX:=zd t0;clear hx t0 g' ea q7;go_wp2_with fail;refine(vD x _ HX.o).mono ?_;rintro e wz ⟨rfl,v0⟩;have m0:=v0.symm;subst m0;go_wp2
   go_roundw
   case rel=>exact⟨j+1,by omega,by go_num,trivial⟩
   case measure=>simp[intOf];omega
  ·obtain rfl:j=v.sa.n:=by omega
   go_wp2_with fail;refine(GF u p v L s _ k0.out HV.o H2.o HF.o).mono ?_;rintro e w3 ⟨a,c,rfl,ho,hb⟩;have H3:=zd (H2.o.below hb);have o0:=zd (k0.out.below hb);have n0:=zd (g0.out.trans (hb.mono g0.out.size));replace p0:=ze hb p0;replace p1:=ze hb p1;replace p2:=ze hb p2;replace p3:=ze hb p3;replace p4:=ze hb p4;replace q0:=ze hb q0;replace q1:=ze hb q1;replace q2:=ze hb q2;replace q3:=ze hb q3;replace q4:=ze hb q4;replace q5:=ze hb q5;replace q6:=ze hb q6;replace q7:=ze hb q7;replace q8:=ze hb q8;obtain⟨gq,rfl,-,-⟩:=jF ho (by omega);have HO:=zd ho;clear hb H2 k0 g0 ho c0 hj;go_wp2
   go_loopw [9] (λi wr=>∃j:Nat,j<=u.nt/\i= .int .i64 j/\Below w3.heap.size w3 wr) (λi _=>u.nt-(intOf i).toNat)
   case atStart=>exact⟨0,by omega,rfl,Below.refl _ _⟩
   case round=>
    obtain⟨j,hj,rfl,a0⟩:=hrel;by_cases c0:j<u.nt
    ·have cz:=HO.o.cellAt j (by omega);replace cz:w3.cell? ⟨gq,j,none⟩=some (.int .i64 ((eT s).count (j:Int):Nat)):=by
      rw[cz];have h1:j<(Zu u.nt (eT s)).length:=by rw[kI];exact c0
      have h2:=UK u.nt (eT s) c0;rw[<-h2];simp[zf,List.getD,h1]
     obtain⟨z,hz⟩:∃z:Int,z=((eT s).count (j:Int):Nat):=⟨_,rfl⟩
     rw[<-hz] at cz;have cV:uH (∀d os,Calls Tryz.prog 143 #[.agg #[.slice u.s u.ns u.cs,.slice u.g u.ng u.cg,.slice u.b u.nb u.cb,.slice u.r u.nr u.cr,.slice u.t u.nt u.ct],.agg #[.slice v.pl.a v.pl.n v.pl.c,.slice v.st.a v.st.n v.st.c,.slice v.se.a v.se.n v.se.c,.slice v.on.a v.on.n v.on.c,.slice v.gr.a v.gr.n v.gr.c,.slice v.ba.a v.ba.n v.ba.c,.slice v.ch.a v.ch.n v.ch.c,.slice v.sa.a v.sa.n v.sa.c,.int .i64 v.fl],.int .i64 j,.int .i64 z] (grow (redrawn wr d) os) λe O0=>e= .returned (.bool true)/\∃p:Regrown,O0=grow (redrawn wr p.d) p.os):=zd (λd os=>Calls.regrown_of (by
      have:=Gb u p v L s j (grow (redrawn wr d) os) ((o0.out.below a0).below (below_regrown wr d os)) ((H3.o.below a0).below (below_regrown wr d os)) HF.o (by rw[LT.o];exact c0);rw[<-hz] at this;exact this))
     have kz:=cell_regrown (ze a0 cz);have x0:=cell_regrown (ze a0 p0);have y0:=cell_regrown (ze a0 p1);have z0:=cell_regrown (ze a0 p2);have A0:=cell_regrown (ze a0 p3);have C0:=cell_regrown (ze a0 p4);have D0:=cell_regrown (ze a0 q0);have E0:=cell_regrown (ze a0 q1);have F0:=cell_regrown (ze a0 q2);have G0:=cell_regrown (ze a0 q3);have I0:=cell_regrown (ze a0 q4);have J0:=cell_regrown (ze a0 q5);have K0:=cell_regrown (ze a0 q6);have L0:=cell_regrown (ze a0 q7);have M0:=cell_regrown (ze a0 q8);have i0:(0:Int)<=(j:Int):=(by omega);have i1:(j:Int)<(u.nt:Int):=(by omega);clear hz cz;go_wp2;refine wp_region_quiet_below (by kernel_rfl) (by kernel_rfl) ?_
     repeat (go_big_quiet_step (exact cV.out _ _))
     refine wpQuiet_nil ?_;intro w6 s0;have u0:Below wr.heap.size wr w6:=by
      obtain⟨pq,rfl⟩:=s0;exact below_regrown _ _ _
     clear s0;go_wp2
     go_roundw
     case rel=>exact⟨j+1,by omega,by go_num,a0.trans (u0.mono a0.size)⟩
     case measure=>simp[intOf];omega
    ·obtain rfl:j=u.nt:=by omega
     have x0:=ze a0 p0;have y0:=ze a0 p1;have z0:=ze a0 p2;have A0:=ze a0 p3;have C0:=ze a0 p4;have D0:=ze a0 q0;have E0:=ze a0 q1;have F0:=ze a0 q2;have G0:=ze a0 q3;have I0:=ze a0 q4;have J0:=ze a0 q5;have K0:=ze a0 q6;have L0:=ze a0 q7;have M0:=ze a0 q8;go_wp2_with fail;refine(KV u p v L s _ (o0.out.below a0) (H3.o.below a0) HF.o).mono ?_;rintro e w4 ⟨rfl,hb⟩;go_wp2;go_ret;have r0:=n0.out.trans (a0.mono n0.out.size);exact⟨rfl,r0.trans (hb.mono r0.size)⟩
theorem Yy (v:zu) (L:zQ) (s:zp) (w:World) (hr:yZ w v L s) (hn:s.status.length<=1048576):
  Calls Tryz.prog 40 #[.agg #[.slice v.pl.a v.pl.n v.pl.c,.slice v.st.a v.st.n v.st.c,.slice v.se.a v.se.n v.se.c,.slice v.on.a v.on.n v.on.c,.slice v.gr.a v.gr.n v.gr.c,.slice v.ba.a v.ba.n v.ba.c,.slice v.ch.a v.ch.n v.ch.c,.slice v.sa.a v.sa.n v.sa.c,.int .i64 v.fl]] w λe w'=>∃(a:Option Addr) (c:Nat),e= .returned (.slice a (zq s).length c)/\w'.ownsRow w.heap.size 3 1 (.slice a (zq s).length c) (zq s).length (zf (zq s))/\Below w.heap.size w w':=by
 have HS:=zd hr;have p0:=zd hr.st.len;have nst:v.st.n<=1048576:=by rw[hr.st.len];exact hn
 have q0:=zd hr.fl;have u0:=zd hr.st.rd;clear hr hn;obtain⟨W0,a0⟩:∃W0:World,W0=((w.alloc (.cells #[.slice v.pl.a v.pl.n v.pl.c,.slice v.st.a v.st.n v.st.c,.slice v.se.a v.se.n v.se.c,.slice v.on.a v.on.n v.on.c,.slice v.gr.a v.gr.n v.gr.c,.slice v.ba.a v.ba.n v.ba.c,.slice v.ch.a v.ch.n v.ch.c,.slice v.sa.a v.sa.n v.sa.c,.int .i64 v.fl] 38)).alloc (.cells #[] 3)):=⟨_,rfl⟩
 have B0:Below w.heap.size w W0:=by
  rw[a0];exact((xd.alloc (by simp) _).alloc (by simp) _)
 have kS:zm W0 (w.heap.size) #[.slice v.pl.a v.pl.n v.pl.c,.slice v.st.a v.st.n v.st.c,.slice v.se.a v.se.n v.se.c,.slice v.on.a v.on.n v.on.c,.slice v.gr.a v.gr.n v.gr.c,.slice v.ba.a v.ba.n v.ba.c,.slice v.ch.a v.ch.n v.ch.c,.slice v.sa.a v.sa.n v.sa.c,.int .i64 v.fl] 38:=by
  rw[a0];have h:=zm.new w #[.slice v.pl.a v.pl.n v.pl.c,.slice v.st.a v.st.n v.st.c,.slice v.se.a v.se.n v.se.c,.slice v.on.a v.on.n v.on.c,.slice v.gr.a v.gr.n v.gr.c,.slice v.ba.a v.ba.n v.ba.c,.slice v.ch.a v.ch.n v.ch.c,.slice v.sa.a v.sa.n v.sa.c,.int .i64 v.fl] 38;exact h|>.alloc _
 have kE:zm W0 (w.heap.size+1) #[] 3:=by
  rw[a0];have h:=zm.new (w.alloc (.cells #[.slice v.pl.a v.pl.n v.pl.c,.slice v.st.a v.st.n v.st.c,.slice v.se.a v.se.n v.se.c,.slice v.on.a v.on.n v.on.c,.slice v.gr.a v.gr.n v.gr.c,.slice v.ba.a v.ba.n v.ba.c,.slice v.ch.a v.ch.n v.ch.c,.slice v.sa.a v.sa.n v.sa.c,.int .i64 v.fl] 38)) #[] 3;simp only[World.size_alloc] at h;exact h
 have x0:W0.heap.size=w.heap.size+2:=by rw[a0];simp
 have q1:=kS.cell 1 rfl;have q8:=kS.cell 8 rfl;have H0:=zd (HS.o.below B0);have HE:=zd (qi (B:=w.heap.size+1) kE yk (sz:=1) (m:=0) rfl (Nat.zero_le _));have HB:=zd B0;clear HS B0 kS kE;by_cases hf:v.fl=0
 rotate_left
 ·have t0:(v.fl==0)=false:=by simpa using hf
  have o0:uH (zq s=[]):=zd (by rw[vh,if_neg (by rw[<-q0.out];exact hf)]);clear hf;rw[o0.out];go_enter Tryz.func40,Tryz.ntmps40;go_wp2;rw[<-a0];clear a0
  go_loopw [4,3] (λi z wr=>i= .int .i64 0/\z= .slice (some ⟨w.heap.size+1,0,none⟩) 0 0/\wr=W0) (λ_ _ _=>0)
  case atStart=>exact⟨rfl,rfl,rfl⟩
  case round=>
   obtain⟨rfl,rfl,rfl⟩:=hrel;by_cases h0:0<v.st.n
   ·have d0:decide ((0:Int)<(v.st.n:Int))=true:=decide_eq_true (by omega);go_wp2;go_ret;exact⟨_,_,rfl,zw HE.o (by omega),HB.o⟩
   ·have d0:decide ((0:Int)<(v.st.n:Int))=false:=decide_eq_false (by omega);go_wp2;go_ret;exact⟨_,_,rfl,zw HE.o (by omega),HB.o⟩
 ·have t0:(v.fl==0)=true:=by simpa using hf
  have o0:uH (zq s=vU s v.st.n):=zd (by rw[vh,if_pos (by rw[<-q0.out];exact hf),p0.out]);clear hf;rw[o0.out];go_enter Tryz.func40,Tryz.ntmps40;go_wp2;rw[<-a0];clear a0
  go_loopw [4,3] (λi z wr=>∃(j:Nat) (a:Option Addr) (l c:Nat),j<=v.st.n/\i= .int .i64 j/\z= .slice a l c/\uH (wr.ownsRow (w.heap.size+1) 3 1 (.slice a l c) l (zf (vU s j)))/\l<=j/\Below (w.heap.size+1) W0 wr) (λi _ _=>v.st.n-(intOf i).toNat)
  case atStart=>exact⟨0,_,0,0,by omega,rfl,rfl,HE,by omega,Below.refl _ _⟩
  case round=>
   obtain⟨j,a,l,c,hj,rfl,rfl,ho,hl,b0⟩:=hrel;have c1:=YX b0 (by show w.heap.size<w.heap.size+1;omega) q1;have c8:=YX b0 (by show w.heap.size<w.heap.size+1;omega) q8;have r0:=HB.o.trans (b0.mono (by omega));have k0:w.heap.size+1<=wr.heap.size:=by have:=b0.size;omega
   by_cases y0:j<v.st.n
   ·obtain⟨b,o,ea,g'⟩:=(u0.out.below r0).int (by have:=p0.out;omega);have g:=g' j (by have:=p0.out;omega);obtain⟨x,hx⟩:∃x,x=s.status.getD j 0:=⟨_,rfl⟩
    rw[<-hx] at g;rw[ea] at c1;have HX:=zd hx;have i0:(0:Int)<=(j:Int):=(by omega);have i1:(j:Int)<(v.st.n:Int):=(by omega);have c0:=Jw s j;rw[<-hx] at c0;clear hx ea g';by_cases l0:x=0\/x=2
    ·rw[if_pos l0] at c0;have j0:=zd c0;clear c0;rcases l0 with rfl|rfl
     ·go_wp2_with (at_builtin;refine yF (m:=1) (cm:=1) (news:=[.int .i64 j]) rfl _ _ 23 rfl Tryz.underlying23 yb rfl (by decide) rfl ho.out rfl rfl rfl (by simp[Value.oneCell']) (by omega) (by decide) k0 ?_;intro a3 c3 w3 g0 f0;have n0:=zd g0;have m0:=zd f0;clear g0 f0)
      go_roundw
      case rel=>exact⟨j+1,a3,l+1,c3,by omega,by go_num,rfl,zd (by rw[j0.out];simpa[zf] using n0.out),by omega,b0.trans (zG m0.out k0 (λq hq=>(zy ho.out q hq).1))⟩
      case measure=>simp[intOf];omega
     ·go_wp2_with (at_builtin;refine yF (m:=1) (cm:=1) (news:=[.int .i64 j]) rfl _ _ 23 rfl Tryz.underlying23 yb rfl (by decide) rfl ho.out rfl rfl rfl (by simp[Value.oneCell']) (by omega) (by decide) k0 ?_;intro a3 c3 w3 g0 f0;have n0:=zd g0;have m0:=zd f0;clear g0 f0)
      go_roundw
      case rel=>exact⟨j+1,a3,l+1,c3,by omega,by go_num,rfl,zd (by rw[j0.out];simpa[zf] using n0.out),by omega,b0.trans (zG m0.out k0 (λq hq=>(zy ho.out q hq).1))⟩
      case measure=>simp[intOf];omega
    ·rw[if_neg l0] at c0;have j0:=zd c0;have t1:(x==0)=false:=by simp;omega
     have t2:(x==2)=false:=by simp;omega
     clear c0 l0;go_wp2
     go_roundw
     case rel=>exact⟨j+1,a,l,c,by omega,by go_num,rfl,by rw[j0.out];exact ho,by omega,b0⟩
     case measure=>simp[intOf];omega
   ·obtain rfl:j=v.st.n:=by omega
    go_wp2;have v0:l=(vU s v.st.n).length:=by have:=ho.out.1;rw[List.length_map] at this;omega
    have s0:=ho.out;rw[v0] at s0⊢;go_ret;exact⟨a,c,rfl,zw s0 (by omega),r0⟩
theorem Xt (u:PV) (p:Pg) (v:zu) (L:zQ) (s:zp) (w:World) (hp:yK w u p) (hr:yZ w v L s) (hf:yp p s):
  Calls Tryz.prog 101 #[.agg (zF u),v.val] w λe w'=>∃(a:uQ) (c:Nat),e= .returned (.slice a (zq s).length c)/\w'.ownsRow w.heap.size 3 1 (.slice a (zq s).length c) (zq s).length (zf (zq s))/\xW w w':=by
 have HS:=zd hr;have HP:=zd hp;have HF:=zd hf;clear hp hr hf;obtain⟨W0,a0⟩:∃W0:World,W0=((w.alloc (.cells (zF u) 26)).alloc (.cells (yN v) 38)):=⟨_,rfl⟩
 have B0:xW w W0:=by
  rw[a0];exact((xd.alloc jv _).alloc jv _)
 have kP:zm W0 (w.heap.size) (zF u) 26:=by
  rw[a0];have h:=zm.new w (zF u) 26;exact h|>.alloc _
 have kS:zm W0 (w.heap.size+1) (yN v) 38:=by
  rw[a0];have h:=zm.new (w.alloc (.cells (zF u) 26)) (yN v) 38;simp only[yY] at h;exact h
 have d0:W0.heap.size=w.heap.size+2:=by rw[a0];simp
 have p0:=kP.cell 0 rfl;have p1:=kP.cell 1 rfl;have p2:=kP.cell 2 rfl;have p3:=kP.cell 3 rfl;have p4:=kP.cell 4 rfl;have q0:=kS.cell 0 rfl;have q1:=kS.cell 1 rfl;have q2:=kS.cell 2 rfl;have q3:=kS.cell 3 rfl;have q4:=kS.cell 4 rfl;have q5:=kS.cell 5 rfl;have q6:=kS.cell 6 rfl;have q7:=kS.cell 7 rfl;have q8:=kS.cell 8 rfl;have H0:=zd (HS.o.below B0);have c0:=zd (HP.o.below B0);have HB:=zd B0;clear HS HP B0 kS kP;go_enter Tryz.func101,Tryz.ntmps101;go_wp2_with fail;rw[<-a0];clear a0;refine(Ui u p v L s _ c0.out H0.o HF.o).mono ?_;rintro e w1 ⟨rfl,hb⟩;have H1:=zd (H0.o.below hb);have b0:=zd (HB.o.trans (hb.mono HB.o.size));replace p0:=ze hb p0;replace p1:=ze hb p1;replace p2:=ze hb p2;replace p3:=ze hb p3;replace p4:=ze hb p4;replace q0:=ze hb q0;replace q1:=ze hb q1;replace q2:=ze hb q2;replace q3:=ze hb q3;replace q4:=ze hb q4;replace q5:=ze hb q5;replace q6:=ze hb q6;replace q7:=ze hb q7;replace q8:=ze hb q8;clear hb H0 c0 HB;go_wp2_with fail;refine(Yy v L s _ H1.o (by rw[HF.o.nst];have:=(vM HF.o.prog).2;omega)).mono ?_;rintro e w2 ⟨a,c,rfl,ho,hb⟩;have HO:=zd (zw ho b0.out.size);clear ho;go_wp2;go_ret;exact⟨a,c,rfl,HO.o,b0.out.trans (hb.mono b0.out.size)⟩
theorem VP (u:PV) (p:Pg) (t x:Int) (w:World) (hp:yK w u p) (ht:0<=t/\t<p.threads.length) (hz:xH u p):
  Calls Tryz.prog 97 #[.agg #[.slice u.s u.ns u.cs,.slice u.g u.ng u.cg,.slice u.b u.nb u.cb,.slice u.r u.nr u.cr,.slice u.t u.nt u.ct],.int .i64 t,.int .i64 x] w λe w'=>e= .returned (.int .i64 (rest p t x))/\Below w.heap.size w w':=by
 obtain⟨bt,ot,et,b0⟩:=hp.thr (by omega);obtain⟨a2,x2,ct,-⟩:=b0 t.toNat (by omega)
 obtain⟨m,em⟩:∃m,m=(p.threads.getD t.toNat []).length:=⟨_,rfl⟩
 rw[<-em] at ct;have hm:=hz.inn t.toNat
 rw[<-em] at hm;have hn:=hz.lt;have t0:=ht.1;have t1:t<(u.nt:Int):=by rw[<-hp.lt];exact ht.2
 have HM:uH (rest p t x=if x=(m:Int) then 3 else 0):=zd (by unfold rest vJ;rw[em]);clear b0 hz ht em hp;obtain⟨W0,a0⟩:∃W0:World,W0=(w.alloc (.cells #[.slice u.s u.ns u.cs,.slice u.g u.ng u.cg,.slice u.b u.nb u.cb,.slice u.r u.nr u.cr,.slice u.t u.nt u.ct] 26)):=⟨_,rfl⟩
 have B0:Below w.heap.size w W0:=by
  rw[a0];exact(xd.alloc (by simp) _)
 have kP:zm W0 (w.heap.size) #[.slice u.s u.ns u.cs,.slice u.g u.ng u.cg,.slice u.b u.nb u.cb,.slice u.r u.nr u.cr,.slice u.t u.nt u.ct] 26:=by
  rw[a0];have h:=zm.new w #[.slice u.s u.ns u.cs,.slice u.g u.ng u.cg,.slice u.b u.nb u.cb,.slice u.r u.nr u.cr,.slice u.t u.nt u.ct] 26;exact h
 have c0:W0.heap.size=w.heap.size+1:=by rw[a0];simp
 have p4:=kP.cell 4 rfl;rw[et] at p4;replace ct:=ze B0 ct;have HB:=zd B0;clear kP B0 et;rw[HM.o];by_cases hx:x=(m:Int)
 ·rw[if_pos hx];have h0:(x==(m:Int))=true:=by simpa using hx
  clear hx;go_enter Tryz.func97,Tryz.ntmps97;go_upto_region 1 with fail;rw[<-a0];clear a0;go_wp2;go_ret;exact⟨rfl,HB.o⟩
 ·rw[if_neg hx];have h0:(x==(m:Int))=false:=by simpa using hx
  clear hx;go_enter Tryz.func97,Tryz.ntmps97;go_upto_region 1 with fail;rw[<-a0];clear a0;go_wp2;go_ret;exact⟨rfl,HB.o⟩
theorem zo.extra {S':List Nat} {a b:World} (h:zo S w a) (k:zo S' a b) (hs:∀q∈S',w.heap.size<=q):zo S w b:=
 ⟨k.os.trans h.os,k.tape.trans h.tape,k.output.trans h.output,Nat.le_trans h.size k.size,λq hq hn=>(k.block q (Nat.lt_of_lt_of_le hq h.size) (λhm=>by have:=hs q hm;omega)).trans (h.block q hq hn)⟩
theorem fJ (X:List Nat) (B:Nat) (u:PV) (p:Pg) (v:zu) (L:zQ) (s:zp) (a:Option Addr) (n c:Nat) (l:List Int) (w0 w:World) (hp:yK w0 u p) (h0:w0.heap.size<=B) (C0:Below w0.heap.size w0 w) (hz:xH u p) (hB:B<=w.heap.size)
  (hs:yr X B w v L s) (hw:yc v.blks w ⟨a,n,c⟩ (zf l) l.length) (hl:l.length<=9) (hn:0<s.places.length/\s.places.length<=8/\s.places.length=s.status.length) (ht:∀t∈l,0<=t/\t<p.threads.length/\t<s.places.length) (o1:∀i,0<=s.places.getD i 0/\s.places.getD i 0<=8):
  Calls Tryz.prog 135 #[.agg #[.slice u.s u.ns u.cs,.slice u.g u.ng u.cg,.slice u.b u.nb u.cb,.slice u.r u.nr u.cr,.slice u.t u.nt u.ct],.agg #[.slice v.pl.a v.pl.n v.pl.c,.slice v.st.a v.st.n v.st.c,.slice v.se.a v.se.n v.se.c,.slice v.on.a v.on.n v.on.c,.slice v.gr.a v.gr.n v.gr.c,.slice v.ba.a v.ba.n v.ba.c,.slice v.ch.a v.ch.n v.ch.c,.slice v.sa.a v.sa.n v.sa.c,.int .i64 v.fl],.slice a n c] w λe w'=>e= .returned v.val/\yr X B w' v L (goAll p s l)/\Below B w w'/\zo v.blks w w':=by
 have E0:=hw.len;dsimp only at E0;have M0:=zd hw;have HS:=zd hs;have HP:=zd hp;have HZ:=zd hz;have HT:=zd ht;have B1:=zd o1;have k0:=zd E0;have N0:=zd hs.npl;have G1:=zd hs.nst;have npl:v.pl.n=v.st.n:=by rw[hs.npl,hs.nst];exact hn.2.2
 have z1:0<v.pl.n:=by rw[hs.npl];exact hn.1
 have z2:v.pl.n<=8:=by rw[hs.npl];exact hn.2.1
 obtain⟨gp,ep,O1,-⟩:=jF hs.pl z1;obtain⟨gs,es,P1,-⟩:=jF hs.st (by omega);have n8:n<=9:=by omega
 have I0:=zd hs.from
 have NB:uH (w.heap.size∉v.blks/\w.heap.size+1∉v.blks/\w.heap.size+1+1∉v.blks):=zd ⟨λh=>by have:=(hs.from _ h).2;omega,λh=>by have:=(hs.from _ h).2;omega,λh=>by have:=(hs.from _ h).2;omega⟩;have GP:uH (gp∈v.blks):=zd (zu.mem_pl (by rw[ep];rfl));have GS:uH (gs∈v.blks):=zd (zu.mem_st (by rw[es];rfl));have F1:=zd npl;clear hp hz hs hw ht o1 hn E0 hl npl;obtain⟨W0,f0⟩:∃W0:World,W0=(((w.alloc (.cells #[.slice u.s u.ns u.cs,.slice u.g u.ng u.cg,.slice u.b u.nb u.cb,.slice u.r u.nr u.cr,.slice u.t u.nt u.ct] 26)).alloc (.cells #[.slice v.pl.a v.pl.n v.pl.c,.slice v.st.a v.st.n v.st.c,.slice v.se.a v.se.n v.se.c,.slice v.on.a v.on.n v.on.c,.slice v.gr.a v.gr.n v.gr.c,.slice v.ba.a v.ba.n v.ba.c,.slice v.ch.a v.ch.n v.ch.c,.slice v.sa.a v.sa.n v.sa.c,.int .i64 v.fl] 38)).alloc (.cells #[.slice none 0 0,.slice none 0 0,.slice none 0 0,.slice none 0 0,.slice none 0 0,.slice none 0 0,.slice none 0 0,.slice none 0 0,.int .i64 0] 38)):=⟨_,rfl⟩
 have B0:Below w.heap.size w W0:=by
  rw[f0];exact(((xd.alloc (by simp) _).alloc (by simp) _).alloc (by simp;omega) _)
 have kP:zm W0 (w.heap.size) #[.slice u.s u.ns u.cs,.slice u.g u.ng u.cg,.slice u.b u.nb u.cb,.slice u.r u.nr u.cr,.slice u.t u.nt u.ct] 26:=by
  rw[f0];have h:=zm.new w #[.slice u.s u.ns u.cs,.slice u.g u.ng u.cg,.slice u.b u.nb u.cb,.slice u.r u.nr u.cr,.slice u.t u.nt u.ct] 26;exact h|>.alloc _|>.alloc _
 have kS:zm W0 (w.heap.size+1) #[.slice v.pl.a v.pl.n v.pl.c,.slice v.st.a v.st.n v.st.c,.slice v.se.a v.se.n v.se.c,.slice v.on.a v.on.n v.on.c,.slice v.gr.a v.gr.n v.gr.c,.slice v.ba.a v.ba.n v.ba.c,.slice v.ch.a v.ch.n v.ch.c,.slice v.sa.a v.sa.n v.sa.c,.int .i64 v.fl] 38:=by
  rw[f0];have h:=zm.new (w.alloc (.cells #[.slice u.s u.ns u.cs,.slice u.g u.ng u.cg,.slice u.b u.nb u.cb,.slice u.r u.nr u.cr,.slice u.t u.nt u.ct] 26)) #[.slice v.pl.a v.pl.n v.pl.c,.slice v.st.a v.st.n v.st.c,.slice v.se.a v.se.n v.se.c,.slice v.on.a v.on.n v.on.c,.slice v.gr.a v.gr.n v.gr.c,.slice v.ba.a v.ba.n v.ba.c,.slice v.ch.a v.ch.n v.ch.c,.slice v.sa.a v.sa.n v.sa.c,.int .i64 v.fl] 38;simp only[World.size_alloc] at h;exact h|>.alloc _
 have kR:zm W0 (w.heap.size+2) #[.slice none 0 0,.slice none 0 0,.slice none 0 0,.slice none 0 0,.slice none 0 0,.slice none 0 0,.slice none 0 0,.slice none 0 0,.int .i64 0] 38:=by
  rw[f0];have h:=zm.new ((w.alloc (.cells #[.slice u.s u.ns u.cs,.slice u.g u.ng u.cg,.slice u.b u.nb u.cb,.slice u.r u.nr u.cr,.slice u.t u.nt u.ct] 26)).alloc (.cells #[.slice v.pl.a v.pl.n v.pl.c,.slice v.st.a v.st.n v.st.c,.slice v.se.a v.se.n v.se.c,.slice v.on.a v.on.n v.on.c,.slice v.gr.a v.gr.n v.gr.c,.slice v.ba.a v.ba.n v.ba.c,.slice v.ch.a v.ch.n v.ch.c,.slice v.sa.a v.sa.n v.sa.c,.int .i64 v.fl] 38)) #[.slice none 0 0,.slice none 0 0,.slice none 0 0,.slice none 0 0,.slice none 0 0,.slice none 0 0,.slice none 0 0,.slice none 0 0,.int .i64 0] 38;simp only[World.size_alloc,Nat.add_assoc,Nat.reduceAdd] at h;exact h
 have N1:W0.heap.size=w.heap.size+3:=by rw[f0];simp
 have p0:=kP.cell 0 rfl;have p1:=kP.cell 1 rfl;have p2:=kP.cell 2 rfl;have p3:=kP.cell 3 rfl;have p4:=kP.cell 4 rfl;have q0:=kS.cell 0 rfl;have q1:=kS.cell 1 rfl;have q2:=kS.cell 2 rfl;have q3:=kS.cell 3 rfl;have q4:=kS.cell 4 rfl;have q5:=kS.cell 5 rfl;have q6:=kS.cell 6 rfl;have q7:=kS.cell 7 rfl;have q8:=kS.cell 8 rfl;rw[ep] at q0;rw[es] at q1;have C1:=zd (show yr ((w.heap.size+1+1)::X) B W0 v L (goAll p s (l.take 0)) from(HS.o.box B0 (k:=w.heap.size+1+1) (by omega) (by omega)));have E1:=zd ((M0.o.below B0));have r1:zm W0 (w.heap.size+1+1) #[.slice none 0 0,.slice none 0 0,.slice none 0 0,.slice none 0 0,.slice none 0 0,.slice none 0 0,.slice none 0 0,.slice none 0 0,.int .i64 0] 38:=kR;have J0:=zd r1;have HB:=zd (B0.mono hB);have D1:=zd (zo.of_below (S:=v.blks) B0);have j1:Below w0.heap.size w0 W0:=C0.trans (B0.mono C0.size);have u1:=zd j1;have EP:=zd ep;have l0:=zd es;clear HS M0 B0 kS kP kR r1 j1 C0 ep es;go_enter Tryz.func135,Tryz.ntmps135;go_upto_region 1 with fail;rw[<-f0];clear f0;go_wp2
 go_loopw [7] (λi wr=>∃k:Nat,k<=n/\i= .int .i64 k/\uH (yr ((w.heap.size+1+1)::X) B wr v L (goAll p s (l.take k)))/\zo v.blks W0 wr) (λi _=>n-(intOf i).toNat)
 case atStart=>exact⟨0,by omega,rfl,C1,zo.refl _ _⟩
 case round=>
  obtain⟨k,hk,rfl,HC,a0⟩:=hrel;have m0:=zZ a0 p0 NB.o.1;have n0:=zZ a0 p1 NB.o.1;have o0:=zZ a0 p2 NB.o.1;have r0:=zZ a0 p3 NB.o.1;have s0:=zZ a0 p4 NB.o.1;have u0:=zZ a0 q0 NB.o.2.1;have v0:=zZ a0 q1 NB.o.2.1;have O0:=zZ a0 q2 NB.o.2.1;have P0:=zZ a0 q3 NB.o.2.1;have Q0:=zZ a0 q4 NB.o.2.1;have R0:=zZ a0 q5 NB.o.2.1;have S0:=zZ a0 q6 NB.o.2.1;have T0:=zZ a0 q7 NB.o.2.1;have U0:=zZ a0 q8 NB.o.2.1;have a1:Below B W0 wr:=a0.below (by have:=HB.o.size;omega) (λb hb=>(I0.o b hb).1);by_cases Q1:k<n
  ·obtain⟨bw,ow,ea,g'⟩:=((E1.o.touch a0 (λ_ h=>h)).rd).int (by have:=k0.out;omega);dsimp only at ea;have g:=g' k (by have:=k0.out;omega);obtain⟨t,et⟩:∃t,t=l.getD k 0:=⟨_,rfl⟩
   rw[<-et] at g;have l1:t∈l:=by rw[et,List.getD_eq_getElem?_getD,List.getElem?_eq_getElem (by have:=k0.out;omega)];exact List.getElem_mem _
   obtain⟨t0,t1,t2⟩:=HT.o t l1;obtain⟨s',j0⟩:∃s',s'=goAll p s (l.take k):=⟨_,rfl⟩
   rw[<-j0] at HC;have m1:s'.places.length=v.pl.n:=(by rw[j0,jn,N0.o]);have n1:s'.status.length=v.st.n:=(by rw[j0,vc,G1.o]);have D0:=jj (p:=p) (l.take k) s t.toNat
   rw[<-j0,List.length_take] at D0;have I1:=B1.o t.toNat
   obtain⟨x,ex⟩:∃x,x=s'.places.getD t.toNat 0:=⟨_,rfl⟩
   rw[<-ex] at D0;have hx:0<=x/\x<=16:=(by omega);have J1:IntKind.i64.wrap (x+1)=x+1:=Go.IntWalk.i64_in _ (by omega);have t3:t<(v.pl.n:Int):=by rw[N0.o];exact t2
   have t4:t<(v.st.n:Int):=by have:=F1.o;omega
   have own:=HC.o.pl;rw[show v.pl.val= .slice (some ⟨gp,0,none⟩) v.pl.n v.pl.c by rw[<-EP.o]] at own;have cx:=own.cellAt t.toNat (by omega)
   replace cx:wr.cell? ⟨gp,t.toNat,none⟩=some (.int .i64 x):=by
    rw[cx,ex];simp[zf,List.getD,show t.toNat<s'.places.length by omega]
   have k1:=own.frozenAt t.toNat
   have R:=vR own t.toNat (.int .i64 (x+1)) (cs':=zf (s'.places.set t.toNat (x+1))) (by simp[zf,List.map_set])
   have F0:=HC.o.set_pl (g:=gp) (by rw[EP.o];rfl) ((zo.refl [gp] wr).set (v:= .int .i64 (x+1)) (b:=gp) (j:=t.toNat) (by simp)) (ps:=s'.places.set t.toNat (x+1)) (by rw[List.length_set];omega) (by have:=R.1;rw[show v.pl.val= .slice (some ⟨gp,0,none⟩) v.pl.n v.pl.c by rw[<-EP.o]];exact this);have bD:Below (wr.setCell ⟨gp,t.toNat,none⟩ (.int .i64 (x+1))).heap.size (wr.setCell ⟨gp,t.toNat,none⟩ (.int .i64 (x+1))) (wr.setCell ⟨gp,t.toNat,none⟩ (.int .i64 (x+1))).drew:=xd.drew;have G0:=F0.below bD;have b1:zo v.blks wr (wr.setCell ⟨gp,t.toNat,none⟩ (.int .i64 (x+1))).drew:=((zo.refl v.blks wr).set GP.o).trans (zo.of_below bD);have V0:(wr.setCell ⟨gp,t.toNat,none⟩ (.int .i64 (x+1))).drew.cell? ⟨gp,t.toNat,none⟩=some (.int .i64 (x+1)):=by
    refine ze bD ?_;have:=R.1.cellAt t.toNat (by omega)
    rw[this];simp[zf,show t.toNat<s'.places.length by omega]
   have L0:=zd G0;have c0:=zd b1;have H0:=zd V0;have ET:=zd et;have ES:=zd j0;have EX:=zd ex;have K1:=zd m1;have K0:=zd n1;have i0:(0:Int)<=(k:Int):=(by omega);have i1:(k:Int)<(n:Int):=(by omega);have TP:uH (0<=t/\t<p.threads.length):=zd ⟨t0,t1⟩;subst ea;clear g' et l1 t1 t2 D0 I1 ex own R F0 bD G0 b1 V0 j0 m1 n1;go_wp2;go_still_tail 9,(by kernel_rfl)
   go_wp2;obtain⟨WB,h1⟩:∃WB:World,WB=(wr.setCell ⟨gp,t.toNat,none⟩ (.int .i64 (x+1))).drew:=⟨_,rfl⟩
   rw[<-h1] at L0 c0 H0⊢;have f1:=a0.trans c0.out;have X0:=H0.o;replace m0:=zZ c0.out m0 NB.o.1;replace n0:=zZ c0.out n0 NB.o.1;replace o0:=zZ c0.out o0 NB.o.1;replace r0:=zZ c0.out r0 NB.o.1;replace s0:=zZ c0.out s0 NB.o.1;replace u0:=zZ c0.out u0 NB.o.2.1;replace v0:=zZ c0.out v0 NB.o.2.1;replace O0:=zZ c0.out O0 NB.o.2.1;replace P0:=zZ c0.out P0 NB.o.2.1;replace Q0:=zZ c0.out Q0 NB.o.2.1;replace R0:=zZ c0.out R0 NB.o.2.1;replace S0:=zZ c0.out S0 NB.o.2.1;replace T0:=zZ c0.out T0 NB.o.2.1;replace U0:=zZ c0.out U0 NB.o.2.1;have Z0:Below w0.heap.size w0 WB:=u1.out.trans ((f1.below (B:=B) (by have:=HB.o.size;omega) (λb hb=>(I0.o b hb).1)).mono h0);have A1:=zd (HP.o.below Z0);clear cx k1 J1 h1 Z0 g;apply xZ 11 [.k _,.k _,.k _,.k _,.k _,.k _,.k _,.k _,.k _,.k _,.k (.int .i64 (rest p t (x+1)))] trivial ?s1 ?e1
   case s1=>
    repeat' apply And.intro
    all_goals first|trivial|(intro ρ w1 hG hfr hd;obtain⟨fc,ff⟩:=xu hfr;have f3:=hfr (.tmp 3) rfl;have f4:=hfr (.tmp 4) rfl;have f8:=hfr (.tmp 8) rfl;have v0:=ze hG v0;have m0:=ze hG m0;have n0:=ze hG n0;have o0:=ze hG o0;have r0:=ze hG r0;have s0:=ze hG s0;have u0:=ze hG u0;have X0:=ze hG X0)
    exact yj;exact yI;exact yj;exact yj;exact yj;exact yj;exact yI;exact yj;exact Gu;exact yI
    ·obtain⟨d0,d1,d2,-⟩:=hd;have d0:(ρ (.tmp 32))= .agg #[.slice u.s u.ns u.cs,.slice u.g u.ng u.cg,.slice u.b u.nb u.cb,.slice u.r u.nr u.cr,.slice u.t u.nt u.ct]:=d0;have d1:(ρ (.tmp 33))= .int .i64 t:=d1;have d2:(ρ (.tmp 38))= .int .i64 (x+1):=d2;refine zU (by go_simp;exact⟨⟨rfl,rfl⟩,rfl⟩) ?_;refine(VP u p t (x+1) w1 (A1.o.below hG) TP.o HZ.o).mono ?_;rintro e w2 ⟨rfl,hb⟩;exact⟨_,rfl,hb,rfl,yn,hG.trans (hb.mono hG.size)⟩
   intro w2 hG;refine yv ?_;have x0:=L0.o.below hG;have own:=x0.st;rw[show v.st.val= .slice (some ⟨gs,0,none⟩) v.st.n v.st.c by rw[<-l0.out]] at own;have k1:=own.frozenAt t.toNat
   obtain⟨yo,L1⟩:∃yo,w2.cell? ⟨gs,t.toNat,none⟩=some yo:=by
    have h:=own.cellAt t.toNat (by omega)
    rw[h];have:t.toNat<(zf s'.status).length:=by rw[List.length_map,K0.o];omega
    exact⟨_,List.getElem?_eq_getElem this⟩
   have R:=vR own t.toNat (.int .i64 (rest p t (x+1))) (cs':=zf (s'.status.set t.toNat (rest p t (x+1)))) (by simp[zf,List.map_set])
   have g1:zo [gs] w2 (w2.setCell ⟨gs,t.toNat,none⟩ (.int .i64 (rest p t (x+1)))):=(zo.refl [gs] w2).set (by simp);have z0:=x0.set_st (g:=gs) (by rw[l0.out];rfl) g1 (ps:=s'.status.set t.toNat (rest p t (x+1))) (by rw[List.length_set,K0.o]) (by have:=R.1;rw[show v.st.val= .slice (some ⟨gs,0,none⟩) v.st.n v.st.c by rw[<-l0.out]];exact this);have Y0:({({s' with places:=s'.places.set t.toNat (x+1)}:zp) with status:=s'.status.set t.toNat (rest p t (x+1))}:zp)=goAll p s (l.take (k+1)):=by
    rw[<-xQ l 0 (show k<l.length by have:=k0.out;omega),<-ET.o,<-Jl,<-ES.o];unfold jR;rw[<-EX.o]
   rw[Y0] at z0;have v1:=zd z0;have H1:zo v.blks W0 (w2.setCell ⟨gs,t.toNat,none⟩ (.int .i64 (rest p t (x+1)))):=(f1.trans (zo.of_below hG)).trans ((zo.refl v.blks w2).set GS.o);clear x0 own R g1 z0 Y0;go_wp2
   go_roundw
   case rel=>exact⟨k+1,by omega,by go_num,v1,H1⟩
   case measure=>simp[intOf];omega
  ·obtain rfl:k=n:=by omega
   have g0:=HC.o;rw[show l.take k=l by rw[k0.out];exact List.take_length] at g0;have b0:=a0.blk J0.o NB.o.2.2;have M1:=J0.o.lt;have y0:=b0.cell 0 rfl;have R1:=b0.fz 0;have y1:=b0.cell 1 rfl;have S1:=b0.fz 1;have y2:=b0.cell 2 rfl;have T1:=b0.fz 2;have y3:=b0.cell 3 rfl;have U1:=b0.fz 3;have y4:=b0.cell 4 rfl;have V1:=b0.fz 4;have y5:=b0.cell 5 rfl;have X1:=b0.fz 5;have y6:=b0.cell 6 rfl;have Y1:=b0.fz 6;have y7:=b0.cell 7 rfl;have Z1:=b0.fz 7;have y8:=b0.cell 8 rfl;have a2:=b0.fz 8;have x1:=zd g0;clear b0 g0 HC;go_wp2
   have A0:=((((((((((zo.refl [w.heap.size+1+1] wr).set (v:= .slice (some ⟨gp,0,none⟩) v.pl.n v.pl.c) (b:=w.heap.size+1+1) (j:=0) (by simp)).set (v:= .slice (some ⟨gs,0,none⟩) v.st.n v.st.c) (b:=w.heap.size+1+1) (j:=1) (by simp)).set (v:= .slice v.se.a v.se.n v.se.c) (b:=w.heap.size+1+1) (j:=2) (by simp)).set (v:= .slice v.on.a v.on.n v.on.c) (b:=w.heap.size+1+1) (j:=3) (by simp)).set (v:= .slice v.gr.a v.gr.n v.gr.c) (b:=w.heap.size+1+1) (j:=4) (by simp)).set (v:= .slice v.ba.a v.ba.n v.ba.c) (b:=w.heap.size+1+1) (j:=5) (by simp)).set (v:= .slice v.ch.a v.ch.n v.ch.c) (b:=w.heap.size+1+1) (j:=6) (by simp)).set (v:= .slice v.sa.a v.sa.n v.sa.c) (b:=w.heap.size+1+1) (j:=7) (by simp)).set (v:= .int .i64 v.fl) (b:=w.heap.size+1+1) (j:=8) (by simp))
   refine bodyPost_ret (v:= .agg #[.slice (some ⟨gp,0,none⟩) v.pl.n v.pl.c,.slice (some ⟨gs,0,none⟩) v.st.n v.st.c,.slice v.se.a v.se.n v.se.c,.slice v.on.a v.on.n v.on.c,.slice v.gr.a v.gr.n v.gr.c,.slice v.ba.a v.ba.n v.ba.c,.slice v.ch.a v.ch.n v.ch.c,.slice v.sa.a v.sa.n v.sa.c,.int .i64 v.fl]) (by simp[results,Tryz.results135,go_sem,y0,y1,y2,y3,y4,y5,y6,y7,y8]) rfl ⟨by rw[<-EP.o,<-l0.out],?_,?_,?_⟩
   ·exact(x1.out.other (A0.mono (by simp))).sub (λq hq=>List.mem_cons_of_mem _ hq)
   ·exact(HB.o.trans a1).trans (A0.below (by have:=a1.size;have:=HB.o.size;omega) (λq hq=>by obtain rfl:=yh hq;omega))
   ·exact((D1.o.trans a0).extra A0 (λq hq=>by obtain rfl:=yh hq;omega))
end Go.Proofs.YtfclolgfegdfjaaGreat
