/- Part of a proof: IFitsK IFits IReady IFault IStep. -/
import Derived.Test.YtfclolgfegdfjaaGreatVPMachK
import Derived.Test.YtfclolgfegdfjaaGreatVPImp
import Derived.StillTailTactics
set_option maxRecDepth 100000
set_option maxHeartbeats 16000000
namespace Go.Proofs.YtfclolgfegdfjaaGreat
open Go.RowKit Go.Sort
variable {w W W':World} {s:zp} {n k i j:Nat} {a:uQ} {l:List It} {cs:uZ} {α:Type}
section
variable {P:Program} {α:Type} {f:α->uZ} {W W':World} {B:Nat} {es:List (Int×α)} {T K E:TypeId} {q:IntKind}
theorem jE.row (h:jE f W B es) (hn:(es.map (·.1)).Nodup) {k:Int} {x:α} (hx:(k,x)∈es):∃a c,∀Z:List (Int×Value),qe W B Z->YG Z k=some (.slice a 1 c)/\Rd W a (f x):=by
 obtain⟨Z,rfl,h2,h3⟩:=h;obtain⟨z,hz,e⟩:=yU.1 hx;refine⟨z.2.1,z.2.2,λZ' g0=>⟨?_,by have:=(h3 z hz).1;rw[e] at this;exact this⟩⟩;obtain⟨es,c0,hb,he,_⟩:=h2;obtain⟨h0,a0,d0,f0,_⟩:=g0;rw[hb] at d0
 cases d0
 have hZ:Z'=Z.map λz=>(z.1.1,Value.slice z.2.1 1 z.2.2):=by
  rw[he] at f0;have b0:∀{a b:List (Int×Value)},a.map (λp=>(Value.int .i64 p.1,p.2))=b.map (λp=>(Value.int .i64 p.1,p.2))->a=b:=by
   intro a
   induction a with
   |nil=>intro b h;cases b with|nil=>rfl|cons _ _=>simp at h
   |cons a l ih=>
    intro b h
    cases b with
    |nil=>simp at h
    |cons b m=>
     simp only[List.map_cons,List.cons.injEq,Prod.mk.injEq,Value.int.injEq,true_and] at h;rw[Prod.ext h.1.1 h.1.2,ih h.2]
  exact(b0 f0).symm
 rw[hZ];exact Un (by rw[List.map_map];rw[List.map_map] at hn;exact hn) (yU.2 ⟨z,hz,by rw[e]⟩)
theorem jE.look (hT:P.underlying T=some (.map K E)) (hK:P.underlying K=some (.int q)) (hz:∀w,(zeroValue E).run P w= .ok uk w) (h:jE f W B es) (hn:(es.map (·.1)).Nodup) (k:Int):
  ∃a n c,(∀w1,xW W w1->(Instr.lookup T (.map (some B)) (uy k) false).run P w1= .ok (.slice a n c) w1)/\((n=0/\k∉es.map (·.1))\/(n=1/\∃x,(k,x)∈es/\Rd W a (f x))):=by
 by_cases hk:k∈es.map (·.1)
 ·obtain⟨⟨k',x⟩,hx,rfl⟩:=yU.1 hk;obtain⟨a,c,hr⟩:=h.row hn hx;obtain⟨Z,h1,h2,h3⟩:=h;refine⟨a,1,c,λw1 hb=> ?_,.inr ⟨rfl,x,hx,(hr _ h2).2⟩⟩;have h9:=uC (P:=P) hT hK hz (h2.below hb) k';rw[(hr _ h2).1] at h9;exact h9
 ·obtain⟨Z,h1,h2,h3⟩:=h;refine⟨none,0,0,λw1 hb=> ?_,.inl ⟨rfl,hk⟩⟩;have h9:=uC (P:=P) hT hK hz (h2.below hb) k;rw[jE.absent h1 hk] at h9;exact h9
theorem jE.keep (h:jE f W B es) (hr:Rd W a cs) (a0:cs≠[]) (hg:W.grownBy W' (some B)):Rd W' a cs:=by
 obtain⟨Z,h1,h2,h3⟩:=h;exact hr.grown hg (.inr λe=>Qe h2 hr a0 B e rfl)
theorem jE.len0 (h:jE f W B []) (hT:P.underlying T=some (.map K E)) (t:TypeId):(Builtin.len_ #[T] t #[.map (some B)]).run P W= .ok (uy 0) W:=by
 obtain⟨Z,h1,h2,h3⟩:=h;obtain rfl:Z=[]:=by simpa using h1
 exact ka h2 t hT
end
section
variable {P:Program} {w:World} {ops:Array Oper} {rest:List Oper} {o:Oper} {a:Act} {Q:Exit->Act->World->Prop} {B:Nat} {T K E:TypeId} {q:IntKind} {α:Type} {f:α->uZ} {es:List (Int×α)}
theorem X9 (hg:o.guard=none) (m x:Operand) (hop:o.op=Op.call {callee:=Callee.builtin Builtin.delete,args:= #[m,x],argTypes:= #[T,K]}) (hT:P.underlying T=some (.map K E)) (hK:P.underlying K=some (.int q))
  (hm:a.eval m= .map (some B)) (a0:jE f w B es) (d0:∀x,f x≠[]) {k:Int} (hx:a.eval x=uy k)
  (h:∀w',jE f w' B (es.filter λe=>decide (e.1≠k))->w.grownBy w' (some B)->w'.heap.size=w.heap.size->wpList P ops Q rest (a.put o.dst (.tuple #[])) w'):wpList P ops Q (o::rest) a w:=by
 obtain⟨Z,h1,h2,h3⟩:=a0;refine Vr hg m x hop hT hK hm h2 hx λw' c0 b0 f0=>h w' ?_ b0 f0;rw[Ue _ _ h2.nodup,List.filter_map] at c0;refine⟨Z.filter λz=>decide (z.1.1≠k),?_,c0,λz hz=> ?_⟩
 ·rw[<-h1,List.filter_map];rfl
 ·have h9:=h3 z ((List.mem_filter.1 hz).1);exact⟨h9.1.grown b0 (.inr λe=>Qe h2 h9.1 (d0 _) B e rfl),h9.2⟩
end
def qt {α:Type} (es:List (Int×α)) (k:Nat):List (Int×α):=es.filter λe=>decide ((k:Int)<=e.1)
theorem Gn (es:List (Int×α)) (k:Nat):(qt es k).filter (λe=>decide (e.1≠(k:Int)))=qt es (k+1):=by
 unfold qt;rw[List.filter_filter];congr 1;funext e;rw[<-Bool.decide_and];exact decide_eq_decide.2 jq
theorem Gf {es:List (Int×α)} (h:∀e∈es,0<=e.1):qt es 0=es:=List.filter_eq_self.2 λe he=>xK (by have:=h e he;omega)
theorem tx {es:List (Int×α)} (h:∀e∈es,e.1<n):qt es n=[]:=List.filter_eq_nil_iff.2 λe he=>by have:=h e he;simp;omega
theorem ZX {es:List (Int×α)} {x:α}:((k:Int),x)∈qt es k↔((k:Int),x)∈es:=by simp[qt]
theorem hV {es:List (Int×α)}:(k:Int)∈(qt es k).map (·.1)↔(k:Int)∈es.map (·.1):=by simp[qt]
theorem Kx {es:List (Int×α)} (h:(es.map (·.1)).Nodup):((qt es k).map (·.1)).Nodup:=h.sublist (List.filter_sublist.map _)
theorem fb {es:List (Int×α)} (h:(es.map (·.1)).Nodup) {k:Int} {x y:α} (h1:(k,x)∈es) (h2:(k,y)∈es):x=y:=by
 have:=Vl h h1 h2 rfl;exact congrArg Prod.snd this
theorem DX (w:World) (a0 a1 a2 b0 b1 b2:Int):(binOp .neq 133 (.agg #[uy a0,uy a1,uy a2]) (.agg #[uy b0,uy b1,uy b2])).run Tryz.prog w= .ok (.bool (!(a0==b0&&a1==b1&&a2==b2))) w:=by
 have u3:=Tryz.underlying3;have a3:=Tryz.isAgg3;have z3:=Tryz.sizeOf3;have hS:Tryz.prog.underlying 133=some (.struct (Tryz.prog.fieldsOf 133)):=by kernel_rfl
 have hp:Tryz.prog.stoodInHeld 133=false:=by kernel_rfl
 rw[run_neq_struct,show(10000:Nat)=9999+1 from rfl,run_equalIn_agg w 9999 _ _ _ hS hp];simp only[Program.fieldsOf,Tryz.underlying133];go_simp;by_cases h0:a0=b0<;>by_cases h1:a1=b1<;>by_cases h2:a2=b2<;>simp[h0,h1,h2]
theorem dF (w:World) (x y:Operand) (xs ys:Array Value):(eqGuard .neq 133 x y (.agg xs) (.agg ys)).run Tryz.prog w= .ok () w:=
 run_eqGuard_agg w .neq _ x y xs ys (by kernel_rfl)
structure FW (w W:World) (l:List It) (N:Nat) (s:zp) (i j:Nat):Prop where
 fr:Fr w W l
 hN:w.heap.size<=N/\N+1∉zO l/\N+3∉zO l
 wm:jE vL W (N+1) (qt (yD s) i)
 om:jE uL W (N+3) (qt (jg s) j)
theorem FW.call {N:Nat} (h:FW w W l N s i j) (hb:xW W W'):FW w W' l N s i j:=⟨h.fr.call hb,h.hN,h.wm.below hb,h.om.below hb⟩
theorem FW.delW {N:Nat} (h:FW w W l N s k j) (hw:jE vL W' (N+1) ((qt (yD s) k).filter λe=>decide (e.1≠(k:Int)))) (hg:W.grownBy W' (some (N+1))):FW w W' l N s (k+1) j:=by
 obtain⟨Z,_,h2,_⟩:=h.wm;exact⟨h.fr.other (zo.of_grown (S:=[N+1]) hg λk hk=>by cases hk;simp) (λk hk=>by obtain rfl:=yh hk;exact⟨by have:=h.hN.1;omega,h.hN.2.1⟩),h.hN,by rw[<-Gn];exact hw,h.om.grown hg jq (λ_=>jv) h2⟩
theorem FW.delO {N:Nat} (h:FW w W l N s j k) (hw:jE uL W' (N+3) ((qt (jg s) k).filter λe=>decide (e.1≠(k:Int)))) (hg:W.grownBy W' (some (N+3))):FW w W' l N s j (k+1):=by
 obtain⟨Z,_,h2,_⟩:=h.om;exact⟨h.fr.other (zo.of_grown (S:=[N+3]) hg λk hk=>by cases hk;simp) (λk hk=>by obtain rfl:=yh hk;exact⟨by have:=h.hN.1;omega,h.hN.2.2⟩),h.hN,h.wm.grown hg jq (λ_=>jv) h2,by rw[<-Gn];exact hw⟩
end Go.Proofs.YtfclolgfegdfjaaGreat
namespace Go.Proofs.YtfclolgfegdfjaaGreat
open Go.RowKit
abbrev Gm (w:World) (u:PV) (v:zu):List It:=[.blk (w.heap.size+1) (yN v) 38,.blk w.heap.size (zF u) 26]
theorem qE (u:PV) (p:Pg) (v:zu) (L:zQ) (s:zp) (w:World) (hp:yK w u p) (hr:yZ w v L s) (hf:yp p s):
  Calls Tryz.prog 33 #[.agg (zF u),v.val] w λe w'=>e= .returned (.bool true)/\xW w w':=by
 have HS:=zd hr;have HP:=zd hp;have HF:=zd hf;have HZ:=zd hf.sm;obtain⟨y1,y2,y3,y4,⟨y5,y6⟩,y7⟩:=yf hf.prog;have es:v.se.n=u.ns:=by rw[hr.se.len,hf.nse,hp.ls]
 have eg:v.gr.n=u.ng:=by rw[hr.gr.len,hf.ngr,hp.lg]
 have eb:v.ba.n=u.nb:=by rw[hr.ba.len,hf.nba,hp.lb]
 have ec:v.ch.n=u.nr:=by rw[hr.ch.len,hf.nch,hp.lr]
 have eo:v.on.n=3:=by rw[hr.on.len,hf.non]
 have P0:v.pl.n=u.nt:=by rw[hr.pl.len,hf.np,hp.lt]
 have R0:v.st.n=u.nt:=by rw[hr.st.len,hf.nst,hp.lt]
 have m1:((v.se.n:Int) !=(u.ns:Int))=false:=by rw[es];simp
 have m2:((v.on.n:Int) !=3)=false:=by rw[eo];rfl
 have m3:((v.gr.n:Int) !=(u.ng:Int))=false:=by rw[eg];simp
 have m4:((v.ba.n:Int) !=(u.nb:Int))=false:=by rw[eb];simp
 have m5:((v.ch.n:Int) !=(u.nr:Int))=false:=by rw[ec];simp
 have m6:((v.pl.n:Int) !=(u.nt:Int))=false:=by rw[P0];simp
 have m7:((v.st.n:Int) !=(u.nt:Int))=false:=by rw[R0];simp
 have n1:v.se.n<=3:=by rw[hr.se.len,hf.nse];exact y1
 have n2:v.gr.n<=3:=by rw[hr.gr.len,hf.ngr];exact y2
 have n3:v.ba.n<=3:=by rw[hr.ba.len,hf.nba];exact y3
 have n4:v.ch.n<=3:=by rw[hr.ch.len,hf.nch];exact y4
 have n5:v.on.n<=3:=jq;have n6:v.sa.n<=64:=by rw[hr.sa.len];exact hf.nsa
 have f1:0<=v.fl:=by rw[hr.fl];exact hf.flt.1
 have f2:v.fl<=4:=by rw[hr.fl];exact hf.flt.2
 have t1:1<=u.nt:=by rw[<-hp.lt];exact y5
 have t4:u.nt<=4:=by rw[<-hp.lt];exact y6
 have YS:=zd y7;have F:=((Fr.start w).alloc (zF u) 26).alloc (yN v) 38;simp only[yY] at F;have cs:=F.c9 0 rfl;have cp:=F.c5 1 rfl;have EE:=zd (And.intro es (And.intro eb ec));clear y1 y2 y3 y4 y5 y6 y7 es eg eb ec eo P0 R0 hp hr hf;go_enter Tryz.func33,Tryz.ntmps33;go_wp2_with fail;refine(Yo u p _ (HP.o.below F.bel) (vx HF.o.prog HP.o)).mono ?_;rintro e w1 ⟨rfl,hb⟩;rw[HF.o.prog];replace F:=F.call hb;replace cs:=F.c9 0 rfl;replace cp:=F.c5 1 rfl;clear hb;go_upto_region 4 with fail;clear m1 m2 m3 m4 m5 m6 m7 f1 f2 cp;go_wp2;clear cs
 go_loopw [108] (λi wr=>∃k:Nat,k<=v.se.n/\i=uy k/\Fr w wr (Gm w u v)) (λi _=>v.se.n-(intOf i).toNat)
 case atStart=>exact⟨0,jq,rfl,F⟩
 case round=>
  clear F;obtain⟨k,hk,rfl,F⟩:=hrel;by_cases f0:k<v.se.n
  ·have a0:k<s.sems.length:=by have:=HS.o.se.len;omega
   obtain⟨x,q,b1,o1,HX,ea,g0,g1,g2,Q0,o0,K0⟩:=HS.o.at_se (j:=k) a0;replace g0:=ze F.bel g0;replace g1:=ze F.bel g1;replace g2:=ze F.bel g2;have m0:uH (Xb x/\x.limit=p.sems.getD k 0):=zd (by rw[HX.o];exact(HF.o.se k a0));have F2:=F.alloc #[uy x.free,uy x.limit,.slice q.a q.n q.c] 74;have cx:=F2.c3 0 rfl;have q0:k<p.sems.length:=by rw[HP.o.ls];have:=EE.o;omega
   go_upto_region 7 with fail;obtain⟨u2,hu,F3⟩:=F2.named;rw[<-hu];clear hu F2 F cx ea g0 g1 g2;obtain⟨bu,ou,eu,gu⟩:=(F3.rd HP.o.rs).int jq;have cu:=gu k q0;have cb:u2.cell? ⟨w.heap.size,0,none⟩=some (.slice u.s u.ns u.cs):=F3.cell 2 0 rfl rfl;rw[eu] at cb;obtain⟨lv,n0⟩:=jy (p.sems.getD k 0);rw[<-n0] at cu;have i1:(k:Int)<(u.ns:Int):=by rw[<-HP.o.ls];omega
   have i0:(0:Int)<=(k:Int):=jq;have t0:(x.limit !=lv)=false:=by rw[n0,<-m0.out.2];simp
   have c0:=F3.cell 0 0 rfl rfl;have c1:=F3.cell 0 1 rfl rfl;have c2:=F3.cell 0 2 rfl rfl;have p0:=λd os=>Calls.regrown_of (Y6 x q.a q.n q.c (Sort.grow (redrawn u2 d) os) o0.out.symm (((F3.rd Q0.o)).below (below_regrown _ d os)) m0.out.1);have z0:=zd p0;clear p0 gu eu n0 q0;have D0:=λd os=>cell_regrown c0 d os;have E0:=λd os=>cell_regrown c1 d os;have F0:=λd os=>cell_regrown c2 d os;have H0:=λd os=>cell_regrown cu d os;have G0:=λd os=>cell_regrown cb d os;clear c0 c1 c2 cu cb;refine wp_region_quiet_below (by kernel_rfl) (by kernel_rfl) ?_
   repeat (go_big_quiet_step (with_reducible exact z0.out _ _))
   refine wpQuiet_nil ?_;intro w6 b0;have F6:=F3.call (vV b0);clear b0 D0 E0 F0 H0 G0;clear a0;go_wp2
   go_roundw
   case rel=>exact⟨k+1,jq,by go_num,F6.sub jv⟩
   case measure=>exact uq
  ·obtain rfl:k=v.se.n:=jq;clear f0 hk;have cs:=F.c9 0 rfl;go_wp2;clear cs
   go_loopw [130] (λi wr=>∃k:Nat,k<=v.gr.n/\i=uy k/\Fr w wr (Gm w u v)) (λi _=>v.gr.n-(intOf i).toNat)
   case atStart=>exact⟨0,jq,rfl,F⟩
   case round=>
    clear F;obtain⟨k,hk,rfl,F⟩:=hrel;by_cases f0:k<v.gr.n
    ·have a0:k<s.groups.length:=by have:=HS.o.gr.len;omega
     obtain⟨x,q,b1,o1,HX,ea,g0,g1,Q0,o0,K0⟩:=HS.o.at_gr (j:=k) a0;replace g0:=ze F.bel g0;replace g1:=ze F.bel g1;have m0:uH (YY x):=zd (by rw[HX.o];exact(HF.o.gr k a0));have F2:=F.alloc #[uy x.count,.slice q.a q.n q.c] 87;have cx:=F2.c2 0 rfl;go_wp2_with fail;refine(Yp x q.a q.n q.c _ o0.out.symm (F2.rd Q0.o) m0.out).mono ?_;rintro e w6 ⟨rfl,hb⟩;have F6:=F2.call hb;clear hb F2 F cx ea g0 g1;clear a0;go_wp2
     go_roundw
     case rel=>exact⟨k+1,jq,by go_num,F6.sub jv⟩
     case measure=>exact uq
    ·obtain rfl:k=v.gr.n:=jq;clear f0 hk;have cs:=F.c9 0 rfl;go_wp2;clear cs
     go_loopw [141] (λi wr=>∃k:Nat,k<=v.ba.n/\i=uy k/\Fr w wr (Gm w u v)) (λi _=>v.ba.n-(intOf i).toNat)
     case atStart=>exact⟨0,jq,rfl,F⟩
     case round=>
      clear F;obtain⟨k,hk,rfl,F⟩:=hrel;by_cases f0:k<v.ba.n
      ·have a0:k<s.bars.length:=by have:=HS.o.ba.len;omega
       obtain⟨x,q,b1,o1,HX,ea,g0,g1,g2,Q0,o0,K0⟩:=HS.o.at_ba (j:=k) a0;replace g0:=ze F.bel g0;replace g1:=ze F.bel g1;replace g2:=ze F.bel g2;have m0:uH (Jo x/\x.parties=p.barriers.getD k 0):=zd (by rw[HX.o];exact(HF.o.ba k a0));have F2:=F.alloc #[uy x.parties,uy x.round,.slice q.a q.n q.c] 93;have cx:=F2.c3 0 rfl;have q0:k<p.barriers.length:=by rw[HP.o.lb];have:=EE.o;omega
       go_upto_region 19 with fail;obtain⟨u2,hu,F3⟩:=F2.named;rw[<-hu];clear hu F2 F cx ea g0 g1 g2;obtain⟨bu,ou,eu,gu⟩:=(F3.rd HP.o.rb).int jq;have cu:=gu k q0;have cb:u2.cell? ⟨w.heap.size,2,none⟩=some (.slice u.b u.nb u.cb):=F3.cell 2 2 rfl rfl;rw[eu] at cb;obtain⟨lv,n0⟩:=jy (p.barriers.getD k 0);rw[<-n0] at cu;have i1:(k:Int)<(u.nb:Int):=by rw[<-HP.o.lb];omega
       have i0:(0:Int)<=(k:Int):=jq;have t0:(x.parties !=lv)=false:=by rw[n0,<-m0.out.2];simp
       have c0:=F3.cell 0 0 rfl rfl;have c1:=F3.cell 0 1 rfl rfl;have c2:=F3.cell 0 2 rfl rfl;have p0:=λd os=>Calls.regrown_of (Qb x q.a q.n q.c (Sort.grow (redrawn u2 d) os) o0.out.symm (((F3.rd Q0.o)).below (below_regrown _ d os)) m0.out.1);have z0:=zd p0;clear p0 gu eu n0 q0;have D0:=λd os=>cell_regrown c0 d os;have E0:=λd os=>cell_regrown c1 d os;have F0:=λd os=>cell_regrown c2 d os;have H0:=λd os=>cell_regrown cu d os;have G0:=λd os=>cell_regrown cb d os;clear c0 c1 c2 cu cb;refine wp_region_quiet_below (by kernel_rfl) (by kernel_rfl) ?_
       repeat (go_big_quiet_step (with_reducible exact z0.out _ _))
       refine wpQuiet_nil ?_;intro w6 b0;have F6:=F3.call (vV b0);clear b0 D0 E0 F0 H0 G0;clear a0;go_wp2
       go_roundw
       case rel=>exact⟨k+1,jq,by go_num,F6.sub jv⟩
       case measure=>exact uq
      ·obtain rfl:k=v.ba.n:=jq;clear f0 hk;have cs:=F.c9 0 rfl;go_wp2;clear cs
       go_loopw [163] (λi wr=>∃k:Nat,k<=v.ch.n/\i=uy k/\Fr w wr (Gm w u v)) (λi _=>v.ch.n-(intOf i).toNat)
       case atStart=>exact⟨0,jq,rfl,F⟩
       case round=>
        clear F;obtain⟨k,hk,rfl,F⟩:=hrel;by_cases f0:k<v.ch.n
        ·have a0:k<s.chans.length:=by have:=HS.o.ch.len;omega
         obtain⟨x,q,b1,o1,HX,ea,g0,g1,g2,g3,g4,Q0,o0,K0,Q1,V0,x1,Q2,X0,z1⟩:=HS.o.at_ch (j:=k) a0;replace g0:=ze F.bel g0;replace g1:=ze F.bel g1;replace g2:=ze F.bel g2;replace g3:=ze F.bel g3;replace g4:=ze F.bel g4;have m0:uH (ZB x/\x.room=p.rooms.getD k 0):=zd (by rw[HX.o];exact(HF.o.ch k a0));have F2:=F.alloc #[uy x.room,.slice q.1.a q.1.n q.1.c,.slice q.2.1.a q.2.1.n q.2.1.c,.slice q.2.2.a q.2.2.n q.2.2.c,.bool x.closed] 98;have cx:=F2.c5 0 rfl;have q0:k<p.rooms.length:=by rw[HP.o.lr];have:=EE.o;omega
         go_upto_region 25 with fail;obtain⟨u2,hu,F3⟩:=F2.named;rw[<-hu];clear hu F2 F cx ea g0 g1 g2 g3 g4;obtain⟨bu,ou,eu,gu⟩:=(F3.rd HP.o.rr).int jq;have cu:=gu k q0;have cb:u2.cell? ⟨w.heap.size,3,none⟩=some (.slice u.r u.nr u.cr):=F3.cell 2 3 rfl rfl;rw[eu] at cb;obtain⟨lv,n0⟩:=jy (p.rooms.getD k 0);rw[<-n0] at cu;have i1:(k:Int)<(u.nr:Int):=by rw[<-HP.o.lr];omega
         have i0:(0:Int)<=(k:Int):=jq;have t0:(x.room !=lv)=false:=by rw[n0,<-m0.out.2];simp
         have c0:=F3.cell 0 0 rfl rfl;have c1:=F3.cell 0 1 rfl rfl;have c2:=F3.cell 0 2 rfl rfl;have c3:=F3.cell 0 3 rfl rfl;have c4:=F3.cell 0 4 rfl rfl;have p0:=λd os=>Calls.regrown_of (ve x q.1.a q.2.1.a q.2.2.a q.1.n q.1.c q.2.1.n q.2.1.c q.2.2.n q.2.2.c (Sort.grow (redrawn u2 d) os) o0.out.symm V0.o.symm X0.o.symm ((F3.rd Q0.o).below (below_regrown _ d os)) ((F3.rd Q1.o).below (below_regrown _ d os)) ((F3.rd Q2.o).below (below_regrown _ d os)) m0.out.1);have z0:=zd p0;clear p0 gu eu n0 q0;have D0:=λd os=>cell_regrown c0 d os;have E0:=λd os=>cell_regrown c1 d os;have F0:=λd os=>cell_regrown c2 d os;have r1:=λd os=>cell_regrown c3 d os;have v1:=λd os=>cell_regrown c4 d os;have H0:=λd os=>cell_regrown cu d os;have G0:=λd os=>cell_regrown cb d os;clear c0 c1 c2 c3 c4 cu cb;refine wp_region_quiet_below (by kernel_rfl) (by kernel_rfl) ?_
         repeat (go_big_quiet_step (with_reducible exact z0.out _ _))
         refine wpQuiet_nil ?_;intro w6 b0;have F6:=F3.call (vV b0);clear b0 D0 E0 F0 r1 v1 H0 G0;clear a0;go_wp2
         go_roundw
         case rel=>exact⟨k+1,jq,by go_num,F6.sub jv⟩
         case measure=>exact uq
        ·obtain rfl:k=v.ch.n:=jq;clear f0 hk;have cs:=F.c9 0 rfl;go_wp2;clear cs
         go_loopw [185] (λi wr=>∃k:Nat,k<=v.on.n/\i=uy k/\Fr w wr (Gm w u v)) (λi _=>v.on.n-(intOf i).toNat)
         case atStart=>exact⟨0,jq,rfl,F⟩
         case round=>
          clear F;obtain⟨k,hk,rfl,F⟩:=hrel;by_cases f0:k<v.on.n
          ·have a0:k<s.onces.length:=by have:=HS.o.on.len;omega
           obtain⟨x,q,b1,o1,HX,ea,g0,g1,g2,g3,Q0,o0,K0⟩:=HS.o.at_on (j:=k) a0;replace g0:=ze F.bel g0;replace g1:=ze F.bel g1;replace g2:=ze F.bel g2;replace g3:=ze F.bel g3;have m0:uH (uF x):=zd (by rw[HX.o];exact(HF.o.on k a0));have F2:=F.alloc #[uy x.state,uy x.owner,uy x.value,.slice q.a q.n q.c] 81;have cx:=F2.c4 0 rfl;go_wp2_with fail;refine(ug x q.a q.n q.c _ o0.out.symm (F2.rd Q0.o) m0.out).mono ?_;rintro e w6 ⟨rfl,hb⟩;have F6:=F2.call hb;clear hb F2 F cx ea g0 g1 g2 g3;clear a0;go_wp2
           go_roundw
           case rel=>exact⟨k+1,jq,by go_num,F6.sub jv⟩
           case measure=>exact uq
          ·obtain rfl:k=v.on.n:=jq;clear f0 hk;have cs:=F.c9 0 rfl;go_wp2;clear cs
           go_loopw [196] (λi wr=>∃k:Nat,k<=v.sa.n/\i=uy k/\Fr w wr (Gm w u v)) (λi _=>v.sa.n-(intOf i).toNat)
           case atStart=>exact⟨0,jq,rfl,F⟩
           case round=>
            clear F;obtain⟨k,hk,rfl,F⟩:=hrel;by_cases f0:k<v.sa.n
            ·have a0:k<s.said.length:=by have:=HS.o.sa.len;omega
             obtain⟨b,o,eb,g'⟩:=(F.rd HS.o.sa.rd).int jq;have g1:=g' k a0;obtain⟨x,hx⟩:=jy (s.said.getD k 0);rw[<-hx] at g1;have U0:uH (0<=x/\x<=99):=zd (HF.o.sa x (by rw[hx];exact qV a0));clear g' hx a0;go_upto_region 37 with fail;clear eb g1;go_wp2_with fail;refine(vC x _ U0.o).mono ?_;rintro e wz ⟨rfl,hw⟩;obtain rfl:=hw;go_wp2
             go_roundw
             case rel=>exact⟨k+1,jq,by go_num,F⟩
             case measure=>exact uq
            ·obtain rfl:k=v.sa.n:=jq;clear f0 hk;have cs:=F.c9 0 rfl;have hS:=F.inside (w.heap.size+1) (by simp[zO,It.foot]);obtain⟨N,hN⟩:=jy wr.heap.size;have Y0:w.heap.size+2<=N:=by rw[hN];exact hS.2
             clear hS;go_wp2_with fail;refine(V3 v L s _ (HS.o.below F.bel) HZ.o HF.o.ne HF.o.no).mono ?_;rintro e w4 ⟨rfl,s0,r0,hb⟩;rw[<-hN] at s0 r0⊢;have h:FW w w4 (Gm w u v) N s 0 0:=⟨F.call hb,⟨jq,by simp[zO,It.foot];omega,by simp[zO,It.foot];omega⟩,by rw[Gf (λe he=>(HF.o.we e he).1)];exact s0,by rw[Gf (λe he=>(HF.o.oe e he).1)];exact r0⟩
             clear hN Y0 s0 r0 hb F cs;have cp:=h.fr.c5 1 rfl;go_wp2;clear cp
             go_loopw [212] (λi wr=>∃k:Nat,k<=u.nt/\i=uy k/\FW w wr (Gm w u v) N s k k) (λi _=>u.nt-(intOf i).toNat)
             case atStart=>exact⟨0,jq,rfl,h⟩
             case round=>
              clear h;obtain⟨k,hk,rfl,h⟩:=hrel;by_cases f0:k<u.nt
              ·have A0:k<p.threads.length:=by rw[HP.o.lt];exact f0
               have l0:=HF.o.th k A0;unfold JF ya at l0;rw[show((k:Int)).toNat=k from rfl,qW] at l0;obtain⟨bt,ot,et,B0⟩:=HP.o.thr jq;obtain⟨a2,c2,ct,r2⟩:=B0 k A0;obtain⟨bp,op,ep,gp⟩:=HS.o.pl.rd.int (by rw[HF.o.np];omega);replace gp:=gp k (by rw[HF.o.np];exact A0);obtain⟨bs,os,es,gs⟩:=HS.o.st.rd.int (by rw[HF.o.nst];omega);replace gs:=gs k (by rw[HF.o.nst];exact A0);have N0:=zd r2;obtain⟨l,hl⟩:=jy (p.threads.getD k []);obtain⟨x,hx⟩:=jy (s.places.getD k 0);obtain⟨y,hy⟩:=jy (s.status.getD k 0);rw[<-hl] at ct N0 l0;rw[<-hx] at gp l0;rw[<-hy] at gs l0;have l8:l.length<=8:=by rw[hl];exact(yf HF.o.prog).2.2.2.2.2 k
               obtain⟨h0,h1,l0⟩:=l0;obtain⟨i,rfl⟩:∃i:Nat,x=(i:Int):=⟨x.toNat,jq⟩
               have i1:i<=l.length:=jq;simp only[Int.toNat_natCast] at l0;have O0:=zd l0;have t0:((i:Int)<0)=False:=jv;have t1:((l.length:Int)<(i:Int))=False:=by simp;omega
               have k0:(0:Int)<=(k:Int):=jq;have k1:(k:Int)<(u.nt:Int):=jq;have k2:(k:Int)<(v.pl.n:Int):=by rw[HS.o.pl.len,HF.o.np];omega
               have k3:(k:Int)<(v.st.n:Int):=by rw[HS.o.st.len,HF.o.nst];omega
               have cs:=h.fr.c9 0 rfl;have ES:=zd es;have GS:=zd gs;replace ct:=ze h.fr.bel ct;replace gp:=ze h.fr.bel gp;clear l0 B0 hl hx hy h0 h1 gs es A0 r2;go_upto_region 45 with fail;clear cs et ep ct gp;go_upto_region 47 with fail;obtain⟨b1,n1,e1,l1,q1⟩:=h.wm.look (P:=Tryz.prog) Tryz.underlying127 Tryz.underlying3 Gy (Kx HF.o.ne) k;obtain⟨b2,n2,e2,l2,q2⟩:=h.om.look (P:=Tryz.prog) Tryz.underlying128 Tryz.underlying3 KB (Kx HF.o.no) k;have Q1:=zd q1;have Q2:=zd q2;have L1:=zd l1;have L2:=zd l2;clear q1 q2 l1 l2 t0 t1;apply xZ 8 [.k _,.k _,.k (.slice b1 n1 e1),.k _,.k _,.k (.slice b2 n2 e2),.k _,.k _] trivial ?s1 ?e1
               case s1=>
                repeat' apply And.intro
                all_goals first|trivial|(intro ρ w1 hG hfr hd;obtain⟨fc,ff⟩:=xu hfr;have A1:=hfr (.tmp 18) rfl;have B1:=hfr (.tmp 19) rfl;have C1:=hfr (.tmp 20) rfl;have F1:=h.fr.call hG;clear F1)
                exact yj;exact yj
                ·obtain⟨d0,d1,-⟩:=hd;have d0:ρ (.tmp 230)=_:=d0;have d1:ρ (.tmp 231)=_:=d1;have Z0:=L1.o w1 hG;exact Zh hG (by go_simp) rfl yn
                exact yj;exact yj
                ·obtain⟨d0,d1,-⟩:=hd;have d0:ρ (.tmp 233)=_:=d0;have d1:ρ (.tmp 234)=_:=d1;have Z0:=L2.o w1 hG;exact Zh hG (by go_simp) rfl yn
                exact yI;exact yI
               intro w2 hG;refine yv ?_;replace h:=h.call hG;replace Q1:uH ((n1=0/\(k:Int)∉(qt (yD s) k).map (·.1))\/(n1=1/\∃x,((k:Int),x)∈qt (yD s) k/\Rd w2 b1 (vL x))):=zd (Q1.o.imp id λ⟨e,x,hx,hr⟩=>⟨e,x,hx,hr.below hG⟩);replace Q2:uH ((n2=0/\(k:Int)∉(qt (jg s) k).map (·.1))\/(n2=1/\∃x,((k:Int),x)∈qt (jg s) k/\Rd w2 b2 (uL x))):=zd (Q2.o.imp id λ⟨e,x,hx,hr⟩=>⟨e,x,hx,hr.below hG⟩);clear L1 L2 hG
               go_upto_region 50 with (at_delete;first|(refine X9 rfl _ _ rfl Tryz.underlying127 Tryz.underlying3 rfl h.wm (λ_=>by simp[vL]) rfl ?_;intro w5 S0 L0 a1;replace Q1:uH ((n1=0/\(k:Int)∉(qt (yD s) k).map (·.1))\/(n1=1/\∃x,((k:Int),x)∈qt (yD s) k/\Rd w5 b1 (vL x))):=zd (Q1.o.imp id λ⟨e,x,hx,hr⟩=>⟨e,x,hx,h.wm.keep hr (by simp[vL]) L0⟩);replace Q2:uH ((n2=0/\(k:Int)∉(qt (jg s) k).map (·.1))\/(n2=1/\∃x,((k:Int),x)∈qt (jg s) k/\Rd w5 b2 (uL x))):=zd (Q2.o.imp id λ⟨e,x,hx,hr⟩=>⟨e,x,hx,h.wm.keep hr (by simp[uL]) L0⟩);replace h:=h.delW S0 L0;clear S0 L0 a1)|(refine X9 rfl _ _ rfl Tryz.underlying128 Tryz.underlying3 rfl h.om (λ_=>by simp[uL]) rfl ?_;intro w7 T0 M0 p1;replace Q1:uH ((n1=0/\(k:Int)∉(qt (yD s) k).map (·.1))\/(n1=1/\∃x,((k:Int),x)∈qt (yD s) k/\Rd w7 b1 (vL x))):=zd (Q1.o.imp id λ⟨e,x,hx,hr⟩=>⟨e,x,hx,h.om.keep hr (by simp[vL]) M0⟩);replace Q2:uH ((n2=0/\(k:Int)∉(qt (jg s) k).map (·.1))\/(n2=1/\∃x,((k:Int),x)∈qt (jg s) k/\Rd w7 b2 (uL x))):=zd (Q2.o.imp id λ⟨e,x,hx,hr⟩=>⟨e,x,hx,h.om.keep hr (by simp[uL]) M0⟩);replace h:=h.delO T0 M0;clear T0 M0 p1))
               rcases O0.o with ⟨t1,rfl,t3,t4⟩|⟨t1,l0⟩
               ·obtain rfl:i=l.length:=jq;obtain⟨rfl,-⟩:=Q1.o.resolve_right λ⟨_,x,hx,_⟩=>t3 (yU.2 ⟨_,ZX.1 hx,rfl⟩);obtain⟨rfl,-⟩:=Q2.o.resolve_right λ⟨_,x,hx,_⟩=>t4 (yU.2 ⟨_,ZX.1 hx,rfl⟩);clear t1 t3 t4 Q1 Q2;have gs:=ze h.fr.bel GS.o;have cs:=h.fr.c9 0 rfl;rw[ES.o] at cs;go_wp2
                go_roundw
                case rel=>exact⟨k+1,jq,by go_num,h⟩
                case measure=>exact uq
               ·have i2:i<l.length:=jq;obtain⟨b3,o3,rfl,g'⟩:=(h.fr.rd N0.o).op jq;obtain⟨g0,g1,g2⟩:=g' i i2;obtain⟨⟨kd,on,ar⟩,hz⟩:∃z,z=l.getD i qf:=⟨_,rfl⟩
                rw[<-hz] at g0 g1 g2 l0;have t2:((i:Int)==(l.length:Int))=false:=by simp;omega
                have t6:(i=l.length)=False:=by simp;omega
                have j0:(0:Int)<=(i:Int):=jq;have j1:(i:Int)<(l.length:Int):=jq;dsimp only at g0 g1 g2;have HH:=zd l0;clear l0 g' hz t1 O0;have G:=(Fr.start w7).alloc #[uy kd,uy on,uy ar] 68;go_upto_region 54 with fail;clear g0 g1 g2;obtain⟨w8,hw,G⟩:=G.named;rw[<-hw];clear hw;have gs:=ze (h.fr.bel.trans (G.bel.mono h.fr.bel.size)) GS.o;have cs:=(h.call G.bel).fr.c9 0 rfl;rw[ES.o] at cs;go_upto_region 56 with fail;clear gs cs;rcases HH.o with ⟨rfl,t3,t4⟩|⟨rfl,t3,t4⟩|⟨rfl,t3,t5,t4⟩
                ·obtain⟨rfl,-⟩:=Q1.o.resolve_right λ⟨_,x,hx,_⟩=>t3 (yU.2 ⟨_,ZX.1 hx,rfl⟩);obtain⟨rfl,-⟩:=Q2.o.resolve_right λ⟨_,x,hx,_⟩=>t4 (yU.2 ⟨_,ZX.1 hx,rfl⟩);clear t3 t4 Q1 Q2 HH;go_wp2
                 go_roundw
                 case rel=>exact⟨k+1,jq,by go_num,h.call G.bel⟩
                 case measure=>exact uq
                ·obtain⟨rfl,-⟩:=Q2.o.resolve_right λ⟨_,x,hx,_⟩=>t4 (yU.2 ⟨_,ZX.1 hx,rfl⟩);obtain⟨rfl,x,hx,hr⟩:=Q1.o.resolve_left λ⟨_,hx⟩=>hx (hV.2 (yU.2 ⟨_,t3,rfl⟩));have C0:=fb HF.o.ne (ZX.1 hx) t3;rw[C0] at hr;clear C0;obtain⟨b4,o4,rfl,rc⟩:∃b o,b1=some ⟨b,o,none⟩/\∀j,j<(vL (kd,on,if kd=2\/kd=8 then ar else 0)).length->_:=hr.resolve_left (by simp[vL]);have d0:=rc 0 (by simp[vL]);have d1:=rc 1 (by simp[vL]);have d2:=rc 2 (by simp[vL]);simp only[vL,List.getD_cons_zero,List.getD_cons_succ,Nat.add_zero] at d0 d1 d2;clear t3 t4 Q1 Q2 HH hx hr rc;have kn:=DX;have kg:=dF;have cu:=G.c3 0 rfl;have G2:=G.alloc #[uy kd,uy on,uy 0] 133;go_upto_region 61 with fail;obtain⟨w9,hw,G2⟩:=G2.named;rw[<-hw];clear hw cu;have cu:=G2.c3 1 rfl;have cw:=G2.c3 0 rfl;by_cases q2:kd=2\/kd=8
                 ·rw[if_pos q2] at d2;have GX:=G2.set 0 rfl 2 (uy ar);rcases q2 with rfl|rfl
                  ·go_upto_region 63 with fail;obtain⟨wv,hw,GX⟩:=GX.named;rw[<-hw];clear hw cu cw G2;replace d0:=ze GX.bel d0;replace d1:=ze GX.bel d1;replace d2:=ze GX.bel d2;have u0:=GX.cell 0 0 rfl rfl;have u1:=GX.cell 0 1 rfl rfl;have u2:=GX.cell 0 2 rfl rfl;have v0:=λd os=>cell_regrown d0 d os;have I0:=λd os=>cell_regrown d1 d os;have rd2:=λd os=>cell_regrown d2 d os;have x0:=λd os=>cell_regrown u0 d os;have y0:=λd os=>cell_regrown u1 d os;have J0:=λd os=>cell_regrown u2 d os;clear d0 d1 d2 u0 u1 u2;refine wp_region_quiet_below (by kernel_rfl) (by kernel_rfl) ?_
                   repeat (go_big_quiet_step (fail))
                   refine wpQuiet_nil ?_;intro w6 b0;have h9:=(h.call GX.bel).call (vV b0);clear b0 v0 I0 rd2 x0 y0 J0;go_wp2
                   go_roundw
                   case rel=>exact⟨k+1,jq,by go_num,h9⟩
                   case measure=>exact uq
                  ·go_upto_region 63 with fail;obtain⟨wv,hw,GX⟩:=GX.named;rw[<-hw];clear hw cu cw G2;replace d0:=ze GX.bel d0;replace d1:=ze GX.bel d1;replace d2:=ze GX.bel d2;have u0:=GX.cell 0 0 rfl rfl;have u1:=GX.cell 0 1 rfl rfl;have u2:=GX.cell 0 2 rfl rfl;have v0:=λd os=>cell_regrown d0 d os;have I0:=λd os=>cell_regrown d1 d os;have rd2:=λd os=>cell_regrown d2 d os;have x0:=λd os=>cell_regrown u0 d os;have y0:=λd os=>cell_regrown u1 d os;have J0:=λd os=>cell_regrown u2 d os;clear d0 d1 d2 u0 u1 u2;refine wp_region_quiet_below (by kernel_rfl) (by kernel_rfl) ?_
                   repeat (go_big_quiet_step (fail))
                   refine wpQuiet_nil ?_;intro w6 b0;have h9:=(h.call GX.bel).call (vV b0);clear b0 v0 I0 rd2 x0 y0 J0;go_wp2
                   go_roundw
                   case rel=>exact⟨k+1,jq,by go_num,h9⟩
                   case measure=>exact uq
                 ·rw[if_neg q2] at d2;have p2:(kd==2)=false:=by simp;exact λh=>q2 (.inl h)
                  have p8:(kd==8)=false:=by simp;exact λh=>q2 (.inr h)
                  have GX:=G2;go_upto_region 63 with fail;clear cu cw G2;replace d0:=ze GX.bel d0;replace d1:=ze GX.bel d1;replace d2:=ze GX.bel d2;have u0:=GX.cell 0 0 rfl rfl;have u1:=GX.cell 0 1 rfl rfl;have u2:=GX.cell 0 2 rfl rfl;have v0:=λd os=>cell_regrown d0 d os;have I0:=λd os=>cell_regrown d1 d os;have rd2:=λd os=>cell_regrown d2 d os;have x0:=λd os=>cell_regrown u0 d os;have y0:=λd os=>cell_regrown u1 d os;have J0:=λd os=>cell_regrown u2 d os;clear d0 d1 d2 u0 u1 u2;refine wp_region_quiet_below (by kernel_rfl) (by kernel_rfl) ?_
                  repeat (go_big_quiet_step (fail))
                  refine wpQuiet_nil ?_;intro w6 b0;have h9:=(h.call GX.bel).call (vV b0);clear b0 v0 I0 rd2 x0 y0 J0;go_wp2
                  go_roundw
                  case rel=>exact⟨k+1,jq,by go_num,h9⟩
                  case measure=>exact uq
                ·obtain⟨rfl,-⟩:=Q1.o.resolve_right λ⟨_,x,hx,_⟩=>t3 (yU.2 ⟨_,ZX.1 hx,rfl⟩);dsimp only at t5 t4;obtain rfl:=t5;obtain⟨rfl,x,hx,hr⟩:=Q2.o.resolve_left λ⟨_,hx⟩=>hx (hV.2 (yU.2 ⟨_,t4,rfl⟩));have C0:=fb HF.o.no (ZX.1 hx) t4;rw[C0] at hr;clear C0;obtain⟨b4,o4,rfl,rc⟩:∃b o,b2=some ⟨b,o,none⟩/\∀j,j<(uL on).length->_:=hr.resolve_left (by simp[uL]);have d0:=ze G.bel (rc 0 (by simp[uL]));simp only[uL,List.getD_cons_zero,Nat.add_zero] at d0;have u0:=G.cell 0 0 rfl rfl;have u1:=G.cell 0 1 rfl rfl;clear t3 t4 Q1 Q2 HH hx hr rc;go_upto_region 66 with fail;have v0:=λd os=>cell_regrown d0 d os;have x0:=λd os=>cell_regrown u0 d os;have y0:=λd os=>cell_regrown u1 d os;clear d0 u0 u1;refine wp_region_quiet_below (by kernel_rfl) (by kernel_rfl) ?_
                 repeat (go_big_quiet_step (fail))
                 refine wpQuiet_nil ?_;intro w6 b0;have h9:=(h.call G.bel).call (vV b0);clear b0 v0 x0 y0;go_wp2
                 go_roundw
                 case rel=>exact⟨k+1,jq,by go_num,h9⟩
                 case measure=>exact uq
              ·obtain rfl:k=u.nt:=jq;clear f0 hk;have s0:=h.wm;have r0:=h.om;rw[tx (λe he=>by have h9:=(HF.o.we e he).2;rw[HP.o.lt] at h9;exact h9)] at s0;rw[tx (λe he=>by have h9:=(HF.o.oe e he).2;rw[HP.o.lt] at h9;exact h9)] at r0;have lw:=s0.len0 (P:=Tryz.prog) Tryz.underlying127;have lo:=r0.len0 (P:=Tryz.prog) Tryz.underlying128;clear s0 r0;go_wp2;exact zM (v:= .bool true) (by simp[results,Tryz.results33,go_sem]) rfl ⟨rfl,h.fr.bel⟩
theorem uY (v:zu) (L:zQ) (s:zp) (w:World) (hr:yZ w v L s) (hn:s.status.length<=8):
  Calls Tryz.prog 37 #[v.val] w λe w'=>∃a c,e= .returned (.slice a (zq s).length c)/\w'.ownsRow w.heap.size 3 1 (.slice a (zq s).length c) (zq s).length (zf (zq s))/\xW w w':=by
 have HS:=zd hr;have n8:v.st.n<=8:=by rw[hr.st.len];exact hn
 have c0:=zd hr.fl;clear hr hn;have F:=(Fr.start w).alloc (yN v) 38;have cs:=F.c9 0 rfl;by_cases hf:v.fl=0
 ·have a0:uH (zq s=vU s v.st.n):=zd (by rw[vh,if_pos (by rw[<-c0.out];exact hf),HS.o.st.len]);have tf:(v.fl !=0)=false:=by simpa using hf
  clear hf;go_enter Tryz.func37,Tryz.ntmps37;go_wp2;clear cs tf;replace F:=F.nil 3 1
  go_loopw [12,3] (λi z wr=>∃(k:Nat) (a:uQ) (l c:Nat),k<=v.st.n/\i=uy k/\z= .slice a l c/\l=(vU s k).length/\Fr w wr [.row a l c 3 1 (zf (vU s k)),.blk w.heap.size (yN v) 38]) (λi _ _=>v.st.n-(intOf i).toNat)
  case atStart=>exact⟨0,none,0,0,jq,rfl,rfl,rfl,F⟩
  case round=>
   clear F;obtain⟨k,a,l,c,hk,rfl,rfl,hl,F⟩:=hrel;by_cases f0:k<v.st.n
   ·have d0:l<=8:=by have:=vW s k;omega
    obtain⟨bs,os,es,gs⟩:=(F.rd HS.o.st.rd).int (jQ HS.o.st.len);replace gs:=gs k (jQ HS.o.st.len);obtain⟨y,hy⟩:=jy (s.status.getD k 0);rw[<-hy] at gs;have HY:=zd hy;have b0:=zd hl;clear hy hl;go_upto_region 7 with fail;clear es gs;by_cases hq:y=0\/y=2
    ·rcases hq with rfl|rfl
     ·have HE:uH (vU s (k+1)=vU s k++[(k:Int)]):=zd (by rw[Jw,if_pos (by rw[<-HY.o];simp)]);have rd:Rd (World.alloc wr (.cells #[uy k] 3)) (some ⟨wr.heap.size,0,none⟩) (zf [(k:Int)]):=Rd.of_blk (zm.new _ _ _);have F2:=F.alloc #[uy k] 3;go_wp2_with (at_builtin;refine F2.appI 1 rfl _ _ rfl rfl rfl [(k:Int)] rfl rfl rd jq ?_;intro a4 c4 W4 F5)
      go_roundw
      case rel=>exact⟨k+1,a4,l+1,c4,jq,by go_num,rfl,by rw[HE.o,xp,<-b0.out];rfl,by rw[HE.o,xy];exact F5.sub (.cons _ (.refl _))⟩
      case measure=>exact uq
     ·have HE:uH (vU s (k+1)=vU s k++[(k:Int)]):=zd (by rw[Jw,if_pos (by rw[<-HY.o];simp)]);have rd:Rd (World.alloc wr (.cells #[uy k] 3)) (some ⟨wr.heap.size,0,none⟩) (zf [(k:Int)]):=Rd.of_blk (zm.new _ _ _);have F2:=F.alloc #[uy k] 3;go_wp2_with (at_builtin;refine F2.appI 1 rfl _ _ rfl rfl rfl [(k:Int)] rfl rfl rd jq ?_;intro a4 c4 W4 F5)
      go_roundw
      case rel=>exact⟨k+1,a4,l+1,c4,jq,by go_num,rfl,by rw[HE.o,xp,<-b0.out];rfl,by rw[HE.o,xy];exact F5.sub (.cons _ (.refl _))⟩
      case measure=>exact uq
    ·have HE:uH (vU s (k+1)=vU s k):=zd (by rw[Jw,if_neg (by rw[<-HY.o];exact hq)]);have t0:(y==0)=false:=by simp;exact λh=>hq (.inl h)
     have t2:(y==2)=false:=by simp;exact λh=>hq (.inr h)
     clear hq;go_wp2
     go_roundw
     case rel=>exact⟨k+1,a,l,c,jq,by go_num,rfl,by rw[HE.o];exact b0.out,by rw[HE.o];exact F⟩
     case measure=>exact uq
   ·obtain rfl:k=v.st.n:=jq;go_wp2;exact zM (v:= .slice a l c) (by simp[results,Tryz.results37,go_sem]) rfl ⟨a,c,by rw[a0.out,<-hl],by rw[a0.out,<-hl];exact F.own 0 rfl,F.bel⟩
 ·have a0:uH (zq s=[]):=zd (by rw[vh,if_neg (by rw[<-c0.out];exact hf)]);have tf:(v.fl !=0)=true:=by simpa using hf
  clear hf;go_enter Tryz.func37,Tryz.ntmps37;go_wp2;exact zM (v:=uk) (by simp[results,Tryz.results37,go_sem]) rfl ⟨none,0,by rw[a0.out];rfl,by rw[a0.out];exact jf _ _ _ _,F.bel⟩
theorem Y7 (C:Nat) (f:Int) (v:zu) (L:zQ) (s:zp) (w:World) (hc:zm w C (yN v) 38) (hr:yZ w v L s) (hz:GE s):
  Calls Tryz.prog 52 (#[uy f]++ #[.pointer (some ⟨C,0,none⟩)]) w λe w'=>∃(v':zu) (L':zQ),e= .returned (.tuple #[v'.val,.bool true])/\yr [] w.heap.size w' v' L' (jt s f)/\yz w.heap.size L'/\xW w w':=by
 have HS:=zd hr;have HZ:=zd hz;clear hr hz;have F:=(Fr.start w).alloc zC 38;obtain⟨w1,hw,F⟩:=F.named;have cs:=(hc.below F.bel).cell;have c0:=cs 0 rfl;have c1:=cs 1 rfl;have c2:=cs 2 rfl;have c3:=cs 3 rfl;have c4:=cs 4 rfl;have c5:=cs 5 rfl;have c6:=cs 6 rfl;have c7:=cs 7 rfl;have c8:=cs 8 rfl;clear cs;go_enter Tryz.func52,Tryz.ntmps52;go_upto_region 1 with fail;rw[<-hw];clear hw;go_wp2_with fail;refine(Xf v L s _ (HS.o.below F.bel) HZ.o).mono ?_;rintro e w2 ⟨v',L',rfl,ho,hn,hb⟩;have HN:=yz.lower hn F.bel.size;have h:=Sf.gain F ho hn hb;clear ho hn hb F c0 c1 c2 c3 c4 c5 c6 c7 c8;have h2:=h.alloc (yN v') 38;go_upto_region 2 with fail;obtain⟨w3,hw,h3⟩:=h2.named;rw[<-hw];clear hw h2 h;have co:=h3.c9 0 rfl;have h4:=h3.set 0 rfl 8 (uy f);go_upto_region 3 with fail;obtain⟨w4,hw,h5⟩:=h4.named;rw[<-hw];clear hw h4 co h3;have co:=h5.fr.c9 (v8:=uy f) 0 rfl;have cz:=h5.fr.c9 1 rfl;have h6:=h5.set9 1 rfl (.slice v'.pl.a v'.pl.n v'.pl.c) (.slice v'.st.a v'.st.n v'.st.c) (.slice v'.se.a v'.se.n v'.se.c) (.slice v'.on.a v'.on.n v'.on.c) (.slice v'.gr.a v'.gr.n v'.gr.c) (.slice v'.ba.a v'.ba.n v'.ba.c) (.slice v'.ch.a v'.ch.n v'.ch.c) (.slice v'.sa.a v'.sa.n v'.sa.c) (uy f);go_wp2
 exact zM (v:= .tuple #[.agg #[.slice v'.pl.a v'.pl.n v'.pl.c,.slice v'.st.a v'.st.n v'.st.c,.slice v'.se.a v'.se.n v'.se.c,.slice v'.on.a v'.on.n v'.on.c,.slice v'.gr.a v'.gr.n v'.gr.c,.slice v'.ba.a v'.ba.n v'.ba.c,.slice v'.ch.a v'.ch.n v'.ch.c,.slice v'.sa.a v'.sa.n v'.sa.c,uy f],.bool true]) (by simp[results,Tryz.results52,go_sem,h6.fr.c9 (v8:=uy f) 1 rfl]) rfl ⟨{v' with fl:=f},L',rfl,(h6.st.fault f).sub jv,HN,h6.bel⟩
abbrev mC (u:PV) (v:zu) (b:Bool):Array Value:= #[.slice u.s u.ns u.cs,.slice u.g u.ng u.cg,.slice u.b u.nb u.cb,.slice u.r u.nr u.cr,.slice u.t u.nt u.ct,.slice v.pl.a v.pl.n v.pl.c,.slice v.st.a v.st.n v.st.c,.slice v.se.a v.se.n v.se.c,.slice v.on.a v.on.n v.on.c,.slice v.gr.a v.gr.n v.gr.c,.slice v.ba.a v.ba.n v.ba.c,.slice v.ch.a v.ch.n v.ch.c,.slice v.sa.a v.sa.n v.sa.c,uy v.fl,.bool b]
theorem jl (w0 w:World) (l:List It) (M:Nat) (u:PV) (p:Pg) (v:zu) (L:zQ) (s:zp) (bb:Bool) (a:uQ) (n c:Nat) (ts:List Int) (h:Sf w0 w (.blk M (mC u v bb) 66::l) v L s) (hp:yK w0 u p) (hz:xH u p) (hw:yc v.blks w ⟨a,n,c⟩ (zf ts) ts.length) (hl:ts.length<=8) (hn:0<s.places.length/\s.places.length<=8/\s.places.length=s.status.length) (ht:∀t∈ts,0<=t/\t<p.threads.length/\t<s.places.length) (p0:∀i,0<=s.places.getD i 0/\s.places.getD i 0<=8):
  Calls Tryz.prog 54 #[.pointer (some ⟨M,0,none⟩),.slice a n c] w λe w'=>e= .returned (.tuple #[])/\Sf w0 w' (.blk M (mC u v bb) 66::l) v L (goAll p s ts)/\zo v.blks w w':=by
 have f0:uH (n=ts.length):=zd hw.len;have n8:n<=8:=by have:=f0.out;omega
 have HW:=zd hw;have HP:=zd hp;have HZ:=zd hz;have HT:=zd ht;have x0:=zd p0;have HN:=zd hn;obtain⟨gp,ep,-,-⟩:=jF h.st.pl (by rw[h.st.npl];exact hn.1);obtain⟨gs,es,-,-⟩:=jF h.st.st (by rw[h.st.nst,<-hn.2.2];exact hn.1);have EP:=zd ep;have ES:=zd es;have C0:uH (v.pl.n=s.places.length):=zd h.st.npl;have D0:uH (v.st.n=s.status.length):=zd h.st.nst;clear hw hp hz hl hn ht p0 ep es;go_enter Tryz.func54,Tryz.ntmps54;go_wp2
 go_loopw [8] (λi wr=>∃k:Nat,k<=n/\i=uy k/\Sf w0 wr (.blk M (mC u v bb) 66::l) v L (goAll p s (ts.take k))/\zo v.blks w wr) (λi _=>n-(intOf i).toNat)
 case atStart=>exact⟨0,jq,rfl,h,zo.refl _ _⟩
 case round=>
  clear h;obtain⟨k,hk,rfl,h1,hT⟩:=hrel;by_cases I0:k<n
  ·have c0:k<ts.length:=by have:=f0.out;omega
   obtain⟨b,o,rfl,g'⟩:=((HW.o.touch hT (λ_ hb=>hb)).rd).int jq;have g1:=g' k c0;obtain⟨t,et⟩:=jy (ts.getD k 0);rw[<-et] at g1;have B0:uH (ts.take (k+1)=ts.take k++[t]):=zd (by rw[et];exact Qw ts k c0);obtain⟨t0,t1,t2⟩:=HT.o t (by rw[et];exact qV c0);obtain⟨S1,a0⟩:=jy (goAll p s (ts.take k));have e1:S1.places.length=s.places.length:=by rw[a0];exact jn _ _
   have e2:S1.status.length=s.status.length:=by rw[a0];exact vc _ _
   have j0:=jj (p:=p) (ts.take k) s t.toNat
   rw[<-a0,jO] at j0;have G0:=x0.out t.toNat
   rw[<-a0] at h1;have y0:=zd a0;have tp:t.toNat<S1.places.length:=jq;have s0:t.toNat<S1.status.length:=by have:=HN.o;omega
   obtain⟨pl,g0⟩:=jy (S1.places.getD t.toNat 0);have q0:=h1.plAt EP.o t tp;rw[<-g0] at q0 j0;have b0:0<=pl:=jq;have b1:pl<=16:=jq;have tn:t<(v.pl.n:Int):=by rw[C0.o];omega
   have tm:t<(v.st.n:Int):=by rw[D0.o];have:=HN.o;omega
   have m5:wr.cell? ⟨M,5,none⟩=some (.slice v.pl.a v.pl.n v.pl.c):=h1.fr.cell 0 5 rfl rfl;rw[EP.o] at m5;have l0:=zd tp;have m0:=zd s0;have v0:=zd g0;have HB:=zd hT;obtain⟨bt,ot,o0,r0⟩:=HP.o.thr jq;obtain⟨a2,x2,ct,-⟩:=r0 t.toNat jq;obtain⟨m,em⟩:=jy ((p.threads.getD t.toNat []).length);rw[<-em] at ct;have J0:t<(u.nt:Int):=by rw[<-HP.o.lt];omega
   have HM:=zd em;have u0:=zd o0;have h0:zo v.blks wr (wr.setCell ⟨gp,t.toNat,none⟩ (uy (pl+1))):=(zo.refl _ _).set (zu.mem_pl (by rw[EP.o];rfl));clear g' et a0 j0 G0 tp s0 g0 hT em o0 r0 c0 e1 e2;go_upto_region 4 with fail;obtain⟨W2,hW,h2⟩:=(h1.setPl EP.o t (pl+1)).named;rw[<-hW] at h0⊢;have z0:=zd (HB.o.trans h0);clear hW h1 m5 q0 h0 g1;have m6:W2.cell? ⟨M,6,none⟩=some (.slice v.st.a v.st.n v.st.c):=h2.fr.cell 0 6 rfl rfl;rw[ES.o] at m6;have q1:=h2.stAt ES.o t m0.out;have i0:zo v.blks W2 (W2.setCell ⟨gs,t.toNat,none⟩ (uy 0)):=(zo.refl _ _).set (zu.mem_st (by rw[ES.o];rfl));go_upto_region 5 with fail;obtain⟨W3,hW,h3⟩:=(h2.setSt ES.o t 0).named;rw[<-hW] at i0⊢;have k0:=zd (z0.out.trans i0);clear hW h2 m6 q1 i0;have m5:W3.cell? ⟨M,5,none⟩=some (.slice v.pl.a v.pl.n v.pl.c):=h3.fr.cell 0 5 rfl rfl;rw[EP.o] at m5;have m4:W3.cell? ⟨M,4,none⟩=some (.slice u.t u.nt u.ct):=h3.fr.cell 0 4 rfl rfl;rw[u0.out] at m4;have q0:=(h3.plAt EP.o t (by show t.toNat<(S1.places.set t.toNat (pl+1)).length;rw[List.length_set];exact l0.out)).1
   rw[show(yw {S1 with places:=S1.places.set t.toNat (pl+1)} t 0).places.getD t.toNat 0=pl+1 by show(S1.places.set t.toNat (pl+1)).getD t.toNat 0=pl+1;rw[jo,if_pos ⟨rfl,l0.out⟩]] at q0;replace ct:=ze h3.bel ct;have HV:∀y,(if y=3 then pl+1=m else pl+1≠m)->(y=3\/y=0)->yw {S1 with places:=S1.places.set t.toNat (pl+1)} t y=goAll p s (ts.take (k+1)):=by
    intro y hy H0;rw[B0.o,<-Jl,<-y0.out];unfold jR yw rest;rw[<-v0.out,show(vJ p t).length=m from HM.o.symm];rcases H0 with rfl|rfl
    ·rw[if_pos rfl] at hy;rw[if_pos hy]
    ·rw[if_neg jk] at hy;rw[if_neg hy]
   have n0:=zd HV;clear HV;by_cases hx:pl+1=(m:Int)
   ·have d0:(pl+1==(m:Int))=true:=(by simpa using hx);have HX:=zd hx;clear hx
    go_quiet (fail)
    obtain⟨W4,hW,h4⟩:=(h3.drewN nq).named;have hd:zo v.blks W3 (W3.drewN nq):=zo.of_below (j7 _ _);rw[<-hW] at hd⊢;have A0:=zd (k0.out.trans hd);clear hW h3 m5 m4 q0 hd ct;have m6:W4.cell? ⟨M,6,none⟩=some (.slice v.st.a v.st.n v.st.c):=h4.fr.cell 0 6 rfl rfl;rw[ES.o] at m6;have q1:=h4.stAt ES.o t (by show t.toNat<(S1.status.set t.toNat 0).length;rw[List.length_set];exact m0.out);have h5:=h4.setSt ES.o t 3;rw[show yw (yw {S1 with places:=S1.places.set t.toNat (pl+1)} t 0) t 3=yw {S1 with places:=S1.places.set t.toNat (pl+1)} t 3 by unfold yw;dsimp only;rw[List.set_set],n0.out 3 (by rw[if_pos rfl];exact HX.o) (.inl rfl)] at h5;have E0:zo v.blks W4 (W4.setCell ⟨gs,t.toNat,none⟩ (uy 3)):=(zo.refl _ _).set (zu.mem_st (by rw[ES.o];rfl));go_wp2
    go_roundw
    case rel=>exact⟨k+1,jq,by go_num,h5,A0.o.trans E0⟩
    case measure=>exact uq
   ·have d0:(pl+1==(m:Int))=false:=(by simpa using hx);have h4:=h3;rw[n0.out 0 (by rw[if_neg jk];exact hx) (.inr rfl)] at h4;clear hx
    go_quiet (fail)
    go_wp2
    go_roundw
    case rel=>exact⟨k+1,jq,by go_num,h4.drewN nq,k0.out.trans (zo.of_below (j7 _ _))⟩
    case measure=>exact uq
  ·have F0:k=n:=jq;have e:ts.take k=ts:=Jh (jQ f0.out);rw[e] at h1;subst F0;clear e;go_wp2;exact bodyPost_end (v:= .tuple #[]) (by simp[results,Tryz.results54,go_sem]) rfl ⟨rfl,h1,hT⟩
theorem QZ (w0 w:World) (l:List It) (M:Nat) (u:PV) (v:zu) (L:zQ) (s:zp) (bb:Bool) (x:Int) (h:Sf w0 w (.blk M (mC u v bb) 66::l) v L s) (hs:s.said.length<64):
  Calls Tryz.prog 53 #[.pointer (some ⟨M,0,none⟩),uy x] w λe w'=>e= .returned (.tuple #[])/\∃r:zP,Sf w0 w' (.blk M (mC u {v with sa:=r} bb) 66::l) {v with sa:=r} L (sayIt s x):=by
 have d0:v.sa.n<64:=by rw[h.st.nsa];exact hs
 have a0:w.cell? ⟨M,12,none⟩=some (.slice v.sa.a v.sa.n v.sa.c):=h.fr.cell 0 12 rfl rfl;have h1:=h.alloc #[uy x] 3;clear hs h;go_enter Tryz.func53,Tryz.ntmps53;go_wp2_with (at_builtin;refine yP rfl _ _ 23 rfl Tryz.underlying23 yb rfl jk rfl h1.st.sa rfl rfl (Rd.of_blk (h1.fr.blk 0 rfl)) (yA [x]) jq jk h1.fr.bel.size ?_;intro a' c' W' c0 hg b0;have hT:zo v.blks _ W':=zo.of_grown hg λk hk=>zu.mem_sa hk;have h2:=h1.upd hT (h1.st.say (s8:=⟨a',v.sa.n+1,c'⟩) hg b0 (ps:=s.said++[x]) (by show v.sa.n+1=_;rw[xp,h1.st.nsa];rfl) (by rw[xy];exact c0));clear a0;have a0:W'.cell? ⟨M,12,none⟩=some (.slice v.sa.a v.sa.n v.sa.c):=h2.fr.cell 1 12 rfl rfl;have z12:=h2.fr.fz 1 12 rfl;have h3:=(h2.set 1 rfl 12 (.slice a' (v.sa.n+1) c')).sub (l':= .blk M (mC u {v with sa:=⟨a',v.sa.n+1,c'⟩} bb) 66::l) (.cons _ (.refl _)));exact bodyPost_end (v:= .tuple #[]) (by simp[results,Tryz.results53,go_sem]) rfl ⟨rfl,⟨a',v.sa.n+1,c'⟩,h3⟩
theorem vO (w0 w:World) (l:List It) (M:Nat) (u:PV) (p:Pg) (v:zu) (L:zQ) (s:zp) (bb:Bool) (t:Int) (b:Bool) (h:Sf w0 w (.blk M (mC u v bb) 66::l) v L s) (hp:yK w0 u p) (hz:xH u p) (hn:0<s.places.length/\s.places.length<=8/\s.places.length=s.status.length) (ht:0<=t/\t<p.threads.length/\t<s.places.length) (a0:∀i,0<=s.places.getD i 0/\s.places.getD i 0<=8):
  Calls Tryz.prog 56 #[.pointer (some ⟨M,0,none⟩),uy t,.bool b] w λe w'=>e= .returned (.tuple #[])/\Sf w0 w' (.blk M (mC u v bb) 66::l) v L (jh p s t b):=by
 cases b
 ·obtain⟨gs,es,-,-⟩:=jF h.st.st (by rw[h.st.nst,<-hn.2.2];exact hn.1);have m6:w.cell? ⟨M,6,none⟩=some (.slice v.st.a v.st.n v.st.c):=h.fr.cell 0 6 rfl rfl;rw[es] at m6;have q1:=h.stAt es t jq;have tm:t<(v.st.n:Int):=by rw[h.st.nst];omega
  have t0:=ht.1;have h1:=h.setSt es t 1;clear a0 hn ht h hp hz es;go_enter Tryz.func56,Tryz.ntmps56;go_wp2;exact bodyPost_end (v:= .tuple #[]) (by simp[results,Tryz.results56,go_sem]) rfl ⟨rfl,h1⟩
 ·have h1:=h.alloc #[uy t] 3;have hw:yc v.blks (w.alloc (.cells #[uy t] 3)) ⟨some ⟨w.heap.size,0,none⟩,1,1⟩ (zf [t]) [t].length:=⟨rfl,Rd.of_blk (h1.fr.blk 0 rfl),.inr (λb hb hm=>by have h2:=(h.st.from b hm).2;simp only[zj,qy] at hb;omega),Nat.le_refl _⟩
  go_enter Tryz.func56,Tryz.ntmps56;go_wp2_with fail;refine(jl w0 _ _ M u p v L s bb _ 1 1 [t] (h1.pull 1 rfl) hp hz hw jv hn (λz b0=>by obtain rfl:=yh b0;exact ht) a0).mono ?_;rintro e w2 ⟨rfl,h2,-⟩;go_wp2;exact bodyPost_end (v:= .tuple #[]) (by simp[results,Tryz.results56,go_sem]) rfl ⟨rfl,h2.sub jv⟩
end Go.Proofs.YtfclolgfegdfjaaGreat
