/- Part of a proof: IFitsK IFits IReady IFault IStep. -/
import Derived.Test.YtnlijgjpgdjpiaaGreatQPImp
import Derived.Test.YtnlijgjpgdjpiaaGreatQPMachK
import Derived.StillTailTactics
set_option maxRecDepth 100000
set_option maxHeartbeats 16000000
namespace Go.Proofs.YtnlijgjpgdjpiaaGreat
open Go.RowKit Go.Sort
section
variable {P:Program} {α:Type} {f:α->List Value} {W W':World} {B:Nat} {es:List (Int×α)} {T K E:TypeId} {q:IntKind}
theorem WMap.row (h:WMap f W B es) (hn:(es.map (·.1)).Nodup) {k:Int} {x:α} (hx:(k,x)∈es):∃a c,∀Z:List (Int×Value),MapI W B Z->mget Z k=some (.slice a 1 c)/\Rd W a (f x):=by
 obtain⟨Z,rfl,h2,h3⟩:=h;obtain⟨z,hz,e⟩:=xDl.1 hx;refine⟨z.2.1,z.2.2,λZ' hZ'=>⟨?_,by have:=(h3 z hz).1;rw[e] at this;exact this⟩⟩;obtain⟨es,clock,hb,he,_⟩:=h2;obtain⟨es',clock',hb',he',_⟩:=hZ';rw[hb] at hb'
 cases hb'
 have hZ:Z'=Z.map λz=>(z.1.1,Value.slice z.2.1 1 z.2.2):=by
  rw[he] at he';have hinj:∀{a b:List (Int×Value)},a.map (λp=>(Value.int .i64 p.1,p.2))=b.map (λp=>(Value.int .i64 p.1,p.2))->a=b:=by
   intro a
   induction a with
   |nil=>intro b h;cases b with|nil=>rfl|cons _ _=>simp at h
   |cons a l ih=>
    intro b h
    cases b with
    |nil=>simp at h
    |cons b m=>
     simp only[List.map_cons,List.cons.injEq,Prod.mk.injEq,Value.int.injEq,true_and] at h;rw[Prod.ext h.1.1 h.1.2,ih h.2]
  exact(hinj he').symm
 rw[hZ];exact zfA (by rw[List.map_map];rw[List.map_map] at hn;exact hn) (xDl.2 ⟨z,hz,by rw[e]⟩)
theorem WMap.look (hT:P.underlying T=some (.map K E)) (hK:P.underlying K=some (.int q)) (hz:∀w,(zeroValue E).run P w= .ok (.slice none 0 0) w) (h:WMap f W B es) (hn:(es.map (·.1)).Nodup) (k:Int):
  ∃a n c,(∀w1,xW W w1->(Instr.lookup T (.map (some B)) (.int .i64 k) false).run P w1= .ok (.slice a n c) w1)/\((n=0/\k∉es.map (·.1))\/(n=1/\∃x,(k,x)∈es/\Rd W a (f x))):=by
 by_cases hk:k∈es.map (·.1)
 ·obtain⟨⟨k',x⟩,hx,rfl⟩:=xDl.1 hk;obtain⟨a,c,hr⟩:=h.row hn hx;obtain⟨Z,h1,h2,h3⟩:=h;refine⟨a,1,c,λw1 hb=> ?_,.inr ⟨rfl,x,hx,(hr _ h2).2⟩⟩;have h9:=zbZ (P:=P) hT hK hz (h2.below hb) k';rw[(hr _ h2).1] at h9;exact h9
 ·obtain⟨Z,h1,h2,h3⟩:=h;refine⟨none,0,0,λw1 hb=> ?_,.inl ⟨rfl,hk⟩⟩;have h9:=zbZ (P:=P) hT hK hz (h2.below hb) k;rw[WMap.absent h1 hk] at h9;exact h9
theorem WMap.keep {a:Option Addr} {cs:List Value} (h:WMap f W B es) (hr:Rd W a cs) (hne:cs≠[]) (hg:W.grownBy W' (some B)):Rd W' a cs:=by
 obtain⟨Z,h1,h2,h3⟩:=h;exact hr.grown hg (.inr λe=>zer h2 hr hne B e rfl)
theorem WMap.len0 (h:WMap f W B []) (hT:P.underlying T=some (.map K E)) (t:TypeId):(Builtin.len_ #[T] t #[.map (some B)]).run P W= .ok (.int .i64 0) W:=by
 obtain⟨Z,h1,h2,h3⟩:=h;obtain rfl:Z=[]:=by simpa using h1
 exact zhX h2 t hT
end
section
variable {P:Program} {w:World} {ops:Array Oper} {rest:List Oper} {o:Oper} {a:Act} {Q:Exit->Act->World->Prop} {B:Nat} {T K E:TypeId} {q:IntKind} {α:Type} {f:α->List Value} {es:List (Int×α)}
theorem zdJ (hg:o.guard=none) (m x:Operand) (hop:o.op=Op.call {callee:=Callee.builtin Builtin.delete,args:= #[m,x],argTypes:= #[T,K]}) (hT:P.underlying T=some (.map K E)) (hK:P.underlying K=some (.int q))
  (hm:a.eval m= .map (some B)) (hown:WMap f w B es) (hne:∀x,f x≠[]) {k:Int} (hx:a.eval x= .int .i64 k)
  (h:∀w',WMap f w' B (es.filter λe=>decide (e.1≠k))->w.grownBy w' (some B)->w'.heap.size=w.heap.size->wpList P ops Q rest (a.put o.dst (.tuple #[])) w'):wpList P ops Q (o::rest) a w:=by
 obtain⟨Z,h1,h2,h3⟩:=hown;refine zfa hg m x hop hT hK hm h2 hx λw' hm' hg' hs'=>h w' ?_ hg' hs';rw[zfJ _ _ h2.nodup,List.filter_map] at hm';refine⟨Z.filter λz=>decide (z.1.1≠k),?_,hm',λz hz=> ?_⟩
 ·rw[<-h1,List.filter_map];rfl
 ·have h9:=h3 z ((List.mem_filter.1 hz).1);exact⟨h9.1.grown hg' (.inr λe=>zer h2 h9.1 (hne _) B e rfl),h9.2⟩
end
def za3 {α:Type} (es:List (Int×α)) (k:Nat):List (Int×α):=es.filter λe=>decide ((k:Int)<=e.1)
theorem zho {α:Type} (es:List (Int×α)) (k:Nat):(za3 es k).filter (λe=>decide (e.1≠(k:Int)))=za3 es (k+1):=by
 unfold za3;rw[List.filter_filter];congr 1;funext e;rw[<-Bool.decide_and];exact decide_eq_decide.2 (by omega)
theorem zhb {α:Type} {es:List (Int×α)} (h:∀e∈es,0<=e.1):za3 es 0=es:=List.filter_eq_self.2 λe he=>xDk (by have:=h e he;omega)
theorem ziy {α:Type} {es:List (Int×α)} {n:Nat} (h:∀e∈es,e.1<n):za3 es n=[]:=List.filter_eq_nil_iff.2 λe he=>by have:=h e he;simp;omega
theorem zcB {α:Type} {es:List (Int×α)} {k:Nat} {x:α}:((k:Int),x)∈za3 es k↔((k:Int),x)∈es:=by simp[za3]
theorem zhR {α:Type} {es:List (Int×α)} {k:Nat}:(k:Int)∈(za3 es k).map (·.1)↔(k:Int)∈es.map (·.1):=by simp[za3]
theorem zgE {α:Type} {es:List (Int×α)} {k:Nat} (h:(es.map (·.1)).Nodup):((za3 es k).map (·.1)).Nodup:=h.sublist (List.filter_sublist.map _)
theorem zja {α:Type} {es:List (Int×α)} (h:(es.map (·.1)).Nodup) {k:Int} {x y:α} (h1:(k,x)∈es) (h2:(k,y)∈es):x=y:=by
 have:=ze7 h h1 h2 rfl;exact congrArg Prod.snd this
theorem zkB (w:World) (a0 a1 a2 b0 b1 b2:Int):(binOp .neq 183 (.agg #[.int .i64 a0,.int .i64 a1,.int .i64 a2]) (.agg #[.int .i64 b0,.int .i64 b1,.int .i64 b2])).run Tryz.prog w= .ok (.bool (!(a0==b0&&a1==b1&&a2==b2))) w:=by
 have u3:=Tryz.underlying3;have a3:=Tryz.isAgg3;have z3:=Tryz.sizeOf3;have hS:Tryz.prog.underlying 183=some (.struct (Tryz.prog.fieldsOf 183)):=by kernel_rfl
 have hp:Tryz.prog.stoodInHeld 183=false:=by kernel_rfl
 rw[run_neq_struct,show(10000:Nat)=9999+1 from rfl,run_equalIn_agg w 9999 _ _ _ hS hp];simp only[Program.fieldsOf,Tryz.underlying183];go_simp;by_cases h0:a0=b0<;>by_cases h1:a1=b1<;>by_cases h2:a2=b2<;>simp[h0,h1,h2]
theorem zjV (w:World) (x y:Operand) (xs ys:Array Value):(eqGuard .neq 183 x y (.agg xs) (.agg ys)).run Tryz.prog w= .ok () w:=
 run_eqGuard_agg w .neq _ x y xs ys (by kernel_rfl)
structure FW (w W:World) (l:List It) (N:Nat) (s:StD) (i j:Nat):Prop where
 fr:Fr w W l
 hN:w.heap.size<=N/\N+1∉zv l/\N+3∉zv l
 wm:WMap entC W (N+1) (za3 (ents s) i)
 om:WMap oneC W (N+3) (za3 (owns s) j)
theorem FW.call {w W W':World} {l:List It} {N i j:Nat} {s:StD} (h:FW w W l N s i j) (hb:xW W W'):FW w W' l N s i j:=⟨h.fr.call hb,h.hN,h.wm.below hb,h.om.below hb⟩
theorem FW.delW {w W W':World} {l:List It} {N k j:Nat} {s:StD} (h:FW w W l N s k j) (hw:WMap entC W' (N+1) ((za3 (ents s) k).filter λe=>decide (e.1≠(k:Int)))) (hg:W.grownBy W' (some (N+1))):FW w W' l N s (k+1) j:=by
 obtain⟨Z,_,h2,_⟩:=h.wm;exact⟨h.fr.other (zi.of_grown (S:=[N+1]) hg λk hk=>by cases hk;simp) (λk hk=>by obtain rfl:=xS1 hk;exact⟨by have:=h.hN.1;omega,h.hN.2.1⟩),h.hN,by rw[<-zho];exact hw,h.om.grown hg (by omega) (λ_=>by simp) h2⟩
theorem FW.delO {w W W':World} {l:List It} {N k j:Nat} {s:StD} (h:FW w W l N s j k) (hw:WMap oneC W' (N+3) ((za3 (owns s) k).filter λe=>decide (e.1≠(k:Int)))) (hg:W.grownBy W' (some (N+3))):FW w W' l N s j (k+1):=by
 obtain⟨Z,_,h2,_⟩:=h.om;exact⟨h.fr.other (zi.of_grown (S:=[N+3]) hg λk hk=>by cases hk;simp) (λk hk=>by obtain rfl:=xS1 hk;exact⟨by have:=h.hN.1;omega,h.hN.2.2⟩),h.hN,h.wm.grown hg (by omega) (λ_=>by simp) h2,by rw[<-zho];exact hw⟩
end Go.Proofs.YtnlijgjpgdjpiaaGreat
namespace Go.Proofs.YtnlijgjpgdjpiaaGreat
open Go.RowKit
abbrev ffb (w:World) (u:PV) (v:StV):List It:=[.blk (w.heap.size+1) (svC v) 33,.blk w.heap.size (pvC u) 40]
theorem zej (u:PV) (p:Pg) (v:StV) (L:StL) (s:StD) (w:World) (hp:RdP w u p) (hr:StR w v L s) (hf:Fits p s):
  Calls Tryz.prog 105 #[.agg (pvC u),v.val] w λe w'=>e= .returned (.bool true)/\xW w w':=by
 have HS:=xH1 hr;have HP:=xH1 hp;have HF:=xH1 hf;have HZ:=xH1 hf.sm;obtain⟨y1,y2,y3,y4,⟨y5,y6⟩,y7⟩:=zR hf.prog;have es:v.se.n=u.ns:=by rw[hr.se.len,hf.nse,hp.ls]
 have eg:v.gr.n=u.ng:=by rw[hr.gr.len,hf.ngr,hp.lg]
 have eb:v.ba.n=u.nb:=by rw[hr.ba.len,hf.nba,hp.lb]
 have ec:v.ch.n=u.nr:=by rw[hr.ch.len,hf.nch,hp.lr]
 have eo:v.on.n=3:=by rw[hr.on.len,hf.non]
 have epn:v.pl.n=u.nt:=by rw[hr.pl.len,hf.np,hp.lt]
 have etn:v.st.n=u.nt:=by rw[hr.st.len,hf.nst,hp.lt]
 have m1:((v.se.n:Int) !=(u.ns:Int))=false:=by rw[es];simp
 have m2:((v.on.n:Int) !=3)=false:=by rw[eo];rfl
 have m3:((v.gr.n:Int) !=(u.ng:Int))=false:=by rw[eg];simp
 have m4:((v.ba.n:Int) !=(u.nb:Int))=false:=by rw[eb];simp
 have m5:((v.ch.n:Int) !=(u.nr:Int))=false:=by rw[ec];simp
 have m6:((v.pl.n:Int) !=(u.nt:Int))=false:=by rw[epn];simp
 have m7:((v.st.n:Int) !=(u.nt:Int))=false:=by rw[etn];simp
 have n1:v.se.n<=3:=by rw[hr.se.len,hf.nse];exact y1
 have n2:v.gr.n<=3:=by rw[hr.gr.len,hf.ngr];exact y2
 have n3:v.ba.n<=3:=by rw[hr.ba.len,hf.nba];exact y3
 have n4:v.ch.n<=3:=by rw[hr.ch.len,hf.nch];exact y4
 have n5:v.on.n<=3:=by omega
 have n6:v.sa.n<=64:=by rw[hr.sa.len];exact hf.nsa
 have f1:0<=v.fl:=by rw[hr.fl];exact hf.flt.1
 have f2:v.fl<=4:=by rw[hr.fl];exact hf.flt.2
 have t1:1<=u.nt:=by rw[<-hp.lt];exact y5
 have t4:u.nt<=4:=by rw[<-hp.lt];exact y6
 have YS:=xH1 y7;have F:=((Fr.start w).alloc (pvC u) 40).alloc (svC v) 33;simp only[xDe] at F;have cs:=F.c9 0 rfl;have cp:=F.c5 1 rfl;have EE:=xH1 (And.intro es (And.intro eb ec));clear y1 y2 y3 y4 y5 y6 y7 es eg eb ec eo epn etn hp hr hf;go_enter Tryz.func105,Tryz.ntmps105;go_wp2_with fail;refine(zcN u p _ (HP.out.below F.bel) (zbK HF.out.prog HP.out)).mono ?_;rintro e w1 ⟨rfl,hb⟩;rw[HF.out.prog];replace F:=F.call hb;replace cs:=F.c9 0 rfl;replace cp:=F.c5 1 rfl;clear hb;go_upto_region 4 with fail;clear m1 m2 m3 m4 m5 m6 m7 f1 f2 cp;go_wp2;clear cs
 go_loopw [108] (λi wr=>∃k:Nat,k<=v.se.n/\i= .int .i64 k/\Fr w wr (ffb w u v)) (λi _=>v.se.n-(intOf i).toNat)
 case atStart=>exact⟨0,by omega,rfl,F⟩
 case round=>
  clear F;obtain⟨k,hk,rfl,F⟩:=hrel;by_cases hlt:k<v.se.n
  ·have hks:k<s.sems.length:=by have:=HS.out.se.len;omega
   obtain⟨x,q,b1,o1,HX,ea,g0,g1,g2,Q0,QL0,QC0⟩:=HS.out.at_se (j:=k) hks;replace g0:=zd F.bel g0;replace g1:=zd F.bel g1;replace g2:=zd F.bel g2;have OKX:Hid (zdg x/\x.limit=p.sems.getD k 0):=xH1 (by rw[HX.out];exact(HF.out.se k hks));have F2:=F.alloc #[.int .i64 x.free,.int .i64 x.limit,.slice q.a q.n q.c] 74;have cx:=F2.c3 0 rfl;have hku:k<p.sems.length:=by rw[HP.out.ls];have:=EE.out;omega
   go_upto_region 7 with fail;obtain⟨u2,hu,F3⟩:=F2.named;rw[<-hu];clear hu F2 F cx ea g0 g1 g2;obtain⟨bu,ou,eu,gu⟩:=(F3.rd HP.out.rs).int (by omega);have cu:=gu k hku;have cb:u2.cell? ⟨w.heap.size,0,none⟩=some (.slice u.s u.ns u.cs):=F3.cell 2 0 rfl rfl;rw[eu] at cb;obtain⟨lv,hlv⟩:∃z,z=p.sems.getD k 0:=⟨_,rfl⟩
   rw[<-hlv] at cu;have i1:(k:Int)<(u.ns:Int):=by rw[<-HP.out.ls];omega
   have i0:(0:Int)<=(k:Int):=(by omega);have t0:(x.limit !=lv)=false:=by rw[hlv,<-OKX.out.2];simp
   have c0:=F3.cell 0 0 rfl rfl;have c1:=F3.cell 0 1 rfl rfl;have c2:=F3.cell 0 2 rfl rfl;have hcl:=λd os=>Calls.regrown_of (zdb x q.a q.n q.c (Sort.grow (redrawn u2 d) os) QL0.out.symm (((F3.rd Q0.out)).below (below_regrown _ d os)) OKX.out.1);have HCL:=xH1 hcl;clear hcl gu eu hlv hku;have rc0:=λd os=>cell_regrown c0 d os;have rc1:=λd os=>cell_regrown c1 d os;have rc2:=λd os=>cell_regrown c2 d os;have rcu:=λd os=>cell_regrown cu d os;have rcb:=λd os=>cell_regrown cb d os;clear c0 c1 c2 cu cb;refine wp_region_quiet_below (by kernel_rfl) (by kernel_rfl) ?_
   repeat (go_big_quiet_step (with_reducible exact HCL.out _ _))
   refine wpQuiet_nil ?_;intro w6 hw6;have F6:=F3.call (zbF hw6);clear hw6 rc0 rc1 rc2 rcu rcb;clear hks;go_wp2
   go_roundw
   case rel=>exact⟨k+1,by omega,by go_num,F6.sub (by simp)⟩
   case measure=>simp[intOf];omega
  ·obtain rfl:k=v.se.n:=by omega
   clear hlt hk;have cs:=F.c9 0 rfl;go_wp2;clear cs
   go_loopw [130] (λi wr=>∃k:Nat,k<=v.gr.n/\i= .int .i64 k/\Fr w wr (ffb w u v)) (λi _=>v.gr.n-(intOf i).toNat)
   case atStart=>exact⟨0,by omega,rfl,F⟩
   case round=>
    clear F;obtain⟨k,hk,rfl,F⟩:=hrel;by_cases hlt:k<v.gr.n
    ·have hks:k<s.groups.length:=by have:=HS.out.gr.len;omega
     obtain⟨x,q,b1,o1,HX,ea,g0,g1,Q0,QL0,QC0⟩:=HS.out.at_gr (j:=k) hks;replace g0:=zd F.bel g0;replace g1:=zd F.bel g1;have OKX:Hid (zdf x):=xH1 (by rw[HX.out];exact(HF.out.gr k hks));have F2:=F.alloc #[.int .i64 x.count,.slice q.a q.n q.c] 80;have cx:=F2.c2 0 rfl;go_wp2_with fail;refine(zcO x q.a q.n q.c _ QL0.out.symm (F2.rd Q0.out) OKX.out).mono ?_;rintro e w6 ⟨rfl,hb⟩;have F6:=F2.call hb;clear hb F2 F cx ea g0 g1;clear hks;go_wp2
     go_roundw
     case rel=>exact⟨k+1,by omega,by go_num,F6.sub (by simp)⟩
     case measure=>simp[intOf];omega
    ·obtain rfl:k=v.gr.n:=by omega
     clear hlt hk;have cs:=F.c9 0 rfl;go_wp2;clear cs
     go_loopw [141] (λi wr=>∃k:Nat,k<=v.ba.n/\i= .int .i64 k/\Fr w wr (ffb w u v)) (λi _=>v.ba.n-(intOf i).toNat)
     case atStart=>exact⟨0,by omega,rfl,F⟩
     case round=>
      clear F;obtain⟨k,hk,rfl,F⟩:=hrel;by_cases hlt:k<v.ba.n
      ·have hks:k<s.bars.length:=by have:=HS.out.ba.len;omega
       obtain⟨x,q,b1,o1,HX,ea,g0,g1,g2,Q0,QL0,QC0⟩:=HS.out.at_ba (j:=k) hks;replace g0:=zd F.bel g0;replace g1:=zd F.bel g1;replace g2:=zd F.bel g2;have OKX:Hid (zdU x/\x.parties=p.barriers.getD k 0):=xH1 (by rw[HX.out];exact(HF.out.ba k hks));have F2:=F.alloc #[.int .i64 x.parties,.int .i64 x.round,.slice q.a q.n q.c] 82;have cx:=F2.c3 0 rfl;have hku:k<p.barriers.length:=by rw[HP.out.lb];have:=EE.out;omega
       go_upto_region 19 with fail;obtain⟨u2,hu,F3⟩:=F2.named;rw[<-hu];clear hu F2 F cx ea g0 g1 g2;obtain⟨bu,ou,eu,gu⟩:=(F3.rd HP.out.rb).int (by omega);have cu:=gu k hku;have cb:u2.cell? ⟨w.heap.size,2,none⟩=some (.slice u.b u.nb u.cb):=F3.cell 2 2 rfl rfl;rw[eu] at cb;obtain⟨lv,hlv⟩:∃z,z=p.barriers.getD k 0:=⟨_,rfl⟩
       rw[<-hlv] at cu;have i1:(k:Int)<(u.nb:Int):=by rw[<-HP.out.lb];omega
       have i0:(0:Int)<=(k:Int):=(by omega);have t0:(x.parties !=lv)=false:=by rw[hlv,<-OKX.out.2];simp
       have c0:=F3.cell 0 0 rfl rfl;have c1:=F3.cell 0 1 rfl rfl;have c2:=F3.cell 0 2 rfl rfl;have hcl:=λd os=>Calls.regrown_of (zet x q.a q.n q.c (Sort.grow (redrawn u2 d) os) QL0.out.symm (((F3.rd Q0.out)).below (below_regrown _ d os)) OKX.out.1);have HCL:=xH1 hcl;clear hcl gu eu hlv hku;have rc0:=λd os=>cell_regrown c0 d os;have rc1:=λd os=>cell_regrown c1 d os;have rc2:=λd os=>cell_regrown c2 d os;have rcu:=λd os=>cell_regrown cu d os;have rcb:=λd os=>cell_regrown cb d os;clear c0 c1 c2 cu cb;refine wp_region_quiet_below (by kernel_rfl) (by kernel_rfl) ?_
       repeat (go_big_quiet_step (with_reducible exact HCL.out _ _))
       refine wpQuiet_nil ?_;intro w6 hw6;have F6:=F3.call (zbF hw6);clear hw6 rc0 rc1 rc2 rcu rcb;clear hks;go_wp2
       go_roundw
       case rel=>exact⟨k+1,by omega,by go_num,F6.sub (by simp)⟩
       case measure=>simp[intOf];omega
      ·obtain rfl:k=v.ba.n:=by omega
       clear hlt hk;have cs:=F.c9 0 rfl;go_wp2;clear cs
       go_loopw [163] (λi wr=>∃k:Nat,k<=v.ch.n/\i= .int .i64 k/\Fr w wr (ffb w u v)) (λi _=>v.ch.n-(intOf i).toNat)
       case atStart=>exact⟨0,by omega,rfl,F⟩
       case round=>
        clear F;obtain⟨k,hk,rfl,F⟩:=hrel;by_cases hlt:k<v.ch.n
        ·have hks:k<s.chans.length:=by have:=HS.out.ch.len;omega
         obtain⟨x,q,b1,o1,HX,ea,g0,g1,g2,g3,g4,Q0,QL0,QC0,Q1,QL1,QC1,Q2,QL2,QC2⟩:=HS.out.at_ch (j:=k) hks;replace g0:=zd F.bel g0;replace g1:=zd F.bel g1;replace g2:=zd F.bel g2;replace g3:=zd F.bel g3;replace g4:=zd F.bel g4;have OKX:Hid (zce x/\x.room=p.rooms.getD k 0):=xH1 (by rw[HX.out];exact(HF.out.ch k hks));have F2:=F.alloc #[.int .i64 x.room,.slice q.1.a q.1.n q.1.c,.slice q.2.1.a q.2.1.n q.2.1.c,.slice q.2.2.a q.2.2.n q.2.2.c,.bool x.closed] 87;have cx:=F2.c5 0 rfl;have hku:k<p.rooms.length:=by rw[HP.out.lr];have:=EE.out;omega
         go_upto_region 25 with fail;obtain⟨u2,hu,F3⟩:=F2.named;rw[<-hu];clear hu F2 F cx ea g0 g1 g2 g3 g4;obtain⟨bu,ou,eu,gu⟩:=(F3.rd HP.out.rr).int (by omega);have cu:=gu k hku;have cb:u2.cell? ⟨w.heap.size,3,none⟩=some (.slice u.r u.nr u.cr):=F3.cell 2 3 rfl rfl;rw[eu] at cb;obtain⟨lv,hlv⟩:∃z,z=p.rooms.getD k 0:=⟨_,rfl⟩
         rw[<-hlv] at cu;have i1:(k:Int)<(u.nr:Int):=by rw[<-HP.out.lr];omega
         have i0:(0:Int)<=(k:Int):=(by omega);have t0:(x.room !=lv)=false:=by rw[hlv,<-OKX.out.2];simp
         have c0:=F3.cell 0 0 rfl rfl;have c1:=F3.cell 0 1 rfl rfl;have c2:=F3.cell 0 2 rfl rfl;have c3:=F3.cell 0 3 rfl rfl;have c4:=F3.cell 0 4 rfl rfl;have hcl:=λd os=>Calls.regrown_of (zbs x q.1.a q.2.1.a q.2.2.a q.1.n q.1.c q.2.1.n q.2.1.c q.2.2.n q.2.2.c (Sort.grow (redrawn u2 d) os) QL0.out.symm QL1.out.symm QL2.out.symm ((F3.rd Q0.out).below (below_regrown _ d os)) ((F3.rd Q1.out).below (below_regrown _ d os)) ((F3.rd Q2.out).below (below_regrown _ d os)) OKX.out.1);have HCL:=xH1 hcl;clear hcl gu eu hlv hku;have rc0:=λd os=>cell_regrown c0 d os;have rc1:=λd os=>cell_regrown c1 d os;have rc2:=λd os=>cell_regrown c2 d os;have rc3:=λd os=>cell_regrown c3 d os;have rc4:=λd os=>cell_regrown c4 d os;have rcu:=λd os=>cell_regrown cu d os;have rcb:=λd os=>cell_regrown cb d os;clear c0 c1 c2 c3 c4 cu cb;refine wp_region_quiet_below (by kernel_rfl) (by kernel_rfl) ?_
         repeat (go_big_quiet_step (with_reducible exact HCL.out _ _))
         refine wpQuiet_nil ?_;intro w6 hw6;have F6:=F3.call (zbF hw6);clear hw6 rc0 rc1 rc2 rc3 rc4 rcu rcb;clear hks;go_wp2
         go_roundw
         case rel=>exact⟨k+1,by omega,by go_num,F6.sub (by simp)⟩
         case measure=>simp[intOf];omega
        ·obtain rfl:k=v.ch.n:=by omega
         clear hlt hk;have cs:=F.c9 0 rfl;go_wp2;clear cs
         go_loopw [185] (λi wr=>∃k:Nat,k<=v.on.n/\i= .int .i64 k/\Fr w wr (ffb w u v)) (λi _=>v.on.n-(intOf i).toNat)
         case atStart=>exact⟨0,by omega,rfl,F⟩
         case round=>
          clear F;obtain⟨k,hk,rfl,F⟩:=hrel;by_cases hlt:k<v.on.n
          ·have hks:k<s.onces.length:=by have:=HS.out.on.len;omega
           obtain⟨x,q,b1,o1,HX,ea,g0,g1,g2,g3,Q0,QL0,QC0⟩:=HS.out.at_on (j:=k) hks;replace g0:=zd F.bel g0;replace g1:=zd F.bel g1;replace g2:=zd F.bel g2;replace g3:=zd F.bel g3;have OKX:Hid (zbW x):=xH1 (by rw[HX.out];exact(HF.out.on k hks));have F2:=F.alloc #[.int .i64 x.state,.int .i64 x.owner,.int .i64 x.value,.slice q.a q.n q.c] 78;have cx:=F2.c4 0 rfl;go_wp2_with fail;refine(zbM x q.a q.n q.c _ QL0.out.symm (F2.rd Q0.out) OKX.out).mono ?_;rintro e w6 ⟨rfl,hb⟩;have F6:=F2.call hb;clear hb F2 F cx ea g0 g1 g2 g3;clear hks;go_wp2
           go_roundw
           case rel=>exact⟨k+1,by omega,by go_num,F6.sub (by simp)⟩
           case measure=>simp[intOf];omega
          ·obtain rfl:k=v.on.n:=by omega
           clear hlt hk;have cs:=F.c9 0 rfl;go_wp2;clear cs
           go_loopw [196] (λi wr=>∃k:Nat,k<=v.sa.n/\i= .int .i64 k/\Fr w wr (ffb w u v)) (λi _=>v.sa.n-(intOf i).toNat)
           case atStart=>exact⟨0,by omega,rfl,F⟩
           case round=>
            clear F;obtain⟨k,hk,rfl,F⟩:=hrel;by_cases hlt:k<v.sa.n
            ·have hks:k<s.said.length:=by have:=HS.out.sa.len;omega
             obtain⟨b,o,eb,g'⟩:=(F.rd HS.out.sa.rd).int (by omega);have g1:=g' k hks;obtain⟨x,hx⟩:∃x,x=s.said.getD k 0:=⟨_,rfl⟩
             rw[<-hx] at g1;have HXX:Hid (0<=x/\x<=99):=xH1 (HF.out.sa x (by rw[hx];exact zbl hks));clear g' hx hks;go_upto_region 37 with fail;clear eb g1;go_wp2_with fail;refine(zbz x _ HXX.out).mono ?_;rintro e wz ⟨rfl,hw⟩;obtain rfl:=hw;go_wp2
             go_roundw
             case rel=>exact⟨k+1,by omega,by go_num,F⟩
             case measure=>simp[intOf];omega
            ·obtain rfl:k=v.sa.n:=by omega
             clear hlt hk;have cs:=F.c9 0 rfl;have hS:=F.inside (w.heap.size+1) (by simp[zv,It.foot]);obtain⟨N,hN⟩:∃N,N=wr.heap.size:=⟨_,rfl⟩
             have hNN:w.heap.size+2<=N:=by rw[hN];exact hS.2
             clear hS;go_wp2_with fail;refine(zfz v L s _ (HS.out.below F.bel) HZ.out HF.out.ne HF.out.no).mono ?_;rintro e w4 ⟨rfl,hwm,hom,hb⟩;rw[<-hN] at hwm hom⊢;have h:FW w w4 (ffb w u v) N s 0 0:=⟨F.call hb,⟨by omega,by simp[zv,It.foot];omega,by simp[zv,It.foot];omega⟩,by rw[zhb (λe he=>(HF.out.we e he).1)];exact hwm,by rw[zhb (λe he=>(HF.out.oe e he).1)];exact hom⟩
             clear hN hNN hwm hom hb F cs;have cp:=h.fr.c5 1 rfl;go_wp2;clear cp
             go_loopw [212] (λi wr=>∃k:Nat,k<=u.nt/\i= .int .i64 k/\FW w wr (ffb w u v) N s k k) (λi _=>u.nt-(intOf i).toNat)
             case atStart=>exact⟨0,by omega,rfl,h⟩
             case round=>
              clear h;obtain⟨k,hk,rfl,h⟩:=hrel;by_cases hlt:k<u.nt
              ·have hkt:k<p.threads.length:=by rw[HP.out.lt];exact hlt
               have hth:=HF.out.th k hkt;unfold thOk opAt at hth;rw[show((k:Int)).toNat=k from rfl,zbj] at hth;obtain⟨bt,ot,et,hth4⟩:=HP.out.thr (by omega);obtain⟨a2,c2,ct,r2⟩:=hth4 k hkt;obtain⟨bp,op,ep,gp⟩:=HS.out.pl.rd.int (by rw[HF.out.np];omega);replace gp:=gp k (by rw[HF.out.np];exact hkt);obtain⟨bs,os,es,gs⟩:=HS.out.st.rd.int (by rw[HF.out.nst];omega);replace gs:=gs k (by rw[HF.out.nst];exact hkt);have HRW:=xH1 r2;obtain⟨l,hl⟩:∃l,l=p.threads.getD k []:=⟨_,rfl⟩
               obtain⟨x,hx⟩:∃x,x=s.places.getD k 0:=⟨_,rfl⟩
               obtain⟨y,hy⟩:∃y,y=s.status.getD k 0:=⟨_,rfl⟩
               rw[<-hl] at ct HRW hth;rw[<-hx] at gp hth;rw[<-hy] at gs hth;have l8:l.length<=8:=by rw[hl];exact(zR HF.out.prog).2.2.2.2.2 k
               obtain⟨h0,h1,hth⟩:=hth;obtain⟨i,rfl⟩:∃i:Nat,x=(i:Int):=⟨x.toNat,by omega⟩
               have i1:i<=l.length:=(by omega);simp only[Int.toNat_natCast] at hth;have HTH:=xH1 hth;have t0:((i:Int)<0)=False:=(by simp);have t1:((l.length:Int)<(i:Int))=False:=by simp;omega
               have k0:(0:Int)<=(k:Int):=(by omega);have k1:(k:Int)<(u.nt:Int):=(by omega);have k2:(k:Int)<(v.pl.n:Int):=by rw[HS.out.pl.len,HF.out.np];omega
               have k3:(k:Int)<(v.st.n:Int):=by rw[HS.out.st.len,HF.out.nst];omega
               have cs:=h.fr.c9 0 rfl;have ES:=xH1 es;have GS:=xH1 gs;replace ct:=zd h.fr.bel ct;replace gp:=zd h.fr.bel gp;clear hth hth4 hl hx hy h0 h1 gs es hkt r2;go_upto_region 45 with fail;clear cs et ep ct gp;go_upto_region 47 with fail;obtain⟨b1,n1,e1,l1,q1⟩:=h.wm.look (P:=Tryz.prog) Tryz.underlying177 Tryz.underlying3 zhh (zgE HF.out.ne) k;obtain⟨b2,n2,e2,l2,q2⟩:=h.om.look (P:=Tryz.prog) Tryz.underlying178 Tryz.underlying3 zgp (zgE HF.out.no) k;have Q1:=xH1 q1;have Q2:=xH1 q2;have L1:=xH1 l1;have L2:=xH1 l2;clear q1 q2 l1 l2 t0 t1;apply zbc 8 [.k _,.k _,.k (.slice b1 n1 e1),.k _,.k _,.k (.slice b2 n2 e2),.k _,.k _] trivial ?s1 ?e1
               case s1=>
                repeat' apply And.intro
                all_goals first|trivial|(intro ρ w1 hG hfr hd;obtain⟨fc,ff⟩:=fcff hfr;have f18:=hfr (.tmp 18) rfl;have f19:=hfr (.tmp 19) rfl;have f20:=hfr (.tmp 20) rfl;have F1:=h.fr.call hG;clear F1)
                exact rk0;exact rk0
                ·obtain⟨d0,d1,-⟩:=hd;have d0:ρ (.tmp 230)=_:=d0;have d1:ρ (.tmp 231)=_:=d1;have hlk:=L1.out w1 hG;exact gvF hG (by go_simp) rfl xN1
                exact rk0;exact rk0
                ·obtain⟨d0,d1,-⟩:=hd;have d0:ρ (.tmp 233)=_:=d0;have d1:ρ (.tmp 234)=_:=d1;have hlk:=L2.out w1 hG;exact gvF hG (by go_simp) rfl xN1
                exact rk1;exact rk1
               intro w2 hG;refine zao ?_;replace h:=h.call hG;replace Q1:Hid ((n1=0/\(k:Int)∉(za3 (ents s) k).map (·.1))\/(n1=1/\∃x,((k:Int),x)∈za3 (ents s) k/\Rd w2 b1 (entC x))):=xH1 (Q1.out.imp id λ⟨e,x,hx,hr⟩=>⟨e,x,hx,hr.below hG⟩);replace Q2:Hid ((n2=0/\(k:Int)∉(za3 (owns s) k).map (·.1))\/(n2=1/\∃x,((k:Int),x)∈za3 (owns s) k/\Rd w2 b2 (oneC x))):=xH1 (Q2.out.imp id λ⟨e,x,hx,hr⟩=>⟨e,x,hx,hr.below hG⟩);clear L1 L2 hG
               go_upto_region 50 with (at_delete;first|(refine zdJ rfl _ _ rfl Tryz.underlying177 Tryz.underlying3 rfl h.wm (λ_=>by simp[entC]) rfl ?_;intro w5 hm5 hg5 hs5;replace Q1:Hid ((n1=0/\(k:Int)∉(za3 (ents s) k).map (·.1))\/(n1=1/\∃x,((k:Int),x)∈za3 (ents s) k/\Rd w5 b1 (entC x))):=xH1 (Q1.out.imp id λ⟨e,x,hx,hr⟩=>⟨e,x,hx,h.wm.keep hr (by simp[entC]) hg5⟩);replace Q2:Hid ((n2=0/\(k:Int)∉(za3 (owns s) k).map (·.1))\/(n2=1/\∃x,((k:Int),x)∈za3 (owns s) k/\Rd w5 b2 (oneC x))):=xH1 (Q2.out.imp id λ⟨e,x,hx,hr⟩=>⟨e,x,hx,h.wm.keep hr (by simp[oneC]) hg5⟩);replace h:=h.delW hm5 hg5;clear hm5 hg5 hs5)|(refine zdJ rfl _ _ rfl Tryz.underlying178 Tryz.underlying3 rfl h.om (λ_=>by simp[oneC]) rfl ?_;intro w7 hm7 hg7 hs7;replace Q1:Hid ((n1=0/\(k:Int)∉(za3 (ents s) k).map (·.1))\/(n1=1/\∃x,((k:Int),x)∈za3 (ents s) k/\Rd w7 b1 (entC x))):=xH1 (Q1.out.imp id λ⟨e,x,hx,hr⟩=>⟨e,x,hx,h.om.keep hr (by simp[entC]) hg7⟩);replace Q2:Hid ((n2=0/\(k:Int)∉(za3 (owns s) k).map (·.1))\/(n2=1/\∃x,((k:Int),x)∈za3 (owns s) k/\Rd w7 b2 (oneC x))):=xH1 (Q2.out.imp id λ⟨e,x,hx,hr⟩=>⟨e,x,hx,h.om.keep hr (by simp[oneC]) hg7⟩);replace h:=h.delO hm7 hg7;clear hm7 hg7 hs7))
               rcases HTH.out with ⟨t1,rfl,t3,t4⟩|⟨t1,hth⟩
               ·obtain rfl:i=l.length:=by omega
                obtain⟨rfl,-⟩:=Q1.out.resolve_right λ⟨_,x,hx,_⟩=>t3 (xDl.2 ⟨_,zcB.1 hx,rfl⟩);obtain⟨rfl,-⟩:=Q2.out.resolve_right λ⟨_,x,hx,_⟩=>t4 (xDl.2 ⟨_,zcB.1 hx,rfl⟩);clear t1 t3 t4 Q1 Q2;have gs:=zd h.fr.bel GS.out;have cs:=h.fr.c9 0 rfl;rw[ES.out] at cs;go_wp2
                go_roundw
                case rel=>exact⟨k+1,by omega,by go_num,h⟩
                case measure=>simp[intOf];omega
               ·have i2:i<l.length:=(by omega);obtain⟨b3,o3,rfl,g'⟩:=(h.fr.rd HRW.out).op (by omega);obtain⟨g0,g1,g2⟩:=g' i i2;obtain⟨⟨kd,on,ar⟩,hz⟩:∃z,z=l.getD i noOp:=⟨_,rfl⟩
                rw[<-hz] at g0 g1 g2 hth;have t2:((i:Int)==(l.length:Int))=false:=by simp;omega
                have t6:(i=l.length)=False:=by simp;omega
                have j0:(0:Int)<=(i:Int):=(by omega);have j1:(i:Int)<(l.length:Int):=(by omega);dsimp only at g0 g1 g2;have HH:=xH1 hth;clear hth g' hz t1 HTH;have G:=(Fr.start w7).alloc #[.int .i64 kd,.int .i64 on,.int .i64 ar] 113;go_upto_region 54 with fail;clear g0 g1 g2;obtain⟨w8,hw,G⟩:=G.named;rw[<-hw];clear hw;have gs:=zd (h.fr.bel.trans (G.bel.mono h.fr.bel.size)) GS.out;have cs:=(h.call G.bel).fr.c9 0 rfl;rw[ES.out] at cs;go_upto_region 56 with fail;clear gs cs;rcases HH.out with ⟨rfl,t3,t4⟩|⟨rfl,t3,t4⟩|⟨rfl,t3,t5,t4⟩
                ·obtain⟨rfl,-⟩:=Q1.out.resolve_right λ⟨_,x,hx,_⟩=>t3 (xDl.2 ⟨_,zcB.1 hx,rfl⟩);obtain⟨rfl,-⟩:=Q2.out.resolve_right λ⟨_,x,hx,_⟩=>t4 (xDl.2 ⟨_,zcB.1 hx,rfl⟩);clear t3 t4 Q1 Q2 HH;go_wp2
                 go_roundw
                 case rel=>exact⟨k+1,by omega,by go_num,h.call G.bel⟩
                 case measure=>simp[intOf];omega
                ·obtain⟨rfl,-⟩:=Q2.out.resolve_right λ⟨_,x,hx,_⟩=>t4 (xDl.2 ⟨_,zcB.1 hx,rfl⟩);obtain⟨rfl,x,hx,hr⟩:=Q1.out.resolve_left λ⟨_,hx⟩=>hx (zhR.2 (xDl.2 ⟨_,t3,rfl⟩));have hxe:=zja HF.out.ne (zcB.1 hx) t3;rw[hxe] at hr;clear hxe;obtain⟨b4,o4,rfl,rc⟩:∃b o,b1=some ⟨b,o,none⟩/\∀j,j<(entC (kd,on,if kd=2\/kd=8 then ar else 0)).length->_:=hr.resolve_left (by simp[entC]);have d0:=rc 0 (by simp[entC]);have d1:=rc 1 (by simp[entC]);have d2:=rc 2 (by simp[entC]);simp only[entC,List.getD_cons_zero,List.getD_cons_succ,Nat.add_zero] at d0 d1 d2;clear t3 t4 Q1 Q2 HH hx hr rc;have kn:=zkB;have kg:=zjV;have cu:=G.c3 0 rfl;have G2:=G.alloc #[.int .i64 kd,.int .i64 on,.int .i64 0] 183;go_upto_region 61 with fail;obtain⟨w9,hw,G2⟩:=G2.named;rw[<-hw];clear hw cu;have cu:=G2.c3 1 rfl;have cw:=G2.c3 0 rfl;by_cases q2:kd=2\/kd=8
                 ·rw[if_pos q2] at d2;have GX:=G2.set 0 rfl 2 (.int .i64 ar);rcases q2 with rfl|rfl
                  ·go_upto_region 63 with fail;obtain⟨wv,hw,GX⟩:=GX.named;rw[<-hw];clear hw cu cw G2;replace d0:=zd GX.bel d0;replace d1:=zd GX.bel d1;replace d2:=zd GX.bel d2;have u0:=GX.cell 0 0 rfl rfl;have u1:=GX.cell 0 1 rfl rfl;have u2:=GX.cell 0 2 rfl rfl;have rd0:=λd os=>cell_regrown d0 d os;have rd1:=λd os=>cell_regrown d1 d os;have rd2:=λd os=>cell_regrown d2 d os;have ru0:=λd os=>cell_regrown u0 d os;have ru1:=λd os=>cell_regrown u1 d os;have ru2:=λd os=>cell_regrown u2 d os;clear d0 d1 d2 u0 u1 u2;refine wp_region_quiet_below (by kernel_rfl) (by kernel_rfl) ?_
                   repeat (go_big_quiet_step (fail))
                   refine wpQuiet_nil ?_;intro w6 hw6;have h9:=(h.call GX.bel).call (zbF hw6);clear hw6 rd0 rd1 rd2 ru0 ru1 ru2;go_wp2
                   go_roundw
                   case rel=>exact⟨k+1,by omega,by go_num,h9⟩
                   case measure=>simp[intOf];omega
                  ·go_upto_region 63 with fail;obtain⟨wv,hw,GX⟩:=GX.named;rw[<-hw];clear hw cu cw G2;replace d0:=zd GX.bel d0;replace d1:=zd GX.bel d1;replace d2:=zd GX.bel d2;have u0:=GX.cell 0 0 rfl rfl;have u1:=GX.cell 0 1 rfl rfl;have u2:=GX.cell 0 2 rfl rfl;have rd0:=λd os=>cell_regrown d0 d os;have rd1:=λd os=>cell_regrown d1 d os;have rd2:=λd os=>cell_regrown d2 d os;have ru0:=λd os=>cell_regrown u0 d os;have ru1:=λd os=>cell_regrown u1 d os;have ru2:=λd os=>cell_regrown u2 d os;clear d0 d1 d2 u0 u1 u2;refine wp_region_quiet_below (by kernel_rfl) (by kernel_rfl) ?_
                   repeat (go_big_quiet_step (fail))
                   refine wpQuiet_nil ?_;intro w6 hw6;have h9:=(h.call GX.bel).call (zbF hw6);clear hw6 rd0 rd1 rd2 ru0 ru1 ru2;go_wp2
                   go_roundw
                   case rel=>exact⟨k+1,by omega,by go_num,h9⟩
                   case measure=>simp[intOf];omega
                 ·rw[if_neg q2] at d2;have p2:(kd==2)=false:=by simp;exact λh=>q2 (.inl h)
                  have p8:(kd==8)=false:=by simp;exact λh=>q2 (.inr h)
                  have GX:=G2;go_upto_region 63 with fail;clear cu cw G2;replace d0:=zd GX.bel d0;replace d1:=zd GX.bel d1;replace d2:=zd GX.bel d2;have u0:=GX.cell 0 0 rfl rfl;have u1:=GX.cell 0 1 rfl rfl;have u2:=GX.cell 0 2 rfl rfl;have rd0:=λd os=>cell_regrown d0 d os;have rd1:=λd os=>cell_regrown d1 d os;have rd2:=λd os=>cell_regrown d2 d os;have ru0:=λd os=>cell_regrown u0 d os;have ru1:=λd os=>cell_regrown u1 d os;have ru2:=λd os=>cell_regrown u2 d os;clear d0 d1 d2 u0 u1 u2;refine wp_region_quiet_below (by kernel_rfl) (by kernel_rfl) ?_
                  repeat (go_big_quiet_step (fail))
                  refine wpQuiet_nil ?_;intro w6 hw6;have h9:=(h.call GX.bel).call (zbF hw6);clear hw6 rd0 rd1 rd2 ru0 ru1 ru2;go_wp2
                  go_roundw
                  case rel=>exact⟨k+1,by omega,by go_num,h9⟩
                  case measure=>simp[intOf];omega
                ·obtain⟨rfl,-⟩:=Q1.out.resolve_right λ⟨_,x,hx,_⟩=>t3 (xDl.2 ⟨_,zcB.1 hx,rfl⟩);dsimp only at t5 t4;obtain rfl:=t5;obtain⟨rfl,x,hx,hr⟩:=Q2.out.resolve_left λ⟨_,hx⟩=>hx (zhR.2 (xDl.2 ⟨_,t4,rfl⟩));have hxe:=zja HF.out.no (zcB.1 hx) t4;rw[hxe] at hr;clear hxe;obtain⟨b4,o4,rfl,rc⟩:∃b o,b2=some ⟨b,o,none⟩/\∀j,j<(oneC on).length->_:=hr.resolve_left (by simp[oneC]);have d0:=zd G.bel (rc 0 (by simp[oneC]));simp only[oneC,List.getD_cons_zero,Nat.add_zero] at d0;have u0:=G.cell 0 0 rfl rfl;have u1:=G.cell 0 1 rfl rfl;clear t3 t4 Q1 Q2 HH hx hr rc;go_upto_region 66 with fail;have rd0:=λd os=>cell_regrown d0 d os;have ru0:=λd os=>cell_regrown u0 d os;have ru1:=λd os=>cell_regrown u1 d os;clear d0 u0 u1;refine wp_region_quiet_below (by kernel_rfl) (by kernel_rfl) ?_
                 repeat (go_big_quiet_step (fail))
                 refine wpQuiet_nil ?_;intro w6 hw6;have h9:=(h.call G.bel).call (zbF hw6);clear hw6 rd0 ru0 ru1;go_wp2
                 go_roundw
                 case rel=>exact⟨k+1,by omega,by go_num,h9⟩
                 case measure=>simp[intOf];omega
              ·obtain rfl:k=u.nt:=by omega
               clear hlt hk;have hwm:=h.wm;have hom:=h.om;rw[ziy (λe he=>by have h9:=(HF.out.we e he).2;rw[HP.out.lt] at h9;exact h9)] at hwm;rw[ziy (λe he=>by have h9:=(HF.out.oe e he).2;rw[HP.out.lt] at h9;exact h9)] at hom;have lw:=hwm.len0 (P:=Tryz.prog) Tryz.underlying177;have lo:=hom.len0 (P:=Tryz.prog) Tryz.underlying178;clear hwm hom;go_wp2;exact xDd (v:= .bool true) (by simp[results,Tryz.results105,go_sem]) rfl ⟨rfl,h.fr.bel⟩
theorem zed (v:StV) (L:StL) (s:StD) (w:World) (hr:StR w v L s) (hn:s.status.length<=8):
  Calls Tryz.prog 60 #[v.val] w λe w'=>∃a c,e= .returned (.slice a (zD s).length c)/\w'.ownsRow w.heap.size 3 1 (.slice a (zD s).length c) (zD s).length (ints (zD s))/\xW w w':=by
 have HS:=xH1 hr;have n8:v.st.n<=8:=by rw[hr.st.len];exact hn
 have HFL:=xH1 hr.fl;clear hr hn;have F:=(Fr.start w).alloc (svC v) 33;have cs:=F.c9 0 rfl;by_cases hf:v.fl=0
 ·have HRD:Hid (zD s=zbH s v.st.n):=xH1 (by rw[zcl,if_pos (by rw[<-HFL.out];exact hf),HS.out.st.len]);have tf:(v.fl !=0)=false:=by simpa using hf
  clear hf;go_enter Tryz.func60,Tryz.ntmps60;go_wp2;clear cs tf;replace F:=F.nil 3 1
  go_loopw [12,3] (λi z wr=>∃(k:Nat) (a:Option Addr) (l c:Nat),k<=v.st.n/\i= .int .i64 k/\z= .slice a l c/\l=(zbH s k).length/\Fr w wr [.row a l c 3 1 (ints (zbH s k)),.blk w.heap.size (svC v) 33]) (λi _ _=>v.st.n-(intOf i).toNat)
  case atStart=>exact⟨0,none,0,0,by omega,rfl,rfl,rfl,F⟩
  case round=>
   clear F;obtain⟨k,a,l,c,hk,rfl,rfl,hl,F⟩:=hrel;by_cases hlt:k<v.st.n
   ·have hl8:l<=8:=by have:=zc8 s k;omega
    obtain⟨bs,os,es,gs⟩:=(F.rd HS.out.st.rd).int (by have:=HS.out.st.len;omega);replace gs:=gs k (by have:=HS.out.st.len;omega);obtain⟨y,hy⟩:∃y,y=s.status.getD k 0:=⟨_,rfl⟩
    rw[<-hy] at gs;have HY:=xH1 hy;have HLN:=xH1 hl;clear hy hl;go_upto_region 7 with fail;clear es gs;by_cases hq:y=0\/y=2
    ·rcases hq with rfl|rfl
     ·have HE:Hid (zbH s (k+1)=zbH s k++[(k:Int)]):=xH1 (by rw[zdZ,if_pos (by rw[<-HY.out];simp)]);have rd:Rd (World.alloc wr (.cells #[.int .i64 k] 3)) (some ⟨wr.heap.size,0,none⟩) (ints [(k:Int)]):=Rd.of_blk (Blk.new _ _ _);have F2:=F.alloc #[.int .i64 k] 3;go_wp2_with (at_builtin;refine F2.appI 1 rfl _ _ rfl rfl rfl [(k:Int)] rfl rfl rd (by omega) ?_;intro a4 c4 W4 F5)
      go_roundw
      case rel=>exact⟨k+1,a4,l+1,c4,by omega,by go_num,rfl,by rw[HE.out,xDh,<-HLN.out];rfl,by rw[HE.out,zaw];exact F5.sub (.cons _ (.refl _))⟩
      case measure=>simp[intOf];omega
     ·have HE:Hid (zbH s (k+1)=zbH s k++[(k:Int)]):=xH1 (by rw[zdZ,if_pos (by rw[<-HY.out];simp)]);have rd:Rd (World.alloc wr (.cells #[.int .i64 k] 3)) (some ⟨wr.heap.size,0,none⟩) (ints [(k:Int)]):=Rd.of_blk (Blk.new _ _ _);have F2:=F.alloc #[.int .i64 k] 3;go_wp2_with (at_builtin;refine F2.appI 1 rfl _ _ rfl rfl rfl [(k:Int)] rfl rfl rd (by omega) ?_;intro a4 c4 W4 F5)
      go_roundw
      case rel=>exact⟨k+1,a4,l+1,c4,by omega,by go_num,rfl,by rw[HE.out,xDh,<-HLN.out];rfl,by rw[HE.out,zaw];exact F5.sub (.cons _ (.refl _))⟩
      case measure=>simp[intOf];omega
    ·have HE:Hid (zbH s (k+1)=zbH s k):=xH1 (by rw[zdZ,if_neg (by rw[<-HY.out];exact hq)]);have t0:(y==0)=false:=by simp;exact λh=>hq (.inl h)
     have t2:(y==2)=false:=by simp;exact λh=>hq (.inr h)
     clear hq;go_wp2
     go_roundw
     case rel=>exact⟨k+1,a,l,c,by omega,by go_num,rfl,by rw[HE.out];exact HLN.out,by rw[HE.out];exact F⟩
     case measure=>simp[intOf];omega
   ·obtain rfl:k=v.st.n:=by omega
    go_wp2;exact xDd (v:= .slice a l c) (by simp[results,Tryz.results60,go_sem]) rfl ⟨a,c,by rw[HRD.out,<-hl],by rw[HRD.out,<-hl];exact F.own 0 rfl,F.bel⟩
 ·have HRD:Hid (zD s=[]):=xH1 (by rw[zcl,if_neg (by rw[<-HFL.out];exact hf)]);have tf:(v.fl !=0)=true:=by simpa using hf
  clear hf;go_enter Tryz.func60,Tryz.ntmps60;go_wp2;exact xDd (v:= .slice none 0 0) (by simp[results,Tryz.results60,go_sem]) rfl ⟨none,0,by rw[HRD.out];rfl,by rw[HRD.out];exact xDi _ _ _ _,F.bel⟩
theorem zdn (C:Nat) (f:Int) (v:StV) (L:StL) (s:StD) (w:World) (hc:Blk w C (svC v) 33) (hr:StR w v L s) (hz:SmS s):
  Calls Tryz.prog 107 (#[.int .i64 f]++ #[.pointer (some ⟨C,0,none⟩)]) w λe w'=>∃(v':StV) (L':StL),e= .returned (.tuple #[v'.val,.bool true])/\StO [] w.heap.size w' v' L' (zaW s f)/\NewB w.heap.size L'/\xW w w':=by
 have HS:=xH1 hr;have HZ:=xH1 hz;clear hr hz;have F:=(Fr.start w).alloc zC 33;obtain⟨w1,hw,F⟩:=F.named;have cs:=(hc.below F.bel).cell;have c0:=cs 0 rfl;have c1:=cs 1 rfl;have c2:=cs 2 rfl;have c3:=cs 3 rfl;have c4:=cs 4 rfl;have c5:=cs 5 rfl;have c6:=cs 6 rfl;have c7:=cs 7 rfl;have c8:=cs 8 rfl;clear cs;go_enter Tryz.func107,Tryz.ntmps107;go_upto_region 1 with fail;rw[<-hw];clear hw;go_wp2_with fail;refine(zdk v L s _ (HS.out.below F.bel) HZ.out).mono ?_;rintro e w2 ⟨v',L',rfl,ho,hn,hb⟩;have HN:=NewB.lower hn F.bel.size;have h:=Sf.gain F ho hn hb;clear ho hn hb F c0 c1 c2 c3 c4 c5 c6 c7 c8;have h2:=h.alloc (svC v') 33;go_upto_region 2 with fail;obtain⟨w3,hw,h3⟩:=h2.named;rw[<-hw];clear hw h2 h;have co:=h3.c9 0 rfl;have h4:=h3.set 0 rfl 8 (.int .i64 f);go_upto_region 3 with fail;obtain⟨w4,hw,h5⟩:=h4.named;rw[<-hw];clear hw h4 co h3;have co:=h5.fr.c9 (v8:= .int .i64 f) 0 rfl;have cz:=h5.fr.c9 1 rfl
 have h6:=h5.set9 1 rfl (.slice v'.pl.a v'.pl.n v'.pl.c) (.slice v'.st.a v'.st.n v'.st.c) (.slice v'.se.a v'.se.n v'.se.c) (.slice v'.on.a v'.on.n v'.on.c) (.slice v'.gr.a v'.gr.n v'.gr.c) (.slice v'.ba.a v'.ba.n v'.ba.c) (.slice v'.ch.a v'.ch.n v'.ch.c) (.slice v'.sa.a v'.sa.n v'.sa.c) (.int .i64 f);go_wp2;exact xDd (v:= .tuple #[.agg #[.slice v'.pl.a v'.pl.n v'.pl.c,.slice v'.st.a v'.st.n v'.st.c,.slice v'.se.a v'.se.n v'.se.c,.slice v'.on.a v'.on.n v'.on.c,.slice v'.gr.a v'.gr.n v'.gr.c,.slice v'.ba.a v'.ba.n v'.ba.c,.slice v'.ch.a v'.ch.n v'.ch.c,.slice v'.sa.a v'.sa.n v'.sa.c,.int .i64 f],.bool true]) (by simp[results,Tryz.results107,go_sem,h6.fr.c9 (v8:= .int .i64 f) 1 rfl]) rfl ⟨{v' with fl:=f},L',rfl,(h6.st.fault f).sub (by simp),HN,h6.bel⟩
abbrev mC (u:PV) (v:StV) (b:Bool):Array Value:= #[.slice u.s u.ns u.cs,.slice u.g u.ng u.cg,.slice u.b u.nb u.cb,.slice u.r u.nr u.cr,.slice u.t u.nt u.ct,.slice v.pl.a v.pl.n v.pl.c,.slice v.st.a v.st.n v.st.c,.slice v.se.a v.se.n v.se.c,.slice v.on.a v.on.n v.on.c,.slice v.gr.a v.gr.n v.gr.c,.slice v.ba.a v.ba.n v.ba.c,.slice v.ch.a v.ch.n v.ch.c,.slice v.sa.a v.sa.n v.sa.c,.int .i64 v.fl,.bool b]
theorem zaD (w0 w:World) (l:List It) (M:Nat) (u:PV) (p:Pg) (v:StV) (L:StL) (s:StD) (bb:Bool) (a:Option Addr) (n c:Nat) (ts:List Int) (h:Sf w0 w (.blk M (mC u v bb) 141::l) v L s) (hp:RdP w0 u p) (hz:zbB u p) (hw:SlR v.blks w ⟨a,n,c⟩ (ints ts) ts.length) (hl:ts.length<=8) (hn:0<s.places.length/\s.places.length<=8/\s.places.length=s.status.length) (ht:∀t∈ts,0<=t/\t<p.threads.length/\t<s.places.length) (hpl:∀i,0<=s.places.getD i 0/\s.places.getD i 0<=8):
  Calls Tryz.prog 109 #[.pointer (some ⟨M,0,none⟩),.slice a n c] w λe w'=>e= .returned (.tuple #[])/\Sf w0 w' (.blk M (mC u v bb) 141::l) v L (goAll p s ts)/\zi v.blks w w':=by
 have HLN:Hid (n=ts.length):=xH1 hw.len;have n8:n<=8:=by have:=HLN.out;omega
 have HW:=xH1 hw;have HP:=xH1 hp;have HZ:=xH1 hz;have HT:=xH1 ht;have HPL:=xH1 hpl;have HN:=xH1 hn;obtain⟨gp,ep,-,-⟩:=zaf h.st.pl (by rw[h.st.npl];exact hn.1);obtain⟨gs,es,-,-⟩:=zaf h.st.st (by rw[h.st.nst,<-hn.2.2];exact hn.1);have EP:=xH1 ep;have ES:=xH1 es;have NPL:Hid (v.pl.n=s.places.length):=xH1 h.st.npl;have NST:Hid (v.st.n=s.status.length):=xH1 h.st.nst;clear hw hp hz hl hn ht hpl ep es;go_enter Tryz.func109,Tryz.ntmps109;go_wp2
 go_loopw [8] (λi wr=>∃k:Nat,k<=n/\i= .int .i64 k/\Sf w0 wr (.blk M (mC u v bb) 141::l) v L (goAll p s (ts.take k))/\zi v.blks w wr) (λi _=>n-(intOf i).toNat)
 case atStart=>exact⟨0,by omega,rfl,h,zi.refl _ _⟩
 case round=>
  clear h;obtain⟨k,hk,rfl,h1,hT⟩:=hrel;by_cases hlt:k<n
  ·have hkl:k<ts.length:=by have:=HLN.out;omega
   obtain⟨b,o,rfl,g'⟩:=((HW.out.touch hT (λ_ hb=>hb)).rd).int (by omega);have g1:=g' k hkl;obtain⟨t,et⟩:∃t,t=ts.getD k 0:=⟨_,rfl⟩
   rw[<-et] at g1;have HTK:Hid (ts.take (k+1)=ts.take k++[t]):=xH1 (by rw[et];exact zeH ts k hkl);obtain⟨t0,t1,t2⟩:=HT.out t (by rw[et];exact zbl hkl);obtain⟨S1,hS1⟩:∃S1,S1=goAll p s (ts.take k):=⟨_,rfl⟩
   have e1:S1.places.length=s.places.length:=by rw[hS1];exact zaB _ _
   have e2:S1.status.length=s.status.length:=by rw[hS1];exact zbn _ _
   have hbd:=zaC (p:=p) (ts.take k) s t.toNat
   rw[<-hS1,xDp] at hbd;have hs0:=HPL.out t.toNat
   rw[<-hS1] at h1;have HS1:=xH1 hS1;have tp:t.toNat<S1.places.length:=(by omega);have ts':t.toNat<S1.status.length:=by have:=HN.out;omega
   obtain⟨pl,epl⟩:∃pl,pl=S1.places.getD t.toNat 0:=⟨_,rfl⟩
   have q0:=h1.plAt EP.out t tp;rw[<-epl] at q0 hbd;have b0:0<=pl:=(by omega);have b1:pl<=16:=(by omega);have tn:t<(v.pl.n:Int):=by rw[NPL.out];omega
   have tm:t<(v.st.n:Int):=by rw[NST.out];have:=HN.out;omega
   have m5:wr.cell? ⟨M,5,none⟩=some (.slice v.pl.a v.pl.n v.pl.c):=h1.fr.cell 0 5 rfl rfl;rw[EP.out] at m5;have HTP:=xH1 tp;have HTS:=xH1 ts';have HEP:=xH1 epl;have HB:=xH1 hT;obtain⟨bt,ot,etr,hth⟩:=HP.out.thr (by omega);obtain⟨a2,x2,ct,-⟩:=hth t.toNat (by omega)
   obtain⟨m,em⟩:∃m,m=(p.threads.getD t.toNat []).length:=⟨_,rfl⟩
   rw[<-em] at ct;have hnt:t<(u.nt:Int):=by rw[<-HP.out.lt];omega
   have HM:=xH1 em;have ETR:=xH1 etr;have hT1:zi v.blks wr (wr.setCell ⟨gp,t.toNat,none⟩ (.int .i64 (pl+1))):=(zi.refl _ _).set (StV.mem_pl (by rw[EP.out];rfl));clear g' et hS1 hbd hs0 tp ts' epl hT em etr hth hkl e1 e2;go_upto_region 4 with fail;obtain⟨W2,hW,h2⟩:=(h1.setPl EP.out t (pl+1)).named;rw[<-hW] at hT1⊢;have HT1:=xH1 (HB.out.trans hT1);clear hW h1 m5 q0 hT1 g1;have m6:W2.cell? ⟨M,6,none⟩=some (.slice v.st.a v.st.n v.st.c):=h2.fr.cell 0 6 rfl rfl;rw[ES.out] at m6;have q1:=h2.stAt ES.out t HTS.out;have hT2:zi v.blks W2 (W2.setCell ⟨gs,t.toNat,none⟩ (.int .i64 0)):=(zi.refl _ _).set (StV.mem_st (by rw[ES.out];rfl));go_upto_region 5 with fail;obtain⟨W3,hW,h3⟩:=(h2.setSt ES.out t 0).named;rw[<-hW] at hT2⊢;have HT2:=xH1 (HT1.out.trans hT2);clear hW h2 m6 q1 hT2;have m5:W3.cell? ⟨M,5,none⟩=some (.slice v.pl.a v.pl.n v.pl.c):=h3.fr.cell 0 5 rfl rfl;rw[EP.out] at m5;have m4:W3.cell? ⟨M,4,none⟩=some (.slice u.t u.nt u.ct):=h3.fr.cell 0 4 rfl rfl;rw[ETR.out] at m4;have q0:=(h3.plAt EP.out t (by show t.toNat<(S1.places.set t.toNat (pl+1)).length;rw[List.length_set];exact HTP.out)).1
   rw[show(zX {S1 with places:=S1.places.set t.toNat (pl+1)} t 0).places.getD t.toNat 0=pl+1 by show(S1.places.set t.toNat (pl+1)).getD t.toNat 0=pl+1;rw[zaI,if_pos ⟨rfl,HTP.out⟩]] at q0;replace ct:=zd h3.bel ct;have HV:∀y,(if y=3 then pl+1=m else pl+1≠m)->(y=3\/y=0)->zX {S1 with places:=S1.places.set t.toNat (pl+1)} t y=goAll p s (ts.take (k+1)):=by
    intro y hy hy';rw[HTK.out,<-zdS,<-HS1.out];unfold goOn zX rest;rw[<-HEP.out,show(zbY p t).length=m from HM.out.symm];rcases hy' with rfl|rfl
    ·rw[if_pos rfl] at hy;rw[if_pos hy]
    ·rw[if_neg (by decide)] at hy;rw[if_neg hy]
   have HVH:=xH1 HV;clear HV;by_cases hx:pl+1=(m:Int)
   ·have d0:(pl+1==(m:Int))=true:=(by simpa using hx);have HX:=xH1 hx;clear hx
    go_quiet (fail)
    obtain⟨W4,hW,h4⟩:=(h3.drewN nq).named;have hd:zi v.blks W3 (W3.drewN nq):=zi.of_below (zbi _ _);rw[<-hW] at hd⊢;have HT3:=xH1 (HT2.out.trans hd);clear hW h3 m5 m4 q0 hd ct;have m6:W4.cell? ⟨M,6,none⟩=some (.slice v.st.a v.st.n v.st.c):=h4.fr.cell 0 6 rfl rfl;rw[ES.out] at m6;have q1:=h4.stAt ES.out t (by show t.toNat<(S1.status.set t.toNat 0).length;rw[List.length_set];exact HTS.out);have h5:=h4.setSt ES.out t 3;rw[show zX (zX {S1 with places:=S1.places.set t.toNat (pl+1)} t 0) t 3=zX {S1 with places:=S1.places.set t.toNat (pl+1)} t 3 by unfold zX;dsimp only;rw[List.set_set],HVH.out 3 (by rw[if_pos rfl];exact HX.out) (.inl rfl)] at h5;have hT5:zi v.blks W4 (W4.setCell ⟨gs,t.toNat,none⟩ (.int .i64 3)):=(zi.refl _ _).set (StV.mem_st (by rw[ES.out];rfl));go_wp2
    go_roundw
    case rel=>exact⟨k+1,by omega,by go_num,h5,HT3.out.trans hT5⟩
    case measure=>simp[intOf];omega
   ·have d0:(pl+1==(m:Int))=false:=(by simpa using hx);have h4:=h3;rw[HVH.out 0 (by rw[if_neg (by decide)];exact hx) (.inr rfl)] at h4;clear hx
    go_quiet (fail)
    go_wp2
    go_roundw
    case rel=>exact⟨k+1,by omega,by go_num,h4.drewN nq,HT2.out.trans (zi.of_below (zbi _ _))⟩
    case measure=>simp[intOf];omega
  ·have hkn:k=n:=(by omega);have e:ts.take k=ts:=xDt (by have:=HLN.out;omega);rw[e] at h1;subst hkn;clear e;go_wp2;exact bodyPost_end (v:= .tuple #[]) (by simp[results,Tryz.results109,go_sem]) rfl ⟨rfl,h1,hT⟩
theorem ze2 (w0 w:World) (l:List It) (M:Nat) (u:PV) (v:StV) (L:StL) (s:StD) (bb:Bool) (x:Int) (h:Sf w0 w (.blk M (mC u v bb) 141::l) v L s) (hs:s.said.length<64):
  Calls Tryz.prog 108 #[.pointer (some ⟨M,0,none⟩),.int .i64 x] w λe w'=>e= .returned (.tuple #[])/\∃r:SlV,Sf w0 w' (.blk M (mC u {v with sa:=r} bb) 141::l) {v with sa:=r} L (sayIt s x):=by
 have hsa:v.sa.n<64:=by rw[h.st.nsa];exact hs
 have m12:w.cell? ⟨M,12,none⟩=some (.slice v.sa.a v.sa.n v.sa.c):=h.fr.cell 0 12 rfl rfl;have h1:=h.alloc #[.int .i64 x] 3;clear hs h;go_enter Tryz.func108,Tryz.ntmps108;go_wp2_with (at_builtin;refine zad rfl _ _ 22 rfl Tryz.underlying22 zM rfl (by decide) rfl h1.st.sa rfl rfl (Rd.of_blk (h1.fr.blk 0 rfl)) (zaa [x]) (by omega) (by decide) h1.fr.bel.size ?_;intro a' c' W' ho' hg hn';have hT:zi v.blks _ W':=zi.of_grown hg λk hk=>StV.mem_sa hk;have h2:=h1.upd hT (h1.st.say (s8:=⟨a',v.sa.n+1,c'⟩) hg hn' (ps:=s.said++[x]) (by show v.sa.n+1=_;rw[xDh,h1.st.nsa];rfl) (by rw[zaw];exact ho'));clear m12;have m12:W'.cell? ⟨M,12,none⟩=some (.slice v.sa.a v.sa.n v.sa.c):=h2.fr.cell 1 12 rfl rfl;have z12:=h2.fr.fz 1 12 rfl;have h3:=(h2.set 1 rfl 12 (.slice a' (v.sa.n+1) c')).sub (l':= .blk M (mC u {v with sa:=⟨a',v.sa.n+1,c'⟩} bb) 141::l) (.cons _ (.refl _)));exact bodyPost_end (v:= .tuple #[]) (by simp[results,Tryz.results108,go_sem]) rfl ⟨rfl,⟨a',v.sa.n+1,c'⟩,h3⟩
theorem zbC (w0 w:World) (l:List It) (M:Nat) (u:PV) (p:Pg) (v:StV) (L:StL) (s:StD) (bb:Bool) (t:Int) (b:Bool) (h:Sf w0 w (.blk M (mC u v bb) 141::l) v L s) (hp:RdP w0 u p) (hz:zbB u p) (hn:0<s.places.length/\s.places.length<=8/\s.places.length=s.status.length) (ht:0<=t/\t<p.threads.length/\t<s.places.length) (hpl:∀i,0<=s.places.getD i 0/\s.places.getD i 0<=8):
  Calls Tryz.prog 111 #[.pointer (some ⟨M,0,none⟩),.int .i64 t,.bool b] w λe w'=>e= .returned (.tuple #[])/\Sf w0 w' (.blk M (mC u v bb) 141::l) v L (zaN p s t b):=by
 cases b
 ·obtain⟨gs,es,-,-⟩:=zaf h.st.st (by rw[h.st.nst,<-hn.2.2];exact hn.1);have m6:w.cell? ⟨M,6,none⟩=some (.slice v.st.a v.st.n v.st.c):=h.fr.cell 0 6 rfl rfl;rw[es] at m6;have q1:=h.stAt es t (by omega);have tm:t<(v.st.n:Int):=by rw[h.st.nst];omega
  have t0:=ht.1;have h1:=h.setSt es t 1;clear hpl hn ht h hp hz es;go_enter Tryz.func111,Tryz.ntmps111;go_wp2;exact bodyPost_end (v:= .tuple #[]) (by simp[results,Tryz.results111,go_sem]) rfl ⟨rfl,h1⟩
 ·have h1:=h.alloc #[.int .i64 t] 3;have hw:SlR v.blks (w.alloc (.cells #[.int .i64 t] 3)) ⟨some ⟨w.heap.size,0,none⟩,1,1⟩ (ints [t]) [t].length:=⟨rfl,Rd.of_blk (h1.fr.blk 0 rfl),.inr (λb hb hm=>by have h2:=(h.st.from b hm).2;simp only[ze,xDn] at hb;omega),Nat.le_refl _⟩
  go_enter Tryz.func111,Tryz.ntmps111;go_wp2_with fail;refine(zaD w0 _ _ M u p v L s bb _ 1 1 [t] (h1.pull 1 rfl) hp hz hw (by simp) hn (λz hz'=>by obtain rfl:=xS1 hz';exact ht) hpl).mono ?_;rintro e w2 ⟨rfl,h2,-⟩;go_wp2;exact bodyPost_end (v:= .tuple #[]) (by simp[results,Tryz.results111,go_sem]) rfl ⟨rfl,h2.sub (by simp)⟩
end Go.Proofs.YtnlijgjpgdjpiaaGreat
