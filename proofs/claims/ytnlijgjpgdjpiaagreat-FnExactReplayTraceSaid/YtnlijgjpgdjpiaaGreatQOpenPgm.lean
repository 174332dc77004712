/- Part of a proof: OpenPgm. -/
import Derived.Test.YtnlijgjpgdjpiaaGreatQOpenNums
set_option maxRecDepth 100000
set_option maxHeartbeats 16000000
namespace Go.Proofs.YtnlijgjpgdjpiaaGreat
open Go.RowKit Go.ChangeShapes Go.WideShapes Go.Deep
theorem zgo {w:World} {a:Option Addr} {n:Nat} {V:Nat->Value} (h:n=0\/∃ad,a=some ad/\∀i,i<n->w.cell? (ad.add i)=some (V i)):Rd w a ((List.range n).map V):=by
 rcases h with rfl|⟨⟨b,o,spot⟩,rfl,hc⟩
 ·exact .inl rfl
 ·by_cases h0:n=0
  ·subst h0;exact .inl rfl
  ·cases spot with
   |some s=>
    exfalso;have:=hc 0 (by omega);simp only[World.cell?,Addr.add] at this;split at this<;>simp at this
   |none=>
    refine .inr ⟨b,o,rfl,λj hj=> ?_⟩;simp only[xDf,List.length_range] at hj;have g:=hc j hj;rw[Addr.add_lit] at g;rw[g];simp[List.getD,hj]
section
variable {H:Type} {enc:TypeId×Value->H} {w:World} {base:Nat} {spare:Nat->Bool} {held:Bool}
theorem zdW {fuel:Nat} {cs:List Value} {x:DataW H×List MemPlace} (h:DataW.trod enc Tryz.prog w base spare held fuel 22 cs=some x):
  ∃(a:Option Addr) (n c:Nat) (xs:List Int),cs=[.slice a n c]/\xs.length=n/\n<=maxLen/\Rd w a (ints xs):=by
 rcases open_slice1 Tryz.underlying22 (by kernel_rfl) h with ⟨rfl,_⟩|⟨ad,len,cap,m,nn,V,D,Pl,rfl,hb,hl,hm,hmm,rfl,hx⟩
 ·exact⟨none,0,0,[],rfl,rfl,Nat.zero_le _,.inl rfl⟩
 ·have hlm:len<=m:=by rw[hmm];split<;>omega
  obtain⟨Z,hZ⟩:=choose_lt (α:=Int) (p:=λi z=>w.cell? (ad.add i)=some (.int .i64 z)) (n:=len) (λi hi=>by
   obtain⟨h1,h2⟩:=hx i (by omega);obtain⟨z,hz,_⟩:=DataW.trod_int Tryz.underlying3 h2;simp only[List.cons.injEq,and_true] at hz;exact⟨z,by rw[h1,hz]⟩)
  have e:ints ((List.range len).map Z)=(List.range len).map (λi=> .int .i64 (Z i)):=by simp[ints]
  exact⟨some ad,len,cap,(List.range len).map Z,rfl,by simp,by omega,by rw[e];exact zgo (.inr ⟨ad,rfl,hZ⟩)⟩
theorem zjM {fuel:Nat} {cs:List Value} {x:DataW H×List MemPlace} (h:DataW.trod enc Tryz.prog w base spare held fuel 69 cs=some x):
  ∃(a:Option Addr) (n c:Nat) (xs:List OpD),cs=[.slice a n c]/\xs.length=n/\n<=maxLen/\Rd w a (opsV xs):=by
 obtain⟨a',n',c',Z,hcs,hn,hc⟩:=zjP (k:=3) Tryz.underlying69 Tryz.underlying134 (by kernel_rfl) rfl (by
  intro i f hi
  match i,hi with
  |0,hi=>cases hi;exact⟨rfl,Tryz.underlying3,by kernel_rfl⟩
  |1,hi=>cases hi;exact⟨rfl,Tryz.underlying3,by kernel_rfl⟩
  |2,hi=>cases hi;exact⟨rfl,Tryz.underlying3,by kernel_rfl⟩) h
 exact⟨a',n',c',(List.range n').map (λi=>(⟨Z i 0,Z i 1,Z i 2⟩:OpD)),hcs,by simp,hn,zjm (f:=opv) zfv (by decide) (λz=>(⟨z 0,z 1,z 2⟩:OpD)) (by intro z j hj;match j,hj with|0,_=>rfl|1,_=>rfl|2,_=>rfl) hc⟩
theorem zhG {fuel:Nat} {cs:List Value} {x:DataW H×List MemPlace} (h:DataW.trod enc Tryz.prog w base spare held fuel 23 cs=some x):
  ∃(a:Option Addr) (n c:Nat) (ts:List (List OpD)) (vs:List Value),cs=[.slice a n c]/\ts.length=n/\n<=maxLen/\(∀i,(ts.getD i []).length<=maxLen)/\RdT w a ts vs:=by
 rcases open_slice1 Tryz.underlying23 (by kernel_rfl) h with ⟨rfl,_⟩|⟨ad,len,cap,m,nn,V,D,Pl,rfl,hb,hl,hm,hmm,rfl,hx⟩
 ·exact⟨none,0,0,[],[],rfl,rfl,Nat.zero_le _,λi=>by simp,⟨rfl,.inl rfl,λi hi=>absurd hi (Nat.not_lt_zero _)⟩⟩
 ·have hlm:len<=m:=by rw[hmm];split<;>omega
  obtain⟨T,hT⟩:=choose_lt (α:=List OpD) (p:=λi t=>∃a' c',V i= .slice a' t.length c'/\t.length<=maxLen/\Rd w a' (opsV t)) (n:=len) (λi hi=>by
   obtain⟨h1,h2⟩:=hx i (by omega);obtain⟨a',n',c',xs,he,hxl,hn,hr⟩:=zjM h2;simp only[List.cons.injEq,and_true] at he;exact⟨xs,a',c',by rw[hxl];exact he,by rw[hxl];exact hn,hr⟩)
  refine⟨some ad,len,cap,(List.range len).map T,(List.range len).map V,rfl,by simp,by omega,λi=> ?_,⟨by simp,zgo (.inr ⟨ad,rfl,λi hi=>(hx i (by omega)).1⟩),λi hi=> ?_⟩⟩
  ·by_cases hi:i<len
   ·have e:((List.range len).map T).getD i []=T i:=(by simp[List.getD,hi]);obtain⟨a',c',_,hn,_⟩:=hT i hi;rw[e];exact hn
   ·have e:((List.range len).map T).getD i []=[]:=(by simp[List.getD,Nat.le_of_not_lt hi]);rw[e];exact Nat.zero_le _
  ·simp only[xDf,List.length_range] at hi;have e:((List.range len).map T).getD i []=T i:=(by simp[List.getD,hi]);have e2:((List.range len).map V).getD i undef=V i:=(by simp[List.getD,hi]);obtain⟨a',c',hv,_,hr⟩:=hT i hi;rw[e,e2];exact⟨a',c',hv,hr⟩
theorem open_prog {v:Value} {base2:Nat} {r:_} {d:DataW H} {q:List MemPlace} (hv:Value.okWide Tryz.prog w r base2 25 v) (h0:DataW.Trod enc Tryz.prog w base spare held 25 v d q):
  ∃(V:PV) (p:Pg),v= .agg (pvC V)/\Lens V p/\RdP w V p:=by
 obtain⟨cs,rfl,hsz⟩:=okWide_struct Tryz.underlying25 hv;have hc5:Tryz.prog.cellsOf 25=5:=by kernel_rfl
 rw[hc5] at hsz;obtain⟨fuel,hf⟩:=h0;have h:DataW.trod enc Tryz.prog w base spare held fuel 25 cs.toList=some (d,q):=by simpa[Value.cells] using hf
 obtain⟨xs,n',_,_,_,hxl,hfs⟩:=DataW.trod_struct Tryz.underlying25 h;have hl:cs.toList.length=5:=by simpa using hsz
 obtain⟨c0,c1,c2,c3,c4,hcs⟩:∃c0 c1 c2 c3 c4,cs.toList=[c0,c1,c2,c3,c4]:=by
  match cs.toList,hl with
  |[c0,c1,c2,c3,c4],_=>exact⟨c0,c1,c2,c3,c4,rfl⟩
 have hxs:∀i,i<5->∃x,xs[i]? =some x:=λi hi=>⟨_,xDb (by rw[hxl];exact hi)⟩
 have f0:=hfs 0 _ rfl;have f1:=hfs 1 _ rfl;have f2:=hfs 2 _ rfl;have f3:=hfs 3 _ rfl;have f4:=hfs 4 _ rfl;rw[hcs] at f0 f1 f2 f3 f4;obtain⟨x0,h0⟩:=hxs 0 (by omega);obtain⟨x1,h1⟩:=hxs 1 (by omega);obtain⟨x2,h2⟩:=hxs 2 (by omega);obtain⟨x3,h3⟩:=hxs 3 (by omega);obtain⟨x4,h4⟩:=hxs 4 (by omega);rw[h0] at f0;rw[h1] at f1;rw[h2] at f2;rw[h3] at f3;rw[h4] at f4;have ci:Tryz.prog.cellsOf 22=1:=by kernel_rfl
 have ct:Tryz.prog.cellsOf 23=1:=by kernel_rfl
 have g0:DataW.trod enc Tryz.prog w base spare held n' 22 [c0]=some x0:=by
  have e:List.take (Tryz.prog.cellsOf 22) (List.drop 0 [c0,c1,c2,c3,c4])=[c0]:=by rw[ci];rfl
  rw[<-e];exact f0
 have g1:DataW.trod enc Tryz.prog w base spare held n' 22 [c1]=some x1:=by
  have e:List.take (Tryz.prog.cellsOf 22) (List.drop 1 [c0,c1,c2,c3,c4])=[c1]:=by rw[ci];rfl
  rw[<-e];exact f1
 have g2:DataW.trod enc Tryz.prog w base spare held n' 22 [c2]=some x2:=by
  have e:List.take (Tryz.prog.cellsOf 22) (List.drop 2 [c0,c1,c2,c3,c4])=[c2]:=by rw[ci];rfl
  rw[<-e];exact f2
 have g3:DataW.trod enc Tryz.prog w base spare held n' 22 [c3]=some x3:=by
  have e:List.take (Tryz.prog.cellsOf 22) (List.drop 3 [c0,c1,c2,c3,c4])=[c3]:=by rw[ci];rfl
  rw[<-e];exact f3
 have g4:DataW.trod enc Tryz.prog w base spare held n' 23 [c4]=some x4:=by
  have e:List.take (Tryz.prog.cellsOf 23) (List.drop 4 [c0,c1,c2,c3,c4])=[c4]:=by rw[ct];rfl
  rw[<-e];exact f4
 obtain⟨a0,n0,k0,s,e0,l0,z0,r0⟩:=zdW g0;obtain⟨a1,n1,k1,g,e1,l1,z1,r1⟩:=zdW g1;obtain⟨a2,n2,k2,b,e2,l2,z2,r2⟩:=zdW g2;obtain⟨a3,n3,k3,r,e3,l3,z3,r3⟩:=zdW g3;obtain⟨a4,n4,k4,ts,vs,e4,l4,z4,i4,r4⟩:=zhG g4;simp only[List.cons.injEq,and_true] at e0 e1 e2 e3 e4;subst e0 e1 e2 e3 e4;refine⟨⟨a0,n0,k0,a1,n1,k1,a2,n2,k2,a3,n3,k3,a4,n4,k4⟩,⟨s,g,b,r,ts⟩,?_,⟨z0,z1,z2,z3,z4,i4⟩,⟨l0,l1,l2,l3,l4,r0,r1,r2,r3,⟨vs,r4⟩⟩⟩;have:cs= #[.slice a0 n0 k0,.slice a1 n1 k1,.slice a2 n2 k2,.slice a3 n3 k3,.slice a4 n4 k4]:=by
  have:=congrArg List.toArray hcs;simpa using this
 rw[this]
theorem zkY {v:Value} {base2:Nat} {r:_} {d:DataW H} {q:List MemPlace} (hv:Value.okWide Tryz.prog w r base2 134 v) (h0:DataW.Trod enc Tryz.prog w base spare held 134 v d q):
  ∃o:OpD,v= .agg #[.int .i64 o.kind,.int .i64 o.on,.int .i64 o.arg]:=by
 obtain⟨cs,rfl,hsz⟩:=okWide_struct Tryz.underlying134 hv;have hc5:Tryz.prog.cellsOf 134=3:=by kernel_rfl
 rw[hc5] at hsz;obtain⟨fuel,hf⟩:=h0;have h:DataW.trod enc Tryz.prog w base spare held fuel 134 cs.toList=some (d,q):=by simpa[Value.cells] using hf
 obtain⟨xs,n',_,_,_,hxl,hfs⟩:=DataW.trod_struct Tryz.underlying134 h;have hl:cs.toList.length=3:=by simpa using hsz
 obtain⟨c0,c1,c2,hcs⟩:∃c0 c1 c2,cs.toList=[c0,c1,c2]:=by
  match cs.toList,hl with
  |[c0,c1,c2],_=>exact⟨c0,c1,c2,rfl⟩
 have hxs:∀i,i<3->∃x,xs[i]? =some x:=λi hi=>⟨_,xDb (by rw[hxl];exact hi)⟩
 have f0:=hfs 0 _ rfl;have f1:=hfs 1 _ rfl;have f2:=hfs 2 _ rfl;rw[hcs] at f0 f1 f2;obtain⟨x0,h0⟩:=hxs 0 (by omega);obtain⟨x1,h1⟩:=hxs 1 (by omega);obtain⟨x2,h2⟩:=hxs 2 (by omega);rw[h0] at f0;rw[h1] at f1;rw[h2] at f2;have ci:Tryz.prog.cellsOf 3=1:=by kernel_rfl
 have g0:DataW.trod enc Tryz.prog w base spare held n' 3 [c0]=some x0:=by
  have e:List.take (Tryz.prog.cellsOf 3) (List.drop 0 [c0,c1,c2])=[c0]:=by rw[ci];rfl
  rw[<-e];exact f0
 have g1:DataW.trod enc Tryz.prog w base spare held n' 3 [c1]=some x1:=by
  have e:List.take (Tryz.prog.cellsOf 3) (List.drop 1 [c0,c1,c2])=[c1]:=by rw[ci];rfl
  rw[<-e];exact f1
 have g2:DataW.trod enc Tryz.prog w base spare held n' 3 [c2]=some x2:=by
  have e:List.take (Tryz.prog.cellsOf 3) (List.drop 2 [c0,c1,c2])=[c2]:=by rw[ci];rfl
  rw[<-e];exact f2
 obtain⟨z0,e0,_⟩:=DataW.trod_int Tryz.underlying3 g0;obtain⟨z1,e1,_⟩:=DataW.trod_int Tryz.underlying3 g1;obtain⟨z2,e2,_⟩:=DataW.trod_int Tryz.underlying3 g2;simp only[List.cons.injEq,and_true] at e0 e1 e2;subst e0 e1 e2;refine⟨⟨z0,z1,z2⟩,?_⟩;have:cs= #[.int .i64 z0,.int .i64 z1,.int .i64 z2]:=by
  have:=congrArg List.toArray hcs;simpa using this
 rw[this]
end
end Go.Proofs.YtnlijgjpgdjpiaaGreat
