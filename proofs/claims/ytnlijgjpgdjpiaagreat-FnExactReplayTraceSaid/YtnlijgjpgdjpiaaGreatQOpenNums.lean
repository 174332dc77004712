/- Part of a proof: OpenNums. -/
import Derived.Deep.Slices
import Derived.ProofKit
import Derived.Test.YtnlijgjpgdjpiaaGreatQBaseA
set_option maxRecDepth 100000
set_option maxHeartbeats 16000000
namespace Go.Proofs.YtnlijgjpgdjpiaaGreat
open Go.RowKit Go.ChangeShapes Go.WideShapes Go.Deep
section
variable {H:Type} {enc:TypeId×Value->H} {P:Program} {w:World} {base:Nat} {spare:Nat->Bool} {held:Bool}
theorem zjP {t e:TypeId} {fs:Array Field} {k fuel:Nat} {cs:List Value} {x:DataW H×List MemPlace} (ht:P.underlying t=some (.slice e)) (he:P.underlying e=some (.struct fs)) (hC:P.cellsOf e=k) (hk:fs.size=k)
  (hfs:∀(i:Nat) (f:Field),fs[i]? =some f->f.offset=i/\P.underlying f.type=some (.int .i64)/\P.cellsOf f.type=1) (h:DataW.trod enc P w base spare held fuel t cs=some x):
  ∃(a:Option Addr) (n c:Nat) (Z:Nat->Nat->Int),cs=[.slice a n c]/\n<=maxLen/\(n=0\/∃ad,a=some ad/\∀i,i<n->∀j,j<k->w.cell? (ad.add (i*k+j))=some (.int .i64 (Z i j))):=by
 rcases open_slice ht h with ⟨rfl,_⟩|⟨ad,len,cap,m,nn,D,Pl,rfl,hb,hl,hm,hmm,rfl,hx⟩
 ·exact⟨none,0,0,λ_ _=>0,rfl,Nat.zero_le _,.inl rfl⟩
 ·have hlm:len<=m:=by rw[hmm];split<;>omega
  have each:∀i,i<len->∃z:Nat->Int,∀j,j<k->w.cell? (ad.add (i*k+j))=some (.int .i64 (z j)):=by
   intro i hi;obtain⟨cs',h1,h2⟩:=hx i (by omega);obtain⟨xs,n',_,_,_,hxl,hf⟩:=DataW.trod_struct he h2;obtain⟨_,hlen,hcell⟩:=World.cells?_some h1;refine choose_lt (α:=Int) (p:=λj z=>w.cell? (ad.add (i*k+j))=some (.int .i64 z)) (λj hj=> ?_);obtain⟨f,hfj⟩:∃f,fs[j]? =some f:=⟨_,Array.getElem?_eq_getElem (by omega)⟩
   obtain⟨f1,f2,f3⟩:=hfs j f hfj;have g:=hf j f hfj;rw[f1,f3,xDb (by omega)] at g;obtain⟨z,hz,_⟩:=DataW.trod_int f2 g;have hc:=hcell j (by rw[hC];omega);rw[hC,add_add] at hc;refine⟨z,hc.trans ?_⟩;have:(cs'.drop j)[0]? =some (.int .i64 z):=by
    have:=congrArg (λl=>l[0]?) hz;simpa[List.getElem?_take] using this
   simpa using this
  obtain⟨Z,hZ⟩:=choose_lt each;exact⟨some ad,len,cap,Z,rfl,by omega,.inr ⟨ad,rfl,hZ⟩⟩
end
theorem zjm {α:Type} {f:α->List Value} {k:Nat} (hf:∀x,(f x).length=k) (hk:0<k) (mk:(Nat->Int)->α) (hmk:∀z j,j<k->(f (mk z)).getD j undef= .int .i64 (z j)) {w:World} {a:Option Addr} {n:Nat} {Z:Nat->Nat->Int}
  (h:n=0\/∃ad,a=some ad/\∀i,i<n->∀j,j<k->w.cell? (ad.add (i*k+j))=some (.int .i64 (Z i j))):
  Rd w a (((List.range n).map λi=>mk (Z i)).flatMap f):=by
 rcases h with rfl|⟨⟨b,o,spot⟩,rfl,hc⟩
 ·exact .inl rfl
 ·by_cases h0:n=0
  ·subst h0;exact .inl rfl
  ·cases spot with
   |some s=>
    exfalso;have:=hc 0 (by omega) 0 hk;simp only[World.cell?,Addr.add] at this;split at this<;>simp at this
   |none=>
    refine .inr ⟨b,o,rfl,λj hj=> ?_⟩;rw[zc2 hf] at hj;simp only[xDf,List.length_range] at hj;have e:j=j/k*k+j% k:=by rw[Nat.mul_comm];exact(Nat.div_add_mod j k).symm
    have hq:j/k<n:=Nat.div_lt_of_lt_mul (by rw[Nat.mul_comm];exact hj);have hr:j% k<k:=Nat.mod_lt _ hk;have g:=hc _ hq _ hr;rw[Addr.add_lit,<-e] at g;rw[g]
    conv=>rhs;rw[e]
    rw[zfW hf (mk (Z 0)) _ _ _ (by simpa using hq) hr];have:((List.range n).map λi=>mk (Z i)).getD (j/k) (mk (Z 0))=mk (Z (j/k)):=(by simp[List.getD,hq]);rw[this,hmk _ _ hr]
end Go.Proofs.YtnlijgjpgdjpiaaGreat
