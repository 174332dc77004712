/- Part of a proof: BaseB Maps. -/
import Derived.Shelf.Abstract
import Derived.StillTailTactics
import Derived.Test.YtfclolgfegdfjaaGreatVBaseA
import Derived.Maps.OwnOps
import Derived.Maps.OwnSet
import Derived.Maps.RangeWalk
set_option maxRecDepth 100000
set_option maxHeartbeats 16000000
namespace Go.Proofs.YtfclolgfegdfjaaGreat
open Go.RowKit
variable {k:Nat}
def uV:ByteArray:=⟨#[32]⟩
def uI (k:Int):Int:=if k=6\/k=7\/k=9\/k=10 then 1 else if k=1 then 0 else 2
def qM (o:xA):ByteArray:=
 if 1<=o.kind/\o.kind<=10 then
  (if uI o.kind=0 then vz o.kind++uV++vd o.arg else if uI o.kind=1 then vz o.kind++uV++vd o.on else vz o.kind++uV++vd o.on++uV++vd o.arg)
 else XQ
theorem pg {a b:Int} (h:a=b):Ending.returned (uy a)= .returned (uy b):=by rw[h]
theorem xE (k:Int) (w:World):Calls Tryz.prog 181 #[uy k] w λe w'=>e= .returned (uy (uI k))/\w'=w:=by
 have go:∀(a6 a7 a9 b0 a1:Bool) (r:Int),(k==6)=a6->(k==7)=a7->(k==9)=a9->(k==10)=b0->(k==1)=a1->uI k=(if a6 then 1 else if a7 then 1 else if a9 then 1 else if b0 then 1 else if a1 then 0 else 2):=by
  intro a6 a7 a9 b0 a1 r h6 h7 h9 d0 h1;subst h6 h7 h9 d0 h1;unfold uI;by_cases e6:k=6
  ·simp[e6]
  ·by_cases e7:k=7
   ·simp[e7]
   ·by_cases e9:k=9
    ·simp[e9]
    ·by_cases a0:k=10
     ·simp[a0]
     ·by_cases e1:k=1
      ·simp[e1]
      ·simp[e6,e7,e9,a0,e1]
 have G:=go _ _ _ _ _ 0 rfl rfl rfl rfl rfl;by_cases e6:k=6
 ·subst e6;go_enter Tryz.func181,Tryz.ntmps181;go_wp2;go_ret;exact⟨rfl,rfl⟩
 by_cases e7:k=7
 ·subst e7;go_enter Tryz.func181,Tryz.ntmps181;go_wp2;go_ret;exact⟨rfl,rfl⟩
 by_cases e9:k=9
 ·subst e9;go_enter Tryz.func181,Tryz.ntmps181;go_wp2;go_ret;exact⟨rfl,rfl⟩
 by_cases a0:k=10
 ·subst a0;go_enter Tryz.func181,Tryz.ntmps181;go_wp2;go_ret;exact⟨rfl,rfl⟩
 by_cases e1:k=1
 ·subst e1;go_enter Tryz.func181,Tryz.ntmps181;go_wp2;go_ret;exact⟨rfl,rfl⟩
 ·have b6:(k==6)=false:=by simpa using e6
  have b7:(k==7)=false:=by simpa using e7
  have b9:(k==9)=false:=by simpa using e9
  have c0:(k==10)=false:=by simpa using a0
  have b1:(k==1)=false:=by simpa using e1
  have HG:uH (uI k=2):=zd (by rw[G,b6,b7,b9,c0,b1];rfl);clear G go;go_enter Tryz.func181,Tryz.ntmps181;go_wp2;go_ret;exact⟨pg HG.o.symm,rfl⟩
theorem Kj (k:Int):(vz k).size<=7:=by
 unfold vz
 repeat' split
 all_goals (simp[ByteArray.size])
theorem KF (o:xA) (h1: -9223372036854775808<=o.on/\o.on<=9223372036854775807) (h2: -9223372036854775808<=o.arg/\o.arg<=9223372036854775807):(qM o).size<=49:=by
 have hw:=Kj o.kind;have ha:=YT o.on h1.1 h1.2;have hb:=YT o.arg h2.1 h2.2;have hs:uV.size=1:=rfl;unfold qM;split
 ·split
  ·simp only[ByteArray.size_append];omega
  ·split
   ·simp only[ByteArray.size_append];omega
   ·simp only[ByteArray.size_append];omega
 ·show 0<=49;omega
theorem Zw (o:xA) (w:World) (h1: -9223372036854775808<=o.on/\o.on<=9223372036854775807) (h2: -9223372036854775808<=o.arg/\o.arg<=9223372036854775807):
  Calls Tryz.prog 176 #[.agg #[uy o.kind,uy o.on,uy o.arg]] w λe w'=>e= .returned (.string (qM o))/\xW w w':=by
 have B0:xW w (w.alloc (.cells #[uy o.kind,uy o.on,uy o.arg] 68)):=zY;have k0:zm (w.alloc (.cells #[uy o.kind,uy o.on,uy o.arg] 68)) w.heap.size #[uy o.kind,uy o.on,uy o.arg] 68:=zm.new _ _ _;have c0:(w.alloc (.cells #[uy o.kind,uy o.on,uy o.arg] 68)).cell? ⟨w.heap.size,0,none⟩=some (uy o.kind):=k0.cell 0 rfl;have c1:(w.alloc (.cells #[uy o.kind,uy o.on,uy o.arg] 68)).cell? ⟨w.heap.size,1,none⟩=some (uy o.on):=k0.cell 1 rfl;have c2:(w.alloc (.cells #[uy o.kind,uy o.on,uy o.arg] 68)).cell? ⟨w.heap.size,2,none⟩=some (uy o.arg):=k0.cell 2 rfl;clear k0;by_cases hk:1<=o.kind/\o.kind<=10
 rotate_left
 ·have HW:uH (vz o.kind=XQ):=zd (by unfold vz XQ;repeat (rw[if_neg jq]));have HR:uH (qM o=XQ):=zd (by unfold qM;rw[if_neg hk]);clear hk h1 h2;go_enter Tryz.func176,Tryz.ntmps176;go_wp2_with fail;refine(vA o.kind _).mono ?_;rintro e w1 ⟨rfl,hb⟩;rw[HW.o];replace c0:=ze hb c0;replace c1:=ze hb c1;replace c2:=ze hb c2;replace B0:=B0.trans (hb.mono B0.size);clear hb;go_wp2;go_ret;exact⟨Zg (by rw[HR.o];rfl),B0⟩
 have b0:=Kj o.kind;obtain⟨c,cs,hW⟩:∃c cs,vz o.kind=Yz c cs:=by
  have hk:o.kind=1\/o.kind=2\/o.kind=3\/o.kind=4\/o.kind=5\/o.kind=6\/o.kind=7\/o.kind=8\/o.kind=9\/o.kind=10:=jq;rcases hk with h|h|h|h|h|h|h|h|h|h<;>rw[h]<;>exact⟨_,_,rfl⟩
 rw[hW] at b0;have HW:=zd hW;have f0:=YT o.arg h2.1 h2.2;have g0:=YT o.on h1.1 h1.2;have H1:=zd h1;have H2:=zd h2;have h0:uV.size=1:=rfl;have s1:=λ(W:World)=>run_string_add_sum (P:=Tryz.prog) (w:=W) (Yz c cs) uV jq;have s2:=λ(W:World)=>run_string_add_sum (P:=Tryz.prog) (w:=W) (Yz c cs++uV) (vd o.arg) (by rw[ByteArray.size_append];omega);have s3:=λ(W:World)=>run_string_add_sum (P:=Tryz.prog) (w:=W) (Yz c cs++uV) (vd o.on) (by rw[ByteArray.size_append];omega);have s4:=λ(W:World)=>run_string_add_sum (P:=Tryz.prog) (w:=W) (Yz c cs++uV++vd o.on) uV (by rw[ByteArray.size_append,ByteArray.size_append];omega);have s5:=λ(W:World)=>run_string_add_sum (P:=Tryz.prog) (w:=W) (Yz c cs++uV++vd o.on++uV) (vd o.arg) (by simp only[ByteArray.size_append];omega);unfold uV at s1 s2 s3 s4 s5;have HK:=zd hk;clear b0 f0 g0 h1 h2 h0 hW hk;rcases(show uI o.kind=0\/uI o.kind=1\/uI o.kind=2 by(unfold uI;repeat' split);all_goals simp) with ha|ha|ha
 ·have HA:=zd ha;have HR:uH (qM o=vz o.kind++uV++vd o.arg):=zd (by unfold qM;rw[if_pos HK.o,if_pos ha]);clear ha s3 s4 s5;go_enter Tryz.func176,Tryz.ntmps176;go_wp2_with fail;refine(vA o.kind _).mono ?_;rintro e w1 ⟨rfl,hb⟩;rw[HW.o];replace c0:=ze hb c0;replace c1:=ze hb c1;replace c2:=ze hb c2;replace B0:=B0.trans (hb.mono B0.size);clear hb;go_wp2_with fail;refine(xE o.kind _).mono ?_;rintro e w2 ⟨rfl,hw⟩;have a0:=hw.symm;subst a0;rw[HA.o];go_wp2_with fail;refine(YZ o.arg _ H2.o.1 H2.o.2).mono ?_;rintro e w3 ⟨rfl,hb⟩;replace c0:=ze hb c0;replace c1:=ze hb c1;replace c2:=ze hb c2;replace B0:=B0.trans (hb.mono B0.size);clear hb;go_wp2;go_ret;exact⟨Zg (by rw[HR.o,HW.o];rfl),B0⟩
 ·have HA:=zd ha;have HR:uH (qM o=vz o.kind++uV++vd o.on):=zd (by unfold qM;rw[if_pos HK.o,if_neg jq,if_pos ha]);clear ha s2 s4 s5;go_enter Tryz.func176,Tryz.ntmps176;go_wp2_with fail;refine(vA o.kind _).mono ?_;rintro e w1 ⟨rfl,hb⟩;rw[HW.o];replace c0:=ze hb c0;replace c1:=ze hb c1;replace c2:=ze hb c2;replace B0:=B0.trans (hb.mono B0.size);clear hb;go_wp2_with fail;refine(xE o.kind _).mono ?_;rintro e w2 ⟨rfl,hw⟩;have a0:=hw.symm;subst a0;rw[HA.o];go_wp2_with fail;refine(xE o.kind _).mono ?_;rintro e i0 ⟨rfl,hw⟩;have a0:=hw.symm;subst a0;rw[HA.o];go_wp2_with fail;refine(YZ o.on _ H1.o.1 H1.o.2).mono ?_;rintro e w3 ⟨rfl,hb⟩;replace c0:=ze hb c0;replace c1:=ze hb c1;replace c2:=ze hb c2;replace B0:=B0.trans (hb.mono B0.size);clear hb;go_wp2;go_ret;exact⟨Zg (by rw[HR.o,HW.o];rfl),B0⟩
 ·have HA:=zd ha;have HR:uH (qM o=vz o.kind++uV++vd o.on++uV++vd o.arg):=zd (by unfold qM;rw[if_pos HK.o,if_neg jq,if_neg jq]);clear ha s2;go_enter Tryz.func176,Tryz.ntmps176;go_wp2_with fail;refine(vA o.kind _).mono ?_;rintro e wS ⟨rfl,hb⟩;rw[HW.o];replace c0:=ze hb c0;replace c1:=ze hb c1;replace c2:=ze hb c2;replace B0:=B0.trans (hb.mono B0.size);clear hb;go_wp2_with fail;refine(xE o.kind _).mono ?_;rintro e w2 ⟨rfl,hw⟩;have a0:=hw.symm;subst a0;rw[HA.o];go_wp2_with fail;refine(xE o.kind _).mono ?_;rintro e i0 ⟨rfl,hw⟩;have a0:=hw.symm;subst a0;rw[HA.o];go_wp2;apply xZ 11 [.k _,.k _,.k _,.k _,.k (.string (vd o.on)),.k _,.k _,.k _,.k _,.k (.string (vd o.arg)),.k _] trivial ?s1 ?e1
  case s1=>
   repeat' apply And.intro
   all_goals first|trivial|(intro ρ w1 hG hfr hd;obtain⟨fc,ff⟩:=xu hfr;have f1:=hfr (.tmp 1) rfl;have f3:=hfr (.tmp 3) rfl;have c1:=ze hG c1;have c2:=ze hG c2)
   exact yj;exact yI;exact yj;exact yI
   ·obtain⟨d0,-⟩:=hd;have d0:(ρ (.tmp 35))=uy o.on:=d0;refine zU (by go_simp;exact⟨⟨rfl,rfl⟩,rfl⟩) ?_;refine(YZ o.on _ H1.o.1 H1.o.2).mono ?_;rintro e w2 ⟨rfl,hb⟩;exact⟨_,rfl,hb,rfl,yn,hG.trans (hb.mono hG.size)⟩
   exact Gu;exact yI;exact yj;exact yI
   ·obtain⟨d0,-⟩:=hd;have d0:(ρ (.tmp 40))=uy o.arg:=d0;refine zU (by go_simp;exact⟨⟨rfl,rfl⟩,rfl⟩) ?_;refine(YZ o.arg _ H2.o.1 H2.o.2).mono ?_;rintro e w2 ⟨rfl,hb⟩;exact⟨_,rfl,hb,rfl,yn,hG.trans (hb.mono hG.size)⟩
   exact Gu
  intro w2 hG;refine yv ?_;go_wp2;go_ret;exact⟨Zg (by rw[HR.o,HW.o];rfl),B0.trans (hG.mono B0.size)⟩
theorem U8 {l:List Int} {lo hi:Int} (hk:k<l.length) (h:¬(lo<=l.getD k 0/\l.getD k 0<=hi)):xl l lo hi=false:=by
 unfold xl;have:l.all (λn=>decide (lo<=n)&&decide (n<=hi))=false:=by
  rw[List.all_eq_false];refine⟨l[k],List.getElem_mem hk,?_⟩;have e:l.getD k 0=l[k]:=by simp[List.getD,hk]
  rw[e] at h;simp only[Bool.and_eq_true,decide_eq_true_eq];exact h
 rw[this];simp
theorem gU {l:List Int} {lo hi:Int} (h:∀j,j<l.length->lo<=l.getD j 0/\l.getD j 0<=hi):xl l lo hi=decide (l.length<=3):=by
 unfold xl;have:l.all (λn=>decide (lo<=n)&&decide (n<=hi))=true:=by
  rw[List.all_eq_true];intro x hx;obtain⟨k,hk,rfl⟩:=List.getElem_of_mem hx;have e:l.getD k 0=l[k]:=by simp[List.getD,hk]
  have:=h k hk;rw[e] at this;simp[this.1,this.2]
 rw[this];simp
theorem V7 {l:List Int} {lo hi:Int} (h:3<l.length):xl l lo hi=false:=by
 unfold xl;rw[show decide (l.length<=3)=false by simp;omega];simp
theorem yR (a:uQ) (n c:Nat) (l:List Int) (lo hi:Int) (w:World) (hl:l.length=n) (hn:n<=maxLen) (hr:Rd w a (zf l)):
  Calls Tryz.prog 126 #[.slice a n c,uy lo,uy hi] w λe w'=>e= .returned (.bool (xl l lo hi))/\w'=w:=by
 unfold maxLen at hn;have HL:=zd hl;clear hl;go_enter Tryz.func126,Tryz.ntmps126;go_wp2
 go_loopw [7] (λi wr=>∃k:Nat,k<=n/\k<=4/\i=uy k/\uH (∀j,j<k->lo<=l.getD j 0/\l.getD j 0<=hi)/\wr=w) (λi _=>n-(intOf i).toNat)
 case atStart=>exact⟨0,jq,jq,rfl,zd jq,rfl⟩
 case round=>
  obtain⟨k,hk,d0,rfl,a0,rfl⟩:=hrel;by_cases f0:k<n
  ·by_cases h3:k<=3
   ·obtain⟨b,q,rfl,hc⟩:=hr.int (jQ HL.o);have g:=hc k (jQ HL.o);obtain⟨x,hx⟩:=jy (l.getD k 0);rw[<-hx] at g;have HX:=zd hx;clear hc hx;by_cases t1:x<lo
    ·have HB:uH (xl l lo hi=false):=zd (U8 (k:=k) (jQ HL.o) (by rw[<-HX.o];omega));go_wp2;go_ret;exact⟨zT (by rw[HB.o]),rfl⟩
    ·by_cases t2:hi<x
     ·have HB:uH (xl l lo hi=false):=zd (U8 (k:=k) (jQ HL.o) (by rw[<-HX.o];omega));have d1:decide (x<lo)=false:=(by simpa using t1);go_wp2;go_ret;exact⟨zT (by rw[HB.o]),rfl⟩
     ·have d1:decide (x<lo)=false:=(by simpa using t1);have d2:decide (hi<x)=false:=(by simpa using t2);go_wp2
      go_roundw
      case rel=>exact⟨k+1,jq,jq,by go_num,zd (λj hj=>by
       rcases Nat.lt_or_ge j k with h|h
       ·exact a0.out j h
       ·have:j=k:=jq;subst this;rw[<-HX.o];omega),trivial⟩
      case measure=>exact uq
   ·have b0:k=4:=jq;subst b0;have HB:uH (xl l lo hi=false):=zd (V7 (jQ HL.o));clear h3;have hd:decide ((n:Int)<=3)=false:=by simp;omega
    go_wp2;go_ret;exact⟨zT (by rw[HB.o]),rfl⟩
  ·have c0:k=n:=jq;subst c0;have HB:uH (xl l lo hi=decide ((k:Int)<=3)):=zd (by
    rw[gU (by rw[HL.o];exact a0.out),HL.o];exact decide_eq_decide.2 jq)
   go_wp2;go_ret;exact⟨zT (by rw[HB.o]),rfl⟩
end Go.Proofs.YtfclolgfegdfjaaGreat
namespace Go.Proofs.YtfclolgfegdfjaaGreat
open Go.RowKit Go.Sort
variable {k i:Nat} {p:Pg}
theorem Q8 (hi:i<p.threads.length) (hk:k<(p.threads.getD i []).length) (h:zX p ((p.threads.getD i []).getD k qf)=false):zD p=false:=by
 have:p.threads.all (λt=>decide (t.length<=8)&&t.all (zX p))=false:=by
  rw[List.all_eq_false];have e:p.threads.getD i []=p.threads[i]:=by simp[List.getD,hi]
  rw[e] at hk h;refine⟨p.threads[i],List.getElem_mem hi,?_⟩;have e2:(p.threads[i]).getD k qf=(p.threads[i])[k]:=by simp[List.getD,hk]
  rw[e2] at h;have:(p.threads[i]).all (zX p)=false:=by
   rw[List.all_eq_false];exact⟨_,List.getElem_mem hk,by rw[h];simp⟩
  rw[this];simp
 unfold zD;rw[this];simp
theorem XR (hi:i<p.threads.length) (h:8<(p.threads.getD i []).length):zD p=false:=by
 have:p.threads.all (λt=>decide (t.length<=8)&&t.all (zX p))=false:=by
  rw[List.all_eq_false];have e:p.threads.getD i []=p.threads[i]:=by simp[List.getD,hi]
  rw[e] at h;exact⟨p.threads[i],List.getElem_mem hi,by rw[show decide ((p.threads[i]).length<=8)=false by simp;omega];simp⟩
 unfold zD;rw[this];simp
theorem VN (h1:xl p.sems 1 9=true) (h2:xl p.groups 0 9=true) (h3:xl p.barriers 1 6=true) (h4:xl p.rooms 0 4=true) (h5:1<=p.threads.length) (h6:p.threads.length<=4) 
  (h:∀i,i<p.threads.length->(p.threads.getD i []).length<=8/\∀k,k<(p.threads.getD i []).length->zX p ((p.threads.getD i []).getD k qf)=true):zD p=true:=by
 have:p.threads.all (λt=>decide (t.length<=8)&&t.all (zX p))=true:=by
  rw[List.all_eq_true];intro t ht;obtain⟨i,hi,rfl⟩:=List.getElem_of_mem ht;have e:p.threads.getD i []=p.threads[i]:=by simp[List.getD,hi]
  have:=h i hi;rw[e] at this;have h2:(p.threads[i]).all (zX p)=true:=by
   rw[List.all_eq_true];intro o ho;obtain⟨k,hk,rfl⟩:=List.getElem_of_mem ho;have e2:(p.threads[i]).getD k qf=(p.threads[i])[k]:=(by simp[List.getD,hk]);rw[<-e2];exact this.2 k hk
  rw[h2];simp[this.1]
 unfold zD;rw[h1,h2,h3,h4,this];simp;omega
theorem jX (v:PV) (p:Pg) (w:World) (hr:yK w v p) (hz:xH v p):
  Calls Tryz.prog 96 #[.agg #[.slice v.s v.ns v.cs,.slice v.g v.ng v.cg,.slice v.b v.nb v.cb,.slice v.r v.nr v.cr,.slice v.t v.nt v.ct]] w λe w'=>e= .returned (.bool (zD p))/\Below w.heap.size w w':=by
 have hs:v.ns<=maxLen/\v.ng<=maxLen/\v.nb<=maxLen/\v.nr<=maxLen:=by
  obtain⟨z1,z2,z3,z4,z5,z6⟩:=hz;unfold maxLen;omega
 have zz:uH (v.ns<=maxLen/\v.ng<=maxLen/\v.nb<=maxLen/\v.nr<=maxLen):=zd hs;have z5:v.nt<=1048576:=hz.lt;have Z6:=zd hz.inn;have ls:=zd hr.ls;have lg:=zd hr.lg;have lb:=zd hr.lb;have lr:=zd hr.lr;have lt:=zd hr.lt;clear hz;have b0:Below w.heap.size w (w.alloc (.cells #[.slice v.s v.ns v.cs,.slice v.g v.ng v.cg,.slice v.b v.nb v.cb,.slice v.r v.nr v.cr,.slice v.t v.nt v.ct] 26)):=zY;rcases Bool.eq_false_or_eq_true (xl p.sems 1 9) with h1|h1
 rotate_left
 ·have HB:uH (zD p=false):=zd (by unfold zD;rw[h1];simp);replace h1:=zd h1;go_enter Tryz.func96,Tryz.ntmps96;go_wp2_with fail;refine(yR v.s v.ns v.cs p.sems 1 9 _ ls.out (by have:=zz.out;omega) (hr.rs.below b0)).mono ?_;rintro e w1 ⟨rfl,rfl⟩;rw[h1.out];go_wp2;go_ret;exact⟨zT (by rw[HB.o]),b0⟩
 replace h1:=zd h1;rcases Bool.eq_false_or_eq_true (xl p.groups 0 9) with h2|h2
 rotate_left
 ·have HB:uH (zD p=false):=zd (by unfold zD;rw[h2];simp);replace h2:=zd h2;go_enter Tryz.func96,Tryz.ntmps96;go_wp2_with fail;refine(yR v.s v.ns v.cs p.sems 1 9 _ ls.out (by have:=zz.out;omega) (hr.rs.below b0)).mono ?_;rintro e w1 ⟨rfl,rfl⟩;rw[h1.out];go_wp2_with fail;refine(yR v.g v.ng v.cg p.groups 0 9 _ lg.out (by have:=zz.out;omega) (hr.rg.below b0)).mono ?_;rintro e w2 ⟨rfl,rfl⟩;rw[h2.out];go_wp2;go_ret;exact⟨zT (by rw[HB.o]),b0⟩
 replace h2:=zd h2;rcases Bool.eq_false_or_eq_true (xl p.barriers 1 6) with h3|h3
 rotate_left
 ·have HB:uH (zD p=false):=zd (by unfold zD;rw[h3];simp);replace h3:=zd h3;go_enter Tryz.func96,Tryz.ntmps96;go_wp2_with fail;refine(yR v.s v.ns v.cs p.sems 1 9 _ ls.out (by have:=zz.out;omega) (hr.rs.below b0)).mono ?_;rintro e w1 ⟨rfl,rfl⟩;rw[h1.out];go_wp2_with fail;refine(yR v.g v.ng v.cg p.groups 0 9 _ lg.out (by have:=zz.out;omega) (hr.rg.below b0)).mono ?_;rintro e w2 ⟨rfl,rfl⟩;rw[h2.out];go_wp2_with fail;refine(yR v.b v.nb v.cb p.barriers 1 6 _ lb.out (by have:=zz.out;omega) (hr.rb.below b0)).mono ?_;rintro e w3 ⟨rfl,rfl⟩;rw[h3.out];go_wp2;go_ret;exact⟨zT (by rw[HB.o]),b0⟩
 replace h3:=zd h3;rcases Bool.eq_false_or_eq_true (xl p.rooms 0 4) with h4|h4
 rotate_left
 ·have HB:uH (zD p=false):=zd (by unfold zD;rw[h4];simp);replace h4:=zd h4;go_enter Tryz.func96,Tryz.ntmps96;go_wp2_with fail;refine(yR v.s v.ns v.cs p.sems 1 9 _ ls.out (by have:=zz.out;omega) (hr.rs.below b0)).mono ?_;rintro e w1 ⟨rfl,rfl⟩;rw[h1.out];go_wp2_with fail;refine(yR v.g v.ng v.cg p.groups 0 9 _ lg.out (by have:=zz.out;omega) (hr.rg.below b0)).mono ?_;rintro e w2 ⟨rfl,rfl⟩;rw[h2.out];go_wp2_with fail;refine(yR v.b v.nb v.cb p.barriers 1 6 _ lb.out (by have:=zz.out;omega) (hr.rb.below b0)).mono ?_;rintro e w3 ⟨rfl,rfl⟩;rw[h3.out];go_wp2_with fail;refine(yR v.r v.nr v.cr p.rooms 0 4 _ lr.out (by have:=zz.out;omega) (hr.rr.below b0)).mono ?_;rintro e w4 ⟨rfl,rfl⟩;rw[h4.out];go_wp2;go_ret;exact⟨zT (by rw[HB.o]),b0⟩
 replace h4:=zd h4;by_cases h5:v.nt<1
 ·have HB:uH (zD p=false):=zd (by
   have:=lt.out;unfold zD;rw[show decide (1<=p.threads.length)=false from decide_eq_false (by omega)];simp)
  have t5:decide ((v.nt:Int)<1)=true:=by simp;omega
  go_enter Tryz.func96,Tryz.ntmps96;go_wp2_with fail;refine(yR v.s v.ns v.cs p.sems 1 9 _ ls.out (by have:=zz.out;omega) (hr.rs.below b0)).mono ?_;rintro e w1 ⟨rfl,rfl⟩;rw[h1.out];go_wp2_with fail;refine(yR v.g v.ng v.cg p.groups 0 9 _ lg.out (by have:=zz.out;omega) (hr.rg.below b0)).mono ?_;rintro e w2 ⟨rfl,rfl⟩;rw[h2.out];go_wp2_with fail;refine(yR v.b v.nb v.cb p.barriers 1 6 _ lb.out (by have:=zz.out;omega) (hr.rb.below b0)).mono ?_;rintro e w3 ⟨rfl,rfl⟩;rw[h3.out];go_wp2_with fail;refine(yR v.r v.nr v.cr p.rooms 0 4 _ lr.out (by have:=zz.out;omega) (hr.rr.below b0)).mono ?_;rintro e w4 ⟨rfl,rfl⟩;rw[h4.out];go_wp2;go_ret;exact⟨zT (by rw[HB.o]),b0⟩
 have t5:decide ((v.nt:Int)<1)=false:=by simp;omega
 by_cases h6:4<v.nt
 ·have HB:uH (zD p=false):=zd (by
   have:=lt.out;unfold zD;rw[show decide (p.threads.length<=4)=false from decide_eq_false (by omega)];simp)
  have t6:decide ((4:Int)<v.nt)=true:=by simp;omega
  go_enter Tryz.func96,Tryz.ntmps96;go_wp2_with fail;refine(yR v.s v.ns v.cs p.sems 1 9 _ ls.out (by have:=zz.out;omega) (hr.rs.below b0)).mono ?_;rintro e w1 ⟨rfl,rfl⟩;rw[h1.out];go_wp2_with fail;refine(yR v.g v.ng v.cg p.groups 0 9 _ lg.out (by have:=zz.out;omega) (hr.rg.below b0)).mono ?_;rintro e w2 ⟨rfl,rfl⟩;rw[h2.out];go_wp2_with fail;refine(yR v.b v.nb v.cb p.barriers 1 6 _ lb.out (by have:=zz.out;omega) (hr.rb.below b0)).mono ?_;rintro e w3 ⟨rfl,rfl⟩;rw[h3.out];go_wp2_with fail;refine(yR v.r v.nr v.cr p.rooms 0 4 _ lr.out (by have:=zz.out;omega) (hr.rr.below b0)).mono ?_;rintro e w4 ⟨rfl,rfl⟩;rw[h4.out];go_wp2;go_ret;exact⟨zT (by rw[HB.o]),b0⟩
 have t6:decide ((4:Int)<v.nt)=false:=by simp;omega
 obtain⟨vs,hT⟩:=hr.rt;have kP:zm (w.alloc (.cells #[.slice v.s v.ns v.cs,.slice v.g v.ng v.cg,.slice v.b v.nb v.cb,.slice v.r v.nr v.cr,.slice v.t v.nt v.ct] 26)) w.heap.size #[.slice v.s v.ns v.cs,.slice v.g v.ng v.cg,.slice v.b v.nb v.cb,.slice v.r v.nr v.cr,.slice v.t v.nt v.ct] 26:=zm.new _ _ _;go_enter Tryz.func96,Tryz.ntmps96;go_wp2_with fail;refine(yR v.s v.ns v.cs p.sems 1 9 _ ls.out (by have:=zz.out;omega) (hr.rs.below b0)).mono ?_;rintro e w1 ⟨rfl,rfl⟩;rw[h1.out];go_wp2_with fail;refine(yR v.g v.ng v.cg p.groups 0 9 _ lg.out (by have:=zz.out;omega) (hr.rg.below b0)).mono ?_;rintro e w2 ⟨rfl,rfl⟩;rw[h2.out];go_wp2_with fail;refine(yR v.b v.nb v.cb p.barriers 1 6 _ lb.out (by have:=zz.out;omega) (hr.rb.below b0)).mono ?_;rintro e w3 ⟨rfl,rfl⟩;rw[h3.out];go_wp2_with fail;refine(yR v.r v.nr v.cr p.rooms 0 4 _ lr.out (by have:=zz.out;omega) (hr.rr.below b0)).mono ?_;rintro e w4 ⟨rfl,rfl⟩;rw[h4.out];go_wp2;obtain⟨W,hW⟩:∃W:World,W=(w.alloc (.cells #[.slice v.s v.ns v.cs,.slice v.g v.ng v.cg,.slice v.b v.nb v.cb,.slice v.r v.nr v.cr,.slice v.t v.nt v.ct] 26)):=⟨_,rfl⟩
 have v0:w.heap.size<W.heap.size:=by rw[hW];simp
 rw[<-hW] at kP b0⊢;clear hW
 go_loopw [3] (λi wr=>∃i':Nat,i'<=v.nt/\i= .int .i64 i'/\uH (∀j,j<i'->(p.threads.getD j []).length<=8/\∀k,k<(p.threads.getD j []).length->zX p ((p.threads.getD j []).getD k qf)=true)/\Below W.heap.size W wr) (λi _=>v.nt-(intOf i).toNat)
 case atStart=>exact⟨0,by omega,rfl,zd (by omega),Below.refl _ _⟩
 case round=>
  obtain⟨i,hi,rfl,f0,g0⟩:=hrel;have k1:=kP.below g0;have c0:=k1.cell 0 rfl;have c1:=k1.cell 1 rfl;have c2:=k1.cell 2 rfl;have c3:=k1.cell 3 rfl;have c4:=k1.cell 4 rfl;have B0:Below w.heap.size w wr:=b0.trans (g0.mono (Nat.le_of_lt v0));by_cases E0:i<v.nt
  ·obtain⟨wo,t0⟩:∃wo:World,wo=wr:=⟨_,rfl⟩
   rw[<-t0] at g0 k1 c0 c1 c2 c3 c4 B0⊢;clear t0 wr;obtain⟨b1,o1,ea,q0⟩:=(hT.below B0).thread (by have:=lt.out;omega);obtain⟨a2,x2,g1,r2⟩:=q0 i (by have:=lt.out;omega);obtain⟨m,hm⟩:∃m,m=(p.threads.getD i []).length:=⟨_,rfl⟩
   rw[<-hm] at g1;have u0:=Z6.o i;rw[<-hm] at u0;have HM:=zd hm;rw[ea] at c4;have o0:uH (∀w',yK w' v p->yK w' ⟨v.s,v.ns,v.cs,v.g,v.ng,v.cg,v.b,v.nb,v.cb,v.r,v.nr,v.cr,some ⟨b1,o1,none⟩,v.nt,v.ct⟩ p):=zd (by rw[<-ea];exact λ_ h=>h);clear q0 hm ea;go_wp2
   go_loopw [4] (λj wk=>∃k:Nat,k<=m/\k<=9/\j= .int .i64 k/\uH (∀j,j<k->zX p ((p.threads.getD i []).getD j qf)=true)/\Below wo.heap.size wo wk) (λj _=>m-(intOf j).toNat)
   case atStart=>exact⟨0,by omega,by omega,rfl,zd (by omega),Below.refl _ _⟩
   case round=>
    obtain⟨k,hk,C0,rfl,s0,a0⟩:=hrel;have d0:=ze a0 c0;have d1:=ze a0 c1;have d2:=ze a0 c2;have d3:=ze a0 c3;have d4:=ze a0 c4;have f1:=ze a0 g1;have B1:Below w.heap.size w wr:=B0.trans (a0.mono B0.size);have BW:Below W.heap.size W wr:=g0.trans (a0.mono g0.size);by_cases D0:k<m
    ·by_cases A0:k<=8
     ·obtain⟨b2,o2,p0,r0⟩:=r2.op (by have:=HM.o;omega);obtain⟨i0,j0,k0⟩:=r0 k (by have:=HM.o;omega);obtain⟨o,ho⟩:∃o,o=(p.threads.getD i []).getD k qf:=⟨_,rfl⟩
      rw[<-ho] at i0 j0 k0;replace i0:=ze a0 i0;replace j0:=ze a0 j0;replace k0:=ze a0 k0;have HO:=zd ho;rw[p0] at f1;clear r0 ho p0;have G0:=cell_regrown d0;have H0:=cell_regrown d1;have I0:=cell_regrown d2;have J0:=cell_regrown d3;have K0:=cell_regrown d4;have L0:=cell_regrown f1;have x0:=cell_regrown i0;have y0:=cell_regrown j0;have z0:=cell_regrown k0;have e8:decide ((k:Int)<=8)=true:=by simp;omega
      rcases Bool.eq_false_or_eq_true (zX p o) with hv|hv
      ·have HV:=zd hv;have cV:uH (∀d os,Calls Tryz.prog 127 #[.agg #[.slice v.s v.ns v.cs,.slice v.g v.ng v.cg,.slice v.b v.nb v.cb,.slice v.r v.nr v.cr,.slice (some ⟨b1,o1,none⟩) v.nt v.ct],.agg #[.int .i64 o.kind,.int .i64 o.on,.int .i64 o.arg]] (grow (redrawn wr d) os) λe n0=>e= .returned (.bool true)/\∃p:Regrown,n0=grow (redrawn wr p.d) p.os):=zd (λd os=>Calls.regrown_of (by
        have:=qu ⟨v.s,v.ns,v.cs,v.g,v.ng,v.cg,v.b,v.nb,v.cb,v.r,v.nr,v.cr,some ⟨b1,o1,none⟩,v.nt,v.ct⟩ p o (grow (redrawn wr d) os) (o0.out _ ((hr.below B1).below (below_regrown wr d os))) zz.out;rw[hv] at this;exact this))
       clear hv;go_wp2;refine wp_region_quiet_below (by kernel_rfl) (by kernel_rfl) ?_
       repeat (go_big_quiet_step (exact cV.out _ _))
       refine wpQuiet_nil ?_;intro w6 h0;have l0:Below wr.heap.size wr w6:=by
        obtain⟨pq,rfl⟩:=h0;exact below_regrown _ _ _
       clear h0;go_wp2
       go_roundw
       case rel=>exact⟨k+1,by omega,by omega,by go_num,zd (λj hj=>by
        rcases Nat.lt_or_ge j k with h|h
        ·exact s0.out j h
        ·have:j=k:=(by omega);subst this;rw[<-HO.o];exact HV.o),a0.trans (l0.mono a0.size)⟩
       case measure=>simp[intOf];omega
      ·have HV:=zd hv;have cV:uH (∀d os,Calls Tryz.prog 127 #[.agg #[.slice v.s v.ns v.cs,.slice v.g v.ng v.cg,.slice v.b v.nb v.cb,.slice v.r v.nr v.cr,.slice (some ⟨b1,o1,none⟩) v.nt v.ct],.agg #[.int .i64 o.kind,.int .i64 o.on,.int .i64 o.arg]] (grow (redrawn wr d) os) λe n0=>e= .returned (.bool false)/\∃p:Regrown,n0=grow (redrawn wr p.d) p.os):=zd (λd os=>Calls.regrown_of (by
        have:=qu ⟨v.s,v.ns,v.cs,v.g,v.ng,v.cg,v.b,v.nb,v.cb,v.r,v.nr,v.cr,some ⟨b1,o1,none⟩,v.nt,v.ct⟩ p o (grow (redrawn wr d) os) (o0.out _ ((hr.below B1).below (below_regrown wr d os))) zz.out;rw[hv] at this;exact this))
       clear hv;have HB:uH (zD p=false):=zd (Q8 (i:=i) (k:=k) (by have:=lt.out;omega) (by have:=HM.o;omega) (by rw[<-HO.o];exact HV.o));go_wp2;refine wp_region_quiet_below (by kernel_rfl) (by kernel_rfl) ?_
       repeat (go_big_quiet_step (exact cV.out _ _))
       refine wpQuiet_nil ?_;intro w6 h0;have l0:Below wr.heap.size wr w6:=by
        obtain⟨pq,rfl⟩:=h0;exact below_regrown _ _ _
       clear h0;go_wp2;go_ret;exact⟨zT (by rw[HB.o]),B1.trans (l0.mono B1.size)⟩
     ·have e8:decide ((k:Int)<=8)=false:=by simp;omega
      have e9:decide ((8:Int)<m)=true:=by simp;omega
      have HB:uH (zD p=false):=zd (XR (i:=i) (by have:=lt.out;omega) (by have:=HM.o;omega));go_wp2;go_ret;exact⟨zT (by rw[HB.o]),B1⟩
    ·have m0:k=m:=(by omega);subst m0;by_cases F0:8<k
     ·have e9:decide ((8:Int)<k)=true:=by simp;omega
      have HB:uH (zD p=false):=zd (XR (i:=i) (by have:=lt.out;omega) (by have:=HM.o;omega));go_wp2;go_ret;exact⟨zT (by rw[HB.o]),B1⟩
     ·have e9:decide ((8:Int)<k)=false:=by simp;omega
      go_wp2
      go_roundw
      case rel=>exact⟨i+1,by omega,by go_num,zd (λj hj=>by
       rcases Nat.lt_or_ge j i with h|h
       ·exact f0.out j h
       ·have:j=i:=(by omega);subst this;exact⟨by rw[<-HM.o];omega,by rw[<-HM.o];exact s0.out⟩),BW⟩
      case measure=>simp[intOf];omega
  ·have m0:i=v.nt:=(by omega);subst m0;have HB:uH (zD p=true):=zd (VN h1.out h2.out h3.out h4.out (by have:=lt.out;omega) (by have:=lt.out;omega) (by rw[lt.out];exact f0.out));go_wp2;go_ret;exact⟨zT (by rw[HB.o]),B0⟩
end Go.Proofs.YtfclolgfegdfjaaGreat
namespace Go.Proofs.YtfclolgfegdfjaaGreat
open Go.RowKit
theorem Yx (n:Int) (w:World):
  Calls Tryz.prog 90 #[uy n] w λe w'=>e= .returned (.bool (vS n))/\w'=w:=by
 by_cases h:0<=n
 ·have h':vS n=decide (n<=99):=by simp[vS,h]
  rw[h'];go_enter Tryz.func90,Tryz.ntmps90;go_wp2;go_ret;exact⟨rfl,rfl⟩
 ·have h':vS n=false:=by simp[vS,h]
  have hd:decide (0<=n)=false:=by simpa using h
  rw[h'];go_enter Tryz.func90,Tryz.ntmps90;go_wp2;go_ret;exact⟨rfl,rfl⟩
theorem DG {l:List Int} {q:Int->Bool} (k:Nat) (hk:k<l.length) (h:q (l.getD k 0)=true):l.any q=true:=by
 rw[List.any_eq_true];exact⟨l[k],List.getElem_mem hk,by simpa[List.getD,hk] using h⟩
theorem Dl {l:List Int} {q:Int->Bool} (h:∀k,k<l.length->q (l.getD k 0)=false):l.any q=false:=by
 rw[List.any_eq_false];intro x hx;obtain⟨k,hk,rfl⟩:=List.getElem_of_mem hx;have:=h k hk;simpa[List.getD,hk] using this
theorem hY (g:Nat) (lb:Array Value) (q:Int->Bool) (a:uQ) (n c:Nat) (l:List Int) (w:World) (eg:∀args w,(callFunc g args).run Tryz.prog w= .ok (.enter g args) w)
  (hl:l.length=n) (hn:n<=maxLen) (hr:Rd w a (zf l)) (hp:∀x,Calls Tryz.prog g (#[uy x]++lb) w λe w'=>e= .returned (.bool (q x))/\w'=w):
  Calls Tryz.prog 48 #[.slice a n c,.func (.func g) #[] lb] w λe w'=>∃r:Int,e= .returned (uy r)/\decide (0<=r)=l.any q/\w'=w:=by
 unfold maxLen at hn;have HL:=zd hl;clear hl;go_enter Tryz.func48,Tryz.ntmps48;go_wp2
 go_loopw [8] (λi wr=>∃k:Nat,k<=n/\i=uy k/\uH (∀j,j<k->q (l.getD j 0)=false)/\wr=w) (λi _=>n-(intOf i).toNat)
 case atStart=>exact⟨0,jq,rfl,zd jq,rfl⟩
 case round=>
  obtain⟨k,hk,rfl,a0,rfl⟩:=hrel;by_cases c0:k<n
  ·obtain⟨b,o,rfl,hc⟩:=hr.int (jQ HL.o);have g1:=hc k (jQ HL.o);obtain⟨x,hx⟩:=jy (l.getD k 0);rw[<-hx] at g1;have HX:=zd hx;clear hc hx;rcases Bool.eq_false_or_eq_true (q x) with hq|hq
   ·have HQ:=zd hq;clear hq;go_wp2_with (go_at_fn g;refine(hp x).mono ?_;rintro e w' ⟨rfl,rfl⟩;rw[HQ.o]);go_ret;exact⟨k,rfl,by rw[DG (q:=q) k (jQ HL.o) (by rw[<-HX.o];exact HQ.o)];simp,rfl⟩
   ·have HQ:=zd hq;clear hq;go_wp2_with (go_at_fn g;refine(hp x).mono ?_;rintro e w' ⟨rfl,rfl⟩;rw[HQ.o])
    go_roundw
    case rel=>exact⟨k+1,jq,by go_num,zd (λj hj=>by
     rcases Nat.lt_or_ge j k with h|h
     ·exact a0.out j h
     ·have:j=k:=jq;subst this;rw[<-HX.o];exact HQ.o),trivial⟩
    case measure=>exact uq
  ·have b0:k=n:=jq;subst b0;go_wp2;go_ret;exact⟨-1,rfl,by rw[Dl (q:=q) (by rw[HL.o];exact a0.out)];simp,rfl⟩
theorem Kw (g:Nat) (lb:Array Value) (q:Int->Bool) (a:uQ) (n c:Nat) (l:List Int) (w:World) (eg:∀args w,(callFunc g args).run Tryz.prog w= .ok (.enter g args) w)
  (hl:l.length=n) (hn:n<=maxLen) (hr:Rd w a (zf l)) (hp:∀x,Calls Tryz.prog g (#[uy x]++lb) w λe w'=>e= .returned (.bool (q x))/\w'=w):
  Calls Tryz.prog 81 #[.slice a n c,.func (.func g) #[] lb] w λe w'=>e= .returned (.bool (l.any q))/\w'=w:=by
 go_enter Tryz.func81,Tryz.ntmps81;go_wp2_with fail;refine(hY g lb q a n c l w eg hl hn hr hp).mono ?_;rintro e w1 ⟨r,rfl,hd,rfl⟩;have HD:=zd hd;clear hd;go_wp2;go_ret;exact⟨zT HD.o,rfl⟩
theorem gh (x lo hi:Int) (b1 b2:Nat) (w:World) (h1:w.cell? ⟨b1,0,none⟩=some (uy lo)) (h2:w.cell? ⟨b2,0,none⟩=some (uy hi)):
  Calls Tryz.prog 151 (#[uy x]++ #[.pointer (some ⟨b1,0,none⟩),.pointer (some ⟨b2,0,none⟩)]) w λe w'=>e= .returned (.bool (!(decide (lo<=x)&&decide (x<=hi))))/\w'=w:=by
 by_cases h:x<lo
 ·have hd:decide (x<lo)=true:=by simpa using h
  have HR:uH ((!(decide (lo<=x)&&decide (x<=hi)))=true):=zd (by rw[xr (by omega:¬lo<=x)];rfl);go_enter Tryz.func151,Tryz.ntmps151;go_wp2;go_ret;exact⟨zT (by rw[HR.o]),rfl⟩
 ·have hd:decide (x<lo)=false:=by simpa using h
  have HR:uH ((!(decide (lo<=x)&&decide (x<=hi)))=decide (hi<x)):=zd (by
   rw[xK (by omega:lo<=x),Bool.true_and];by_cases hx:x<=hi
   ·rw[xK hx,xr (by omega:¬hi<x)];rfl
   ·rw[xr hx,xK (by omega:hi<x)];rfl)
  have a0:decide (lo<=x)=true:=xK jq;go_enter Tryz.func151,Tryz.ntmps151;go_wp2;go_ret;exact⟨zT (by rw[<-HR.o,a0];rfl),rfl⟩
theorem gH {l:List Int} (q:Int->Bool):l.any (λx=> !(q x))= !(l.all q):=by
 induction l with
 |nil=>rfl
 |cons a t ih=>simp[ih]
theorem yJ (a:uQ) (n c:Nat) (l:List Int) (lo hi:Int) (w:World) (hl:l.length=n) (hn:n<=maxLen) (hr:Rd w a (zf l)):
  Calls Tryz.prog 121 #[.slice a n c,uy lo,uy hi] w λe w'=>e= .returned (.bool (xl l lo hi))/\xW w w':=by
 have a0:∀(fn:Fn) (first cap:Array Value) (w:World),(Instr.makeFunc fn first cap).run Tryz.prog w= .ok (.func fn first cap) w:=λ_ _ _ _=>rfl;have b0:xW w ((w.alloc (.cells #[uy lo] 3)).alloc (.cells #[uy hi] 3)):=(zY).alloc jv _;have k1:zm ((w.alloc (.cells #[uy lo] 3)).alloc (.cells #[uy hi] 3)) w.heap.size #[uy lo] 3:=(zm.new _ _ _).alloc _;have k2:zm ((w.alloc (.cells #[uy lo] 3)).alloc (.cells #[uy hi] 3)) (w.heap.size+1) #[uy hi] 3:=by simpa using zm.new (w.alloc (.cells #[uy lo] 3)) #[uy hi] 3
 by_cases h3:n<=3
 ·have hd:decide ((n:Int)<=3)=true:=by simp;omega
  have HR:uH (xl l lo hi=l.all (λx=>decide (lo<=x)&&decide (x<=hi))):=zd (by unfold xl;rw[hl,show decide (n<=3)=true by simpa using h3];simp);go_enter Tryz.func121,Tryz.ntmps121;go_wp2_with fail;refine(Kw 151 #[.pointer (some ⟨w.heap.size,0,none⟩),.pointer (some ⟨w.heap.size+1,0,none⟩)] (λx=> !(decide (lo<=x)&&decide (x<=hi))) a n c l _ (enters_of Tryz.func151 (by kernel_rfl) rfl) hl hn (hr.below b0) (λx=>gh x lo hi _ _ _ (k1.cell 0 rfl) (k2.cell 0 rfl))).mono ?_;rintro e w1 ⟨rfl,rfl⟩;rw[gH];go_wp2;go_ret;exact⟨zT (by rw[HR.o]),b0⟩
 ·have hd:decide ((n:Int)<=3)=false:=by simp;omega
  have HR:uH (xl l lo hi=false):=zd (V7 jq);go_enter Tryz.func121,Tryz.ntmps121;go_wp2_with fail;go_ret;exact⟨zT (by rw[HR.o]),b0⟩
end Go.Proofs.YtfclolgfegdfjaaGreat
namespace Go.Proofs.YtfclolgfegdfjaaGreat
open Go.RowKit Go.Sort
variable {p:Pg}
theorem j8 (a:uQ) (n c:Nat) (on:Int) (b:Nat) (w:World) (_hn:n<=maxLen) (h1:w.cell? ⟨b,1,none⟩=some (uy on)):
  Calls Tryz.prog 152 #[.slice a n c,.pointer (some ⟨b,0,none⟩)] w λe w'=>e= .returned (.bool (decide (0<=on)&&decide (on<n)))/\w'=w:=by
 unfold maxLen at _hn;by_cases h:0<=on
 ·have hd:decide (0<=on)=true:=xK h;rw[hd,Bool.true_and];go_enter Tryz.func152,Tryz.ntmps152;go_wp2;go_ret;exact⟨rfl,rfl⟩
 ·have hd:decide (0<=on)=false:=xr h;rw[hd,Bool.false_and];go_enter Tryz.func152,Tryz.ntmps152;go_wp2;go_ret;exact⟨rfl,rfl⟩
theorem fH {o:xA} (h:¬(1<=o.kind/\o.kind<=10)):zX p o=false:=by
 unfold zX;rw[<-Bool.decide_and,xr h];simp
theorem qx {o:xA} (h:¬(0<=o.on/\o.on<zN p o.kind)):zX p o=false:=by
 unfold zX;by_cases h0:0<=o.on
 ·rw[xr (λh1:o.on<zN p o.kind=>h ⟨h0,h1⟩)];simp
 ·rw[xr h0];simp
theorem vw {o:xA} (hk:1<=o.kind/\o.kind<=10) (h:0<=o.on/\o.on<zN p o.kind):zX p o=j5 p o:=by
 unfold zX;rw[xK hk.1,xK hk.2,xK h.1,xK h.2];simp
theorem Qa (v:PV) (p:Pg) (o:xA) (w:World) (hr:yK w v p) (hs:v.ns<=maxLen/\v.ng<=maxLen/\v.nb<=maxLen/\v.nr<=maxLen):
  Calls Tryz.prog 122 #[.agg #[.slice v.s v.ns v.cs,.slice v.g v.ng v.cg,.slice v.b v.nb v.cb,.slice v.r v.nr v.cr,.slice v.t v.nt v.ct],.agg #[.int .i64 o.kind,.int .i64 o.on,.int .i64 o.arg]] w λe w'=>e= .returned (.bool (zX p o))/\Below w.heap.size w w':=by
 have n0:∀(fn:Fn) (first cap:Array Value) (w:World),(Instr.makeFunc fn first cap).run Tryz.prog w= .ok (.func fn first cap) w:=λ_ _ _ _=>rfl;have kP:zm ((w.alloc (.cells #[.slice v.s v.ns v.cs,.slice v.g v.ng v.cg,.slice v.b v.nb v.cb,.slice v.r v.nr v.cr,.slice v.t v.nt v.ct] 26)).alloc (.cells #[.int .i64 o.kind,.int .i64 o.on,.int .i64 o.arg] 68)) w.heap.size #[.slice v.s v.ns v.cs,.slice v.g v.ng v.cg,.slice v.b v.nb v.cb,.slice v.r v.nr v.cr,.slice v.t v.nt v.ct] 26:=(zm.new _ _ _).alloc _;have kO:zm ((w.alloc (.cells #[.slice v.s v.ns v.cs,.slice v.g v.ng v.cg,.slice v.b v.nb v.cb,.slice v.r v.nr v.cr,.slice v.t v.nt v.ct] 26)).alloc (.cells #[.int .i64 o.kind,.int .i64 o.on,.int .i64 o.arg] 68)) (w.heap.size+1) #[.int .i64 o.kind,.int .i64 o.on,.int .i64 o.arg] 68:=by simpa using zm.new (w.alloc (.cells #[.slice v.s v.ns v.cs,.slice v.g v.ng v.cg,.slice v.b v.nb v.cb,.slice v.r v.nr v.cr,.slice v.t v.nt v.ct] 26)) #[.int .i64 o.kind,.int .i64 o.on,.int .i64 o.arg] 68
 have b0:Below w.heap.size w ((w.alloc (.cells #[.slice v.s v.ns v.cs,.slice v.g v.ng v.cg,.slice v.b v.nb v.cb,.slice v.r v.nr v.cr,.slice v.t v.nt v.ct] 26)).alloc (.cells #[.int .i64 o.kind,.int .i64 o.on,.int .i64 o.arg] 68)):=(zY).alloc (by simp) _;have k0:((w.alloc (.cells #[.slice v.s v.ns v.cs,.slice v.g v.ng v.cg,.slice v.b v.nb v.cb,.slice v.r v.nr v.cr,.slice v.t v.nt v.ct] 26)).alloc (.cells #[.int .i64 o.kind,.int .i64 o.on,.int .i64 o.arg] 68)).cell? ⟨w.heap.size+1,1,none⟩=some (.int .i64 o.on):=kO.cell 1 rfl;have ls:=zd hr.ls;have lg:=zd hr.lg;have lb:=zd hr.lb;have lr:=zd hr.lr;obtain⟨zs,zg,zb,zr⟩:=hs;obtain⟨kd,on,ar⟩:=o;simp only at k0 b0 kP kO;by_cases hk:1<=kd/\kd<=10
 rotate_left
 ·have HB:uH (zX p ⟨kd,on,ar⟩=false):=zd (fH hk);have e1:(kd==1)=false:=by simp;omega
  have e2:(kd==2)=false:=by simp;omega
  have e3:(kd==3)=false:=by simp;omega
  have e4:(kd==4)=false:=by simp;omega
  have e5:(kd==5)=false:=by simp;omega
  have e6:(kd==6)=false:=by simp;omega
  have e7:(kd==7)=false:=by simp;omega
  have e8:(kd==8)=false:=by simp;omega
  have e9:(kd==9)=false:=by simp;omega
  have m0:(kd==10)=false:=by simp;omega
  clear kP kO k0;go_enter Tryz.func122,Tryz.ntmps122;go_wp2_with fail;go_ret;exact⟨zT (by rw[HB.o]),b0⟩
 have j0:kd=1\/kd=2\/kd=3\/kd=4\/kd=5\/kd=6\/kd=7\/kd=8\/kd=9\/kd=10:=by omega
 clear hk;rcases j0 with rfl|rfl|rfl|rfl|rfl|rfl|rfl|rfl|rfl|rfl
 --kind 1
 ·by_cases h:on=0
  ·subst h;have HB:uH (zX p ⟨1,0,ar⟩=vS ar):=zd (vw (by show(1:Int)<=1/\(1:Int)<=10;decide) (by show(0:Int)<=0/\(0:Int)<((1:Nat):Int);decide));clear kP kO k0;go_enter Tryz.func122,Tryz.ntmps122;go_wp2_with fail;refine(Yx ar _).mono ?_;rintro e w1 ⟨rfl,rfl⟩;go_wp2;go_ret;exact⟨zT (by rw[HB.o]),b0⟩
  ·have HB:uH (zX p ⟨1,on,ar⟩=false):=zd (qx (by show¬(0<=on/\on<((1:Nat):Int));omega));have e0:(on==0)=false:=(by simpa using h);clear kP kO k0;go_enter Tryz.func122,Tryz.ntmps122;go_wp2_with fail;go_ret;exact⟨zT (by rw[HB.o]),b0⟩
 --kind 2
 ·by_cases h:0<=on/\on<v.ns
  ·have HC:uH ((decide (0<=on)&&decide (on<v.ns))=true):=zd (by rw[decide_eq_true h.1,decide_eq_true h.2];rfl);have HO:uH (zX p ⟨2,on,ar⟩=j5 p ⟨2,on,ar⟩):=zd (vw (by show(1:Int)<=2/\(2:Int)<=10;decide) (by show 0<=on/\on<(zN p 2:Int);rw[show zN p 2=v.ns from ls.out];exact h));obtain⟨W0,d0⟩:∃W0:World,W0=((w.alloc (.cells #[.slice v.s v.ns v.cs,.slice v.g v.ng v.cg,.slice v.b v.nb v.cb,.slice v.r v.nr v.cr,.slice v.t v.nt v.ct] 26)).alloc (.cells #[.int .i64 2,.int .i64 on,.int .i64 ar] 68)):=⟨_,rfl⟩
   rw[<-d0] at kP kO b0 k0;have f0:=zd d0;clear d0;have c1:W0.cell? ⟨w.heap.size,0,none⟩=some (.slice v.s v.ns v.cs):=kP.cell 0 rfl;have c6:W0.cell? ⟨w.heap.size+1,0,none⟩=some (.int .i64 2):=kO.cell 0 rfl;have c8:W0.cell? ⟨w.heap.size+1,2,none⟩=some (.int .i64 ar):=kO.cell 2 rfl;have k1:=cell_regrown c1;have k6:=cell_regrown c6;have k7:=cell_regrown k0;have k8:=cell_regrown c8;clear kP kO;have cF:uH (∀d os,Calls Tryz.prog 152 #[.slice v.s v.ns v.cs,.pointer (some ⟨w.heap.size+1,0,none⟩)] (grow (redrawn W0 d) os) λe h0=>e= .returned (.bool true)/\∃p:Regrown,h0=grow (redrawn W0 p.d) p.os):=zd (λd os=>Zi (by
    have:=j8 v.s v.ns v.cs on (w.heap.size+1) (grow (redrawn W0 d) os) zs (k7 d os);rw[HC.o] at this;exact this))
   obtain⟨b,q,i0,hc⟩:=hr.rs.int (by rw[hr.ls];omega);have a0:=hc on.toNat (by rw[hr.ls];omega)
   obtain⟨x,hx⟩:∃x,x=p.sems.getD on.toNat 0:=⟨_,rfl⟩
   rw[<-hx] at a0;have HA:uH (j5 p ⟨2,on,ar⟩=(decide (1<=ar)&&decide (ar<=x))):=zd (by rw[hx];rfl);obtain⟨l0,on1⟩:=h;have k9:=cell_regrown (ze b0 a0);rw[i0] at k1 cF f0;clear k0 hc hx hr ls lg lb lr a0;by_cases h1:1<=ar
   ·have d1:decide (1<=ar)=true:=decide_eq_true h1;go_enter Tryz.func122,Tryz.ntmps122;go_wp2_with fail;rw[<-f0.out];refine wp_region_quiet_below (by kernel_rfl) (by kernel_rfl) ?_
    repeat (go_big_quiet_step (exact cF.out _ _))
    refine wpQuiet_nil ?_;intro w6 c0;have g0:Below W0.heap.size W0 w6:=by
     obtain⟨pq,rfl⟩:=c0;exact below_regrown _ _ _
    clear c0;go_wp2;go_ret;exact⟨zT (by rw[HO.o,HA.o,d1];rfl),b0.trans (g0.mono b0.size)⟩
   ·have d1:decide (1<=ar)=false:=decide_eq_false h1;go_enter Tryz.func122,Tryz.ntmps122;go_wp2_with fail;rw[<-f0.out];refine wp_region_quiet_below (by kernel_rfl) (by kernel_rfl) ?_
    repeat (go_big_quiet_step (exact cF.out _ _))
    refine wpQuiet_nil ?_;intro w6 c0;have g0:Below W0.heap.size W0 w6:=by
     obtain⟨pq,rfl⟩:=c0;exact below_regrown _ _ _
    clear c0;go_wp2;go_ret;exact⟨zT (by rw[HO.o,HA.o,d1];rfl),b0.trans (g0.mono b0.size)⟩
  ·have HC:uH ((decide (0<=on)&&decide (on<v.ns))=false):=zd (by rw[<-Bool.decide_and];exact decide_eq_false h);have HB:uH (zX p ⟨2,on,ar⟩=false):=zd (qx (by show¬(0<=on/\on<(zN p 2:Int));rw[show zN p 2=v.ns from ls.out];exact h));obtain⟨W0,d0⟩:∃W0:World,W0=((w.alloc (.cells #[.slice v.s v.ns v.cs,.slice v.g v.ng v.cg,.slice v.b v.nb v.cb,.slice v.r v.nr v.cr,.slice v.t v.nt v.ct] 26)).alloc (.cells #[.int .i64 2,.int .i64 on,.int .i64 ar] 68)):=⟨_,rfl⟩
   rw[<-d0] at kP kO b0 k0;have f0:=zd d0;clear d0;have c1:W0.cell? ⟨w.heap.size,0,none⟩=some (.slice v.s v.ns v.cs):=kP.cell 0 rfl;have c6:W0.cell? ⟨w.heap.size+1,0,none⟩=some (.int .i64 2):=kO.cell 0 rfl;have c8:W0.cell? ⟨w.heap.size+1,2,none⟩=some (.int .i64 ar):=kO.cell 2 rfl;have k1:=cell_regrown c1;have k6:=cell_regrown c6;have k7:=cell_regrown k0;have k8:=cell_regrown c8;clear kP kO;have cF:uH (∀d os,Calls Tryz.prog 152 #[.slice v.s v.ns v.cs,.pointer (some ⟨w.heap.size+1,0,none⟩)] (grow (redrawn W0 d) os) λe h0=>e= .returned (.bool false)/\∃p:Regrown,h0=grow (redrawn W0 p.d) p.os):=zd (λd os=>Zi (by
    have:=j8 v.s v.ns v.cs on (w.heap.size+1) (grow (redrawn W0 d) os) zs (k7 d os);rw[HC.o] at this;exact this))
   clear k0;go_enter Tryz.func122,Tryz.ntmps122;go_wp2_with fail;rw[<-f0.out];refine wp_region_quiet_below (by kernel_rfl) (by kernel_rfl) ?_
   repeat (go_big_quiet_step (exact cF.out _ _))
   refine wpQuiet_nil ?_;intro w6 c0;have g0:Below W0.heap.size W0 w6:=by
    obtain⟨pq,rfl⟩:=c0;exact below_regrown _ _ _
   clear c0;go_wp2;go_ret;exact⟨zT (by rw[HB.o]),b0.trans (g0.mono b0.size)⟩
 --kind 3
 ·by_cases h:0<=on/\on<v.ns
  ·have HC:uH ((decide (0<=on)&&decide (on<v.ns))=true):=zd (by rw[decide_eq_true h.1,decide_eq_true h.2];rfl);have HO:uH (zX p ⟨3,on,ar⟩=j5 p ⟨3,on,ar⟩):=zd (vw (by show(1:Int)<=3/\(3:Int)<=10;decide) (by show 0<=on/\on<(zN p 3:Int);rw[show zN p 3=v.ns from ls.out];exact h));obtain⟨W0,d0⟩:∃W0:World,W0=((w.alloc (.cells #[.slice v.s v.ns v.cs,.slice v.g v.ng v.cg,.slice v.b v.nb v.cb,.slice v.r v.nr v.cr,.slice v.t v.nt v.ct] 26)).alloc (.cells #[.int .i64 3,.int .i64 on,.int .i64 ar] 68)):=⟨_,rfl⟩
   rw[<-d0] at kP kO b0 k0;have f0:=zd d0;clear d0;have c1:W0.cell? ⟨w.heap.size,0,none⟩=some (.slice v.s v.ns v.cs):=kP.cell 0 rfl;have c6:W0.cell? ⟨w.heap.size+1,0,none⟩=some (.int .i64 3):=kO.cell 0 rfl;have c8:W0.cell? ⟨w.heap.size+1,2,none⟩=some (.int .i64 ar):=kO.cell 2 rfl;have k1:=cell_regrown c1;have k6:=cell_regrown c6;have k7:=cell_regrown k0;have k8:=cell_regrown c8;clear kP kO;have cF:uH (∀d os,Calls Tryz.prog 152 #[.slice v.s v.ns v.cs,.pointer (some ⟨w.heap.size+1,0,none⟩)] (grow (redrawn W0 d) os) λe h0=>e= .returned (.bool true)/\∃p:Regrown,h0=grow (redrawn W0 p.d) p.os):=zd (λd os=>Zi (by
    have:=j8 v.s v.ns v.cs on (w.heap.size+1) (grow (redrawn W0 d) os) zs (k7 d os);rw[HC.o] at this;exact this))
   obtain⟨b,q,i0,hc⟩:=hr.rs.int (by rw[hr.ls];omega);have a0:=hc on.toNat (by rw[hr.ls];omega)
   obtain⟨x,hx⟩:∃x,x=p.sems.getD on.toNat 0:=⟨_,rfl⟩
   rw[<-hx] at a0;have HA:uH (j5 p ⟨3,on,ar⟩=(decide (1<=ar)&&decide (ar<=x))):=zd (by rw[hx];rfl);obtain⟨l0,on1⟩:=h;have k9:=cell_regrown (ze b0 a0);rw[i0] at k1 cF f0;clear k0 hc hx hr ls lg lb lr a0;by_cases h1:1<=ar
   ·have d1:decide (1<=ar)=true:=decide_eq_true h1;go_enter Tryz.func122,Tryz.ntmps122;go_wp2_with fail;rw[<-f0.out];refine wp_region_quiet_below (by kernel_rfl) (by kernel_rfl) ?_
    repeat (go_big_quiet_step (exact cF.out _ _))
    refine wpQuiet_nil ?_;intro w6 c0;have g0:Below W0.heap.size W0 w6:=by
     obtain⟨pq,rfl⟩:=c0;exact below_regrown _ _ _
    clear c0;go_wp2;go_ret;exact⟨zT (by rw[HO.o,HA.o,d1];rfl),b0.trans (g0.mono b0.size)⟩
   ·have d1:decide (1<=ar)=false:=decide_eq_false h1;go_enter Tryz.func122,Tryz.ntmps122;go_wp2_with fail;rw[<-f0.out];refine wp_region_quiet_below (by kernel_rfl) (by kernel_rfl) ?_
    repeat (go_big_quiet_step (exact cF.out _ _))
    refine wpQuiet_nil ?_;intro w6 c0;have g0:Below W0.heap.size W0 w6:=by
     obtain⟨pq,rfl⟩:=c0;exact below_regrown _ _ _
    clear c0;go_wp2;go_ret;exact⟨zT (by rw[HO.o,HA.o,d1];rfl),b0.trans (g0.mono b0.size)⟩
  ·have HC:uH ((decide (0<=on)&&decide (on<v.ns))=false):=zd (by rw[<-Bool.decide_and];exact decide_eq_false h);have HB:uH (zX p ⟨3,on,ar⟩=false):=zd (qx (by show¬(0<=on/\on<(zN p 3:Int));rw[show zN p 3=v.ns from ls.out];exact h));obtain⟨W0,d0⟩:∃W0:World,W0=((w.alloc (.cells #[.slice v.s v.ns v.cs,.slice v.g v.ng v.cg,.slice v.b v.nb v.cb,.slice v.r v.nr v.cr,.slice v.t v.nt v.ct] 26)).alloc (.cells #[.int .i64 3,.int .i64 on,.int .i64 ar] 68)):=⟨_,rfl⟩
   rw[<-d0] at kP kO b0 k0;have f0:=zd d0;clear d0;have c1:W0.cell? ⟨w.heap.size,0,none⟩=some (.slice v.s v.ns v.cs):=kP.cell 0 rfl;have c6:W0.cell? ⟨w.heap.size+1,0,none⟩=some (.int .i64 3):=kO.cell 0 rfl;have c8:W0.cell? ⟨w.heap.size+1,2,none⟩=some (.int .i64 ar):=kO.cell 2 rfl;have k1:=cell_regrown c1;have k6:=cell_regrown c6;have k7:=cell_regrown k0;have k8:=cell_regrown c8;clear kP kO;have cF:uH (∀d os,Calls Tryz.prog 152 #[.slice v.s v.ns v.cs,.pointer (some ⟨w.heap.size+1,0,none⟩)] (grow (redrawn W0 d) os) λe h0=>e= .returned (.bool false)/\∃p:Regrown,h0=grow (redrawn W0 p.d) p.os):=zd (λd os=>Zi (by
    have:=j8 v.s v.ns v.cs on (w.heap.size+1) (grow (redrawn W0 d) os) zs (k7 d os);rw[HC.o] at this;exact this))
   clear k0;go_enter Tryz.func122,Tryz.ntmps122;go_wp2_with fail;rw[<-f0.out];refine wp_region_quiet_below (by kernel_rfl) (by kernel_rfl) ?_
   repeat (go_big_quiet_step (exact cF.out _ _))
   refine wpQuiet_nil ?_;intro w6 c0;have g0:Below W0.heap.size W0 w6:=by
    obtain⟨pq,rfl⟩:=c0;exact below_regrown _ _ _
   clear c0;go_wp2;go_ret;exact⟨zT (by rw[HB.o]),b0.trans (g0.mono b0.size)⟩
 --kind 4
 ·by_cases h1:0<=on
  ·have d1:decide (0<=on)=true:=decide_eq_true h1;by_cases h2:on<=2
   ·have d2:decide (on<=2)=true:=decide_eq_true h2;have HB:uH (zX p ⟨4,on,ar⟩=vS ar):=zd (vw (by show(1:Int)<=4/\(4:Int)<=10;decide) (by show 0<=on/\on<((3:Nat):Int);omega));clear kP kO k0;go_enter Tryz.func122,Tryz.ntmps122;go_wp2_with fail;refine(Yx ar _).mono ?_;rintro e w1 ⟨rfl,rfl⟩;go_wp2;go_ret;exact⟨zT (by rw[HB.o]),b0⟩
   ·have d2:decide (on<=2)=false:=decide_eq_false h2;have HB:uH (zX p ⟨4,on,ar⟩=false):=zd (qx (by show¬(0<=on/\on<((3:Nat):Int));omega));clear kP kO k0;go_enter Tryz.func122,Tryz.ntmps122;go_wp2_with fail;go_ret;exact⟨zT (by rw[HB.o]),b0⟩
  ·have d1:decide (0<=on)=false:=decide_eq_false h1;have HB:uH (zX p ⟨4,on,ar⟩=false):=zd (qx (by show¬(0<=on/\on<((3:Nat):Int));omega));clear kP kO k0;go_enter Tryz.func122,Tryz.ntmps122;go_wp2_with fail;go_ret;exact⟨zT (by rw[HB.o]),b0⟩
 --kind 5
 ·by_cases h:0<=on/\on<v.ng
  ·have HC:uH ((decide (0<=on)&&decide (on<v.ng))=true):=zd (by rw[decide_eq_true h.1,decide_eq_true h.2];rfl);have HO:uH (zX p ⟨5,on,ar⟩=j5 p ⟨5,on,ar⟩):=zd (vw (by show(1:Int)<=5/\(5:Int)<=10;decide) (by show 0<=on/\on<(zN p 5:Int);rw[show zN p 5=v.ng from lg.out];exact h));clear kP kO h;by_cases h9: -9<=ar
   ·have d9:decide (-9<=ar)=true:=decide_eq_true h9;have HB:uH (j5 p ⟨5,on,ar⟩=decide (ar<=9)):=zd (by show(decide (-9<=ar)&&decide (ar<=9))=_;rw[d9];rfl);go_enter Tryz.func122,Tryz.ntmps122;go_wp2_with fail;refine(j8 v.g v.ng v.cg on _ _ zg k0).mono ?_;rintro e w1 ⟨rfl,rfl⟩;rw[HC.o];go_wp2;go_ret;exact⟨zT (by rw[HO.o,HB.o]),b0⟩
   ·have d9:decide (-9<=ar)=false:=decide_eq_false h9;have HB:uH (j5 p ⟨5,on,ar⟩=false):=zd (by show(decide (-9<=ar)&&decide (ar<=9))=_;rw[d9];rfl);go_enter Tryz.func122,Tryz.ntmps122;go_wp2_with fail;refine(j8 v.g v.ng v.cg on _ _ zg k0).mono ?_;rintro e w1 ⟨rfl,rfl⟩;rw[HC.o];go_wp2;go_ret;exact⟨zT (by rw[HO.o,HB.o]),b0⟩
  ·have HC:uH ((decide (0<=on)&&decide (on<v.ng))=false):=zd (by rw[<-Bool.decide_and];exact decide_eq_false h);have HB:uH (zX p ⟨5,on,ar⟩=false):=zd (qx (by show¬(0<=on/\on<(zN p 5:Int));rw[show zN p 5=v.ng from lg.out];exact h));clear kP kO h;go_enter Tryz.func122,Tryz.ntmps122;go_wp2_with fail;refine(j8 v.g v.ng v.cg on _ _ zg k0).mono ?_;rintro e w1 ⟨rfl,rfl⟩;rw[HC.o];go_wp2;go_ret;exact⟨zT (by rw[HB.o]),b0⟩
 --kind 6
 ·by_cases h:0<=on/\on<v.ng
  ·have HC:uH ((decide (0<=on)&&decide (on<v.ng))=true):=zd (by rw[decide_eq_true h.1,decide_eq_true h.2];rfl);have HO:uH (zX p ⟨6,on,ar⟩=j5 p ⟨6,on,ar⟩):=zd (vw (by show(1:Int)<=6/\(6:Int)<=10;decide) (by show 0<=on/\on<(zN p 6:Int);rw[show zN p 6=v.ng from lg.out];exact h));clear kP kO h;go_enter Tryz.func122,Tryz.ntmps122;go_wp2_with fail;refine(j8 v.g v.ng v.cg on _ _ zg k0).mono ?_;rintro e w1 ⟨rfl,rfl⟩;rw[HC.o];go_wp2;go_ret;exact⟨zT (by rw[HO.o];rfl),b0⟩
  ·have HC:uH ((decide (0<=on)&&decide (on<v.ng))=false):=zd (by rw[<-Bool.decide_and];exact decide_eq_false h);have HB:uH (zX p ⟨6,on,ar⟩=false):=zd (qx (by show¬(0<=on/\on<(zN p 6:Int));rw[show zN p 6=v.ng from lg.out];exact h));clear kP kO h;go_enter Tryz.func122,Tryz.ntmps122;go_wp2_with fail;refine(j8 v.g v.ng v.cg on _ _ zg k0).mono ?_;rintro e w1 ⟨rfl,rfl⟩;rw[HC.o];go_wp2;go_ret;exact⟨zT (by rw[HB.o]),b0⟩
 --kind 7
 ·by_cases h:0<=on/\on<v.nb
  ·have HC:uH ((decide (0<=on)&&decide (on<v.nb))=true):=zd (by rw[decide_eq_true h.1,decide_eq_true h.2];rfl);have HO:uH (zX p ⟨7,on,ar⟩=j5 p ⟨7,on,ar⟩):=zd (vw (by show(1:Int)<=7/\(7:Int)<=10;decide) (by show 0<=on/\on<(zN p 7:Int);rw[show zN p 7=v.nb from lb.out];exact h));clear kP kO h;go_enter Tryz.func122,Tryz.ntmps122;go_wp2_with fail;refine(j8 v.b v.nb v.cb on _ _ zb k0).mono ?_;rintro e w1 ⟨rfl,rfl⟩;rw[HC.o];go_wp2;go_ret;exact⟨zT (by rw[HO.o];rfl),b0⟩
  ·have HC:uH ((decide (0<=on)&&decide (on<v.nb))=false):=zd (by rw[<-Bool.decide_and];exact decide_eq_false h);have HB:uH (zX p ⟨7,on,ar⟩=false):=zd (qx (by show¬(0<=on/\on<(zN p 7:Int));rw[show zN p 7=v.nb from lb.out];exact h));clear kP kO h;go_enter Tryz.func122,Tryz.ntmps122;go_wp2_with fail;refine(j8 v.b v.nb v.cb on _ _ zb k0).mono ?_;rintro e w1 ⟨rfl,rfl⟩;rw[HC.o];go_wp2;go_ret;exact⟨zT (by rw[HB.o]),b0⟩
 --kind 8
 ·by_cases h:0<=on/\on<v.nr
  ·have HC:uH ((decide (0<=on)&&decide (on<v.nr))=true):=zd (by rw[decide_eq_true h.1,decide_eq_true h.2];rfl);have HO:uH (zX p ⟨8,on,ar⟩=j5 p ⟨8,on,ar⟩):=zd (vw (by show(1:Int)<=8/\(8:Int)<=10;decide) (by show 0<=on/\on<(zN p 8:Int);rw[show zN p 8=v.nr from lr.out];exact h));clear kP kO h;go_enter Tryz.func122,Tryz.ntmps122;go_wp2_with fail;refine(j8 v.r v.nr v.cr on _ _ zr k0).mono ?_;rintro e w1 ⟨rfl,rfl⟩;rw[HC.o];go_wp2_with fail;refine(Yx ar _).mono ?_;rintro e w1 ⟨rfl,rfl⟩;go_wp2;go_ret;exact⟨zT (by rw[HO.o];rfl),b0⟩
  ·have HC:uH ((decide (0<=on)&&decide (on<v.nr))=false):=zd (by rw[<-Bool.decide_and];exact decide_eq_false h);have HB:uH (zX p ⟨8,on,ar⟩=false):=zd (qx (by show¬(0<=on/\on<(zN p 8:Int));rw[show zN p 8=v.nr from lr.out];exact h));clear kP kO h;go_enter Tryz.func122,Tryz.ntmps122;go_wp2_with fail;refine(j8 v.r v.nr v.cr on _ _ zr k0).mono ?_;rintro e w1 ⟨rfl,rfl⟩;rw[HC.o];go_wp2;go_ret;exact⟨zT (by rw[HB.o]),b0⟩
 --kind 9
 ·by_cases h:0<=on/\on<v.nr
  ·have HC:uH ((decide (0<=on)&&decide (on<v.nr))=true):=zd (by rw[decide_eq_true h.1,decide_eq_true h.2];rfl);have HO:uH (zX p ⟨9,on,ar⟩=j5 p ⟨9,on,ar⟩):=zd (vw (by show(1:Int)<=9/\(9:Int)<=10;decide) (by show 0<=on/\on<(zN p 9:Int);rw[show zN p 9=v.nr from lr.out];exact h));clear kP kO h;go_enter Tryz.func122,Tryz.ntmps122;go_wp2_with fail;refine(j8 v.r v.nr v.cr on _ _ zr k0).mono ?_;rintro e w1 ⟨rfl,rfl⟩;rw[HC.o];go_wp2;go_ret;exact⟨zT (by rw[HO.o];rfl),b0⟩
  ·have HC:uH ((decide (0<=on)&&decide (on<v.nr))=false):=zd (by rw[<-Bool.decide_and];exact decide_eq_false h);have HB:uH (zX p ⟨9,on,ar⟩=false):=zd (qx (by show¬(0<=on/\on<(zN p 9:Int));rw[show zN p 9=v.nr from lr.out];exact h));clear kP kO h;go_enter Tryz.func122,Tryz.ntmps122;go_wp2_with fail;refine(j8 v.r v.nr v.cr on _ _ zr k0).mono ?_;rintro e w1 ⟨rfl,rfl⟩;rw[HC.o];go_wp2;go_ret;exact⟨zT (by rw[HB.o]),b0⟩
 --kind 10
 ·by_cases h:0<=on/\on<v.nr
  ·have HC:uH ((decide (0<=on)&&decide (on<v.nr))=true):=zd (by rw[decide_eq_true h.1,decide_eq_true h.2];rfl);have HO:uH (zX p ⟨10,on,ar⟩=j5 p ⟨10,on,ar⟩):=zd (vw (by show(1:Int)<=10/\(10:Int)<=10;decide) (by show 0<=on/\on<(zN p 10:Int);rw[show zN p 10=v.nr from lr.out];exact h));clear kP kO h;go_enter Tryz.func122,Tryz.ntmps122;go_wp2_with fail;refine(j8 v.r v.nr v.cr on _ _ zr k0).mono ?_;rintro e w1 ⟨rfl,rfl⟩;rw[HC.o];go_wp2;go_ret;exact⟨zT (by rw[HO.o];rfl),b0⟩
  ·have HC:uH ((decide (0<=on)&&decide (on<v.nr))=false):=zd (by rw[<-Bool.decide_and];exact decide_eq_false h);have HB:uH (zX p ⟨10,on,ar⟩=false):=zd (qx (by show¬(0<=on/\on<(zN p 10:Int));rw[show zN p 10=v.nr from lr.out];exact h));clear kP kO h;go_enter Tryz.func122,Tryz.ntmps122;go_wp2_with fail;refine(j8 v.r v.nr v.cr on _ _ zr k0).mono ?_;rintro e w1 ⟨rfl,rfl⟩;rw[HC.o];go_wp2;go_ret;exact⟨zT (by rw[HB.o]),b0⟩
end Go.Proofs.YtfclolgfegdfjaaGreat
namespace Go.Proofs.YtfclolgfegdfjaaGreat
open Go.RowKit
variable {k i:Nat} {T E:TypeId} {p:Pg} {α:Type} {z:Value}
theorem Yo (v:PV) (p:Pg) (w:World) (hr:yK w v p) (hz:xH v p):
  Calls Tryz.prog 84 #[.agg (zF v)] w λe w'=>e= .returned (.bool (zD p))/\xW w w':=by
 have hs:v.ns<=maxLen/\v.ng<=maxLen/\v.nb<=maxLen/\v.nr<=maxLen:=by
  obtain⟨z1,z2,z3,z4,z5,z6⟩:=hz;unfold maxLen;omega
 have zz:uH (v.ns<=maxLen/\v.ng<=maxLen/\v.nb<=maxLen/\v.nr<=maxLen):=zd hs;have z5:v.nt<=1048576:=hz.lt;have Z6:=zd hz.inn;have ls:=zd hr.ls;have lg:=zd hr.lg;have lb:=zd hr.lb;have lr:=zd hr.lr;have lt:=zd hr.lt;clear hz;have B0:xW w (w.alloc (.cells (zF v) 26)):=zY;have k0:zm (w.alloc (.cells (zF v) 26)) w.heap.size (zF v) 26:=zm.new _ _ _;rcases Bool.eq_false_or_eq_true (xl p.sems 1 9) with h1|h1
 rotate_left
 ·have HB:uH (zD p=false):=zd (by unfold zD;rw[h1];simp);replace h1:=zd h1;go_enter Tryz.func84,Tryz.ntmps84;go_wp2_with fail;refine(yJ v.s v.ns v.cs p.sems 1 9 _ ls.out (jQ zz.out) (hr.rs.below B0)).mono ?_;rintro e w1 ⟨rfl,hb⟩;rw[h1.out];have B1:=B0.trans (hb.mono B0.size);have k1:=k0.below hb;clear hb;have q0:w1.cell? ⟨w.heap.size,0,none⟩=some (.slice v.s v.ns v.cs):=k1.cell 0 rfl;have q1:w1.cell? ⟨w.heap.size,1,none⟩=some (.slice v.g v.ng v.cg):=k1.cell 1 rfl;have q2:w1.cell? ⟨w.heap.size,2,none⟩=some (.slice v.b v.nb v.cb):=k1.cell 2 rfl;have q3:w1.cell? ⟨w.heap.size,3,none⟩=some (.slice v.r v.nr v.cr):=k1.cell 3 rfl;have q4:w1.cell? ⟨w.heap.size,4,none⟩=some (.slice v.t v.nt v.ct):=k1.cell 4 rfl;go_wp2;go_ret;exact⟨zT (by rw[HB.o]),B1⟩
 replace h1:=zd h1;rcases Bool.eq_false_or_eq_true (xl p.groups 0 9) with h2|h2
 rotate_left
 ·have HB:uH (zD p=false):=zd (by unfold zD;rw[h2];simp);replace h2:=zd h2;go_enter Tryz.func84,Tryz.ntmps84;go_wp2_with fail;refine(yJ v.s v.ns v.cs p.sems 1 9 _ ls.out (jQ zz.out) (hr.rs.below B0)).mono ?_;rintro e w1 ⟨rfl,hb⟩;rw[h1.out];have B1:=B0.trans (hb.mono B0.size);have k1:=k0.below hb;clear hb;have q0:w1.cell? ⟨w.heap.size,0,none⟩=some (.slice v.s v.ns v.cs):=k1.cell 0 rfl;have q1:w1.cell? ⟨w.heap.size,1,none⟩=some (.slice v.g v.ng v.cg):=k1.cell 1 rfl;have q2:w1.cell? ⟨w.heap.size,2,none⟩=some (.slice v.b v.nb v.cb):=k1.cell 2 rfl;have q3:w1.cell? ⟨w.heap.size,3,none⟩=some (.slice v.r v.nr v.cr):=k1.cell 3 rfl;have q4:w1.cell? ⟨w.heap.size,4,none⟩=some (.slice v.t v.nt v.ct):=k1.cell 4 rfl;go_wp2_with fail;refine(yJ v.g v.ng v.cg p.groups 0 9 _ lg.out (jQ zz.out) (hr.rg.below B1)).mono ?_;rintro e w2 ⟨rfl,hb⟩;rw[h2.out];have B2:=B1.trans (hb.mono B1.size);have k2:=k1.below hb;clear hb;replace q0:w2.cell? ⟨w.heap.size,0,none⟩=some (.slice v.s v.ns v.cs):=k2.cell 0 rfl;replace q1:w2.cell? ⟨w.heap.size,1,none⟩=some (.slice v.g v.ng v.cg):=k2.cell 1 rfl;replace q2:w2.cell? ⟨w.heap.size,2,none⟩=some (.slice v.b v.nb v.cb):=k2.cell 2 rfl
  replace q3:w2.cell? ⟨w.heap.size,3,none⟩=some (.slice v.r v.nr v.cr):=k2.cell 3 rfl;replace q4:w2.cell? ⟨w.heap.size,4,none⟩=some (.slice v.t v.nt v.ct):=k2.cell 4 rfl;go_wp2;go_ret;exact⟨zT (by rw[HB.o]),B2⟩
 replace h2:=zd h2;rcases Bool.eq_false_or_eq_true (xl p.barriers 1 6) with h3|h3
 rotate_left
 ·have HB:uH (zD p=false):=zd (by unfold zD;rw[h3];simp);replace h3:=zd h3;go_enter Tryz.func84,Tryz.ntmps84;go_wp2_with fail;refine(yJ v.s v.ns v.cs p.sems 1 9 _ ls.out (jQ zz.out) (hr.rs.below B0)).mono ?_;rintro e w1 ⟨rfl,hb⟩;rw[h1.out];have B1:=B0.trans (hb.mono B0.size);have k1:=k0.below hb;clear hb;have q0:w1.cell? ⟨w.heap.size,0,none⟩=some (.slice v.s v.ns v.cs):=k1.cell 0 rfl;have q1:w1.cell? ⟨w.heap.size,1,none⟩=some (.slice v.g v.ng v.cg):=k1.cell 1 rfl;have q2:w1.cell? ⟨w.heap.size,2,none⟩=some (.slice v.b v.nb v.cb):=k1.cell 2 rfl;have q3:w1.cell? ⟨w.heap.size,3,none⟩=some (.slice v.r v.nr v.cr):=k1.cell 3 rfl;have q4:w1.cell? ⟨w.heap.size,4,none⟩=some (.slice v.t v.nt v.ct):=k1.cell 4 rfl;go_wp2_with fail;refine(yJ v.g v.ng v.cg p.groups 0 9 _ lg.out (jQ zz.out) (hr.rg.below B1)).mono ?_;rintro e w2 ⟨rfl,hb⟩;rw[h2.out];have B2:=B1.trans (hb.mono B1.size);have k2:=k1.below hb;clear hb;replace q0:w2.cell? ⟨w.heap.size,0,none⟩=some (.slice v.s v.ns v.cs):=k2.cell 0 rfl;replace q1:w2.cell? ⟨w.heap.size,1,none⟩=some (.slice v.g v.ng v.cg):=k2.cell 1 rfl;replace q2:w2.cell? ⟨w.heap.size,2,none⟩=some (.slice v.b v.nb v.cb):=k2.cell 2 rfl
  replace q3:w2.cell? ⟨w.heap.size,3,none⟩=some (.slice v.r v.nr v.cr):=k2.cell 3 rfl;replace q4:w2.cell? ⟨w.heap.size,4,none⟩=some (.slice v.t v.nt v.ct):=k2.cell 4 rfl;go_wp2_with fail;refine(yJ v.b v.nb v.cb p.barriers 1 6 _ lb.out (jQ zz.out) (hr.rb.below B2)).mono ?_;rintro e w3 ⟨rfl,hb⟩;rw[h3.out];have B3:=B2.trans (hb.mono B2.size);have k3:=k2.below hb;clear hb;replace q0:w3.cell? ⟨w.heap.size,0,none⟩=some (.slice v.s v.ns v.cs):=k3.cell 0 rfl;replace q1:w3.cell? ⟨w.heap.size,1,none⟩=some (.slice v.g v.ng v.cg):=k3.cell 1 rfl;replace q2:w3.cell? ⟨w.heap.size,2,none⟩=some (.slice v.b v.nb v.cb):=k3.cell 2 rfl;replace q3:w3.cell? ⟨w.heap.size,3,none⟩=some (.slice v.r v.nr v.cr):=k3.cell 3 rfl;replace q4:w3.cell? ⟨w.heap.size,4,none⟩=some (.slice v.t v.nt v.ct):=k3.cell 4 rfl;go_wp2;go_ret;exact⟨zT (by rw[HB.o]),B3⟩
 replace h3:=zd h3;rcases Bool.eq_false_or_eq_true (xl p.rooms 0 4) with h4|h4
 rotate_left
 ·have HB:uH (zD p=false):=zd (by unfold zD;rw[h4];simp);replace h4:=zd h4;go_enter Tryz.func84,Tryz.ntmps84;go_wp2_with fail;refine(yJ v.s v.ns v.cs p.sems 1 9 _ ls.out (jQ zz.out) (hr.rs.below B0)).mono ?_;rintro e w1 ⟨rfl,hb⟩;rw[h1.out];have B1:=B0.trans (hb.mono B0.size);have k1:=k0.below hb;clear hb;have q0:w1.cell? ⟨w.heap.size,0,none⟩=some (.slice v.s v.ns v.cs):=k1.cell 0 rfl;have q1:w1.cell? ⟨w.heap.size,1,none⟩=some (.slice v.g v.ng v.cg):=k1.cell 1 rfl;have q2:w1.cell? ⟨w.heap.size,2,none⟩=some (.slice v.b v.nb v.cb):=k1.cell 2 rfl;have q3:w1.cell? ⟨w.heap.size,3,none⟩=some (.slice v.r v.nr v.cr):=k1.cell 3 rfl;have q4:w1.cell? ⟨w.heap.size,4,none⟩=some (.slice v.t v.nt v.ct):=k1.cell 4 rfl;go_wp2_with fail;refine(yJ v.g v.ng v.cg p.groups 0 9 _ lg.out (jQ zz.out) (hr.rg.below B1)).mono ?_;rintro e w2 ⟨rfl,hb⟩;rw[h2.out];have B2:=B1.trans (hb.mono B1.size);have k2:=k1.below hb;clear hb;replace q0:w2.cell? ⟨w.heap.size,0,none⟩=some (.slice v.s v.ns v.cs):=k2.cell 0 rfl;replace q1:w2.cell? ⟨w.heap.size,1,none⟩=some (.slice v.g v.ng v.cg):=k2.cell 1 rfl;replace q2:w2.cell? ⟨w.heap.size,2,none⟩=some (.slice v.b v.nb v.cb):=k2.cell 2 rfl
  replace q3:w2.cell? ⟨w.heap.size,3,none⟩=some (.slice v.r v.nr v.cr):=k2.cell 3 rfl;replace q4:w2.cell? ⟨w.heap.size,4,none⟩=some (.slice v.t v.nt v.ct):=k2.cell 4 rfl;go_wp2_with fail;refine(yJ v.b v.nb v.cb p.barriers 1 6 _ lb.out (jQ zz.out) (hr.rb.below B2)).mono ?_;rintro e w3 ⟨rfl,hb⟩;rw[h3.out];have B3:=B2.trans (hb.mono B2.size);have k3:=k2.below hb;clear hb;replace q0:w3.cell? ⟨w.heap.size,0,none⟩=some (.slice v.s v.ns v.cs):=k3.cell 0 rfl;replace q1:w3.cell? ⟨w.heap.size,1,none⟩=some (.slice v.g v.ng v.cg):=k3.cell 1 rfl;replace q2:w3.cell? ⟨w.heap.size,2,none⟩=some (.slice v.b v.nb v.cb):=k3.cell 2 rfl;replace q3:w3.cell? ⟨w.heap.size,3,none⟩=some (.slice v.r v.nr v.cr):=k3.cell 3 rfl;replace q4:w3.cell? ⟨w.heap.size,4,none⟩=some (.slice v.t v.nt v.ct):=k3.cell 4 rfl;go_wp2_with fail;refine(yJ v.r v.nr v.cr p.rooms 0 4 _ lr.out (jQ zz.out) (hr.rr.below B3)).mono ?_;rintro e w4 ⟨rfl,hb⟩;rw[h4.out];have B4:=B3.trans (hb.mono B3.size);have k4:=k3.below hb;clear hb;replace q0:w4.cell? ⟨w.heap.size,0,none⟩=some (.slice v.s v.ns v.cs):=k4.cell 0 rfl;replace q1:w4.cell? ⟨w.heap.size,1,none⟩=some (.slice v.g v.ng v.cg):=k4.cell 1 rfl
  replace q2:w4.cell? ⟨w.heap.size,2,none⟩=some (.slice v.b v.nb v.cb):=k4.cell 2 rfl;replace q3:w4.cell? ⟨w.heap.size,3,none⟩=some (.slice v.r v.nr v.cr):=k4.cell 3 rfl;replace q4:w4.cell? ⟨w.heap.size,4,none⟩=some (.slice v.t v.nt v.ct):=k4.cell 4 rfl;go_wp2;go_ret;exact⟨zT (by rw[HB.o]),B4⟩
 replace h4:=zd h4;by_cases h5:v.nt<1
 ·have HB:uH (zD p=false):=zd (by
   have:=lt.out;unfold zD;rw[show decide (1<=p.threads.length)=false from xr jq];simp)
  have t5:decide ((v.nt:Int)<1)=true:=by simp;omega
  go_enter Tryz.func84,Tryz.ntmps84;go_wp2_with fail;refine(yJ v.s v.ns v.cs p.sems 1 9 _ ls.out (jQ zz.out) (hr.rs.below B0)).mono ?_;rintro e w1 ⟨rfl,hb⟩;rw[h1.out];have B1:=B0.trans (hb.mono B0.size);have k1:=k0.below hb;clear hb;have q0:w1.cell? ⟨w.heap.size,0,none⟩=some (.slice v.s v.ns v.cs):=k1.cell 0 rfl;have q1:w1.cell? ⟨w.heap.size,1,none⟩=some (.slice v.g v.ng v.cg):=k1.cell 1 rfl;have q2:w1.cell? ⟨w.heap.size,2,none⟩=some (.slice v.b v.nb v.cb):=k1.cell 2 rfl;have q3:w1.cell? ⟨w.heap.size,3,none⟩=some (.slice v.r v.nr v.cr):=k1.cell 3 rfl;have q4:w1.cell? ⟨w.heap.size,4,none⟩=some (.slice v.t v.nt v.ct):=k1.cell 4 rfl;go_wp2_with fail;refine(yJ v.g v.ng v.cg p.groups 0 9 _ lg.out (jQ zz.out) (hr.rg.below B1)).mono ?_;rintro e w2 ⟨rfl,hb⟩;rw[h2.out];have B2:=B1.trans (hb.mono B1.size);have k2:=k1.below hb;clear hb;replace q0:w2.cell? ⟨w.heap.size,0,none⟩=some (.slice v.s v.ns v.cs):=k2.cell 0 rfl;replace q1:w2.cell? ⟨w.heap.size,1,none⟩=some (.slice v.g v.ng v.cg):=k2.cell 1 rfl;replace q2:w2.cell? ⟨w.heap.size,2,none⟩=some (.slice v.b v.nb v.cb):=k2.cell 2 rfl;replace q3:w2.cell? ⟨w.heap.size,3,none⟩=some (.slice v.r v.nr v.cr):=k2.cell 3 rfl
  replace q4:w2.cell? ⟨w.heap.size,4,none⟩=some (.slice v.t v.nt v.ct):=k2.cell 4 rfl;go_wp2_with fail;refine(yJ v.b v.nb v.cb p.barriers 1 6 _ lb.out (jQ zz.out) (hr.rb.below B2)).mono ?_;rintro e w3 ⟨rfl,hb⟩;rw[h3.out];have B3:=B2.trans (hb.mono B2.size);have k3:=k2.below hb;clear hb;replace q0:w3.cell? ⟨w.heap.size,0,none⟩=some (.slice v.s v.ns v.cs):=k3.cell 0 rfl;replace q1:w3.cell? ⟨w.heap.size,1,none⟩=some (.slice v.g v.ng v.cg):=k3.cell 1 rfl;replace q2:w3.cell? ⟨w.heap.size,2,none⟩=some (.slice v.b v.nb v.cb):=k3.cell 2 rfl;replace q3:w3.cell? ⟨w.heap.size,3,none⟩=some (.slice v.r v.nr v.cr):=k3.cell 3 rfl;replace q4:w3.cell? ⟨w.heap.size,4,none⟩=some (.slice v.t v.nt v.ct):=k3.cell 4 rfl;go_wp2_with fail;refine(yJ v.r v.nr v.cr p.rooms 0 4 _ lr.out (jQ zz.out) (hr.rr.below B3)).mono ?_;rintro e w4 ⟨rfl,hb⟩;rw[h4.out];have B4:=B3.trans (hb.mono B3.size);have k4:=k3.below hb;clear hb;replace q0:w4.cell? ⟨w.heap.size,0,none⟩=some (.slice v.s v.ns v.cs):=k4.cell 0 rfl;replace q1:w4.cell? ⟨w.heap.size,1,none⟩=some (.slice v.g v.ng v.cg):=k4.cell 1 rfl;replace q2:w4.cell? ⟨w.heap.size,2,none⟩=some (.slice v.b v.nb v.cb):=k4.cell 2 rfl
  replace q3:w4.cell? ⟨w.heap.size,3,none⟩=some (.slice v.r v.nr v.cr):=k4.cell 3 rfl;replace q4:w4.cell? ⟨w.heap.size,4,none⟩=some (.slice v.t v.nt v.ct):=k4.cell 4 rfl;go_wp2;go_ret;exact⟨zT (by rw[HB.o]),B4⟩
 have t5:decide ((v.nt:Int)<1)=false:=by simp;omega
 by_cases h6:4<v.nt
 ·have HB:uH (zD p=false):=zd (by
   have:=lt.out;unfold zD;rw[show decide (p.threads.length<=4)=false from xr jq];simp)
  have t6:decide ((4:Int)<v.nt)=true:=by simp;omega
  go_enter Tryz.func84,Tryz.ntmps84;go_wp2_with fail;refine(yJ v.s v.ns v.cs p.sems 1 9 _ ls.out (jQ zz.out) (hr.rs.below B0)).mono ?_;rintro e w1 ⟨rfl,hb⟩;rw[h1.out];have B1:=B0.trans (hb.mono B0.size);have k1:=k0.below hb;clear hb;have q0:w1.cell? ⟨w.heap.size,0,none⟩=some (.slice v.s v.ns v.cs):=k1.cell 0 rfl;have q1:w1.cell? ⟨w.heap.size,1,none⟩=some (.slice v.g v.ng v.cg):=k1.cell 1 rfl;have q2:w1.cell? ⟨w.heap.size,2,none⟩=some (.slice v.b v.nb v.cb):=k1.cell 2 rfl;have q3:w1.cell? ⟨w.heap.size,3,none⟩=some (.slice v.r v.nr v.cr):=k1.cell 3 rfl;have q4:w1.cell? ⟨w.heap.size,4,none⟩=some (.slice v.t v.nt v.ct):=k1.cell 4 rfl;go_wp2_with fail;refine(yJ v.g v.ng v.cg p.groups 0 9 _ lg.out (jQ zz.out) (hr.rg.below B1)).mono ?_;rintro e w2 ⟨rfl,hb⟩;rw[h2.out];have B2:=B1.trans (hb.mono B1.size);have k2:=k1.below hb;clear hb;replace q0:w2.cell? ⟨w.heap.size,0,none⟩=some (.slice v.s v.ns v.cs):=k2.cell 0 rfl;replace q1:w2.cell? ⟨w.heap.size,1,none⟩=some (.slice v.g v.ng v.cg):=k2.cell 1 rfl;replace q2:w2.cell? ⟨w.heap.size,2,none⟩=some (.slice v.b v.nb v.cb):=k2.cell 2 rfl;replace q3:w2.cell? ⟨w.heap.size,3,none⟩=some (.slice v.r v.nr v.cr):=k2.cell 3 rfl
  replace q4:w2.cell? ⟨w.heap.size,4,none⟩=some (.slice v.t v.nt v.ct):=k2.cell 4 rfl;go_wp2_with fail;refine(yJ v.b v.nb v.cb p.barriers 1 6 _ lb.out (jQ zz.out) (hr.rb.below B2)).mono ?_;rintro e w3 ⟨rfl,hb⟩;rw[h3.out];have B3:=B2.trans (hb.mono B2.size);have k3:=k2.below hb;clear hb;replace q0:w3.cell? ⟨w.heap.size,0,none⟩=some (.slice v.s v.ns v.cs):=k3.cell 0 rfl;replace q1:w3.cell? ⟨w.heap.size,1,none⟩=some (.slice v.g v.ng v.cg):=k3.cell 1 rfl;replace q2:w3.cell? ⟨w.heap.size,2,none⟩=some (.slice v.b v.nb v.cb):=k3.cell 2 rfl;replace q3:w3.cell? ⟨w.heap.size,3,none⟩=some (.slice v.r v.nr v.cr):=k3.cell 3 rfl;replace q4:w3.cell? ⟨w.heap.size,4,none⟩=some (.slice v.t v.nt v.ct):=k3.cell 4 rfl;go_wp2_with fail;refine(yJ v.r v.nr v.cr p.rooms 0 4 _ lr.out (jQ zz.out) (hr.rr.below B3)).mono ?_;rintro e w4 ⟨rfl,hb⟩;rw[h4.out];have B4:=B3.trans (hb.mono B3.size);have k4:=k3.below hb;clear hb;replace q0:w4.cell? ⟨w.heap.size,0,none⟩=some (.slice v.s v.ns v.cs):=k4.cell 0 rfl;replace q1:w4.cell? ⟨w.heap.size,1,none⟩=some (.slice v.g v.ng v.cg):=k4.cell 1 rfl;replace q2:w4.cell? ⟨w.heap.size,2,none⟩=some (.slice v.b v.nb v.cb):=k4.cell 2 rfl
  replace q3:w4.cell? ⟨w.heap.size,3,none⟩=some (.slice v.r v.nr v.cr):=k4.cell 3 rfl;replace q4:w4.cell? ⟨w.heap.size,4,none⟩=some (.slice v.t v.nt v.ct):=k4.cell 4 rfl;go_wp2;go_ret;exact⟨zT (by rw[HB.o]),B4⟩
 have t6:decide ((4:Int)<v.nt)=false:=by simp;omega
 obtain⟨vs,hT⟩:=hr.rt;go_enter Tryz.func84,Tryz.ntmps84;go_wp2_with fail;refine(yJ v.s v.ns v.cs p.sems 1 9 _ ls.out (jQ zz.out) (hr.rs.below B0)).mono ?_;rintro e w1 ⟨rfl,hb⟩;rw[h1.out];have B1:=B0.trans (hb.mono B0.size);have k1:=k0.below hb;clear hb;have q0:w1.cell? ⟨w.heap.size,0,none⟩=some (.slice v.s v.ns v.cs):=k1.cell 0 rfl;have q1:w1.cell? ⟨w.heap.size,1,none⟩=some (.slice v.g v.ng v.cg):=k1.cell 1 rfl;have q2:w1.cell? ⟨w.heap.size,2,none⟩=some (.slice v.b v.nb v.cb):=k1.cell 2 rfl;have q3:w1.cell? ⟨w.heap.size,3,none⟩=some (.slice v.r v.nr v.cr):=k1.cell 3 rfl;have q4:w1.cell? ⟨w.heap.size,4,none⟩=some (.slice v.t v.nt v.ct):=k1.cell 4 rfl;go_wp2_with fail;refine(yJ v.g v.ng v.cg p.groups 0 9 _ lg.out (jQ zz.out) (hr.rg.below B1)).mono ?_;rintro e w2 ⟨rfl,hb⟩;rw[h2.out];have B2:=B1.trans (hb.mono B1.size);have k2:=k1.below hb;clear hb;replace q0:w2.cell? ⟨w.heap.size,0,none⟩=some (.slice v.s v.ns v.cs):=k2.cell 0 rfl;replace q1:w2.cell? ⟨w.heap.size,1,none⟩=some (.slice v.g v.ng v.cg):=k2.cell 1 rfl;replace q2:w2.cell? ⟨w.heap.size,2,none⟩=some (.slice v.b v.nb v.cb):=k2.cell 2 rfl;replace q3:w2.cell? ⟨w.heap.size,3,none⟩=some (.slice v.r v.nr v.cr):=k2.cell 3 rfl
 replace q4:w2.cell? ⟨w.heap.size,4,none⟩=some (.slice v.t v.nt v.ct):=k2.cell 4 rfl;go_wp2_with fail;refine(yJ v.b v.nb v.cb p.barriers 1 6 _ lb.out (jQ zz.out) (hr.rb.below B2)).mono ?_;rintro e w3 ⟨rfl,hb⟩;rw[h3.out];have B3:=B2.trans (hb.mono B2.size);have k3:=k2.below hb;clear hb;replace q0:w3.cell? ⟨w.heap.size,0,none⟩=some (.slice v.s v.ns v.cs):=k3.cell 0 rfl;replace q1:w3.cell? ⟨w.heap.size,1,none⟩=some (.slice v.g v.ng v.cg):=k3.cell 1 rfl;replace q2:w3.cell? ⟨w.heap.size,2,none⟩=some (.slice v.b v.nb v.cb):=k3.cell 2 rfl;replace q3:w3.cell? ⟨w.heap.size,3,none⟩=some (.slice v.r v.nr v.cr):=k3.cell 3 rfl;replace q4:w3.cell? ⟨w.heap.size,4,none⟩=some (.slice v.t v.nt v.ct):=k3.cell 4 rfl;go_wp2_with fail;refine(yJ v.r v.nr v.cr p.rooms 0 4 _ lr.out (jQ zz.out) (hr.rr.below B3)).mono ?_;rintro e w4 ⟨rfl,hb⟩;rw[h4.out];have B4:=B3.trans (hb.mono B3.size);have k4:=k3.below hb;clear hb;replace q0:w4.cell? ⟨w.heap.size,0,none⟩=some (.slice v.s v.ns v.cs):=k4.cell 0 rfl;replace q1:w4.cell? ⟨w.heap.size,1,none⟩=some (.slice v.g v.ng v.cg):=k4.cell 1 rfl;replace q2:w4.cell? ⟨w.heap.size,2,none⟩=some (.slice v.b v.nb v.cb):=k4.cell 2 rfl
 replace q3:w4.cell? ⟨w.heap.size,3,none⟩=some (.slice v.r v.nr v.cr):=k4.cell 3 rfl;replace q4:w4.cell? ⟨w.heap.size,4,none⟩=some (.slice v.t v.nt v.ct):=k4.cell 4 rfl;go_wp2;clear k0 k1 k2 k3 B0 B1 B2 B3;obtain⟨b1,o1,ea,o0⟩:=(hT.below B4).thread (jQ lt.out);rw[ea] at q4;have t0:uH (∀w',yK w' v p->yK w' ⟨v.s,v.ns,v.cs,v.g,v.ng,v.cg,v.b,v.nb,v.cb,v.r,v.nr,v.cr,some ⟨b1,o1,none⟩,v.nt,v.ct⟩ p):=zd (by rw[<-ea];exact λ_ h=>h);have G1:=zd o0;rw[ea];clear o0 ea hT w1 w2 w3
 go_loopw [44] (λi wr=>∃i':Nat,i'<=v.nt/\i=uy i'/\uH (∀j,j<i'->(p.threads.getD j []).length<=8/\∀k,k<(p.threads.getD j []).length->zX p ((p.threads.getD j []).getD k qf)=true)/\xW w4 wr) (λi _=>v.nt-(intOf i).toNat)
 case atStart=>exact⟨0,jq,rfl,zd jq,Below.refl _ _⟩
 case round=>
  obtain⟨i,hi,rfl,f0,b0⟩:=hrel;have c0:=ze b0 q0;have c1:=ze b0 q1;have c2:=ze b0 q2;have c3:=ze b0 q3;have c4:=ze b0 q4;have B0:xW w wr:=B4.trans (b0.mono B4.size);by_cases y0:i<v.nt
  ·obtain⟨wo,s0⟩:∃wo:World,wo=wr:=⟨_,rfl⟩
   rw[<-s0] at b0 c0 c1 c2 c3 c4 B0⊢;clear s0 wr;obtain⟨a2,x2,g1,r2⟩:=G1.o i (jQ lt.out);obtain⟨m,hm⟩:=jy ((p.threads.getD i []).length);rw[<-hm] at g1;replace g1:=ze b0 g1;replace r2:=r2.below b0;have v0:=Z6.o i;rw[<-hm] at v0;have HM:=zd hm;clear hm;by_cases z0:8<m
   ·have e9:decide ((8:Int)<m)=true:=by simp;omega
    have HB:uH (zD p=false):=zd (XR (i:=i) (jQ lt.out) (jQ HM.o));go_wp2;go_ret;exact⟨zT (by rw[HB.o]),B0⟩
   have e9:decide ((8:Int)<m)=false:=by simp;omega
   go_wp2
   go_loopw [53] (λj wk=>∃k:Nat,k<=m/\j=uy k/\uH (∀j,j<k->zX p ((p.threads.getD i []).getD j qf)=true)/\xW wo wk) (λj _=>m-(intOf j).toNat)
   case atStart=>exact⟨0,jq,rfl,zd jq,Below.refl _ _⟩
   case round=>
    obtain⟨k,hk,rfl,r0,a0⟩:=hrel;have d0:=ze a0 c0;have d1:=ze a0 c1;have d2:=ze a0 c2;have d3:=ze a0 c3;have d4:=ze a0 c4;have B1:xW w wr:=B0.trans (a0.mono B0.size);have BW:xW w4 wr:=b0.trans (a0.mono b0.size);by_cases x0:k<m
    ·obtain⟨b2,o2,u0,p0⟩:=r2.op (jQ HM.o);obtain⟨h0,i0,j0⟩:=p0 k (jQ HM.o);obtain⟨o,ho⟩:=jy ((p.threads.getD i []).getD k qf);rw[<-ho] at h0 i0 j0;replace h0:=ze a0 h0;replace i0:=ze a0 i0;replace j0:=ze a0 j0;have HO:=zd ho;subst u0;clear p0 ho;have bA:xW wr (wr.alloc (.cells #[uy o.kind,uy o.on,uy o.arg] 68)):=zY;have e0:=ze bA d0;have e1:=ze bA d1;have e2:=ze bA d2;have e3:=ze bA d3;have e4:=ze bA d4;have n0:uH (yK (wr.alloc (.cells #[uy o.kind,uy o.on,uy o.arg] 68)) ⟨v.s,v.ns,v.cs,v.g,v.ng,v.cg,v.b,v.nb,v.cb,v.r,v.nr,v.cr,some ⟨b1,o1,none⟩,v.nt,v.ct⟩ p):=zd (t0.out _ ((hr.below B1).below bA));rcases Bool.eq_false_or_eq_true (zX p o) with hv|hv
     ·have HV:=zd hv;clear hv;go_wp2_with fail;refine(Qa ⟨v.s,v.ns,v.cs,v.g,v.ng,v.cg,v.b,v.nb,v.cb,v.r,v.nr,v.cr,some ⟨b1,o1,none⟩,v.nt,v.ct⟩ p o _ n0.out zz.out).mono ?_;rintro e w2 ⟨rfl,g0⟩;rw[HV.o];have l0:xW wr w2:=bA.trans (g0.mono bA.size);clear bA g0;go_wp2
      go_roundw
      case rel=>exact⟨k+1,jq,by go_num,zd (λj hj=>by
       rcases Nat.lt_or_ge j k with h|h
       ·exact r0.out j h
       ·have:j=k:=jq;subst this;rw[<-HO.o];exact HV.o),a0.trans (l0.mono a0.size)⟩
      case measure=>exact uq
     ·have HV:=zd hv;clear hv;have HB:uH (zD p=false):=zd (Q8 (i:=i) (k:=k) (jQ lt.out) (jQ HM.o) (by rw[<-HO.o];exact HV.o));go_wp2_with fail;refine(Qa ⟨v.s,v.ns,v.cs,v.g,v.ng,v.cg,v.b,v.nb,v.cb,v.r,v.nr,v.cr,some ⟨b1,o1,none⟩,v.nt,v.ct⟩ p o _ n0.out zz.out).mono ?_;rintro e w2 ⟨rfl,g0⟩;rw[HV.o];have l0:xW wr w2:=bA.trans (g0.mono bA.size);clear bA g0;go_wp2;go_ret;exact⟨zT (by rw[HB.o]),B1.trans (l0.mono B1.size)⟩
    ·have m0:k=m:=jq;subst m0;go_wp2
     go_roundw
     case rel=>exact⟨i+1,jq,by go_num,zd (λj hj=>by
      rcases Nat.lt_or_ge j i with h|h
      ·exact f0.out j h
      ·have:j=i:=jq;subst this;exact⟨by rw[<-HM.o];omega,by rw[<-HM.o];exact r0.out⟩),BW⟩
     case measure=>exact uq
  ·have m0:i=v.nt:=jq;subst m0;have HB:uH (zD p=true):=zd (VN h1.out h2.out h3.out h4.out (jQ lt.out) (jQ lt.out) (by rw[lt.out];exact f0.out));go_wp2;go_ret;exact⟨zT (by rw[HB.o]),B0⟩
theorem kT (h:zD p=true) (hi:i<p.threads.length) (hk:k<(p.threads.getD i []).length):zX p ((p.threads.getD i []).getD k qf)=true:=by
 cases hc:zX p ((p.threads.getD i []).getD k qf) with
 |true=>rfl
 |false=>rw[Q8 hi hk hc] at h;cases h
theorem vM (h:zD p=true):1<=p.threads.length/\p.threads.length<=4:=by
 unfold zD at h;simp only[Bool.and_eq_true,decide_eq_true_eq] at h;omega
theorem ux {o:xA} (h:zX p o=true):(1<=o.kind/\o.kind<=10)/\(0<=o.on/\o.on<zN p o.kind)/\j5 p o=true:=by
 unfold zX at h;simp only[Bool.and_eq_true,decide_eq_true_eq] at h;exact⟨⟨h.1.1.1.1,h.1.1.1.2⟩,⟨h.1.1.2,h.1.2⟩,h.2⟩

theorem Gi (h:zD p=true) (hi:i<p.threads.length):(p.threads.getD i []).length<=8:=by
 rcases Nat.lt_or_ge 8 (p.threads.getD i []).length with hc|hc
 ·rw[XR hi hc] at h;cases h
 ·exact hc
theorem yV (a:uQ) (n c:Nat) (xs:List Int) (w:World) (hl:xs.length=n) (hn:n<=1099511627776) (hr:Rd w a (zf xs)):
  Calls Tryz.prog 106 #[.slice a n c] w λe w'=>∃a' c',e= .returned (.slice a' n c')/\w'.ownsRow w.heap.size 3 1 (.slice a' n c') n (zf xs)/\xW w w':=by
 have H1:uH ((zf xs).length=n*1):=zd (by simp[hl]);clear hl;go_enter Tryz.func106,Tryz.ntmps106;go_wp2_with (at_builtin;refine xG rfl _ _ 23 rfl Tryz.underlying23 yb rfl jk rfl (dB _ w.heap.size _ _) rfl H1.o hr (yA xs) jq jk yk ?_;intro a1 c1 w1 a0 b0);go_wp2;go_ret;exact⟨a1,c1,jv,by simpa using a0,zG b0 yk (by simp[zj])⟩
def qe (w:World) (B:Nat) (L:List (Int×Value)):Prop:=
 ∃es clock,w.heap[B]? =some (.map es clock)/\es.toList.map (λe=>(e.key,e.val))=L.map (λp=>(Value.int .i64 p.1,p.2))/\(L.map Prod.fst).Nodup/\
  (es.toList.map (·.born)).Nodup/\∀e∈es.toList,e.born<clock
def YG:List (Int×Value)->Int->Option Value
 |[],_=>none
 |(a,v)::r,k=>if k=a then some v else YG r k
def Zx:List (Int×Value)->Int->Value->List (Int×Value)
 |[],k,v=>[(k,v)]
 |(a,u)::r,k,v=>if k=a then (k,v)::r else (a,u)::Zx r k v
def qQ:List (Int×Value)->Int->Nat->Option (Nat×Value)
 |[],_,_=>none
 |(a,v)::r,k,i=>if k=a then some (i,v) else qQ r k (i+1)
def JU:List (Int×Value)->Int->List (Int×Value)
 |[],_=>[]
 |(a,u)::r,k=>if k=a then r else (a,u)::JU r k
theorem Gr:∀(L:List (Int×Value)) (k:Int) (i:Nat),(qQ L k i).map (·.2)=YG L k
 |[],_,_=>rfl
 |(a,v)::r,k,i=>by
  by_cases h:k=a
  ·simp[qQ,YG,h]
  ·simp[qQ,YG,h,Gr r k (i+1)]
theorem VA:∀(L:List (Int×Value)) (k j:Int) (v:Value),j∈(Zx L k v).map Prod.fst↔j=k\/j∈L.map Prod.fst
 |[],k,j,v=>by simp[Zx]
 |(a,u)::r,k,j,v=>by
  by_cases h:k=a
  ·subst h;simp[Zx]
  ·simp only[Zx,h,if_false,List.map_cons,List.mem_cons,VA r k j v];constructor
   ·rintro(e|e|e)<;>simp[e]
   ·rintro(e|e|e)<;>simp[e]
theorem Vu:∀(L:List (Int×Value)) (k:Int) (v:Value),(L.map Prod.fst).Nodup->((Zx L k v).map Prod.fst).Nodup
 |[],k,v,_=>by simp[Zx]
 |(a,u)::r,k,v,h=>by
  simp only[List.map_cons,List.nodup_cons] at h;by_cases e:k=a
  ·subst e;simp only[Zx,if_true,List.map_cons,List.nodup_cons];exact h
  ·simp only[Zx,e,if_false,List.map_cons,List.nodup_cons,VA];exact⟨by rintro(e'|e');exact e e'.symm;exact h.1 e',Vu r k v h.2⟩
theorem VE:∀(L:List (Int×Value)) (k:Int),YG L k=none↔k∉L.map Prod.fst
 |[],k=>by simp[YG]
 |(a,u)::r,k=>by
  by_cases h:k=a
  ·simp[YG,h]
  ·simp[YG,h,VE r k]
theorem Jn (q:IntKind) (k:Int):∀(es:List MapEntry) (L:List (Int×Value)) (i:Nat),es.map (λe=>(e.key,e.val))=L.map (λp=>(Value.int .i64 p.1,p.2))->
  Instr.findNow (.int q) (uy k) es i=some (qQ L k i)
 |[],[],i,_=>rfl
 |[],_::_,i,h=>by simp at h
 |_::_,[],i,h=>by simp at h
 |e::es,(a,v)::L,i,h=>by
  simp only[List.map_cons,List.cons.injEq,Prod.mk.injEq] at h;obtain⟨⟨h1,h2⟩,h3⟩:=h;simp only[Instr.findNow,h1,Instr.sameNow,if_true,qQ];by_cases hk:k=a
  ·simp[hk,h2]
  ·have hb:(k==a)=false:=(by simp[hk]);simp[hb,hk,Jn q k es L (i+1) h3]
section
variable {P:Program} {w:World} {B:Nat} {L:List (Int×Value)}
theorem qe.lt (h:qe w B L):B<w.heap.size:=by
 obtain⟨es,a0,hb,_⟩:=h;exact(Array.getElem?_eq_some_iff.1 hb).1
theorem qe.keep {w':World} (h:qe w B L) (hb:w'.heap[B]? =w.heap[B]?):qe w' B L:=by
 obtain⟨es,a0,h1,h2⟩:=h;exact⟨es,a0,hb.trans h1,h2⟩
theorem qe.below {w':World} (h:qe w B L) (hb:xW w w'):qe w' B L:=h.keep (hb.block B h.lt)
theorem qe.grown {w':World} {row:Option Nat} (h:qe w B L) (hg:w.grownBy w' row) (a0:row≠some B):qe w' B L:=h.keep (hg.block B h.lt (λe=>a0 e.symm))
theorem qe.made (w:World):qe (w.alloc (.map #[] 0)) w.heap.size []:=
 ⟨#[],0,heap_alloc_new w _,rfl,jv,jv,jv⟩
theorem qe.nodup (h:qe w B L):(L.map Prod.fst).Nodup:=by
 obtain⟨_,_,_,_,h,_⟩:=h;exact h
theorem vm (e:Bool) (n:Nat) (K:TypeId) (q:IntKind) (hK:P.underlying K=some (.int q)) (k:Int) (w:World):(Instr.checkKey e (n+1) K (uy k)).run P w= .ok () w:=by
 simp[Instr.checkKey,run_underlying hK]
theorem uC {K:TypeId} {q:IntKind} (hT:P.underlying T=some (.map K E)) (hK:P.underlying K=some (.int q)) (hz:∀w,(zeroValue E).run P w= .ok z w) (h:qe w B L) (k:Int):
  (Instr.lookup T (.map (some B)) (uy k) false).run P w= .ok ((YG L k).getD z) w:=by
 obtain⟨es,a0,hb,he,_⟩:=h;have hf:=Jn q k es.toList L 0 he;have hg:=Gr L k 0;simp only[Instr.lookup,Sem.run_bind,run_underlying hT,Result.andThen_ok]
 cases hm:qQ L k 0 with
 |none=>
  rw[hm] at hf hg;simp only[Option.map_none] at hg;simp[getObj,Sem.run,hb,vm _ 9999 K q hK,Instr.findKey,run_underlying hK,hf,hz,<-hg]
 |some p=>
  rw[hm] at hf hg;simp only[Option.map_some] at hg;simp[getObj,Sem.run,hb,vm _ 9999 K q hK,Instr.findKey,run_underlying hK,hf,<-hg]
end
theorem Kf:∀(L:List (Int×Value)) (k:Int) (i j:Nat) (v:Value),qQ L k i=some (j,v)->i<=j/\L[j-i]? =some (k,v)/\∀u,Zx L k u=L.set (j-i) (k,u)
 |[],k,i,j,v,h=>by simp[qQ] at h
 |(a,u)::r,k,i,j,v,h=>by
  by_cases e:k=a
  ·simp only[qQ,e,if_true,qy,Prod.mk.injEq] at h;obtain⟨rfl,rfl⟩:=h;refine⟨Nat.le_refl _,by simp[e],λu'=>by simp[Zx,e]⟩
  ·simp only[qQ,e,if_false] at h;obtain⟨h1,h2,h3⟩:=Kf r k (i+1) j v h;have hj:j-i=(j-(i+1))+1:=jq;refine⟨jq,by rw[hj];simpa using h2,λu'=>by rw[hj];simp[Zx,e,h3 u']⟩
theorem KD:∀(L:List (Int×Value)) (k:Int) (i:Nat),qQ L k i=none->∀u,Zx L k u=L++[(k,u)]
 |[],k,i,_,u=>rfl
 |(a,v)::r,k,i,h,u=>by
  by_cases e:k=a
  ·simp[qQ,e] at h
  ·simp only[qQ,e,if_false] at h;simp[Zx,e,KD r k (i+1) h u]
section
variable {P:Program} {w:World} {B:Nat} {L:List (Int×Value)}
def World.setMap (w:World) (B:Nat) (o:Obj):World:={w with heap:=w.heap.setIfInBounds B o}
theorem Y9 (w:World) (B:Nat) (o:Obj):w.grownBy (World.setMap w B o) (some B):=
 ⟨rfl,rfl,rfl,by simp[World.setMap],λk _ hk=>by
  show(w.heap.setIfInBounds B o)[k]? =_;rw[Array.getElem?_setIfInBounds_ne (λe=>hk (by rw[e]))]⟩
theorem XP (w:World) (B:Nat) (o:Obj):(World.setMap w B o).heap.size=w.heap.size:=by simp[World.setMap]
theorem J7 (w:World) (B:Nat) (o:Obj) (h:B<w.heap.size):(World.setMap w B o).heap[B]? =some o:=by
 show(w.heap.setIfInBounds B o)[B]? =_;simp[h]
theorem DD (a b:Int) (h:a=b) (w:World):(Instr.keyThatStays (uy a) (uy b)).run P w= .ok (uy b) w:=by
 subst h;simp[Instr.keyThatStays,Instr.sameBits]
theorem Kt {K:TypeId} {q:IntKind} (hT:P.underlying T=some (.map K E)) (hK:P.underlying K=some (.int q)) (h:qe w B L) (k:Int) (v:Value):
  ∃w',(Instr.mapUpdate T (.map (some B)) (uy k) v).run P w= .ok () w'/\qe w' B (Zx L k v)/\w.grownBy w' (some B)/\w'.heap.size=w.heap.size:=by
 have f0:=h.lt;obtain⟨es,a0,hb,he,g0,d0,c0⟩:=h;have hf:=Jn q k es.toList L 0 he
 cases hm:qQ L k 0 with
 |none=>
  rw[hm] at hf;refine⟨World.setMap w B (.map (es.push {key:=uy k,val:=v,born:=a0}) (a0+1)),?_,?_,Y9 _ _ _,XP _ _ _⟩
  ·simp[Instr.mapUpdate,Sem.run_bind,run_underlying hT,getObj,setObj,Sem.run,hb,vm _ 9999 K q hK,Instr.findKey,run_underlying hK,hf,World.setMap]
  ·refine⟨_,_,J7 _ _ _ f0,?_,Vu _ _ _ g0,?_,?_⟩
   ·rw[KD L k 0 hm v];simp[he]
   ·simp only[Array.toList_push,vQ,List.map_cons,List.map_nil];rw[List.nodup_append];refine⟨d0,jv,λa ha b h0 e=> ?_⟩;obtain⟨x,hx,rfl⟩:=yU.1 ha;have:=c0 x hx;simp only[List.mem_singleton] at h0;omega
   ·intro e b0;simp only[Array.toList_push,List.mem_append,List.mem_singleton] at b0;rcases b0 with b0|rfl
    ·have:=c0 e b0;omega
    ·simp
 |some p=>
  obtain⟨j,u⟩:=p;rw[hm] at hf;obtain⟨_,h2,h3⟩:=Kf L k 0 j u hm;simp only[Nat.sub_zero] at h2 h3;have j0:(es[j]?).map (·.key)=some (uy k):=by
   have:=congrArg (λl=>l[j]?) he;simp only[List.getElem?_map,h2,Option.map_some] at this
   cases hj:es.toList[j]? with
   |none=>simp[hj] at this
   |some x=>
    simp only[hj,Option.map_some,qy,Prod.mk.injEq] at this;have:es[j]? =some x:=(by simpa using hj);rw[this];simp_all
  refine⟨World.setMap w B (.map (es.modify j λe=>{e with key:=uy k,val:=v}) a0),?_,?_,Y9 _ _ _,XP _ _ _⟩
  ·simp[Instr.mapUpdate,Sem.run_bind,run_underlying hT,getObj,setObj,Sem.run,hb,vm _ 9999 K q hK,Instr.findKey,run_underlying hK,hf,j0,DD _ _ rfl,World.setMap]
  ·refine⟨_,_,J7 _ _ _ f0,?_,Vu _ _ _ g0,?_,?_⟩
   ·rw[h3 v,Array.toList_modify];refine List.ext_getElem? λi=> ?_;have hi:=congrArg (λl=>l[i]?) he;simp only[List.getElem?_map] at hi⊢;rw[List.getElem?_modify,List.getElem?_set];by_cases e:j=i
    ·subst e;have i0:j<L.length:=(YN.1 h2).1;simp only[if_true,i0]
     cases hx:es.toList[j]? with
     |none=>rw[hx] at hi;simp[h2] at hi
     |some x=>simp
    ·simpa[e] using hi
   ·rw[Array.toList_modify];have:(es.toList.modify j λe=>{e with key:=uy k,val:=v}).map (·.born)=es.toList.map (·.born):=by
     refine List.ext_getElem? λi=> ?_;simp only[List.getElem?_map,List.getElem?_modify];split
     ·cases es.toList[i]? <;>simp
     ·simp
    rw[this];exact d0
   ·rw[Array.toList_modify];intro e b0;obtain⟨i,hi⟩:=List.mem_iff_getElem?.1 b0;rw[List.getElem?_modify] at hi
    cases hx:es.toList[i]? with
    |none=>simp[hx] at hi
    |some x=>
     have hc:=c0 x (vB hx);rw[hx] at hi;simp only[Option.map_eq_map,Option.map_some,qy] at hi;subst hi;split<;>exact hc
theorem ka (h:qe w B L) (t:TypeId) {K:TypeId} (hT:P.underlying T=some (.map K E)):(Builtin.len_ #[T] t #[.map (some B)]).run P w= .ok (uy L.length) w:=by
 obtain⟨es,a0,hb,he,_⟩:=h;have hl:es.size=L.length:=by simpa using congrArg List.length he
 simp[Builtin.len_,getObj,Sem.run,hb,hl,goInt,run_underlying hT]
end
section
variable {P:Program} {w:World} {B r:Nat} {L:List (Int×Value)} {seen:List Int}
theorem Vl {β:Type} {f:α->β}:∀{l:List α},(l.map f).Nodup->∀{x y:α},x∈l->y∈l->f x=f y->x=y
 |[],_,_,_,h,_,_=>by simp at h
 |a::l,hn,x,y,hx,hy,e=>by
  simp only[List.map_cons,List.nodup_cons] at hn;rcases List.mem_cons.1 hx with a0|a0<;>rcases List.mem_cons.1 hy with b0|b0
  ·rw[a0,b0]
  ·exact absurd (by rw[<-a0,e];exact List.mem_map_of_mem (f:=f) b0) hn.1
  ·exact absurd (by rw[<-b0,<-e];exact List.mem_map_of_mem (f:=f) a0) hn.1
  ·exact Vl hn.2 a0 b0 e
theorem Un:∀{L:List (Int×Value)} {k:Int} {v:Value},(L.map Prod.fst).Nodup->(k,v)∈L->YG L k=some v
 |[],_,_,_,h=>by simp at h
 |(a,u)::r,k,v,hn,h=>by
  simp only[List.map_cons,List.nodup_cons] at hn;rcases List.mem_cons.1 h with e|h
  ·cases e;simp[YG]
  ·have:k≠a:=λe=>hn.1 (e▸List.mem_map_of_mem (f:=Prod.fst) h);simp[YG,this,Un hn.2 h]
end
section
variable {P:Program} {w:World} {ops:Array Oper} {rest:List Oper} {o:Oper} {a:Act} {Q:Exit->Act->World->Prop} {B r:Nat} {L:List (Int×Value)} {T K E:TypeId} {q:IntKind}
theorem ZV (hg:o.guard=none) (m x y:Operand) (d0:o.op=Op.mapUpdate T m x y) (hT:P.underlying T=some (.map K E)) (hK:P.underlying K=some (.int q))
  (hm:a.eval m= .map (some B)) (b0:qe w B L) {k:Int} (hx:a.eval x=uy k) {v:Value} (hy:a.eval y=v)
  (h:∀w',qe w' B (Zx L k v)->w.grownBy w' (some B)->w'.heap.size=w.heap.size->wpList P ops Q rest (a.put o.dst (.tuple #[])) w'):wpList P ops Q (o::rest) a w:=by
 subst hy;refine wpList_plain hg λK' a0=> ?_;obtain⟨w',c0,h1,h2,h3⟩:=Kt (P:=P) hT hK b0 k (a.eval y);unfold Oper.wp;simp[execOp,d0,hm,hx,c0,Result.andThen];exact a0 _ _ (h w' h1 h2 h3)
end
end Go.Proofs.YtfclolgfegdfjaaGreat
