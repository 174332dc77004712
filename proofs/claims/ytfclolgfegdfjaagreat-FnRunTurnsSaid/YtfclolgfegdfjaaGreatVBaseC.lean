/- Part of a proof: BaseC. -/
import Derived.Test.YtfclolgfegdfjaaGreatVPB
set_option maxRecDepth 100000
set_option maxHeartbeats 16000000
namespace Go.Proofs.YtfclolgfegdfjaaGreat
open Go.RowKit
variable {w w':World} {B n k m c c2 sz:Nat} {a a2:uQ} {e:TypeId} {p:Pg} {vs xs:uZ}
def Gt:ByteArray:=⟨#[10]⟩
def Vo:ByteArray:=⟨#[44]⟩
def qS:ByteArray:=⟨#[116,104,114,101,97,100]⟩
def J4:ByteArray:=⟨#[115,101,109,115]⟩
def YP:ByteArray:=⟨#[103,114,111,117,112,115]⟩
def Zp:ByteArray:=⟨#[98,97,114,114,105,101,114,115]⟩
def X4:ByteArray:=⟨#[114,111,111,109,115]⟩
def Y8 (word:ByteArray) (l:List Int):Nat->ByteArray
 |0=>word
 |k+1=>Y8 word l k++uV++vd (l.getD k 0)
def qH (word:ByteArray) (l:List Int):ByteArray:=if l.length=0 then ⟨#[]⟩ else Y8 word l l.length++Gt
def ZL (s:ByteArray) (l:List xA):Nat->ByteArray
 |0=>s
 |k+1=>(if 0<k then ZL s l k++Vo else ZL s l k)++uV++qM (l.getD k qf)
def Jx (s:ByteArray) (ts:List (List xA)):Nat->ByteArray
 |0=>s
 |i+1=>ZL (Jx s ts i++qS) (ts.getD i []) (ts.getD i []).length++Gt
def uD (p:Pg):ByteArray:=qH J4 p.sems++qH YP p.groups++qH Zp p.barriers++qH X4 p.rooms
def uX (p:Pg):ByteArray:=if zD p=true then Jx (uD p) p.threads p.threads.length else ⟨#[]⟩
theorem yX {l:List Int} {lo hi:Int} (h:xl l lo hi=true):l.length<=3/\∀j,j<l.length->lo<=l.getD j 0/\l.getD j 0<=hi:=by
 unfold xl at h;simp only[Bool.and_eq_true,decide_eq_true_eq,List.all_eq_true] at h;refine⟨h.1,λj hj=> ?_⟩;have e:l.getD j 0=l[j]:=by simp[List.getD,hj]
 rw[e];exact h.2 _ (List.getElem_mem hj)
theorem uK (h:zD p=true):xl p.sems 1 9=true/\xl p.groups 0 9=true/\xl p.barriers 1 6=true/\xl p.rooms 0 4=true:=by
 unfold zD at h;simp only[Bool.and_eq_true] at h;exact⟨h.1.1.1.1.1.1,h.1.1.1.1.1.2,h.1.1.1.1.2,h.1.1.1.2⟩
theorem tG (hv:zD p=true) {o:xA} (h:zX p o=true):(0<=o.on/\o.on<=3)/\-9<=o.arg/\o.arg<=99:=by
 obtain⟨hk,b0,a0⟩:=ux h;obtain⟨h1,h2,h3,h4⟩:=uK hv;have l1:=(yX h1).1;have l2:=(yX h2).1;have l3:=(yX h3).1;have l4:=(yX h4).1;have c0:zN p o.kind<=3:=by
  unfold zN
  repeat' split
  all_goals omega
 refine⟨⟨b0.1,jq⟩,?_⟩;unfold j5 at a0;split at a0
 ·simp only[Bool.and_eq_true,decide_eq_true_eq] at a0;have hs:p.sems.getD o.on.toNat 0<=9:=by
   by_cases hi:o.on.toNat<p.sems.length
   ·exact((yX h1).2 _ hi).2
   ·rw[xm,List.getElem?_eq_none jq];simp
  omega
 ·split at a0
  ·simp only[Bool.and_eq_true,decide_eq_true_eq] at a0;omega
  ·split at a0
   ·unfold vS at a0;simp only[Bool.and_eq_true,decide_eq_true_eq] at a0;omega
   ·simp only[decide_eq_true_eq] at a0;omega
def ql (n:Int):Prop:= -9223372036854775808<=n/\n<=9223372036854775807
theorem Qq {word:ByteArray} {l:List Int} (hb:∀j,j<l.length->ql (l.getD j 0)):∀k,k<=l.length->(Y8 word l k).size<=word.size+21*k
 |0,_=>Nat.le_refl _
 |k+1,hk=>by
  have h:=Qq (word:=word) hb k jq;have h2:=YT _ (hb k jq).1 (hb k jq).2;have hs:uV.size=1:=rfl;show(Y8 word l k++uV++vd (l.getD k 0)).size<=_;rw[ByteArray.size_append,ByteArray.size_append];omega
theorem qY {word:ByteArray} {l:List Int} (hb:∀j,j<l.length->ql (l.getD j 0)) (hw:word.size<=8) (hl:l.length<=3):(qH word l).size<=72:=by
 unfold qH;split
 ·show 0<=72;omega
 ·have:=Qq (word:=word) hb l.length yk;have hs:Gt.size=1:=rfl;rw[ByteArray.size_append];omega
theorem QV {s:ByteArray} {l:List xA} (hb:∀j,j<l.length->ql (l.getD j qf).on/\ql (l.getD j qf).arg):∀k,k<=l.length->(ZL s l k).size<=s.size+51*k
 |0,_=>Nat.le_refl _
 |k+1,hk=>by
  have h:=QV (s:=s) hb k jq;have h2:=KF _ (hb k jq).1 (hb k jq).2;have hs:uV.size=1:=rfl;have hc:Vo.size=1:=rfl;show((if 0<k then ZL s l k++Vo else ZL s l k)++uV++qM (l.getD k qf)).size<=_;rw[ByteArray.size_append,ByteArray.size_append];split
  ·rw[ByteArray.size_append];omega
  ·omega
theorem Kh {s:ByteArray} {ts:List (List xA)} (h8:∀i,i<ts.length->(ts.getD i []).length<=8) (hb:∀i j,i<ts.length->j<(ts.getD i []).length->ql ((ts.getD i []).getD j qf).on/\ql ((ts.getD i []).getD j qf).arg):
  ∀i,i<=ts.length->(Jx s ts i).size<=s.size+415*i
 |0,_=>Nat.le_refl _
 |i+1,hi=>by
  have h:=Kh (s:=s) h8 hb i jq;have h2:=QV (s:=Jx s ts i++qS) (λj hj=>hb i j jq hj) (ts.getD i []).length yk;have h3:=h8 i jq;have hs:qS.size=6:=rfl;have hc:Gt.size=1:=rfl;show(ZL (Jx s ts i++qS) (ts.getD i []) (ts.getD i []).length++Gt).size<=_;rw[ByteArray.size_append];rw[ByteArray.size_append] at h2;omega
theorem Jq (word:ByteArray) (a:uQ) (n c:Nat) (l:List Int) (w:World) (hl:l.length=n) (hn:n<=1000) (hw:word.size<=100) (hr:Rd w a (zf l)) (hb:∀j,j<l.length->ql (l.getD j 0)):
  Calls Tryz.prog 175 #[.string word,.slice a n c] w λe w'=>e= .returned (.string (qH word l))/\xW w w':=by
 have HL:=zd hl;have d0:uV.size=1:=rfl;have c0:Gt.size=1:=rfl;have HB:=zd hb;by_cases h0:n=0
 ·have HR:uH (qH word l=⟨#[]⟩):=zd (by unfold qH;rw[if_pos jq]);have t0:((n:Int)==0)=true:=by simp;omega
  clear hl hb d0 c0;go_enter Tryz.func175,Tryz.ntmps175;go_wp2;go_ret;exact⟨Zg HR.o.symm,Below.refl _ _⟩
 ·have HR:uH (qH word l=Y8 word l n++Gt):=zd (by unfold qH;rw[if_neg jq,hl]);have t0:((n:Int)==0)=false:=by simp;omega
  have m0:=zd d0;have l0:=zd c0;have k0:=zd hr;clear hl hb d0 c0 hr;go_enter Tryz.func175,Tryz.ntmps175;go_wp2
  go_loopw [5,6] (λvo vi wr=>∃k:Nat,k<=n/\vi=uy k/\vo= .string (Y8 word l k)/\xW w wr) (λ_ vi _=>n-(intOf vi).toNat)
  case atStart=>exact⟨0,jq,rfl,rfl,Below.refl _ _⟩
  case round=>
   obtain⟨k,hk,rfl,rfl,a0⟩:=hrel;have i0:=Qq (word:=word) HB.o k (jQ HL.o);by_cases n0:k<n
   ·obtain⟨b,o,rfl,hc⟩:=(k0.out.below a0).int (jQ HL.o);have g1:=hc k (jQ HL.o);have b0:=HB.o k (jQ HL.o);have j0:=YT _ b0.1 b0.2;obtain⟨x,hx⟩:=jy (l.getD k 0);rw[<-hx] at g1 b0 j0;have HX:=zd hx;have f0:=zd b0;have s1:=λ(W:World)=>run_string_add_sum (P:=Tryz.prog) (w:=W) (Y8 word l k) ⟨#[32]⟩ (by have:(⟨#[32]⟩:ByteArray).size=1:=rfl;omega);have s2:=λ(W:World)=>run_string_add_sum (P:=Tryz.prog) (w:=W) (Y8 word l k++⟨#[32]⟩) (vd x) (by rw[ByteArray.size_append];have:(⟨#[32]⟩:ByteArray).size=1:=rfl;omega);clear hc hx b0 j0 i0;go_wp2_with fail;refine(YZ x _ f0.out.1 f0.out.2).mono ?_;rintro e w2 ⟨rfl,g0⟩;replace a0:=a0.trans (g0.mono a0.size);clear g0;go_wp2
    go_roundw
    case rel=>exact⟨k+1,jq,by go_num,by rw[HX.o];rfl,a0⟩
    case measure=>exact uq
   ·obtain rfl:n=k:=jq;have s3:=λ(W:World)=>run_string_add_sum (P:=Tryz.prog) (w:=W) (Y8 word l n) ⟨#[10]⟩ (by have:(⟨#[10]⟩:ByteArray).size=1:=rfl;omega);clear i0;go_wp2;go_ret;exact⟨Zg HR.o.symm,a0⟩
def qA (k:Int) (nums:List Int):Option xA:=
 if uI k=0/\nums.length=1 then some ⟨k,0,nums.getD 0 0⟩
 else if uI k=1/\nums.length=1 then some ⟨k,nums.getD 0 0,0⟩
 else if uI k=2/\nums.length=2 then some ⟨k,nums.getD 0 0,nums.getD 1 0⟩
 else none
abbrev QO:xA:=⟨0,0,0⟩
theorem gV (k:Int):uI k=0\/uI k=1\/uI k=2:=by
 unfold uI
 repeat' split
 all_goals simp
theorem QU (k:Int) (a:uQ) (n c:Nat) (a0:List Int) (w:World) (hl:a0.length=n) (hn:n<=100) (hr:Rd w a (zf a0)):
  Calls Tryz.prog 179 #[uy k,.slice a n c] w λe w'=>e= .returned (.tuple #[.agg #[uy ((qA k a0).getD QO).kind,uy ((qA k a0).getD QO).on,uy ((qA k a0).getD QO).arg],.bool (qA k a0).isSome])/\xW w w':=by
 obtain⟨W0,i0⟩:∃W0:World,W0=((w.alloc (.cells #[uy 0,uy 0,uy 0] 68)).alloc (.cells #[uy k,uy 0,uy 0] 68)):=⟨_,rfl⟩
 have b0:xW w ((w.alloc (.cells #[uy 0,uy 0,uy 0] 68)).alloc (.cells #[uy k,uy 0,uy 0] 68)):=(zY).alloc jv _;have HR:=zd hr;have HL:=zd hl;have f0:=hr.below b0;clear hr hl;rcases gV k with ha|ha|ha
 ·by_cases h0:n=1
  ·subst h0;obtain⟨b,o,rfl,hc⟩:=f0.int (by rw[HL.o];decide);have g0:=hc 0 (by rw[HL.o];decide);rw[Nat.add_zero] at g0;obtain⟨x0,d0⟩:=jy (a0.getD 0 0);rw[<-d0] at g0;have HM:uH (qA k a0=some ⟨k,0,x0⟩):=zd (by unfold qA;rw[if_pos ⟨ha,HL.o⟩];rw[d0]);have HA:=zd ha;clear ha hc d0 f0 i0 b0;go_enter Tryz.func179,Tryz.ntmps179;go_wp2_with fail;refine(xE k _).mono ?_;rintro e w0 ⟨rfl,hw⟩;have c0:=hw.symm;subst c0;rw[HA.o];go_wp2;refine zM (v:= .tuple #[.agg #[uy k,uy 0,uy x0],.bool true]) (by simp[results,Tryz.results179,go_sem]) rfl ⟨by rw[HM.o];rfl,?_⟩
   repeat (first|exact Below.refl _ _|refine Below.alloc ?_ (by simp<;>omega) _|refine Below.setCell ?_ (by simp<;>omega) _)
  have t0:((n:Int)==1)=false:=beq_eq_false_iff_ne.2 jq;have HM:uH (qA k a0=none):=zd (by unfold qA;rw[if_neg (λh=>by have:=h.1;have:=h.2;have:=HL.o;omega),if_neg (λh=>by have:=h.1;have:=h.2;have:=HL.o;omega),if_neg (λh=>by have:=h.1;have:=h.2;have:=HL.o;omega)]);have HA:=zd ha;clear ha f0 i0 b0 h0;go_enter Tryz.func179,Tryz.ntmps179;go_wp2_with fail;refine(xE k _).mono ?_;rintro e w0 ⟨rfl,hw⟩;have c0:=hw.symm;subst c0;rw[HA.o];go_wp2_with fail;refine(xE k _).mono ?_;rintro e w1 ⟨rfl,hw⟩;have c0:=hw.symm;subst c0;rw[HA.o];go_wp2_with fail;refine(xE k _).mono ?_;rintro e w2 ⟨rfl,hw⟩;have c0:=hw.symm;subst c0;rw[HA.o];go_wp2;refine zM (v:= .tuple #[.agg #[uy 0,uy 0,uy 0],.bool false]) (by simp[results,Tryz.results179,go_sem]) rfl ⟨by rw[HM.o];rfl,?_⟩
  repeat (first|exact Below.refl _ _|refine Below.alloc ?_ (by simp<;>omega) _|refine Below.setCell ?_ (by simp<;>omega) _)
 ·by_cases h0:n=1
  ·subst h0;obtain⟨b,o,rfl,hc⟩:=f0.int (by rw[HL.o];decide);have g0:=hc 0 (by rw[HL.o];decide);rw[Nat.add_zero] at g0;obtain⟨x0,d0⟩:=jy (a0.getD 0 0);rw[<-d0] at g0;have HM:uH (qA k a0=some ⟨k,x0,0⟩):=zd (by unfold qA;rw[if_neg (λh=>by have:=h.1;omega),if_pos ⟨ha,HL.o⟩];rw[d0]);have HA:=zd ha;clear ha hc d0 f0 i0 b0;go_enter Tryz.func179,Tryz.ntmps179;go_wp2_with fail;refine(xE k _).mono ?_;rintro e w0 ⟨rfl,hw⟩;have c0:=hw.symm;subst c0;rw[HA.o];go_wp2_with fail;refine(xE k _).mono ?_;rintro e w1 ⟨rfl,hw⟩;have c0:=hw.symm;subst c0;rw[HA.o];go_wp2;refine zM (v:= .tuple #[.agg #[uy k,uy x0,uy 0],.bool true]) (by simp[results,Tryz.results179,go_sem]) rfl ⟨by rw[HM.o];rfl,?_⟩
   repeat (first|exact Below.refl _ _|refine Below.alloc ?_ (by simp<;>omega) _|refine Below.setCell ?_ (by simp<;>omega) _)
  have t0:((n:Int)==1)=false:=beq_eq_false_iff_ne.2 jq;have HM:uH (qA k a0=none):=zd (by unfold qA;rw[if_neg (λh=>by have:=h.1;have:=h.2;have:=HL.o;omega),if_neg (λh=>by have:=h.1;have:=h.2;have:=HL.o;omega),if_neg (λh=>by have:=h.1;have:=h.2;have:=HL.o;omega)]);have HA:=zd ha;clear ha f0 i0 b0 h0;go_enter Tryz.func179,Tryz.ntmps179;go_wp2_with fail;refine(xE k _).mono ?_;rintro e w0 ⟨rfl,hw⟩;have c0:=hw.symm;subst c0;rw[HA.o];go_wp2_with fail;refine(xE k _).mono ?_;rintro e w1 ⟨rfl,hw⟩;have c0:=hw.symm;subst c0;rw[HA.o];go_wp2_with fail;refine(xE k _).mono ?_;rintro e w2 ⟨rfl,hw⟩;have c0:=hw.symm;subst c0;rw[HA.o];go_wp2;refine zM (v:= .tuple #[.agg #[uy 0,uy 0,uy 0],.bool false]) (by simp[results,Tryz.results179,go_sem]) rfl ⟨by rw[HM.o];rfl,?_⟩
  repeat (first|exact Below.refl _ _|refine Below.alloc ?_ (by simp<;>omega) _|refine Below.setCell ?_ (by simp<;>omega) _)
 ·by_cases h0:n=2
  ·subst h0;obtain⟨b,o,rfl,hc⟩:=f0.int (by rw[HL.o];decide);have g0:=hc 0 (by rw[HL.o];decide);have k0:∀x:Int,xW w ((w.alloc (.cells #[uy 0,uy 0,uy 0] 68)).alloc (.cells #[uy k,uy x,uy 0] 68)):=λx=>(zY).alloc jv _;obtain⟨b',o',eb,l0⟩:=HR.o.int (by rw[HL.o];decide);obtain⟨rfl,rfl⟩:b=b'/\o=o':=by simpa using eb
   have g1:=ze (k0 (a0.getD 0 0)) (l0 1 (by rw[HL.o];decide));clear l0 eb k0;rw[Nat.add_zero] at g0;obtain⟨x0,d0⟩:=jy (a0.getD 0 0);rw[<-d0] at g0 g1;obtain⟨x1,j0⟩:=jy (a0.getD 1 0);rw[<-j0] at g1;have HM:uH (qA k a0=some ⟨k,x0,x1⟩):=zd (by unfold qA;rw[if_neg (λh=>by have:=h.1;omega),if_neg (λh=>by have:=h.1;omega),if_pos ⟨ha,HL.o⟩];rw[d0,j0]);have HA:=zd ha;clear ha hc d0 j0 f0 i0 b0;go_enter Tryz.func179,Tryz.ntmps179;go_wp2_with fail;refine(xE k _).mono ?_;rintro e w0 ⟨rfl,hw⟩;have c0:=hw.symm;subst c0;rw[HA.o];go_wp2_with fail;refine(xE k _).mono ?_;rintro e w1 ⟨rfl,hw⟩;have c0:=hw.symm;subst c0;rw[HA.o];go_wp2_with fail;refine(xE k _).mono ?_;rintro e w2 ⟨rfl,hw⟩;have c0:=hw.symm;subst c0;rw[HA.o];go_wp2;refine zM (v:= .tuple #[.agg #[uy k,uy x0,uy x1],.bool true]) (by simp[results,Tryz.results179,go_sem]) rfl ⟨by rw[HM.o];rfl,?_⟩
   repeat (first|exact Below.refl _ _|refine Below.alloc ?_ (by simp<;>omega) _|refine Below.setCell ?_ (by simp<;>omega) _)
  have t0:((n:Int)==2)=false:=beq_eq_false_iff_ne.2 jq;have HM:uH (qA k a0=none):=zd (by unfold qA;rw[if_neg (λh=>by have:=h.1;have:=h.2;have:=HL.o;omega),if_neg (λh=>by have:=h.1;have:=h.2;have:=HL.o;omega),if_neg (λh=>by have:=h.1;have:=h.2;have:=HL.o;omega)]);have HA:=zd ha;clear ha f0 i0 b0 h0;go_enter Tryz.func179,Tryz.ntmps179;go_wp2_with fail;refine(xE k _).mono ?_;rintro e w0 ⟨rfl,hw⟩;have c0:=hw.symm;subst c0;rw[HA.o];go_wp2_with fail;refine(xE k _).mono ?_;rintro e w1 ⟨rfl,hw⟩;have c0:=hw.symm;subst c0;rw[HA.o];go_wp2_with fail;refine(xE k _).mono ?_;rintro e w2 ⟨rfl,hw⟩;have c0:=hw.symm;subst c0;rw[HA.o];go_wp2;refine zM (v:= .tuple #[.agg #[uy 0,uy 0,uy 0],.bool false]) (by simp[results,Tryz.results179,go_sem]) rfl ⟨by rw[HM.o];rfl,?_⟩
  repeat (first|exact Below.refl _ _|refine Below.alloc ?_ (by simp<;>omega) _|refine Below.setCell ?_ (by simp<;>omega) _)
theorem tM:(Tryz.prog.info? 9).map (λi=>(i.zero,i.size,i.bytes))=some (some (.string ⟨#[]⟩),1,16):=by kernel_rfl
def byteAt (s:ByteArray) (i:Nat):Int:=if h:i<s.size then (s[i].toNat:Int) else 0
def xY (s:ByteArray) (c:Int):Nat->List ByteArray×Nat
 |0=>([],0)
 |i+1=>if i=s.size\/byteAt s i=c then ((xY s c i).1++[s.extract (xY s c i).2 i],i+1) else xY s c i
def Zz (s:ByteArray) (c:Int):List ByteArray:=(xY s c (s.size+1)).1
abbrev Z7 (l:List ByteArray):uZ:=l.map Value.string
theorem JP (s:ByteArray) (c:Int):∀i,(xY s c i).2<=i/\(xY s c i).1.length<=i
 |0=>⟨Nat.le_refl _,Nat.le_refl _⟩
 |i+1=>by
  have h:=JP s c i;show(if i=s.size\/byteAt s i=c then ((xY s c i).1++[s.extract (xY s c i).2 i],i+1) else xY s c i).2<=i+1/\(if i=s.size\/byteAt s i=c then ((xY s c i).1++[s.extract (xY s c i).2 i],i+1) else xY s c i).1.length<=i+1;split
  ·exact⟨Nat.le_refl _,by rw[xp];show _+1<=_;omega⟩
  ·omega
theorem Xh (s:ByteArray) (c:Int):∀i,∀x∈(xY s c i).1,x.size<=s.size
 |0,x,hx=>by cases hx
 |i+1,x,hx=>by
  have h:=Xh s c i;have a0:x∈(if i=s.size\/byteAt s i=c then ((xY s c i).1++[s.extract (xY s c i).2 i],i+1) else xY s c i).1:=hx;split at a0
  ·rcases xM a0 with h'|h'
   ·exact h x h'
   ·obtain rfl:=yh h';rw[ByteArray.size_extract];omega
  ·exact h x a0
theorem Q3 (s:ByteArray) (c:Int):1<=(Zz s c).length:=by
 unfold Zz;show 1<=(if s.size=s.size\/byteAt s s.size=c then ((xY s c s.size).1++[s.extract (xY s c s.size).2 s.size],s.size+1) else xY s c s.size).1.length;rw[if_pos (.inl rfl),xp];show 1<=_+1;omega
theorem Jk (s:ByteArray) (c:Int) (w:World) (hs:s.size<=4294967296):
  Calls Tryz.prog 147 #[.string s,.int .u8 c] w λe w'=>∃(a:uQ) (cap:Nat),e= .returned (.slice a (Zz s c).length cap)/\w'.ownsRow w.heap.size 9 1 (.slice a (Zz s c).length cap) (Zz s c).length (Z7 (Zz s c))/\xW w w':=by
 go_enter Tryz.func147,Tryz.ntmps147;go_wp2
 go_loopw [5,6,7] (λvo vf vi wr=>∃(i f n:Nat) (a:uQ) (cap:Nat),i<=s.size+1/\f<=i/\n<=i/\vi=uy i/\vf=uy f/\vo= .slice a n cap/\uH (f=(xY s c i).2/\n=(xY s c i).1.length)/\wr.ownsRow w.heap.size 9 1 (.slice a n cap) n (Z7 (xY s c i).1)/\xW w wr) (λ_ _ vi _=>s.size+1-(intOf vi).toNat)
 case atStart=>exact⟨0,0,0,_,_,jq,jq,jq,rfl,rfl,rfl,zd ⟨rfl,rfl⟩,yg _ _ _,zY⟩
 case round=>
  obtain⟨i,f,n,a,cap,hi,hf,hn,rfl,rfl,rfl,i0,b0,hb⟩:=hrel;by_cases m0:i<=s.size
  ·have hS:=hb.size;by_cases a0:i=s.size\/byteAt s i=c
   ·have d0:uH (xY s c (i+1)=((xY s c i).1++[s.extract f i],i+1)):=zd (by
     show(if i=s.size\/byteAt s i=c then ((xY s c i).1++[s.extract (xY s c i).2 i],i+1) else xY s c i)=_;rw[if_pos a0,<-i0.out.1])
    have h0:=zd b0;by_cases he:i=s.size
    ·have t0:((i:Int)==(s.size:Int))=true:=by simp;omega
     have l0:∀W:World,(Instr.slice 9 (.string s) (some (uy f)) (some (uy i)) none).run Tryz.prog W= .ok (.string (s.extract f i)) W:=λW=>by
      have:=run_slice_string (P:=Tryz.prog) W 9 s .i64 .i64 (f:Int) (i:Int) Tryz.underlying9 jq jq jq;simpa using this
     clear a0 he;go_wp2_with (at_builtin;refine yF (news:=[.string (s.extract f i)]) rfl _ _ 163 rfl Tryz.underlying163 tM rfl jk rfl b0 rfl rfl rfl (by simp[Value.oneCell']) jq jk hS ?_;intro a3 c3 w3 c0 f0;clear b0)
     go_roundw
     case rel=>
      refine⟨i+1,i+1,n+1,a3,c3,jq,jq,jq,by go_num,by go_num,rfl,zd ⟨by rw[d0.out],by rw[d0.out,xp,<-i0.out.2];rfl⟩,?_,hb.trans (zG f0 hS (λq hq=>(zy h0.out q hq).1))⟩;rw[d0.out];simpa[Z7] using c0
     case measure=>exact uq
    ·have t0:((i:Int)==(s.size:Int))=false:=by simp;omega
     have g0:i<s.size:=jq;have t1:((s[i].toNat:Int)==c)=true:=by
      rcases a0 with h|h
      ·exact absurd h he
      ·unfold byteAt at h;rw[dif_pos g0] at h;simpa using h
     have l0:∀W:World,(Instr.slice 9 (.string s) (some (uy f)) (some (uy i)) none).run Tryz.prog W= .ok (.string (s.extract f i)) W:=λW=>by
      have:=run_slice_string (P:=Tryz.prog) W 9 s .i64 .i64 (f:Int) (i:Int) Tryz.underlying9 jq jq jq;simpa using this
     clear a0 he;go_wp2_with (at_builtin;refine yF (news:=[.string (s.extract f i)]) rfl _ _ 163 rfl Tryz.underlying163 tM rfl jk rfl b0 rfl rfl rfl (by simp[Value.oneCell']) jq jk hS ?_;intro a3 c3 w3 c0 f0;clear b0)
     go_roundw
     case rel=>
      refine⟨i+1,i+1,n+1,a3,c3,jq,jq,jq,by go_num,by go_num,rfl,zd ⟨by rw[d0.out],by rw[d0.out,xp,<-i0.out.2];rfl⟩,?_,hb.trans (zG f0 hS (λq hq=>(zy h0.out q hq).1))⟩;rw[d0.out];simpa[Z7] using c0
     case measure=>exact uq
   ·have j0:¬i=s.size:=λh=>a0 (.inl h);have g0:i<s.size:=jq;have t0:((i:Int)==(s.size:Int))=false:=by simp;omega
    have t1:((s[i].toNat:Int)==c)=false:=by
     have h:¬byteAt s i=c:=λh=>a0 (.inr h);unfold byteAt at h;rw[dif_pos g0] at h;simpa using h
    have d0:uH (xY s c (i+1)=xY s c i):=zd (by
     show(if i=s.size\/byteAt s i=c then ((xY s c i).1++[s.extract (xY s c i).2 i],i+1) else xY s c i)=_;rw[if_neg a0])
    clear a0 j0;go_wp2
    go_roundw
    case rel=>exact⟨i+1,f,n,a,cap,jq,jq,jq,by go_num,rfl,rfl,zd (by rw[d0.out];exact i0.out),by rw[d0.out];exact b0,hb⟩
    case measure=>exact uq
  ·obtain rfl:i=s.size+1:=jq;have k0:n=(Zz s c).length:=i0.out.2;subst k0;go_wp2;go_ret;exact⟨a,cap,rfl,b0,hb⟩
def jS (t:ByteArray):Nat->Option Int
 |0=>some 0
 |k+1=>match jS t k with
  |none=>none
  |some n=>if 48<=byteAt t k/\byteAt t k<=57 then some (n*10+(byteAt t k-48)) else none
def vl (t:ByteArray) (neg:Bool):Option Int:=
 if t.size=0\/17<t.size\/(byteAt t 0=48/\(1<t.size\/neg=true)) then none else (jS t t.size).map λn=>if neg=true then-n else n
def jL (s:ByteArray):Option Int:=if 0<s.size/\byteAt s 0=45 then vl (s.extract 1 s.size) true else vl s false
theorem uT {t:ByteArray} {k:Nat}:∀{m:Nat},k<=m->jS t k=none->jS t m=none
 |0,h,hn=>by(obtain rfl:k=0:=by omega);exact hn
 |m+1,h,hn=>by
  rcases Nat.lt_or_ge m k with hc|hc
  ·obtain rfl:k=m+1:=jq;exact hn
  ·have:=uT (m:=m) hc hn;show(match jS t m with|none=>none|some n=>if 48<=byteAt t m/\byteAt t m<=57 then some (n*10+(byteAt t m-48)) else none)=none;rw[this]
theorem Z5 {t:ByteArray}:∀{k:Nat} {n:Int},jS t k=some n->0<=n/\n<10^ k
 |0,n,h=>by
  have:n=0:=by simpa[jS] using h.symm
  omega
 |k+1,n,h=>by
  have h':(match jS t k with|none=>none|some n=>if 48<=byteAt t k/\byteAt t k<=57 then some (n*10+(byteAt t k-48)) else none)=some n:=h
  cases hd:jS t k with
  |none=>rw[hd] at h';cases h'
  |some m=>
   rw[hd] at h';have hb:=Z5 hd;simp only at h';split at h'
   ·have e:m*10+(byteAt t k-48)=n:=(by simpa using h');rw[Int.pow_succ];omega
   ·cases h'
theorem Jp (s:ByteArray) (w:World) (hs:s.size<=4294967296):
  Calls Tryz.prog 173 #[.string s] w λe w'=>e= .returned (.tuple #[uy ((jL s).getD 0),.bool (jL s).isSome])/\w'=w:=by
 by_cases h0:s.size=0
 ·have HR:uH (jL s=none):=zd (by unfold jL;rw[if_neg jq];unfold vl;rw[if_pos (.inl h0)]);have d0:decide (0<s.size)=false:=xr jq;have A0:decide ((0:Int)<(s.size:Int))=false:=xr jq;have d1:((s.size:Int)==0)=true:=by rw[h0];rfl
  clear h0 hs;go_enter Tryz.func173,Tryz.ntmps173;go_wp2
  go_ret2
  exact⟨by rw[HR.o];rfl,rfl⟩
 have hp:0<s.size:=jq;have d0:decide (0<s.size)=true:=by simpa using hp
 have A0:decide ((0:Int)<(s.size:Int))=true:=by simpa using hp
 have eB:byteAt s 0=(s[0].toNat:Int):=by unfold byteAt;rw[dif_pos hp]
 rcases Bool.eq_false_or_eq_true ((s[0].toNat:Int)==45) with r0|r0
 ·obtain⟨T,hT⟩:=jy (s.extract 1 s.size);have HN:uH (jL s=vl T true):=zd (by unfold jL;rw[if_pos ⟨hp,by rw[eB];simpa using r0⟩,hT]);have t0:T.size=s.size-1:=by rw[hT,ByteArray.size_extract];omega
  have D0:(1:Int)<=(s.size:Int):=jq;have E0:¬(s.size:Int)<1:=jq;have F0:∀W:World,(Instr.slice 9 (.string s) (some (uy 1)) none none).run Tryz.prog W= .ok (.string T) W:=λW=>by
   rw[hT];go_simp
  have C0:=zd t0;have B0:T.size<=4294967296:=jq;clear hT t0 eB;by_cases e0:T.size=0
  ·have HR:uH (jL s=none):=zd (by rw[HN.o];unfold vl;rw[if_pos (.inl e0)]);have x0:((T.size:Int)==0)=true:=by rw[e0];rfl
   clear e0;go_enter Tryz.func173,Tryz.ntmps173;go_wp2
   go_ret2
   exact⟨by rw[HR.o];rfl,rfl⟩
  have x0:((T.size:Int)==0)=false:=beq_eq_false_iff_ne.2 jq;have s0:0<T.size:=jq;have eT:byteAt T 0=(T[0].toNat:Int):=by unfold byteAt;rw[dif_pos s0]
  by_cases i0:17<T.size
  ·have HR:uH (jL s=none):=zd (by rw[HN.o];unfold vl;rw[if_pos (.inr (.inl i0))]);have x1:decide ((17:Int)<(T.size:Int))=true:=by simp;omega
   clear i0 eT;go_enter Tryz.func173,Tryz.ntmps173;go_wp2
   go_ret2
   exact⟨by rw[HR.o];rfl,rfl⟩
  have x1:decide ((17:Int)<(T.size:Int))=false:=by simp;omega
  rcases Bool.eq_false_or_eq_true ((T[0].toNat:Int)==48) with x2|x2
  ·have HR:uH (jL s=none):=zd (by rw[HN.o];unfold vl;rw[if_pos (.inr (.inr ⟨by rw[eT];simpa using x2,.inr rfl⟩))]);clear i0 eT;go_enter Tryz.func173,Tryz.ntmps173;go_wp2
   all_goals (go_ret2;exact⟨by rw[HR.o];rfl,rfl⟩)
  have b0:¬(T.size=0\/17<T.size\/(byteAt T 0=48/\(1<T.size\/true=true))):=by
   rintro(h|h|⟨h,-⟩)
   ·omega
   ·omega
   ·rw[eT] at h;rw[h] at x2;simp at x2
  have HR:uH (jL s=(jS T T.size).map λn=>if true=true then-n else n):=zd (by rw[HN.o];unfold vl;rw[if_neg b0]);have u0:T.size<=17:=jq;clear b0 eT i0;go_enter Tryz.func173,Tryz.ntmps173;go_wp2
  go_loop [5,6] (λvn vi=>∃(k:Nat) (n:Int),k<=T.size/\vi=uy k/\vn=uy n/\0<=n/\n<=2000000000000000000/\uH (jS T k=some n)) (λ_ vi=>T.size-(intOf vi).toNat)
  case atStart=>exact⟨0,0,jq,rfl,rfl,jq,jq,zd rfl⟩
  case round=>
   obtain⟨k,n,hk,rfl,rfl,v0,q0,hd⟩:=hrel;have m0:=Z5 hd.out;have z0:n<=100000000000000000:=by
    have h1:(10:Int)^ k<=10^ 17:=(by exact_mod_cast Nat.pow_le_pow_right jk (by omega:k<=17));have h2:(10:Int)^ 17=100000000000000000:=jk;omega
   clear m0 q0;by_cases p0:k<T.size
   ·have eK:byteAt T k=(T[k].toNat:Int):=by unfold byteAt;rw[dif_pos p0]
    have c0:jS T (k+1)=if 48<=byteAt T k/\byteAt T k<=57 then some (n*10+(byteAt T k-48)) else none:=by
     show(match jS T k with|none=>none|some n=>if 48<=byteAt T k/\byteAt T k<=57 then some (n*10+(byteAt T k-48)) else none)=_;rw[hd.out]
    rw[eK] at c0;obtain⟨b,a0⟩:∃b:Nat,b=T[k].toNat:=⟨_,rfl⟩
    have j0:b<256:=by rw[a0];exact T[k].toNat_lt
    rw[<-a0] at c0;by_cases o0:b<48
    ·have f0:uH (jL s=none):=zd (by rw[HR.o,uT (k:=k+1) jq (by rw[c0,if_neg jq])];rfl);have y0:decide ((T[k].toNat:Int)<48)=true:=by rw[<-a0];simp;omega
     clear c0 a0 eK;go_wp2
     all_goals (go_ret2;exact⟨by rw[f0.out];rfl,rfl⟩)
    ·by_cases n0:57<b
     ·have f0:uH (jL s=none):=zd (by rw[HR.o,uT (k:=k+1) jq (by rw[c0,if_neg jq])];rfl);have y0:decide ((T[k].toNat:Int)<48)=false:=by rw[<-a0];simp;omega
      have y1:decide ((57:Int)<(T[k].toNat:Int))=true:=by rw[<-a0];simp;omega
      clear c0 a0 eK;go_wp2
      all_goals (go_ret2;exact⟨by rw[f0.out];rfl,rfl⟩)
     ·have l0:uH (jS T (k+1)=some (n*10+((T[k].toNat:Int)-48))):=zd (by rw[c0,if_pos jq,a0]);have y0:decide ((T[k].toNat:Int)<48)=false:=by rw[<-a0];simp;omega
      have y1:decide ((57:Int)<(T[k].toNat:Int))=false:=by rw[<-a0];simp;omega
      have g0:(48:Int)<=(T[k].toNat:Int):=jq;have g1:(T[k].toNat:Int)<=57:=jq;clear c0 a0 eK o0 n0;go_wp2
      go_round
      case rel=>exact⟨k+1,n*10+((T[k].toNat:Int)-48),jq,by go_num,rfl,jq,jq,l0⟩
      case measure=>exact uq
   ·have k0:k=T.size:=jq;rw[k0] at hd;clear k0;have f0:uH (jL s=some (-n)):=zd (by rw[HR.o,hd.out];rfl);go_wp2
    go_ret2
    exact⟨by rw[f0.out];rfl,rfl⟩
 have HN:uH (jL s=vl s false):=zd (by unfold jL;rw[if_neg (λh=>by have:=h.2;rw[eB] at this;rw[this] at r0;simp at r0)]);clear eB;have x0:((s.size:Int)==0)=false:=beq_eq_false_iff_ne.2 jq;have s0:0<s.size:=jq;have eT:byteAt s 0=(s[0].toNat:Int):=by unfold byteAt;rw[dif_pos s0]
 by_cases i0:17<s.size
 ·have HR:uH (jL s=none):=zd (by rw[HN.o];unfold vl;rw[if_pos (.inr (.inl i0))]);have x1:decide ((17:Int)<(s.size:Int))=true:=by simp;omega
  clear i0 eT;go_enter Tryz.func173,Tryz.ntmps173;go_wp2
  go_ret2
  exact⟨by rw[HR.o];rfl,rfl⟩
 have x1:decide ((17:Int)<(s.size:Int))=false:=by simp;omega
 rcases Bool.eq_false_or_eq_true ((s[0].toNat:Int)==48) with x2|x2
 ·by_cases e1:1<s.size
  ·have HR:uH (jL s=none):=zd (by rw[HN.o];unfold vl;rw[if_pos (.inr (.inr ⟨by rw[eT];simpa using x2,.inl e1⟩))]);have x3:decide ((1:Int)<(s.size:Int))=true:=by simp;omega
   clear i0 eT e1;go_enter Tryz.func173,Tryz.ntmps173;go_wp2
   go_ret2
   exact⟨by rw[HR.o];rfl,rfl⟩
  have x3:decide ((1:Int)<(s.size:Int))=false:=by simp;omega
  have b0:¬(s.size=0\/17<s.size\/(byteAt s 0=48/\(1<s.size\/false=true))):=by
   rintro(h|h|⟨-,h|h⟩)
   ·omega
   ·omega
   ·omega
   ·cases h
  clear e1;have HR:uH (jL s=(jS s s.size).map λn=>if false=true then-n else n):=zd (by rw[HN.o];unfold vl;rw[if_neg b0]);have u0:s.size<=17:=jq;clear b0 eT i0;go_enter Tryz.func173,Tryz.ntmps173;go_wp2
  go_loop [5,6] (λvn vi=>∃(k:Nat) (n:Int),k<=s.size/\vi=uy k/\vn=uy n/\0<=n/\n<=2000000000000000000/\uH (jS s k=some n)) (λ_ vi=>s.size-(intOf vi).toNat)
  case atStart=>exact⟨0,0,jq,rfl,rfl,jq,jq,zd rfl⟩
  case round=>
   obtain⟨k,n,hk,rfl,rfl,v0,q0,hd⟩:=hrel;have m0:=Z5 hd.out;have z0:n<=100000000000000000:=by
    have h1:(10:Int)^ k<=10^ 17:=(by exact_mod_cast Nat.pow_le_pow_right jk (by omega:k<=17));have h2:(10:Int)^ 17=100000000000000000:=jk;omega
   clear m0 q0;by_cases p0:k<s.size
   ·have eK:byteAt s k=(s[k].toNat:Int):=by unfold byteAt;rw[dif_pos p0]
    have c0:jS s (k+1)=if 48<=byteAt s k/\byteAt s k<=57 then some (n*10+(byteAt s k-48)) else none:=by
     show(match jS s k with|none=>none|some n=>if 48<=byteAt s k/\byteAt s k<=57 then some (n*10+(byteAt s k-48)) else none)=_;rw[hd.out]
    rw[eK] at c0;obtain⟨b,a0⟩:∃b:Nat,b=s[k].toNat:=⟨_,rfl⟩
    have j0:b<256:=by rw[a0];exact s[k].toNat_lt
    rw[<-a0] at c0;by_cases o0:b<48
    ·have f0:uH (jL s=none):=zd (by rw[HR.o,uT (k:=k+1) jq (by rw[c0,if_neg jq])];rfl);have y0:decide ((s[k].toNat:Int)<48)=true:=by rw[<-a0];simp;omega
     clear c0 a0 eK;go_wp2
     all_goals (go_ret2;exact⟨by rw[f0.out];rfl,rfl⟩)
    ·by_cases n0:57<b
     ·have f0:uH (jL s=none):=zd (by rw[HR.o,uT (k:=k+1) jq (by rw[c0,if_neg jq])];rfl);have y0:decide ((s[k].toNat:Int)<48)=false:=by rw[<-a0];simp;omega
      have y1:decide ((57:Int)<(s[k].toNat:Int))=true:=by rw[<-a0];simp;omega
      clear c0 a0 eK;go_wp2
      all_goals (go_ret2;exact⟨by rw[f0.out];rfl,rfl⟩)
     ·have l0:uH (jS s (k+1)=some (n*10+((s[k].toNat:Int)-48))):=zd (by rw[c0,if_pos jq,a0]);have y0:decide ((s[k].toNat:Int)<48)=false:=by rw[<-a0];simp;omega
      have y1:decide ((57:Int)<(s[k].toNat:Int))=false:=by rw[<-a0];simp;omega
      have g0:(48:Int)<=(s[k].toNat:Int):=jq;have g1:(s[k].toNat:Int)<=57:=jq;clear c0 a0 eK o0 n0;go_wp2
      go_round
      case rel=>exact⟨k+1,n*10+((s[k].toNat:Int)-48),jq,by go_num,rfl,jq,jq,l0⟩
      case measure=>exact uq
   ·have k0:k=s.size:=jq;rw[k0] at hd;clear k0;have f0:uH (jL s=some (n)):=zd (by rw[HR.o,hd.out];rfl);go_wp2
    go_ret2
    exact⟨by rw[f0.out];rfl,rfl⟩
 have b0:¬(s.size=0\/17<s.size\/(byteAt s 0=48/\(1<s.size\/false=true))):=by
  rintro(h|h|⟨h,-⟩)
  ·omega
  ·omega
  ·rw[eT] at h;rw[h] at x2;simp at x2
 have HR:uH (jL s=(jS s s.size).map λn=>if false=true then-n else n):=zd (by rw[HN.o];unfold vl;rw[if_neg b0]);have u0:s.size<=17:=jq;clear b0 eT i0;go_enter Tryz.func173,Tryz.ntmps173;go_wp2
 go_loop [5,6] (λvn vi=>∃(k:Nat) (n:Int),k<=s.size/\vi=uy k/\vn=uy n/\0<=n/\n<=2000000000000000000/\uH (jS s k=some n)) (λ_ vi=>s.size-(intOf vi).toNat)
 case atStart=>exact⟨0,0,jq,rfl,rfl,jq,jq,zd rfl⟩
 case round=>
  obtain⟨k,n,hk,rfl,rfl,v0,q0,hd⟩:=hrel;have m0:=Z5 hd.out;have z0:n<=100000000000000000:=by
   have h1:(10:Int)^ k<=10^ 17:=(by exact_mod_cast Nat.pow_le_pow_right jk (by omega:k<=17));have h2:(10:Int)^ 17=100000000000000000:=jk;omega
  clear m0 q0;by_cases p0:k<s.size
  ·have eK:byteAt s k=(s[k].toNat:Int):=by unfold byteAt;rw[dif_pos p0]
   have c0:jS s (k+1)=if 48<=byteAt s k/\byteAt s k<=57 then some (n*10+(byteAt s k-48)) else none:=by
    show(match jS s k with|none=>none|some n=>if 48<=byteAt s k/\byteAt s k<=57 then some (n*10+(byteAt s k-48)) else none)=_;rw[hd.out]
   rw[eK] at c0;obtain⟨b,a0⟩:∃b:Nat,b=s[k].toNat:=⟨_,rfl⟩
   have j0:b<256:=by rw[a0];exact s[k].toNat_lt
   rw[<-a0] at c0;by_cases o0:b<48
   ·have f0:uH (jL s=none):=zd (by rw[HR.o,uT (k:=k+1) jq (by rw[c0,if_neg jq])];rfl);have y0:decide ((s[k].toNat:Int)<48)=true:=by rw[<-a0];simp;omega
    clear c0 a0 eK;go_wp2
    all_goals (go_ret2;exact⟨by rw[f0.out];rfl,rfl⟩)
   ·by_cases n0:57<b
    ·have f0:uH (jL s=none):=zd (by rw[HR.o,uT (k:=k+1) jq (by rw[c0,if_neg jq])];rfl);have y0:decide ((s[k].toNat:Int)<48)=false:=by rw[<-a0];simp;omega
     have y1:decide ((57:Int)<(s[k].toNat:Int))=true:=by rw[<-a0];simp;omega
     clear c0 a0 eK;go_wp2
     all_goals (go_ret2;exact⟨by rw[f0.out];rfl,rfl⟩)
    ·have l0:uH (jS s (k+1)=some (n*10+((s[k].toNat:Int)-48))):=zd (by rw[c0,if_pos jq,a0]);have y0:decide ((s[k].toNat:Int)<48)=false:=by rw[<-a0];simp;omega
     have y1:decide ((57:Int)<(s[k].toNat:Int))=false:=by rw[<-a0];simp;omega
     have g0:(48:Int)<=(s[k].toNat:Int):=jq;have g1:(s[k].toNat:Int)<=57:=jq;clear c0 a0 eK o0 n0;go_wp2
     go_round
     case rel=>exact⟨k+1,n*10+((s[k].toNat:Int)-48),jq,by go_num,rfl,jq,jq,l0⟩
     case measure=>exact uq
  ·have k0:k=s.size:=jq;rw[k0] at hd;clear k0;have f0:uH (jL s=some (n)):=zd (by rw[HR.o,hd.out];rfl);go_wp2
   go_ret2
   exact⟨by rw[f0.out];rfl,rfl⟩
def ZG:ByteArray:=⟨#[]⟩
def jC (parts:List ByteArray):Nat->Option (List Int)
 |0=>some []
 |j+1=>match jC parts j with
  |none=>none
  |some l=>match jL (parts.getD (j+1) ZG) with
   |none=>none
   |some x=>some (l++[x])
def YU (text:ByteArray) (parts:List ByteArray) (nums:List Int) (k:Int):Option xA:=
 if vz k=parts.getD 0 ZG then (qA k nums).bind λo=>if qM o=text then some o else none else none
def qq (text:ByteArray) (parts:List ByteArray) (nums:List Int):Nat->Option xA
 |0=>none
 |n+1=>match qq text parts nums n with
  |some o=>some o
  |none=>YU text parts nums ((n:Int)+1)
def ZS (text:ByteArray) (parts:List ByteArray):Option xA:=
 (jC parts (Nat.min (parts.length-1) 3)).bind λnums=>if nums.length=parts.length-1 then qq text parts nums 10 else none
def qT (text:ByteArray):Option xA:=ZS text (Zz text 32)
theorem toList_inj {a b:ByteArray} (h:a.toList=b.toList):a=b:=by
 rw[ByteArray.toList_eq,ByteArray.toList_eq] at h;obtain⟨x⟩:=a;obtain⟨y⟩:=b;congr 1;exact Array.toList_inj.1 h
theorem QE {c0:ByteArray} {a0:List ByteArray} {b0:List Int} {o:xA} (h:qq c0 a0 b0 k=some o):∀m,k<=m->qq c0 a0 b0 m=some o
 |0,hm=>by(obtain rfl:k=0:=by omega);exact h
 |m+1,hm=>by
  rcases Nat.lt_or_ge m k with hc|hc
  ·obtain rfl:k=m+1:=jq;exact h
  ·have:=QE h m hc;show(match qq c0 a0 b0 m with|some o=>some o|none=>YU c0 a0 b0 ((m:Int)+1))=some o;rw[this]
theorem Jj {a0:List ByteArray}:∀{j:Nat} {l:List Int},jC a0 j=some l->l.length=j
 |0,l,h=>by
  obtain rfl:[]=l:=by simpa[jC] using h
  rfl
 |j+1,l,h=>by
  have h':(match jC a0 j with|none=>none|some l=>match jL (a0.getD (j+1) ZG) with|none=>none|some x=>some (l++[x]))=some l:=h
  cases hd:jC a0 j with
  |none=>rw[hd] at h';cases h'
  |some m=>
   rw[hd] at h';simp only at h'
   cases hn:jL (a0.getD (j+1) ZG) with
   |none=>rw[hn] at h';cases h'
   |some x=>
    rw[hn] at h';obtain rfl:m++[x]=l:=by simpa using h'
    have:=Jj hd;simp[this]
theorem Ql {a0:List ByteArray} (h:jC a0 k=none):∀m,k<=m->jC a0 m=none
 |0,hm=>by(obtain rfl:k=0:=by omega);exact h
 |m+1,hm=>by
  rcases Nat.lt_or_ge m k with hc|hc
  ·obtain rfl:k=m+1:=jq;exact h
  ·have:=Ql h m hc;show(match jC a0 m with|none=>none|some l=>match jL (a0.getD (m+1) ZG) with|none=>none|some x=>some (l++[x]))=none;rw[this]
theorem dq {s:ByteArray} {n:Int} (h:jL s=some n):ql n:=by
 have key:∀(t:ByteArray) (a0:Bool) (n:Int),vl t a0=some n->ql n:=by
  intro t a0 n h;unfold vl at h;split at h
  ·cases h
  ·next hc=>
   have b0:t.size<=17:=by
    rcases Nat.lt_or_ge 17 t.size with h|h
    ·exact absurd (.inr (.inl h)) hc
    ·exact h
   cases hd:jS t t.size with
   |none=>rw[hd] at h;cases h
   |some m=>
    rw[hd] at h;have hb:=Z5 hd;have h1:(10:Int)^ t.size<=10^ 17:=(by exact_mod_cast Nat.pow_le_pow_right jk b0);have h2:(10:Int)^ 17=100000000000000000:=jk;simp only[Option.map_some,qy] at h;unfold ql;split at h<;>omega
 unfold jL at h;split at h
 ·exact key _ _ _ h
 ·exact key _ _ _ h
theorem Vw {a0:List ByteArray}:∀{j:Nat} {l:List Int},jC a0 j=some l->∀x∈l,ql x
 |0,l,h,x,hx=>by
  obtain rfl:[]=l:=by simpa[jC] using h
  cases hx
 |j+1,l,h,x,hx=>by
  have h':(match jC a0 j with|none=>none|some l=>match jL (a0.getD (j+1) ZG) with|none=>none|some x=>some (l++[x]))=some l:=h
  cases hd:jC a0 j with
  |none=>rw[hd] at h';cases h'
  |some m=>
   rw[hd] at h';simp only at h'
   cases hn:jL (a0.getD (j+1) ZG) with
   |none=>rw[hn] at h';cases h'
   |some y=>
    rw[hn] at h';obtain rfl:m++[y]=l:=by simpa using h'
    rcases xM hx with hx|hx
    ·exact Vw hd x hx
    ·obtain rfl:=yh hx;exact dq hn
theorem gi {k:Int} {a0:List Int} (hb:∀x∈a0,ql x) {o:xA} (h:qA k a0=some o):ql o.on/\ql o.arg:=by
 have hg:∀j,ql (a0.getD j 0):=by
  intro j;rw[xm]
  cases hj:a0[j]? with
  |none=>show ql 0;unfold ql;omega
  |some x=>exact hb x (vB hj)
 have h0:ql 0:=by unfold ql;omega
 unfold qA at h;split at h
 ·cases h;exact⟨h0,hg 0⟩
 ·split at h
  ·cases h;exact⟨hg 0,h0⟩
  ·split at h
   ·cases h;exact⟨hg 0,hg 1⟩
   ·cases h
theorem ZO (s:ByteArray) (w:World) (hs:s.size<=4294967296):
  Calls Tryz.prog 174 #[.string s] w λe w'=>e= .returned (.tuple #[.agg #[uy ((qT s).getD QO).kind,uy ((qT s).getD QO).on,uy ((qT s).getD QO).arg],.bool (qT s).isSome])/\xW w w':=by
 have B0:xW w (w.alloc (.cells #[uy 0,uy 0,uy 0] 68)):=zY;have kR:zm (w.alloc (.cells #[uy 0,uy 0,uy 0] 68)) w.heap.size #[uy 0,uy 0,uy 0] 68:=zm.new _ _ _;go_enter Tryz.func174,Tryz.ntmps174;go_wp2_with fail;refine(Jk s 32 _ hs).mono ?_;rintro e w1 ⟨ap,cp,rfl,f0,hb⟩;replace kR:=kR.below hb;replace B0:=B0.trans (hb.mono B0.size);clear hb;obtain⟨a0,M0⟩:=jy (Zz s 32);have v0:1<=a0.length:=by rw[M0];exact Q3 s 32
 have V0:∀x∈a0,x.size<=4294967296:=λx hx=>by
  have:=Xh s 32 (s.size+1) x (by rw[M0] at hx;exact hx);omega
 have U0:a0.length<=4294967297:=by
  have:=(JP s 32 (s.size+1)).2;rw[M0];show(xY s 32 (s.size+1)).1.length<=_;omega
 have j1:uH (qT s=ZS s a0):=zd (by rw[M0];rfl);rw[<-M0] at f0⊢;obtain⟨np,I0⟩:=jy a0.length;rw[<-I0] at f0 v0 U0⊢;have l0:=zd I0;have R1:=zd V0;have HP:=zd (Rd.of_owns f0);have Q1:=zd kR;clear M0 I0 V0 f0 kR;go_wp2;have bE:xW w1 (w1.alloc (.cells #[] 3)):=zY
 go_loopw [5,6] (λvn vi wr=>∃(i n:Nat) (l:List Int) (an:uQ) (cn:Nat),1<=i/\i<=np/\i<=4/\uH (n+1=i)/\vi=uy i/\vn= .slice an n cn/\uH (jC a0 n=some l)/\wr.ownsRow w1.heap.size 3 1 (.slice an n cn) n (zf l)/\uH (xW w1 wr)) (λ_ vi _=>np-(intOf vi).toNat)
 case atStart=>exact⟨1,0,[],_,_,jq,jq,jq,zd rfl,rfl,rfl,zd rfl,yg _ _ _,zd bE⟩
 case round=>
  obtain⟨i,n,l,an,cn,a2,V1,b2,H0,rfl,rfl,u0,n0,s0⟩:=hrel;have L0:=B0.trans (s0.out.mono B0.size);have kR:=Q1.o.below s0.out;have y0:=kR.cell 0 rfl;have y1:=kR.cell 1 rfl;have y2:=kR.cell 2 rfl;have x0:=kR.fz 0;have x1:=kR.fz 1;have x2:=kR.fz 2;have hS:=s0.out.size;have g2:n<=3:=by have:=H0.o;omega
  by_cases p1:i<np/\i<4
  ·obtain⟨a1,f2⟩:=p1;obtain⟨b,o,rfl,hc⟩:=(HP.o.below s0.out).at (by rw[yG,<-l0.out];omega)
   have g1:=hc i (by rw[yG,<-l0.out];exact a1);obtain⟨x,hx⟩:=jy (a0.getD i ZG);have ex:(Z7 a0).getD i undef= .string x:=by rw[hx];simp[Z7,List.getD,show i<a0.length by rw[<-l0.out];exact a1]
   have G0:i<a0.length:=by rw[<-l0.out];exact a1
   have K1:x∈a0:=by
    rw[hx,xm,xV G0];exact List.getElem_mem G0
   have L1:x.size<=4294967296:=R1.o x K1;clear G0 K1;rw[ex] at g1;have i1:(i:Int)<(np:Int):=jq;have i0:(0:Int)<=(i:Int):=jq;have b1:jC a0 (n+1)=match jL x with|none=>none|some y=>some (l++[y]):=by
    show(match jC a0 n with|none=>none|some l=>match jL (a0.getD (n+1) ZG) with|none=>none|some x=>some (l++[x]))=_;rw[u0.out,H0.o,<-hx]
   clear hc hx ex
   cases hnb:jL x with
   |none=>
    have l1:uH (jC a0 (n+1)=none):=zd (by rw[b1,hnb]);have f1:=zd hnb;have HR:uH (qT s=none):=zd (by
     rw[j1.out];unfold ZS;rw[Ql l1.out _ (by have:=H0.o;rw[<-l0.out];simp only[Nat.min_def];split<;>omega)];rfl)
    clear b1 hnb;go_wp2_with fail;refine(Jp x _ L1).mono ?_;rintro e w3 ⟨rfl,u1⟩;have J0:=u1.symm;subst J0;rw[f1.out];go_wp2;refine zM (v:= .tuple #[.agg #[uy 0,uy 0,uy 0],.bool false]) (by simp[results,Tryz.results174,go_sem,y0,y1,y2]) rfl ⟨by rw[HR.o];rfl,?_⟩;exact(((L0.setCell yk _).setCell yk _).setCell yk _)
   |some y=>
    have l1:uH (jC a0 (n+1)=some (l++[y])):=zd (by rw[b1,hnb]);have f1:=zd hnb;have h1:=zd n0;clear b1 hnb;go_wp2_with fail;refine(Jp x _ L1).mono ?_;rintro e w3 ⟨rfl,u1⟩;have J0:=u1.symm;subst J0;rw[f1.out];simp only[Option.getD_some,Option.isSome_some];go_wp2_with (at_builtin;refine yF (news:=[uy y]) rfl _ _ 23 rfl Tryz.underlying23 yb rfl jk rfl n0 rfl rfl rfl (by simp[Value.oneCell']) jq jk hS ?_;intro a3 c3 w3 T0 r1;clear n0 y0 y1 y2 x0 x1 x2 kR g1)
    go_roundw
    case rel=>
     refine⟨i+1,n+1,l++[y],a3,c3,jq,jq,jq,zd (jQ H0.o),by go_num,rfl,l1,?_,zd (s0.out.trans (zG r1 hS (λq hq=>(zy h1.out q hq).1)))⟩;simpa[zf] using T0
    case measure=>exact uq
  ·have S0:n=Nat.min (a0.length-1) 3:=by have:=H0.o;rw[<-l0.out];simp only[Nat.min_def];split<;>omega
   have Q0:uH (jC a0 (Nat.min (a0.length-1) 3)=some l):=zd (by rw[<-S0];exact u0.out);have I1:=Jj u0.out;have P0:=zd I1;have O1:uH (∀x∈l,ql x):=zd (Vw u0.out);have k1:=zd (Rd.of_owns n0);have S1:decide (i<np)=decide (i<np):=rfl;clear S0 I1 n0 S1;by_cases hE:n+1=np
   ·have B1:uH (qT s=qq s a0 l 10):=zd (by
     rw[j1.out];unfold ZS;rw[Q0.o];show(if l.length=a0.length-1 then qq s a0 l 10 else none)=_;rw[if_pos (by rw[P0.o,<-l0.out];omega)])
    have A0:i=np:=by have:=H0.o;omega
    have t0:decide (i<np)=false:=xr jq;have Y1:decide ((i:Int)<(np:Int))=false:=xr jq;have t9:((n:Int)==(np:Int)-1)=true:=by simp;omega
    have Z1:=zd A0;obtain⟨b0,o0,T1,G1⟩:=HP.o.at (by rw[yG,<-l0.out];exact v0)
    subst T1;have g0:=G1 0 (by rw[yG,<-l0.out];exact v0);obtain⟨p0,t1⟩:=jy (a0.getD 0 ZG);have E1:(Z7 a0).getD 0 undef= .string p0:=by rw[t1];simp[Z7,List.getD,show 0<a0.length by rw[<-l0.out];exact v0]
    rw[E1,Nat.add_zero] at g0;have A1:=zd t1;have v1:=zd (ze s0.out g0);obtain⟨wo,N0⟩:∃wo:World,wo=wr:=⟨_,rfl⟩
    have o1:=s0.out;rw[<-N0] at v1 L0 o1 kR⊢;have E0:uH (Rd wo an (zf l)):=zd (by rw[N0];exact k1.out);have O0:=zd kR;have d2:=kR.lt;clear p1 A0 y0 y1 y2 x0 x1 x2 G1 t1 E1 g0 N0 kR hS k1 s0 wr;go_wp2
    go_loopw [9] (λvk wk=>∃k:Nat,k<=10/\vk=uy ((k:Int)+1)/\uH (qq s a0 l k=none)/\uH (xW wo wk)) (λvk _=>11-(intOf vk).toNat)
    case atStart=>exact⟨0,jq,rfl,zd rfl,zd xd⟩
    case round=>
     obtain⟨k,hk,rfl,H1,h0⟩:=hrel;have m1:=L0.trans (h0.out.mono L0.size);by_cases a1:k<10
     ·have i2:decide (((k:Int)+1)<=10)=true:=xK jq;have g0:=ze h0.out v1.out;have i0:(0:Int)<(np:Int):=jq;have h2:¬np=0:=jq;obtain⟨K,hK⟩:∃K:Int,K=(k:Int)+1:=⟨_,rfl⟩
      have C0:qq s a0 l (k+1)=YU s a0 l K:=by
       show(match qq s a0 l k with|some o=>some o|none=>YU s a0 l ((k:Int)+1))=_;rw[H1.o,<-hK]
      have j0:=zd C0;obtain⟨Wd,F1⟩:=jy (vz K);have K0:=zd F1;have X0:=zd hK;clear C0 F1;by_cases hq:Wd=p0
      ·have C1:uH (YU s a0 l K=(qA ((k:Int)+1) l).bind λo=>if qM o=s then some o else none):=zd (by unfold YU;rw[if_pos (by rw[<-K0.o,<-A1.o];exact hq),hK]);have q0:(Wd.toList==p0.toList)=true:=by rw[hq];simp
       clear hK hq
       cases hm:qA ((k:Int)+1) l with
       |none=>
        have D0:uH (qq s a0 l (k+1)=none):=zd (by rw[j0.out,C1.o,hm];rfl);have Y0:=zd hm;clear hm;go_wp2;apply xZ 5 [.k _,.k (.string Wd),.k _,.k _,.k _] trivial ?s1 ?e1
        case s1=>
         repeat' apply And.intro
         all_goals first|trivial|(intro ρ w1 hG hfr hd;obtain⟨fc,ff⟩:=xu hfr;have f4:=hfr (.tmp 4) rfl;have f9:ρ (.tmp 9)=uy ((k:Int)+1):=hfr _ rfl;have g0:=ze hG g0)
         exact yj
         ·obtain⟨d0,-⟩:=hd;have d0:(ρ (.tmp 52))=uy ((k:Int)+1):=d0;refine zU (by go_simp;exact⟨⟨rfl,rfl⟩,rfl⟩) ?_;refine(vA ((k:Int)+1) _).mono ?_;rintro e w2 ⟨rfl,hb⟩;exact⟨_,rfl,hb,by rw[K0.o,X0.o];rfl,yn,hG.trans (hb.mono hG.size)⟩
         exact yj
         ·have d0:ρ (.tmp _)=_:=hd.1;have I0:0<np:=jq;exact yj
         exact yI
        intro w2 hG;refine yv ?_;go_wp2_with fail;refine(QU ((k:Int)+1) an n cn l _ P0.o jq (E0.o.below (h0.out.trans (hG.mono h0.out.size)))).mono ?_;rintro e w5 ⟨rfl,r0⟩;rw[Y0.o];simp only[Option.getD_none,Option.isSome_none];have m0:=h0.out.trans ((hG.trans (r0.mono hG.size)).mono h0.out.size);have k0:=zd m0;clear r0 hG m0;go_wp2
        go_roundw
        case rel=>exact⟨k+1,jq,by go_num,D0,zd (k0.out.alloc k0.out.size _)⟩
        case measure=>exact uq
       |some o=>
        have J1:=gi O1.o hm;have Z0:=zd J1;have Y0:=zd hm;have D1:uH (YU s a0 l K=if qM o=s then some o else none):=zd (by rw[C1.o,hm];rfl);clear hm J1;by_cases hf:qM o=s
        ·have D0:uH (qT s=some o):=zd (by rw[B1.o];exact QE (k:=k+1) (by rw[j0.out,D1.o,if_pos hf]) 10 jq);have P1:=zd hf;clear hf;go_wp2;apply xZ 5 [.k _,.k (.string Wd),.k _,.k _,.k _] trivial ?s2 ?e2
         case s2=>
          repeat' apply And.intro
          all_goals first|trivial|(intro ρ w1 hG hfr hd;obtain⟨fc,ff⟩:=xu hfr;have f4:=hfr (.tmp 4) rfl;have f9:ρ (.tmp 9)=uy ((k:Int)+1):=hfr _ rfl;have g0:=ze hG g0)
          exact yj
          ·obtain⟨d0,-⟩:=hd;have d0:(ρ (.tmp 52))=uy ((k:Int)+1):=d0;refine zU (by go_simp;exact⟨⟨rfl,rfl⟩,rfl⟩) ?_;refine(vA ((k:Int)+1) _).mono ?_;rintro e w2 ⟨rfl,hb⟩;exact⟨_,rfl,hb,by rw[K0.o,X0.o];rfl,yn,hG.trans (hb.mono hG.size)⟩
          exact yj
          ·have d0:ρ (.tmp _)=_:=hd.1;have I0:0<np:=jq;exact yj
          exact yI
         intro w2 hG;refine yv ?_;go_wp2_with fail;refine(QU ((k:Int)+1) an n cn l _ P0.o jq (E0.o.below (h0.out.trans (hG.mono h0.out.size)))).mono ?_;rintro e w5 ⟨rfl,r0⟩;rw[Y0.o];simp only[Option.getD_some,Option.isSome_some];have n1:=m1.trans ((hG.trans (r0.mono hG.size)).mono m1.size);have M1:=O0.o.below (h0.out.trans ((hG.trans (r0.mono hG.size)).mono h0.out.size));clear r0 hG;obtain⟨ok,ho⟩:=jy o.kind;go_wp2_with fail;refine(Zw o _ Z0.o.1 Z0.o.2).mono ?_;rintro e w6 ⟨rfl,F0⟩;rw[P1.o];have kA:zm (w5.alloc (.cells #[uy o.kind,uy o.on,uy o.arg] 68)) w5.heap.size #[uy o.kind,uy o.on,uy o.arg] 68:=zm.new _ _ _;have d1:=kA.below F0;have z0:=d1.cell 0 rfl;have z1:=d1.cell 1 rfl;have z2:=d1.cell 2 rfl;have c0:=(M1.alloc (.cells #[uy o.kind,uy o.on,uy o.arg] 68)).below F0;have y0:=c0.cell 0 rfl;have y1:=c0.cell 1 rfl;have y2:=c0.cell 2 rfl;have x0:=c0.fz 0;have x1:=c0.fz 1;have x2:=c0.fz 2;have U1:=(n1.alloc n1.size (.cells #[uy o.kind,uy o.on,uy o.arg] 68)).trans (F0.mono (by have:=n1.size;simp;omega));clear F0 kA d1 M1 c0 ho;go_wp2;refine zM (v:= .tuple #[.agg #[uy o.kind,uy o.on,uy o.arg],.bool true]) (by simp[results,Tryz.results174,go_sem,y0,y1,y2]) rfl ⟨by rw[D0.o];rfl,?_⟩
         exact(((U1.setCell yk _).setCell yk _).setCell yk _)
        ·have D0:uH (qq s a0 l (k+1)=none):=zd (by rw[j0.out,D1.o,if_neg hf]);have q1:¬(qM o).toList=s.toList:=λh=>hf (toList_inj h);have q0:((qM o).toList==s.toList)=false:=(by simpa using q1);clear hf;go_wp2;apply xZ 5 [.k _,.k (.string Wd),.k _,.k _,.k _] trivial ?s3 ?e3
         case s3=>
          repeat' apply And.intro
          all_goals first|trivial|(intro ρ w1 hG hfr hd;obtain⟨fc,ff⟩:=xu hfr;have f4:=hfr (.tmp 4) rfl;have f9:ρ (.tmp 9)=uy ((k:Int)+1):=hfr _ rfl;have g0:=ze hG g0)
          exact yj
          ·obtain⟨d0,-⟩:=hd;have d0:(ρ (.tmp 52))=uy ((k:Int)+1):=d0;refine zU (by go_simp;exact⟨⟨rfl,rfl⟩,rfl⟩) ?_;refine(vA ((k:Int)+1) _).mono ?_;rintro e w2 ⟨rfl,hb⟩;exact⟨_,rfl,hb,by rw[K0.o,X0.o];rfl,yn,hG.trans (hb.mono hG.size)⟩
          exact yj
          ·have d0:ρ (.tmp _)=_:=hd.1;have I0:0<np:=jq;exact yj
          exact yI
         intro w2 hG;refine yv ?_;go_wp2_with fail;refine(QU ((k:Int)+1) an n cn l _ P0.o jq (E0.o.below (h0.out.trans (hG.mono h0.out.size)))).mono ?_;rintro e w5 ⟨rfl,r0⟩;rw[Y0.o];simp only[Option.getD_some,Option.isSome_some];have m0:=h0.out.trans ((hG.trans (r0.mono hG.size)).mono h0.out.size);have k0:=zd m0;clear r0 hG m0;go_wp2_with fail;refine(Zw o _ Z0.o.1 Z0.o.2).mono ?_;rintro e w6 ⟨rfl,F0⟩;have X1:=k0.out.size;have N1:=zd F0;clear F0;go_wp2
         go_roundw
         case rel=>exact⟨k+1,jq,by go_num,D0,zd ((k0.out.alloc X1 _).trans (N1.o.mono (by simp;omega)))⟩
         case measure=>exact uq
      ·have q1:¬Wd.toList=p0.toList:=λh=>hq (toList_inj h);have q0:(Wd.toList==p0.toList)=false:=(by simpa using q1);have D0:uH (qq s a0 l (k+1)=none):=zd (by rw[j0.out];unfold YU;rw[if_neg (by rw[<-K0.o,<-A1.o];exact hq)]);clear hq hK;go_wp2;apply xZ 5 [.k _,.k (.string Wd),.k _,.k _,.k _] trivial ?s4 ?e4
       case s4=>
        repeat' apply And.intro
        all_goals first|trivial|(intro ρ w1 hG hfr hd;obtain⟨fc,ff⟩:=xu hfr;have f4:=hfr (.tmp 4) rfl;have f9:ρ (.tmp 9)=uy ((k:Int)+1):=hfr _ rfl;have g0:=ze hG g0)
        exact yj
        ·obtain⟨d0,-⟩:=hd;have d0:(ρ (.tmp 52))=uy ((k:Int)+1):=d0;refine zU (by go_simp;exact⟨⟨rfl,rfl⟩,rfl⟩) ?_;refine(vA ((k:Int)+1) _).mono ?_;rintro e w2 ⟨rfl,hb⟩;exact⟨_,rfl,hb,by rw[K0.o,X0.o];rfl,yn,hG.trans (hb.mono hG.size)⟩
        exact yj
        ·have d0:ρ (.tmp _)=_:=hd.1;have I0:0<np:=jq;exact yj
        exact yI
       intro w2 hG;refine yv ?_;go_wp2
       go_roundw
       case rel=>exact⟨k+1,jq,by go_num,D0,zd (h0.out.trans (hG.mono h0.out.size))⟩
       case measure=>exact uq
     ·obtain rfl:k=10:=jq;have HR:uH (qT s=none):=zd (by rw[B1.o];exact H1.o);have c0:=O0.o.below h0.out;have y0:=c0.cell 0 rfl;have x0:=c0.fz 0;have y1:=c0.cell 1 rfl;have x1:=c0.fz 1;have y2:=c0.cell 2 rfl;have x2:=c0.fz 2;go_wp2;refine zM (v:= .tuple #[.agg #[uy 0,uy 0,uy 0],.bool false]) (by simp[results,Tryz.results174,go_sem,y0,y1,y2]) rfl ⟨by rw[HR.o];rfl,?_⟩;exact(((m1.setCell yk _).setCell yk _).setCell yk _)
   ·have HR:uH (qT s=none):=zd (by
     rw[j1.out];unfold ZS;rw[Q0.o];show(if l.length=a0.length-1 then qq s a0 l 10 else none)=_;rw[if_neg (by rw[P0.o,<-l0.out];omega)])
    have R0:i=4/\i<np:=by have:=H0.o;omega
    have t0:decide (i<np)=true:=xK R0.2;have Y1:decide ((i:Int)<(np:Int))=true:=xK jq;have t4:decide ((i:Int)<4)=false:=xr jq;have j2:decide (i<4)=false:=xr jq;have t9:((n:Int)==(np:Int)-1)=false:=by simp;omega
    obtain⟨wo,N0⟩:∃wo:World,wo=wr:=⟨_,rfl⟩
    rw[<-N0] at L0 kR⊢;clear p1 R0 y0 y1 y2 x0 x1 x2 N0 hS s0 wr k1 hE;go_wp2
    go_loopw [9] (λvk wk=>vk=uy 1/\wk=wo) (λvk _=>11-(intOf vk).toNat)
    case atStart=>exact⟨rfl,rfl⟩
    case round=>
     obtain⟨rfl,rfl⟩:=hrel;have c0:=kR;have y0:=c0.cell 0 rfl;have x0:=c0.fz 0;have y1:=c0.cell 1 rfl;have x1:=c0.fz 1;have y2:=c0.cell 2 rfl;have x2:=c0.fz 2;go_wp2;refine zM (v:= .tuple #[.agg #[uy 0,uy 0,uy 0],.bool false]) (by simp[results,Tryz.results174,go_sem,y0,y1,y2]) rfl ⟨by rw[HR.o];rfl,?_⟩;exact(((L0.setCell yk _).setCell yk _).setCell yk _)
def QG (parts:List ByteArray) (word:ByteArray):Option (List Int):=
 if parts.getD 0 ZG=word then
  if parts.length<2 then none
  else (jC parts (Nat.min (parts.length-1) 5)).bind λl=>if l.length=parts.length-1 then some l else none
 else none
def vK (line word:ByteArray):Option (List Int):=QG (Zz line 32) word
theorem Jm (s word:ByteArray) (w:World) (hs:s.size<=4294967296):
  Calls Tryz.prog 148 #[.string s,.string word] w λe w'=>∃(a:uQ) (n c:Nat),e= .returned (.tuple #[.slice a n c,.bool (vK s word).isSome])/\(∀l,vK s word=some l->n=l.length/\w'.ownsRow w.heap.size 3 1 (.slice a n c) n (zf l))/\xW w w':=by
 go_enter Tryz.func148,Tryz.ntmps148;go_wp2_with fail;refine(Jk s 32 _ hs).mono ?_;rintro e w1 ⟨ap,cp,rfl,b0,hb⟩;obtain⟨a0,n0⟩:=jy (Zz s 32);have f0:1<=a0.length:=by rw[n0];exact Q3 s 32
 have u0:∀x∈a0,x.size<=4294967296:=λx hx=>by
  have:=Xh s 32 (s.size+1) x (by rw[n0] at hx;exact hx);omega
 have s0:a0.length<=4294967297:=by
  have:=(JP s 32 (s.size+1)).2;rw[n0];show(xY s 32 (s.size+1)).1.length<=_;omega
 have B0:uH (vK s word=QG a0 word):=zd (by rw[n0];rfl);rw[<-n0] at b0⊢;obtain⟨np,G0⟩:=jy a0.length;rw[<-G0] at b0 f0 s0⊢;have c0:=zd G0;have S0:=zd u0;have HP:=zd (Rd.of_owns b0);have HB:=zd hb;obtain⟨b,o,rfl,hc⟩:=HP.o.at (by rw[yG,<-c0.out];exact f0)
 have g1:=hc 0 (by rw[yG,<-c0.out];exact f0);obtain⟨p0,H0⟩:=jy (a0.getD 0 ZG);have L0:(Z7 a0).getD 0 undef= .string p0:=by rw[H0];simp[Z7,List.getD,show 0<a0.length by rw[<-c0.out];exact f0]
 have bE:xW w1 (w1.alloc (.cells #[] 3)):=zY;rw[L0,Nat.add_zero] at g1;have g0:=ze bE g1;have A0:=zd H0;have i0:(0:Int)<(np:Int):=jq;have f1:¬np=0:=jq;have V0:0<np:=jq;clear n0 G0 u0 b0 hb hc g1 H0 L0;by_cases hq:p0=word
 ·have q0:(p0.toList==word.toList)=true:=by rw[hq];simp
  by_cases h2:np<2
  ·have t2:decide ((np:Int)<2)=true:=xK jq;have HR:uH (vK s word=none):=zd (by rw[B0.o];unfold QG;rw[if_pos (by rw[<-A0.o];exact hq),if_pos (by rw[<-c0.out];exact h2)]);have Y0:decide (np<2)=true:=xK h2;clear hq;go_wp2;refine zM (v:= .tuple #[.slice (some ⟨w1.heap.size,0,none⟩) 0 0,.bool false]) (by simp[results,Tryz.results148,go_sem]) rfl ⟨_,0,0,by rw[HR.o];rfl,(λl hl=>by rw[HR.o] at hl;cases hl),?_⟩;exact HB.o.alloc HB.o.size _
  ·have t2:decide ((np:Int)<2)=false:=xr jq;have Y0:decide (np<2)=false:=xr h2;have J0:uH (vK s word=(jC a0 (Nat.min (a0.length-1) 5)).bind λl=>if l.length=a0.length-1 then some l else none):=zd (by rw[B0.o];unfold QG;rw[if_pos (by rw[<-A0.o];exact hq),if_neg (by rw[<-c0.out];exact h2)]);clear hq;go_wp2;have Q0:=zd bE;clear g0 bE
   go_loopw [7,8] (λvn vi wr=>∃(i n:Nat) (l:List Int) (an:uQ) (cn:Nat),1<=i/\i<=np/\i<=6/\uH (n+1=i)/\vi=uy i/\vn= .slice an n cn/\uH (jC a0 n=some l)/\wr.ownsRow w1.heap.size 3 1 (.slice an n cn) n (zf l)/\uH (xW w1 wr)) (λ_ vi _=>np-(intOf vi).toNat)
   case atStart=>exact⟨1,0,[],_,_,jq,jq,jq,zd rfl,rfl,rfl,zd rfl,yg _ _ _,zd Q0.o⟩
   case round=>
    obtain⟨i,n,l,an,cn,Z0,U0,a1,k0,rfl,rfl,l0,d0,h0⟩:=hrel;have hS:=h0.out.size;have d1:n<=5:=by have:=k0.out;omega
    by_cases T0:i<np/\i<6
    ·obtain⟨F0,b1⟩:=T0;have i1:(i:Int)<(np:Int):=jq;have i0:(0:Int)<=(i:Int):=jq;obtain⟨b,o,eb,hc⟩:=(HP.o.below h0.out).at (by rw[yG,<-c0.out];omega)
     obtain⟨rfl,rfl⟩:_/\_:=by simpa using eb
     have g1:=hc i (by rw[yG,<-c0.out];exact F0);obtain⟨x,hx⟩:=jy (a0.getD i ZG);have ex:(Z7 a0).getD i undef= .string x:=by rw[hx];simp[Z7,List.getD,show i<a0.length by rw[<-c0.out];exact F0]
     have j0:i<a0.length:=by rw[<-c0.out];exact F0
     have O0:x∈a0:=by
      rw[hx,xm,xV j0];exact List.getElem_mem j0
     have P0:x.size<=4294967296:=S0.o x O0;clear j0 O0;rw[ex] at g1;have v0:jC a0 (n+1)=match jL x with|none=>none|some y=>some (l++[y]):=by
      show(match jC a0 n with|none=>none|some l=>match jL (a0.getD (n+1) ZG) with|none=>none|some x=>some (l++[x]))=_;rw[l0.out,k0.out,<-hx]
     clear hc hx ex
     cases hnb:jL x with
     |none=>
      have C0:uH (jC a0 (n+1)=none):=zd (by rw[v0,hnb]);have y0:=zd hnb;have HR:uH (vK s word=none):=zd (by
       rw[J0.o,Ql C0.o _ (by have:=k0.out;rw[<-c0.out];simp only[Nat.min_def];split<;>omega)];rfl)
      clear v0 hnb;go_wp2_with fail;refine(Jp x _ P0).mono ?_;rintro e w3 ⟨rfl,I0⟩;have m0:=I0.symm;subst m0;rw[y0.out];go_wp2;refine zM (v:= .tuple #[.slice (some ⟨wr.heap.size,0,none⟩) 0 0,.bool false]) (by simp[results,Tryz.results148,go_sem]) rfl ⟨_,0,0,by rw[HR.o];rfl,(λl hl=>by rw[HR.o] at hl;cases hl),?_⟩;exact(HB.o.trans (h0.out.mono HB.o.size)).alloc (Nat.le_trans HB.o.size hS) _
     |some y=>
      have C0:uH (jC a0 (n+1)=some (l++[y])):=zd (by rw[v0,hnb]);have y0:=zd hnb;have z0:=zd d0;clear v0 hnb;go_wp2_with fail;refine(Jp x _ P0).mono ?_;rintro e w3 ⟨rfl,I0⟩;have m0:=I0.symm;subst m0;rw[y0.out];simp only[Option.getD_some,Option.isSome_some];go_wp2_with (at_builtin;refine yF (news:=[uy y]) rfl _ _ 23 rfl Tryz.underlying23 yb rfl jk rfl d0 rfl rfl rfl (by simp[Value.oneCell']) jq jk hS ?_;intro a3 c3 w3 r0 D0;clear d0 g1)
      go_roundw
      case rel=>
       refine⟨i+1,n+1,l++[y],a3,c3,jq,jq,jq,zd (jQ k0.out),by go_num,rfl,C0,?_,zd (h0.out.trans (zG D0 hS (λq hq=>(zy z0.out q hq).1)))⟩;simpa[zf] using r0
      case measure=>exact uq
    ·have o0:n=Nat.min (a0.length-1) 5:=by have:=k0.out;rw[<-c0.out];simp only[Nat.min_def];split<;>omega
     have N0:=Jj l0.out;have K0:uH (vK s word=if l.length=a0.length-1 then some l else none):=zd (by rw[J0.o,<-o0,l0.out];rfl);have x0:=zd N0;have R0:=zd d0;have hW:=h0.out.size;clear o0 N0 d0;by_cases hE:n+1=np
     ·have HR:uH (vK s word=some l):=zd (by
       rw[K0.o,if_pos (by rw[x0.out,<-c0.out];omega)])
      have M0:i=np:=by have:=k0.out;omega
      have t0:decide (i<np)=false:=xr jq;have X0:decide ((i:Int)<(np:Int))=false:=xr jq;have t9:((n:Int)==(np:Int)-1)=true:=by simp;omega
      go_wp2;refine zM (v:= .tuple #[.slice an n cn,.bool true]) (by simp[results,Tryz.results148,go_sem]) rfl ⟨_,n,cn,by rw[HR.o];rfl,λm hm=> ?_,HB.o.trans (h0.out.mono HB.o.size)⟩;rw[HR.o] at hm;obtain rfl:l=m:=by simpa using hm
      exact⟨x0.out.symm,zw R0.o HB.o.size⟩
     ·have HR:uH (vK s word=none):=zd (by
       rw[K0.o,if_neg (by rw[x0.out,<-c0.out];omega)])
      have E0:i=6/\i<np:=by have:=k0.out;omega
      have t0:decide (i<np)=true:=xK E0.2;have X0:decide ((i:Int)<(np:Int))=true:=xK jq;have t4:decide ((i:Int)<6)=false:=xr jq;have h1:decide (i<6)=false:=xr jq;have t9:((n:Int)==(np:Int)-1)=false:=by simp;omega
      go_wp2;refine zM (v:= .tuple #[.slice an n cn,.bool false]) (by simp[results,Tryz.results148,go_sem]) rfl ⟨_,n,cn,by rw[HR.o];rfl,(λm hm=>by rw[HR.o] at hm;cases hm),HB.o.trans (h0.out.mono HB.o.size)⟩
 ·have q1:¬p0.toList=word.toList:=λh=>hq (toList_inj h);have q0:(p0.toList==word.toList)=false:=by simpa using q1
  have HR:uH (vK s word=none):=zd (by rw[B0.o];unfold QG;rw[if_neg (by rw[<-A0.o];exact hq)]);clear hq;go_wp2;refine zM (v:= .tuple #[.slice (some ⟨w1.heap.size,0,none⟩) 0 0,.bool false]) (by simp[results,Tryz.results148,go_sem]) rfl ⟨_,0,0,by rw[HR.o];rfl,(λl hl=>by rw[HR.o] at hl;cases hl),?_⟩;exact HB.o.alloc HB.o.size _
theorem yd {G:Nat} {cs:Array Value} {t:TypeId} (h:zm w G cs t) (ho:w.ownsRow B e sz (.slice a n c) n xs) (b0:t≠e):zj a≠some G:=by
 intro hk;rcases ho.2 with ⟨h',h0⟩|⟨g,cap,c0,h',hb,hg,g0,d0,f0,a0⟩
 ·simp only[Value.slice.injEq] at h';rw[h'.1] at hk;cases hk
 ·simp only[Value.slice.injEq,true_and] at h';obtain⟨rfl,rfl⟩:=h';obtain rfl:g=G:=by simpa[zj] using hk
  unfold zm at h;rw[h] at hg;simp only[qy,Obj.cells.injEq] at hg;exact b0 hg.2.1
theorem zx {B':Nat} {e':TypeId} {c0 n' c':Nat} {a':uQ} {d0:uZ} (h:w.ownsRow B e sz (.slice a n c) n xs) (h':w.ownsRow B' e' c0 (.slice a' n' c') n' d0) (b0:e≠e'):∀k,zj a=some k->zj a'=some k->False:=by
 intro k hk a0;rcases h.2 with ⟨h1,h0⟩|⟨g,cap,f0,h1,hb,hg,_⟩
 ·simp only[Value.slice.injEq] at h1;rw[h1.1] at hk;cases hk
 ·simp only[Value.slice.injEq,true_and] at h1;obtain⟨rfl,rfl⟩:=h1;obtain rfl:g=k:=by simpa[zj] using hk
  exact yd hg h' b0 a0
theorem jY:(3:TypeId)≠48/\(68:TypeId)≠48/\(26:TypeId)≠3/\(26:TypeId)≠48/\(26:TypeId)≠68/\(3:TypeId)≠68:=jk
theorem jU.types {rows:List (uZ)} (h:jU w vs rows):∀k∈uW vs,∃cs fr,w.heap[k]? =some (.cells cs 68 fr):=by
 intro k hk;obtain⟨v,hv,a0⟩:=xc.1 hk;obtain⟨i,hi,e⟩:=List.mem_iff_getElem.1 hv;obtain⟨a',m,c',e',ho⟩:=h.inn i hi;have:vs.getD i undef=v:=by rw[xm,xV hi];simp[e]
 rw[this] at e';subst e';rw[yu] at a0;rcases ho.2 with ⟨h1,h0⟩|⟨g,cap,b0,h1,hb,hg,_⟩
 ·simp only[Value.slice.injEq] at h1;rw[h1.1] at a0;cases a0
 ·simp only[Value.slice.injEq,true_and] at h1;obtain⟨rfl,rfl⟩:=h1;obtain rfl:g=k:=by simpa[zj] using a0
  exact⟨_,_,hg⟩
theorem jU.not_row {rows:List (uZ)} (h:jU w vs rows) (ho:w.ownsRow B e sz (.slice a n c) n xs) (a0:68≠e):∀k,zj a=some k->k∉uW vs:=by
 intro k hk hm;obtain⟨cs,fr,hb⟩:=h.types k hm;rcases ho.2 with ⟨h1,h0⟩|⟨g,cap,b0,h1,c0,hg,_⟩
 ·simp only[Value.slice.injEq] at h1;rw[h1.1] at hk;cases hk
 ·simp only[Value.slice.injEq,true_and] at h1;obtain⟨rfl,rfl⟩:=h1;obtain rfl:g=k:=by simpa[zj] using hk
  rw[hb] at hg;simp only[qy,Obj.cells.injEq] at hg;exact a0 hg.2.1
theorem jU.not_blk {rows:List (uZ)} (h:jU w vs rows) {G:Nat} {cs:Array Value} {t:TypeId} (hb:zm w G cs t) (b0:68≠t):G∉uW vs:=by
 intro hm;obtain⟨cs',fr,a0⟩:=h.types G hm;unfold zm at hb;rw[hb] at a0;simp only[qy,Obj.cells.injEq] at a0;exact b0 a0.2.1.symm
structure yE (w:World) (B G:Nat) (v:PV) (vs:List Value) (p:Pg) (k:Nat):Prop where
 blk:zm w G (zF v) 26
 os:w.ownsRow B 3 1 (.slice v.s v.ns v.cs) v.ns (zf p.sems)
 og:w.ownsRow B 3 1 (.slice v.g v.ng v.cg) v.ng (zf p.groups)
 ob:w.ownsRow B 3 1 (.slice v.b v.nb v.cb) v.nb (zf p.barriers)
 orr:w.ownsRow B 3 1 (.slice v.r v.nr v.cr) v.nr (zf p.rooms)
 ot:w.ownsRow B 48 1 (.slice v.t v.nt v.ct) v.nt vs
 inn:jU w vs ((p.threads.take k).map qR)
 nd:(uW vs).Nodup
 lo:∀q∈uW vs,B<=q
theorem yE.below {G:Nat} {v:PV} (h:yE w B G v vs p k) (hb:xW w w'):yE w' B G v vs p k:=
 ⟨h.blk.below hb,zl h.os hb,zl h.og hb,zl h.ob hb,zl h.orr hb,zl h.ot hb,h.inn.below hb,h.nd,h.lo⟩
def PV.thr (v:PV) (a:uQ) (n c:Nat):PV:=⟨v.s,v.ns,v.cs,v.g,v.ng,v.cg,v.b,v.nb,v.cb,v.r,v.nr,v.cr,a,n,c⟩
theorem zv (w:World) (G j:Nat) (x:Value):w.grownBy (w.setCell ⟨G,j,none⟩ x) (some G):=⟨rfl,rfl,rfl,jv,λi _ hi=>Below.heap_setCell _ _ _ _ (λe=>hi (by rw[e]))⟩
theorem yE.step {G:Nat} {v:PV} (h:yE w B G v vs p k) (hk:k<p.threads.length) (h2:w.ownsRow 0 68 3 (.slice a2 m c2) m (qR (p.threads.getD k []))) 
  (hf:∀q,zj a2=some q->B<=q/\q∉uW vs) {a:uQ} {n c:Nat} (ho:w'.ownsRow B 48 1 (.slice a n c) n (vs++[.slice a2 m c2])) (hg:w.grownBy w' (zj v.t)):
  yE (w'.setCell ⟨G,4,none⟩ (.slice a n c)) B G (v.thr a n c) (vs++[.slice a2 m c2]) p (k+1):=by
 obtain⟨t1,t2,t3,t4,t5,t6⟩:=jY;have r1:zj v.t≠some G:=yd h.blk h.ot t4;have b1:=h.blk.grown hg r1;have b0:=h.inn.snoc h2;have a0:=b0.grown hg (b0.not_row h.ot t2);have s1:=zk h.os hg (zx h.os h.ot t1);have s2:=zk h.og hg (zx h.og h.ot t1);have s3:=zk h.ob hg (zx h.ob h.ot t1);have s4:=zk h.orr hg (zx h.orr h.ot t1);have g2:=zv w' G 4 (.slice a n c);have far:∀{e:TypeId} {sz n' c' B':Nat} {a':uQ} {xs:uZ},w'.ownsRow B' e sz (.slice a' n' c') n' xs->26≠e->∀q,zj a'=some q->some G=some q->False:=by
  intro e sz n' c' B' a' xs d0 c0 q hq e'
  cases e'
  exact yd b1 d0 c0 hq
 refine⟨?_,zk s1 g2 (far s1 t3),zk s2 g2 (far s2 t3),zk s3 g2 (far s3 t3),zk s4 g2 (far s4 t3),zk ho g2 (far ho t4),?_,?_,?_⟩
 ·have:=b1.set 4 (.slice a n c);simpa[PV.thr] using this
 ·rw[KU p.threads k hk];exact a0.grown g2 (λq hq=>by cases hq;exact a0.not_blk b1 (λe=>t5 e.symm))
 ·rw[tH];exact fN h.nd (λq hq=>(hf q hq).2)
 ·intro q hq;rw[tH,List.mem_append] at hq;rcases hq with hq|hq
  ·exact h.lo q hq
  ·exact(hf q (by simpa using hq)).1
theorem yE.own {G:Nat} {v:PV} (h:yE w B G v vs p k) (hk:k=p.threads.length):qp w v vs p.cells:=by
 have e:p.threads.take k=p.threads:=by rw[hk,List.take_length]
 have a0:=h.inn;rw[e] at a0;exact⟨zw h.os (Nat.zero_le _),zw h.og (Nat.zero_le _),zw h.ob (Nat.zero_le _),zw h.orr (Nat.zero_le _),Yn.of_inner (zw h.ot (Nat.zero_le _)) a0⟩
theorem yE.fresh {G:Nat} {v:PV} (h:yE w B G v vs p k):∀q∈ZD v vs,B<=q:=by
 intro q hq;unfold ZD at hq;simp only[List.mem_append,Option.mem_toList] at hq;rcases hq with hq|hq|hq|hq|hq
 ·exact(zy h.os q hq).1
 ·exact(zy h.og q hq).1
 ·exact(zy h.ob q hq).1
 ·exact(zy h.orr q hq).1
 ·rw[Dg,List.mem_append] at hq;rcases hq with hq|hq
  ·exact(zy h.ot q (by simpa using hq)).1
  ·exact h.lo q hq
theorem yK.thr {v:PV} (h:yK w v p) (a0:0<p.threads.length):∃b o,v.t=some ⟨b,o,none⟩/\∀i,i<p.threads.length->∃a' c',w.cell? ⟨b,o+i,none⟩=some (.slice a' (p.threads.getD i []).length c')/\Rd w a' (qR (p.threads.getD i [])):=by
 obtain⟨vs,hT⟩:=h.rt;exact hT.thread a0
structure VO (v:PV):Prop where
 sg:∀k,yQ v.ns (.slice v.s v.ns v.cs)=some k->yQ v.ng (.slice v.g v.ng v.cg)≠some k
 sb:∀k,yQ v.ns (.slice v.s v.ns v.cs)=some k->yQ v.nb (.slice v.b v.nb v.cb)≠some k
 sr:∀k,yQ v.ns (.slice v.s v.ns v.cs)=some k->yQ v.nr (.slice v.r v.nr v.cr)≠some k
 gb:∀k,yQ v.ng (.slice v.g v.ng v.cg)=some k->yQ v.nb (.slice v.b v.nb v.cb)≠some k
 gr:∀k,yQ v.ng (.slice v.g v.ng v.cg)=some k->yQ v.nr (.slice v.r v.nr v.cr)≠some k
 br:∀k,yQ v.nb (.slice v.b v.nb v.cb)=some k->yQ v.nr (.slice v.r v.nr v.cr)≠some k
 zs:v.ns=0->v.cs=0
 zg:v.ng=0->v.cg=0
 zb:v.nb=0->v.cb=0
 zr:v.nr=0->v.cr=0
theorem VO.thr {v:PV} (h:VO v) (a:uQ) (n c:Nat):VO (v.thr a n c):=⟨h.sg,h.sb,h.sr,h.gb,h.gr,h.br,h.zs,h.zg,h.zb,h.zr⟩
def Gd:ByteArray:=⟨#[116,104,114,101,97,100,32]⟩
def vI (x:ByteArray) (i:Nat):Option xA:=
 if i=0 then qT x else if x=ZG then none else if byteAt x 0=32 then qT (x.extract 1 x.size) else none
def vH (parts:List ByteArray):Nat->Option (List xA)
 |0=>some []
 |i+1=>match vH parts i with
  |none=>none
  |some l=>match vI (parts.getD i ZG) i with
   |none=>none
   |some o=>some (l++[o])
def ZA (parts:List ByteArray):Option (List xA):=
 if parts.length<=8 then vH parts parts.length else none
def xD (line:ByteArray):Option (List xA):=
 if line=qS then some []
 else if line.size<7 then none
 else if line.extract 0 7=Gd then ZA (Zz (line.extract 7 line.size) 44)
 else none
theorem Qm {a0:List ByteArray}:∀{j:Nat} {l:List xA},vH a0 j=some l->l.length=j
 |0,l,h=>by
  obtain rfl:[]=l:=by simpa[vH] using h
  rfl
 |j+1,l,h=>by
  have h':(match vH a0 j with|none=>none|some l=>match vI (a0.getD j ZG) j with|none=>none|some x=>some (l++[x]))=some l:=h
  cases hd:vH a0 j with
  |none=>rw[hd] at h';cases h'
  |some m=>
   rw[hd] at h';simp only at h'
   cases hn:vI (a0.getD j ZG) j with
   |none=>rw[hn] at h';cases h'
   |some x=>
    rw[hn] at h';obtain rfl:m++[x]=l:=by simpa using h'
    have:=Qm hd;simp[this]
theorem Z4 {a0:List ByteArray} (h:vH a0 k=none):∀m,k<=m->vH a0 m=none
 |0,hm=>by(obtain rfl:k=0:=by omega);exact h
 |m+1,hm=>by
  rcases Nat.lt_or_ge m k with hc|hc
  ·obtain rfl:k=m+1:=jq;exact h
  ·have:=Z4 h m hc;show(match vH a0 m with|none=>none|some l=>match vI (a0.getD m ZG) m with|none=>none|some x=>some (l++[x]))=none;rw[this]
theorem kh (s:ByteArray) (w:World) (hs:s.size<=4294967296):
  Calls Tryz.prog 149 #[.string s] w λe w'=>∃(a:uQ) (n c:Nat),e= .returned (.tuple #[.slice a n c,.bool (xD s).isSome])/\(∀l,xD s=some l->n=l.length/\w'.ownsRow w.heap.size 68 3 (.slice a n c) n (qR l))/\xW w w':=by
 go_enter Tryz.func149,Tryz.ntmps149;by_cases hT:s=qS
 ·have HR:uH (xD s=some []):=zd (by unfold xD;rw[if_pos hT]);have q0:(s.toList==[116,104,114,101,97,100])=true:=by rw[hT,ByteArray.toList_eq];rfl
  clear hT;go_wp2;refine zM (v:= .tuple #[.slice (some ⟨w.heap.size,0,none⟩) 0 0,.bool true]) (by simp[results,Tryz.results149,go_sem]) rfl ⟨_,0,0,by rw[HR.o];rfl,λl hl=> ?_,zY⟩;rw[HR.o] at hl;obtain rfl:[]=l:=by simpa using hl
  exact⟨rfl,yg _ _ _⟩
 ·have q0:(s.toList==[116,104,114,101,97,100])=false:=by
   have:¬s.toList=[116,104,114,101,97,100]:=λh=>hT (toList_inj (by rw[h,ByteArray.toList_eq];rfl));simpa using this
  by_cases h7:s.size<7
  ·have HR:uH (xD s=none):=zd (by unfold xD;rw[if_neg hT,if_pos h7]);have t7:decide ((s.size:Int)<7)=true:=xK jq;have h1:decide (s.size<7)=true:=xK h7;clear hT;go_wp2;refine zM (v:= .tuple #[.slice (some ⟨w.heap.size,0,none⟩) 0 0,.bool false]) (by simp[results,Tryz.results149,go_sem]) rfl ⟨_,0,0,by rw[HR.o];rfl,(λl hl=>by rw[HR.o] at hl;cases hl),?_⟩;exact zY
  ·have t7:decide ((s.size:Int)<7)=false:=xr jq;have h1:decide (s.size<7)=false:=xr h7;obtain⟨H,hH⟩:=jy (s.extract 0 7);have i7:(7:Int)<=(s.size:Int):=jq;by_cases hh:H=Gd
   ·have q1:((s.extract 0 7).toList==[116,104,114,101,97,100,32])=true:=by rw[<-hH,hh,ByteArray.toList_eq];rfl
    obtain⟨R,hR⟩:=jy (s.extract 7 s.size);have b1:∀W:World,(Instr.slice 9 (.string s) (some (uy 7)) none none).run Tryz.prog W= .ok (.string R) W:=λW=>by
     rw[hR];go_simp
    have Y0:R.size<=4294967296:=by rw[hR,ByteArray.size_extract];omega
    obtain⟨a0,B0⟩:=jy (Zz R 44);have A0:uH (xD s=ZA a0):=zd (by unfold xD;rw[if_neg hT,if_neg h7,<-hH,if_pos hh,<-hR,<-B0]);have Q0:1<=a0.length:=by rw[B0];exact Q3 R 44
    have H0:∀x∈a0,x.size<=4294967296:=λx hx=>by
     have:=Xh R 44 (R.size+1) x (by rw[B0] at hx;exact hx);omega
    have G0:a0.length<=4294967297:=by
     have:=(JP R 44 (R.size+1)).2;rw[B0];show(xY R 44 (R.size+1)).1.length<=_;omega
    have V0:=zd B0;have X0:=zd H0;clear hT hH hh hR B0 H0 h7;go_wp2_with fail;refine(Jk R 44 _ Y0).mono ?_;rintro e w1 ⟨ap,cp,rfl,c0,hb⟩;rw[<-V0.o] at c0⊢;obtain⟨np,P0⟩:=jy a0.length;rw[<-P0] at c0 Q0 G0⊢;have j0:=zd P0;have HP:=zd (zw c0 (B':=w.heap.size) jv);have bE:xW w w1:=(zY).trans (hb.mono jv);have S0:=zd bE;have U0:=zd (zl (yg w 68 3) hb);clear P0 c0 hb bE;go_wp2
    go_loopw [4,6] (λvn vi wr=>∃(i:Nat) (l:List xA) (an:uQ) (cn:Nat),i<=np/\i<=9/\vi=uy i/\vn= .slice an i cn/\uH (vH a0 i=some l)/\wr.ownsRow w.heap.size 68 3 (.slice an i cn) i (qR l)/\uH (wr.ownsRow w.heap.size 9 1 (.slice ap np cp) np (Z7 a0))/\uH (xW w wr)) (λ_ vi _=>np-(intOf vi).toNat)
    case atStart=>exact⟨0,[],_,_,jq,jq,rfl,rfl,zd rfl,U0.o,HP,S0⟩
    case round=>
     obtain⟨i,l,an,cn,Z0,l1,rfl,rfl,y0,n0,J0,M0⟩:=hrel;have l0:=M0.o;have hS:=l0.size;by_cases N0:i<np/\i<=8
     ·obtain⟨x0,m1⟩:=N0;have i1:(i:Int)<(np:Int):=jq;have i0:(0:Int)<=(i:Int):=jq;have i8:(i:Int)<=8:=jq;obtain⟨b,o,rfl,hc⟩:=(Rd.of_owns J0.o).at (by rw[yG,<-j0.out];omega)
      have g1:=hc i (by rw[yG,<-j0.out];exact x0);obtain⟨x,hx⟩:=jy (a0.getD i ZG);have ex:(Z7 a0).getD i undef= .string x:=by rw[hx];simp[Z7,List.getD,show i<a0.length by rw[<-j0.out];exact x0]
      have v0:i<a0.length:=by rw[<-j0.out];exact x0
      have R0:x∈a0:=by
       rw[hx,xm,xV v0];exact List.getElem_mem v0
      have f1:x.size<=4294967296:=X0.o x R0;clear v0 R0;rw[ex] at g1;have h0:vH a0 (i+1)=match vI x i with|none=>none|some y=>some (l++[y]):=by
       show(match vH a0 i with|none=>none|some l=>match vI (a0.getD i ZG) i with|none=>none|some x=>some (l++[x]))=_;rw[y0.out,<-hx]
      clear hc hx ex;by_cases hz:i=0
      ·have p0:uH (vI x i=qT x):=zd (by unfold vI;rw[if_pos hz]);have tz:decide ((0:Int)<(i:Int))=false:=xr jq;have k1:decide (0<i)=false:=xr jq;have F0:=f1;clear hz
       cases hpo:qT x with
       |none=>
        have u0:=zd hpo;have HR:uH (xD s=none):=zd (by
         rw[A0.o];unfold ZA;split
         ·exact Z4 (k:=i+1) (by rw[h0,p0.out,hpo]) _ (by rw[<-j0.out];exact x0)
         ·rfl)
        clear h0 hpo;go_wp2_with fail;refine(ZO x _ F0).mono ?_;rintro e w3 ⟨rfl,d0⟩;rw[u0.out];simp only[Option.getD_none,Option.isSome_none];have D0:=l0.trans (d0.mono l0.size);have s0:=zd D0;clear d0 D0;go_wp2;refine zM (v:= .tuple #[.slice (some ⟨w3.heap.size+1,0,none⟩) 0 0,.bool false]) (by simp[results,Tryz.results149,go_sem]) rfl ⟨_,0,0,by rw[HR.o];rfl,(λl hl=>by rw[HR.o] at hl;cases hl),?_⟩;exact(s0.out.alloc s0.out.size _).alloc (by have:=s0.out.size;simp;omega) _
       |some o=>
        have L0:uH (∀u∈opv o,u.oneCell'=true):=zd (by intro u hu;simp only[opv,List.mem_cons,jw,or_false] at hu;rcases hu with rfl|rfl|rfl<;>rfl);have u0:=zd hpo;have K0:uH (vH a0 (i+1)=some (l++[o])):=zd (by rw[h0,p0.out,hpo]);clear h0 hpo;go_wp2_with fail;refine(ZO x _ F0).mono ?_;rintro e w3 ⟨rfl,d0⟩;rw[u0.out];simp only[Option.getD_some,Option.isSome_some];have f0:=M0.o.trans (d0.mono hS);have kA:zm (w3.alloc (.cells #[uy o.kind,uy o.on,uy o.arg] 68)) w3.heap.size #[uy o.kind,uy o.on,uy o.arg] 68:=zm.new _ _ _;have z0:=kA.cell 0 rfl;have z1:=kA.cell 1 rfl;have z2:=kA.cell 2 rfl;have b0:=(zl n0 d0).alloc (.cells #[uy o.kind,uy o.on,uy o.arg] 68);have g0:=f0.alloc f0.size (.cells #[uy o.kind,uy o.on,uy o.arg] 68);have t0:=zd g0;have k0:=zd b0;have C0:=zd ((zl J0.o d0).alloc (.cells #[uy o.kind,uy o.on,uy o.arg] 68));have E0:=g0.size;clear d0 f0 kA n0 g0;go_wp2_with (at_builtin;refine yF (m:=1) (cm:=1) (news:=opv o) rfl (.tmp 64) (.tmp 66) 48 rfl Tryz.underlying48 VU rfl jk rfl b0 (by show Value.slice (some ⟨w3.heap.size+1,0,none⟩) 1 1=_;simp) (by rw[QP]) rfl L0.o jq jk E0 ?_;intro a5 c5 w5 o0 m0;clear b0)
        go_roundw
        case rel=>
         refine⟨i+1,l++[o],a5,c5,jq,jq,by go_num,rfl,K0,?_,zd (zk C0.o m0 (zx C0.o k0.out jk)),zd (t0.out.trans (zG m0 E0 (λq hq=>(zy k0.out q hq).1)))⟩;simpa[qR] using o0
        case measure=>exact uq
      ·have tz:decide ((0:Int)<(i:Int))=true:=xK jq;have k1:decide (0<i)=true:=xK jq;by_cases r0:x=ZG
       ·have p0:uH (vI x i=none):=zd (by unfold vI;rw[if_neg hz,if_pos r0]);have q2:x.toList.isEmpty=true:=by rw[r0,ByteArray.toList_eq];rfl
        clear r0;have HR:uH (xD s=none):=zd (by
         rw[A0.o];unfold ZA;split
         ·exact Z4 (k:=i+1) (by rw[h0,p0.out]) _ (by rw[<-j0.out];exact x0)
         ·rfl)
        clear h0;go_wp2;refine zM (v:= .tuple #[.slice (some ⟨wr.heap.size,0,none⟩) 0 0,.bool false]) (by simp[results,Tryz.results149,go_sem]) rfl ⟨_,0,0,by rw[HR.o];rfl,(λl hl=>by rw[HR.o] at hl;cases hl),?_⟩;exact l0.alloc l0.size _
       ·have q2:x.toList.isEmpty=false:=by
         have:¬x.toList=[]:=λh=>r0 (toList_inj (by rw[h,ByteArray.toList_eq];rfl));simpa using this
        have hp:0<x.size:=by
         rcases Nat.eq_zero_or_pos x.size with h|h
         ·exact absurd (ByteArray.size_eq_zero_iff.1 h) r0
         ·exact h
        have eB:byteAt x 0=(x[0].toNat:Int):=by unfold byteAt;rw[dif_pos hp]
        rcases Bool.eq_false_or_eq_true ((x[0].toNat:Int)==32) with I0|I0
        ·obtain⟨T,hT⟩:=jy (x.extract 1 x.size);have p0:uH (vI x i=qT T):=zd (by unfold vI;rw[if_neg hz,if_neg r0,if_pos (by rw[eB];simpa using I0),<-hT]);have F0:T.size<=4294967296:=by rw[hT,ByteArray.size_extract];omega
         have n1:(1:Int)<=(x.size:Int):=jq;have o1:¬(x.size:Int)<1:=jq;have d1:∀W:World,(Instr.slice 9 (.string x) (some (uy 1)) none none).run Tryz.prog W= .ok (.string T) W:=λW=>by
          rw[hT];go_simp
         clear hT eB r0
         cases hpo:qT T with
         |none=>
          have u0:=zd hpo;have HR:uH (xD s=none):=zd (by
           rw[A0.o];unfold ZA;split
           ·exact Z4 (k:=i+1) (by rw[h0,p0.out,hpo]) _ (by rw[<-j0.out];exact x0)
           ·rfl)
          clear h0 hpo;go_wp2_with fail;refine(ZO T _ F0).mono ?_;rintro e w3 ⟨rfl,d0⟩;rw[u0.out];simp only[Option.getD_none,Option.isSome_none];have D0:=l0.trans (d0.mono l0.size);have s0:=zd D0;clear d0 D0;go_wp2;refine zM (v:= .tuple #[.slice (some ⟨w3.heap.size+1,0,none⟩) 0 0,.bool false]) (by simp[results,Tryz.results149,go_sem]) rfl ⟨_,0,0,by rw[HR.o];rfl,(λl hl=>by rw[HR.o] at hl;cases hl),?_⟩;exact(s0.out.alloc s0.out.size _).alloc (by have:=s0.out.size;simp;omega) _
         |some o=>
          have L0:uH (∀u∈opv o,u.oneCell'=true):=zd (by intro u hu;simp only[opv,List.mem_cons,jw,or_false] at hu;rcases hu with rfl|rfl|rfl<;>rfl);have u0:=zd hpo;have K0:uH (vH a0 (i+1)=some (l++[o])):=zd (by rw[h0,p0.out,hpo]);clear h0 hpo;go_wp2_with fail;refine(ZO T _ F0).mono ?_;rintro e w3 ⟨rfl,d0⟩;rw[u0.out];simp only[Option.getD_some,Option.isSome_some];have f0:=M0.o.trans (d0.mono hS);have kA:zm (w3.alloc (.cells #[uy o.kind,uy o.on,uy o.arg] 68)) w3.heap.size #[uy o.kind,uy o.on,uy o.arg] 68:=zm.new _ _ _;have z0:=kA.cell 0 rfl;have z1:=kA.cell 1 rfl;have z2:=kA.cell 2 rfl;have b0:=(zl n0 d0).alloc (.cells #[uy o.kind,uy o.on,uy o.arg] 68);have g0:=f0.alloc f0.size (.cells #[uy o.kind,uy o.on,uy o.arg] 68);have t0:=zd g0;have k0:=zd b0;have C0:=zd ((zl J0.o d0).alloc (.cells #[uy o.kind,uy o.on,uy o.arg] 68));have E0:=g0.size;clear d0 f0 kA n0 g0;go_wp2_with (at_builtin;refine yF (m:=1) (cm:=1) (news:=opv o) rfl (.tmp 64) (.tmp 66) 48 rfl Tryz.underlying48 VU rfl jk rfl b0 (by show Value.slice (some ⟨w3.heap.size+1,0,none⟩) 1 1=_;simp) (by rw[QP]) rfl L0.o jq jk E0 ?_;intro a5 c5 w5 o0 m0;clear b0)
          go_roundw
          case rel=>
           refine⟨i+1,l++[o],a5,c5,jq,jq,by go_num,rfl,K0,?_,zd (zk C0.o m0 (zx C0.o k0.out jk)),zd (t0.out.trans (zG m0 E0 (λq hq=>(zy k0.out q hq).1)))⟩;simpa[qR] using o0
          case measure=>exact uq
        ·have p0:uH (vI x i=none):=zd (by unfold vI;rw[if_neg hz,if_neg r0,if_neg (λh=>by rw[eB] at h;rw[h] at I0;simp at I0)]);clear eB r0;have HR:uH (xD s=none):=zd (by
          rw[A0.o];unfold ZA;split
          ·exact Z4 (k:=i+1) (by rw[h0,p0.out]) _ (by rw[<-j0.out];exact x0)
          ·rfl)
         clear h0;go_wp2;refine zM (v:= .tuple #[.slice (some ⟨wr.heap.size,0,none⟩) 0 0,.bool false]) (by simp[results,Tryz.results149,go_sem]) rfl ⟨_,0,0,by rw[HR.o];rfl,(λl hl=>by rw[HR.o] at hl;cases hl),?_⟩;exact l0.alloc l0.size _
     ·have a1:=Qm y0.out;by_cases h8:np<=8
      ·have hE:i=np:=jq;subst hE;have HR:uH (xD s=some l):=zd (by rw[A0.o];unfold ZA;rw[if_pos (by rw[<-j0.out];exact h8),<-j0.out];exact y0.out);have t8:decide ((i:Int)<=8)=true:=xK jq;have j1:decide (i<=8)=true:=xK h8;have T0:=zd a1;clear N0;go_wp2;refine zM (v:= .tuple #[.slice an i cn,.bool true]) (by simp[results,Tryz.results149,go_sem]) rfl ⟨_,i,cn,by rw[HR.o];rfl,λm hm=> ?_,l0⟩;rw[HR.o] at hm;obtain rfl:l=m:=by simpa using hm
       exact⟨T0.o.symm,n0⟩
      ·have O0:i=9/\9<=np:=jq;obtain⟨rfl,h9⟩:=O0;have HR:uH (xD s=none):=zd (by rw[A0.o];unfold ZA;rw[if_neg (by rw[<-j0.out];exact h8)]);have t8:decide ((np:Int)<=8)=false:=xr jq;have j1:decide (np<=8)=false:=xr h8;clear N0;go_wp2
       all_goals refine zM (v:= .tuple #[.slice an 9 cn,.bool false]) (by simp[results,Tryz.results149,go_sem]) rfl ⟨_,9,cn,by rw[HR.o];rfl,(λl hl=>by rw[HR.o] at hl;cases hl),l0⟩
   ·have HR:uH (xD s=none):=zd (by unfold xD;rw[if_neg hT,if_neg h7,<-hH,if_neg hh]);have q1:((s.extract 0 7).toList==[116,104,114,101,97,100,32])=false:=by
     have:¬(s.extract 0 7).toList=[116,104,114,101,97,100,32]:=λh=>hh (toList_inj (by rw[hH,h,ByteArray.toList_eq];rfl));simpa using this
    clear hT hH hh;go_wp2;refine zM (v:= .tuple #[.slice (some ⟨w.heap.size,0,none⟩) 0 0,.bool false]) (by simp[results,Tryz.results149,go_sem]) rfl ⟨_,0,0,by rw[HR.o];rfl,(λl hl=>by rw[HR.o] at hl;cases hl),?_⟩;exact zY
theorem Gv (hv:zD p=true) (i j:Nat) (hi:i<p.threads.length) (hj:j<(p.threads.getD i []).length):ql ((p.threads.getD i []).getD j qf).on/\ql ((p.threads.getD i []).getD j qf).arg:=by
 obtain⟨⟨h1,h2⟩,h3,h4⟩:=tG hv (kT hv hi hj);unfold ql;omega
theorem qB {l:List Int} {lo hi:Int} (h:xl l lo hi=true) (h0: -9<=lo) (h1:hi<=9):∀j,j<l.length->ql (l.getD j 0):=λj hj=>by
 have:=(yX h).2 j hj;unfold ql;omega
theorem KJ (hv:zD p=true):(uD p).size<=288:=by
 obtain⟨h1,h2,h3,h4⟩:=uK hv;have a1:=qY (word:=J4) (qB h1 jq jq) jk (yX h1).1;have a2:=qY (word:=YP) (qB h2 jq jq) jk (yX h2).1;have a3:=qY (word:=Zp) (qB h3 jq jq) jk (yX h3).1;have a4:=qY (word:=X4) (qB h4 jq jq) jk (yX h4).1;unfold uD;simp only[ByteArray.size_append];omega
theorem XS (v:PV) (p:Pg) (w:World) (hr:yK w v p) (hz:xH v p):
  Calls Tryz.prog 150 #[.agg (zF v)] w λe w'=>e= .returned (.string (uX p))/\xW w w':=by
 have hs:v.ns<=maxLen/\v.ng<=maxLen/\v.nb<=maxLen/\v.nr<=maxLen:=by
  obtain⟨z1,z2,z3,z4,z5,z6⟩:=hz;unfold maxLen;omega
 have zz:uH (v.ns<=maxLen/\v.ng<=maxLen/\v.nb<=maxLen/\v.nr<=maxLen):=zd hs;have HZ:=zd hz;have z5:v.nt<=1048576:=hz.lt;have Z6:=zd hz.inn;have ls:=zd hr.ls;have lg:=zd hr.lg;have lb:=zd hr.lb;have lr:=zd hr.lr;have lt:=zd hr.lt;clear hz;have B0:xW w (w.alloc (.cells (zF v) 26)):=zY;have k0:zm (w.alloc (.cells (zF v) 26)) w.heap.size (zF v) 26:=zm.new _ _ _;have q0:(w.alloc (.cells (zF v) 26)).cell? ⟨w.heap.size,0,none⟩=some (.slice v.s v.ns v.cs):=k0.cell 0 rfl;have q1:(w.alloc (.cells (zF v) 26)).cell? ⟨w.heap.size,1,none⟩=some (.slice v.g v.ng v.cg):=k0.cell 1 rfl;have q2:(w.alloc (.cells (zF v) 26)).cell? ⟨w.heap.size,2,none⟩=some (.slice v.b v.nb v.cb):=k0.cell 2 rfl;have q3:(w.alloc (.cells (zF v) 26)).cell? ⟨w.heap.size,3,none⟩=some (.slice v.r v.nr v.cr):=k0.cell 3 rfl;have q4:(w.alloc (.cells (zF v) 26)).cell? ⟨w.heap.size,4,none⟩=some (.slice v.t v.nt v.ct):=k0.cell 4 rfl;clear k0;rcases Bool.eq_false_or_eq_true (zD p) with hv|hv
 rotate_left
 ·have HR:uH (uX p=⟨#[]⟩):=zd (by unfold uX;rw[if_neg (by rw[hv];simp)]);have HV:=zd hv;clear hv;go_enter Tryz.func150,Tryz.ntmps150;go_wp2_with fail;refine(jX v p _ (hr.below B0) HZ.o).mono ?_;rintro e wS ⟨rfl,hb⟩;rw[HV.o];go_wp2;go_ret;exact⟨Zg HR.o.symm,B0.trans (hb.mono B0.size)⟩
 have HR:uH (uX p=Jx (uD p) p.threads p.threads.length):=zd (by unfold uX;rw[if_pos hv]);have s0:=zd hv;have b0:=uK hv;have D0:=KJ hv;have v1:=vM hv;rw[lt.out] at v1;have p0:=zd b0;have l1:=zd D0;have HV:=zd hv;have U0:=(yX b0.1).1;have V0:=(yX b0.2.1).1;have X0:=(yX b0.2.2.1).1;have Y0:=(yX b0.2.2.2).1;rw[ls.out] at U0;rw[lg.out] at V0;rw[lb.out] at X0;rw[lr.out] at Y0;have L0:=qY (word:=J4) (qB b0.1 jq jq) jk (yX b0.1).1;have M0:=qY (word:=YP) (qB b0.2.1 jq jq) jk (yX b0.2.1).1;have N0:=qY (word:=Zp) (qB b0.2.2.1 jq jq) jk (yX b0.2.2.1).1;have O0:=qY (word:=X4) (qB b0.2.2.2 jq jq) jk (yX b0.2.2.2).1;obtain⟨T1,v0⟩:=jy (qH J4 p.sems);obtain⟨T2,x0⟩:=jy (qH YP p.groups);obtain⟨T3,y0⟩:=jy (qH Zp p.barriers);obtain⟨T4,z0⟩:=jy (qH X4 p.rooms);have I0:uH (T1++T2++T3++T4=uD p):=zd (by rw[v0,x0,y0,z0];rfl);rw[<-v0] at L0;rw[<-x0] at M0;rw[<-y0] at N0;rw[<-z0] at O0;have Z0:=zd v0;have d1:=zd x0;have h1:=zd y0;have i1:=zd z0;have s1:=λ(W:World)=>run_string_add_sum (P:=Tryz.prog) (w:=W) T1 T2 jq;have s2:=λ(W:World)=>run_string_add_sum (P:=Tryz.prog) (w:=W) (T1++T2) T3 (by rw[ByteArray.size_append];omega)
 have s3:=λ(W:World)=>run_string_add_sum (P:=Tryz.prog) (w:=W) (T1++T2++T3) T4 (by rw[ByteArray.size_append,ByteArray.size_append];omega);clear hv b0 D0 v0 x0 y0 z0 L0 M0 N0 O0;go_enter Tryz.func150,Tryz.ntmps150;go_wp2_with fail;refine(jX v p _ (hr.below B0) HZ.o).mono ?_;rintro e wS ⟨rfl,hb⟩;rw[HV.o];have h0:=B0.trans (hb.mono B0.size);replace q0:=ze hb q0;replace q1:=ze hb q1;replace q2:=ze hb q2;replace q3:=ze hb q3;replace q4:=ze hb q4;clear hb;go_wp2;apply xZ 15 [.k _,.k _,.k (.string T1),.k _,.k _,.k (.string T2),.k _,.k _,.k _,.k (.string T3),.k _,.k _,.k _,.k (.string T4),.k _] trivial ?s1 ?e1
 case s1=>
  repeat' apply And.intro
  all_goals first|trivial|(intro ρ w1 hG hfr hd;obtain⟨fc,ff⟩:=xu hfr;have f1:=hfr (.tmp 1) rfl;have q0:=ze hG q0;have q1:=ze hG q1;have q2:=ze hG q2;have q3:=ze hG q3)
  exact yj;exact yI
  ·obtain⟨d0,-⟩:=hd;have d0:(ρ (.tmp 10))= .slice v.s v.ns v.cs:=d0;refine zU (by go_simp;exact⟨⟨rfl,rfl⟩,rfl⟩) ?_;refine(Jq J4 v.s v.ns v.cs p.sems _ ls.out jq jk (hr.rs.below (h0.trans (hG.mono h0.size))) (qB p0.out.1 jq jq)).mono ?_;rintro e w2 ⟨rfl,hb⟩;exact⟨_,rfl,hb,by rw[Z0.o];rfl,yn,hG.trans (hb.mono hG.size)⟩
  exact yj;exact yI
  ·obtain⟨d0,-⟩:=hd;have d0:(ρ (.tmp 13))= .slice v.g v.ng v.cg:=d0;refine zU (by go_simp;exact⟨⟨rfl,rfl⟩,rfl⟩) ?_;refine(Jq YP v.g v.ng v.cg p.groups _ lg.out jq jk (hr.rg.below (h0.trans (hG.mono h0.size))) (qB p0.out.2.1 jq jq)).mono ?_;rintro e w2 ⟨rfl,hb⟩;exact⟨_,rfl,hb,by rw[d1.out];rfl,yn,hG.trans (hb.mono hG.size)⟩
  exact Gu;exact yj;exact yI
  ·obtain⟨d0,-⟩:=hd;have d0:(ρ (.tmp 17))= .slice v.b v.nb v.cb:=d0;refine zU (by go_simp;exact⟨⟨rfl,rfl⟩,rfl⟩) ?_;refine(Jq Zp v.b v.nb v.cb p.barriers _ lb.out jq jk (hr.rb.below (h0.trans (hG.mono h0.size))) (qB p0.out.2.2.1 jq jq)).mono ?_;rintro e w2 ⟨rfl,hb⟩;exact⟨_,rfl,hb,by rw[h1.out];rfl,yn,hG.trans (hb.mono hG.size)⟩
  exact Gu;exact yj;exact yI
  ·obtain⟨d0,-⟩:=hd;have d0:(ρ (.tmp 21))= .slice v.r v.nr v.cr:=d0;refine zU (by go_simp;exact⟨⟨rfl,rfl⟩,rfl⟩) ?_;refine(Jq X4 v.r v.nr v.cr p.rooms _ lr.out jq jk (hr.rr.below (h0.trans (hG.mono h0.size))) (qB p0.out.2.2.2 jq jq)).mono ?_;rintro e w2 ⟨rfl,hb⟩;exact⟨_,rfl,hb,by rw[i1.out];rfl,yn,hG.trans (hb.mono hG.size)⟩
  exact Gu
 intro w2 hG;refine yv ?_;have i0:=h0.trans (hG.mono h0.size);replace q0:=ze hG q0;replace q1:=ze hG q1;replace q2:=ze hG q2;replace q3:=ze hG q3;replace q4:=ze hG q4;have x1:=zd I0.o;clear hG h0 s1 s2 s3 U0 V0 X0 Y0;obtain⟨vs,hT⟩:=hr.rt;obtain⟨b1,o1,ea,J0⟩:=(hT.below i0).thread (jQ lt.out);rw[ea] at q4;have G1:=zd J0;clear J0 ea hT;generalize w2=W0 at*;go_wp2;rw[I0.o]
 go_loopw [3,4] (λvo vi wr=>∃i:Nat,i<=v.nt/\vi=uy i/\vo= .string (Jx (uD p) p.threads i)/\xW W0 wr) (λ_ vi _=>v.nt-(intOf vi).toNat)
 case atStart=>exact⟨0,jq,rfl,rfl,Below.refl _ _⟩
 case round=>
  obtain⟨i,hi,rfl,rfl,j0⟩:=hrel;have B2:xW w wr:=i0.trans (j0.mono i0.size);have c4:=ze j0 q4;have F0:=Kh (s:=uD p) (λi hi=>Gi s0.out hi) (λi j hi hj=>Gv s0.out i j hi hj) i (jQ lt.out);have D0:=l1.out;by_cases C1:i<v.nt
  ·obtain⟨wo,Q0⟩:∃wo:World,wo=wr:=⟨_,rfl⟩
   rw[<-Q0] at j0 c4 B2⊢;clear Q0 wr;obtain⟨a2,x2,g1,r2⟩:=G1.o i (jQ lt.out);obtain⟨m,hm⟩:=jy ((p.threads.getD i []).length);rw[<-hm] at g1;replace g1:=ze j0 g1;replace r2:=r2.below j0;have u1:=Z6.o i;rw[<-hm] at u1;have HM:=zd hm;clear hm;have D1:m<=8:=by rw[HM.o];exact Gi s0.out (jQ lt.out)
   obtain⟨g0,c0⟩:=jy (p.threads.getD i []);have k1:=zd c0;obtain⟨S0,A0⟩:=jy (Jx (uD p) p.threads i);have n0:Jx (uD p) p.threads (i+1)=ZL (S0++qS) g0 m++Gt:=by rw[A0,c0,HM.o];rfl
   have j1:=zd n0;rw[<-A0] at F0⊢;have y1:=zd A0;have A1:(S0++qS).size<=2000:=by rw[ByteArray.size_append];have:qS.size=6:=rfl;omega
   have l0:uH (∀j,j<g0.length->ql (g0.getD j qf).on/\ql (g0.getD j qf).arg):=zd (by rw[c0];exact λj hj=>Gv s0.out i j (jQ lt.out) hj);have s1:=λ(W:World)=>run_string_add_sum (P:=Tryz.prog) (w:=W) S0 ⟨#[116,104,114,101,97,100]⟩ (by have:(⟨#[116,104,114,101,97,100]⟩:ByteArray).size=6:=rfl;omega);rw[<-c0] at r2;have r0:uH (g0.length=m):=zd (by rw[c0,<-HM.o]);clear c0 A0 n0 F0;go_wp2
   go_loopw [3,5] (λvo vj wk=>∃k:Nat,k<=m/\vj=uy k/\vo= .string (ZL (S0++qS) g0 k)/\xW wo wk) (λ_ vj _=>m-(intOf vj).toNat)
   case atStart=>exact⟨0,jq,rfl,rfl,Below.refl _ _⟩
   case round=>
    obtain⟨k,hk,rfl,rfl,f0⟩:=hrel;have d4:=ze f0 c4;have f1:=ze f0 g1;have P0:=QV (s:=S0++qS) l0.out k (jQ r0.out);by_cases B1:k<m
    ·obtain⟨b2,o2,m1,K0⟩:=(r2.below f0).op (jQ r0.out);obtain⟨n1,p1,r1⟩:=K0 k (jQ r0.out);have o0:=l0.out k (jQ r0.out);have G0:=KF _ o0.1 o0.2;obtain⟨x,hx⟩:=jy (g0.getD k qf);rw[<-hx] at n1 p1 r1 o0 G0;subst m1;have HX:=zd hx;have u0:=zd o0;obtain⟨S,hS⟩:=jy (ZL (S0++qS) g0 k);have n0:ZL (S0++qS) g0 (k+1)=(if 0<k then S++Vo else S)++uV++qM x:=by rw[hS,hx];rfl
     have H0:=zd n0;rw[<-hS] at P0⊢;have R0:(⟨#[32]⟩:ByteArray).size=1:=rfl;have T0:(⟨#[44]⟩:ByteArray).size=1:=rfl;clear K0 hx o0 hS n0;by_cases C0:0<k
     ·have t0:decide (0<k)=true:=xK C0;have a0:=λ(W:World)=>run_string_add_sum (P:=Tryz.prog) (w:=W) S ⟨#[44]⟩ jq;have a1:=λ(W:World)=>run_string_add_sum (P:=Tryz.prog) (w:=W) (S++⟨#[44]⟩) ⟨#[32]⟩ (by rw[ByteArray.size_append];omega);have a2:=λ(W:World)=>run_string_add_sum (P:=Tryz.prog) (w:=W) (S++⟨#[44]⟩++⟨#[32]⟩) (qM x) (by rw[ByteArray.size_append,ByteArray.size_append];omega);have E0:uH (ZL (S0++qS) g0 (k+1)=S++Vo++uV++qM x):=zd (by rw[H0.o,if_pos C0]);clear R0 T0 G0;go_wp2_with fail;refine(Zw x _ u0.out.1 u0.out.2).mono ?_;rintro e w5 ⟨rfl,m0⟩;replace f0:=f0.trans (m0.mono f0.size);clear m0;go_wp2
      go_roundw
      case rel=>exact⟨k+1,jq,by go_num,by rw[E0.o];rfl,f0⟩
      case measure=>exact uq
     ·have t0:decide (0<k)=false:=xr C0;have a1:=λ(W:World)=>run_string_add_sum (P:=Tryz.prog) (w:=W) S ⟨#[32]⟩ jq;have a2:=λ(W:World)=>run_string_add_sum (P:=Tryz.prog) (w:=W) (S++⟨#[32]⟩) (qM x) (by rw[ByteArray.size_append];omega);have E0:uH (ZL (S0++qS) g0 (k+1)=S++uV++qM x):=zd (by rw[H0.o,if_neg C0]);clear R0 T0 G0;go_wp2_with fail;refine(Zw x _ u0.out.1 u0.out.2).mono ?_;rintro e w5 ⟨rfl,m0⟩;replace f0:=f0.trans (m0.mono f0.size);clear m0;go_wp2
      go_roundw
      case rel=>exact⟨k+1,jq,by go_num,by rw[E0.o];rfl,f0⟩
      case measure=>exact uq
    ·obtain rfl:m=k:=jq;have s9:=λ(W:World)=>run_string_add_sum (P:=Tryz.prog) (w:=W) (ZL (S0++qS) g0 m) ⟨#[10]⟩ (by have:(⟨#[10]⟩:ByteArray).size=1:=rfl;omega);clear P0;go_wp2
     go_roundw
     case rel=>exact⟨i+1,jq,by go_num,by rw[j1.out];rfl,j0.trans (f0.mono j0.size)⟩
     case measure=>exact uq
  ·have t1:i=v.nt:=jq;clear F0 D0;go_wp2;go_ret;exact⟨Zg (by rw[HR.o,lt.out,t1]),B2⟩
def xX:Pg:=⟨[],[],[],[],[]⟩
def uR (p:Pg) (x:ByteArray):Pg:=
 match vK x J4 with
 |some l=>{p with sems:=l}
 |none=>match vK x YP with
  |some l=>{p with groups:=l}
  |none=>match vK x Zp with
   |some l=>{p with barriers:=l}
   |none=>match vK x X4 with
    |some l=>{p with rooms:=l}
    |none=>match xD x with
     |some t=>{p with threads:=p.threads++[t]}
     |none=>p
def jJ (lines:List ByteArray):Nat->Pg
 |0=>xX
 |i+1=>uR (jJ lines i) (lines.getD i ZG)
def ZR (lines:List ByteArray):Pg:=jJ lines (Nat.min (lines.length-1) 9)
def ub (text:ByteArray):Option Pg:=
 if zD (ZR (Zz text 10))=true then
  if uX (ZR (Zz text 10))=text then some (ZR (Zz text 10)) else none
 else none
theorem Qc {x word:ByteArray} {l:List Int} (h:vK x word=some l):l.length<=5:=by
 unfold vK QG at h;split at h
 ·split at h
  ·cases h
  ·cases hn:jC (Zz x 32) (Nat.min ((Zz x 32).length-1) 5) with
   |none=>rw[hn] at h;cases h
   |some m=>
    rw[hn] at h;have hl:=Jj hn;simp only[Option.bind_some] at h;split at h
    ·obtain rfl:m=l:=by simpa using h
     rw[hl];exact Nat.min_le_right _ _
    ·cases h
 ·cases h
theorem KR {x:ByteArray} {l:List xA} (h:xD x=some l):l.length<=8:=by
 unfold xD at h;split at h
 ·obtain rfl:[]=l:=by simpa using h
  simp
 ·split at h
  ·cases h
  ·split at h
   ·unfold ZA at h;split at h
    ·next h8=>rw[Qm h];exact h8
    ·cases h
   ·cases h
structure JN (p:Pg) (k:Nat):Prop where
 s:p.sems.length<=5
 g:p.groups.length<=5
 b:p.barriers.length<=5
 r:p.rooms.length<=5
 t:p.threads.length<=k
 i:∀t∈p.threads,t.length<=8
theorem Jf (a0:List ByteArray):∀i,JN (jJ a0 i) i
 |0=>⟨by simp[jJ,xX],by simp[jJ,xX],by simp[jJ,xX],by simp[jJ,xX],by simp[jJ,xX],by simp[jJ,xX]⟩
 |i+1=>by
  have h:=Jf a0 i;show JN (uR (jJ a0 i) (a0.getD i ZG)) (i+1);have h':JN (jJ a0 i) (i+1):=⟨h.s,h.g,h.b,h.r,Nat.le_succ_of_le h.t,h.i⟩
  unfold uR;split
  ·next l e=>exact⟨Qc e,h'.g,h'.b,h'.r,h'.t,h'.i⟩
  ·split
   ·next l e=>exact⟨h'.s,Qc e,h'.b,h'.r,h'.t,h'.i⟩
   ·split
    ·next l e=>exact⟨h'.s,h'.g,Qc e,h'.r,h'.t,h'.i⟩
    ·split
     ·next l e=>exact⟨h'.s,h'.g,h'.b,Qc e,h'.t,h'.i⟩
     ·split
      ·next l e=>
       refine⟨h'.s,h'.g,h'.b,h'.r,by have:=h.t;simp;omega,λt ht=> ?_⟩;rcases xM ht with ht|ht
       ·exact h'.i t ht
       ·obtain rfl:=yh ht;exact KR e
      ·exact h'
theorem yE.zero (w:World) (B G:Nat) (h:zm w G #[uk,uk,uk,uk,uk] 26):
  yE w B G ⟨none,0,0,none,0,0,none,0,0,none,0,0,none,0,0⟩ [] xX 0:=
 ⟨h,⟨by simp[xX,zf],.inl ⟨rfl,rfl⟩⟩,⟨by simp[xX,zf],.inl ⟨rfl,rfl⟩⟩,⟨by simp[xX,zf],.inl ⟨rfl,rfl⟩⟩,⟨by simp[xX,zf],.inl ⟨rfl,rfl⟩⟩,⟨jv,.inl ⟨rfl,rfl⟩⟩,jU.nil w,by simp[uW],by simp[uW]⟩
theorem yE.sems {G:Nat} {v:PV} (h:yE w B G v vs p k) {l:List Int} (ho:w.ownsRow B 3 1 (.slice a n c) n (zf l)):
  yE (w.setCell ⟨G,0,none⟩ (.slice a n c)) B G {v with s:=a,ns:=n,cs:=c} vs {p with sems:=l} k:=by
 obtain⟨t1,t2,t3,t4,t5,t6⟩:=jY;have g2:=zv w G 0 (.slice a n c);have far:∀{e:TypeId} {sz n' c' B':Nat} {a':uQ} {xs:uZ},w.ownsRow B' e sz (.slice a' n' c') n' xs->26≠e->∀q,zj a'=some q->some G=some q->False:=by
  intro e sz n' c' B' a' xs b0 a0 q hq e'
  cases e'
  exact yd h.blk b0 a0 hq
 have s0:=zk ho g2 (far ho t3);exact⟨by simpa using h.blk.set 0 (.slice a n c),s0,(zk h.og g2 (far h.og t3)),(zk h.ob g2 (far h.ob t3)),(zk h.orr g2 (far h.orr t3)),zk h.ot g2 (far h.ot t4),h.inn.grown g2 (λq hq=>by cases hq;exact h.inn.not_blk h.blk (λe=>t5 e.symm)),h.nd,h.lo⟩
theorem yE.groups {G:Nat} {v:PV} (h:yE w B G v vs p k) {l:List Int} (ho:w.ownsRow B 3 1 (.slice a n c) n (zf l)):
  yE (w.setCell ⟨G,1,none⟩ (.slice a n c)) B G {v with g:=a,ng:=n,cg:=c} vs {p with groups:=l} k:=by
 obtain⟨t1,t2,t3,t4,t5,t6⟩:=jY;have g2:=zv w G 1 (.slice a n c);have far:∀{e:TypeId} {sz n' c' B':Nat} {a':uQ} {xs:uZ},w.ownsRow B' e sz (.slice a' n' c') n' xs->26≠e->∀q,zj a'=some q->some G=some q->False:=by
  intro e sz n' c' B' a' xs b0 a0 q hq e'
  cases e'
  exact yd h.blk b0 a0 hq
 have s0:=zk ho g2 (far ho t3);exact⟨by simpa using h.blk.set 1 (.slice a n c),(zk h.os g2 (far h.os t3)),s0,(zk h.ob g2 (far h.ob t3)),(zk h.orr g2 (far h.orr t3)),zk h.ot g2 (far h.ot t4),h.inn.grown g2 (λq hq=>by cases hq;exact h.inn.not_blk h.blk (λe=>t5 e.symm)),h.nd,h.lo⟩
theorem yE.barriers {G:Nat} {v:PV} (h:yE w B G v vs p k) {l:List Int} (ho:w.ownsRow B 3 1 (.slice a n c) n (zf l)):
  yE (w.setCell ⟨G,2,none⟩ (.slice a n c)) B G {v with b:=a,nb:=n,cb:=c} vs {p with barriers:=l} k:=by
 obtain⟨t1,t2,t3,t4,t5,t6⟩:=jY;have g2:=zv w G 2 (.slice a n c);have far:∀{e:TypeId} {sz n' c' B':Nat} {a':uQ} {xs:uZ},w.ownsRow B' e sz (.slice a' n' c') n' xs->26≠e->∀q,zj a'=some q->some G=some q->False:=by
  intro e sz n' c' B' a' xs b0 a0 q hq e'
  cases e'
  exact yd h.blk b0 a0 hq
 have s0:=zk ho g2 (far ho t3);exact⟨by simpa using h.blk.set 2 (.slice a n c),(zk h.os g2 (far h.os t3)),(zk h.og g2 (far h.og t3)),s0,(zk h.orr g2 (far h.orr t3)),zk h.ot g2 (far h.ot t4),h.inn.grown g2 (λq hq=>by cases hq;exact h.inn.not_blk h.blk (λe=>t5 e.symm)),h.nd,h.lo⟩
theorem yE.rooms {G:Nat} {v:PV} (h:yE w B G v vs p k) {l:List Int} (ho:w.ownsRow B 3 1 (.slice a n c) n (zf l)):
  yE (w.setCell ⟨G,3,none⟩ (.slice a n c)) B G {v with r:=a,nr:=n,cr:=c} vs {p with rooms:=l} k:=by
 obtain⟨t1,t2,t3,t4,t5,t6⟩:=jY;have g2:=zv w G 3 (.slice a n c);have far:∀{e:TypeId} {sz n' c' B':Nat} {a':uQ} {xs:uZ},w.ownsRow B' e sz (.slice a' n' c') n' xs->26≠e->∀q,zj a'=some q->some G=some q->False:=by
  intro e sz n' c' B' a' xs b0 a0 q hq e'
  cases e'
  exact yd h.blk b0 a0 hq
 have s0:=zk ho g2 (far ho t3);exact⟨by simpa using h.blk.set 3 (.slice a n c),(zk h.os g2 (far h.os t3)),(zk h.og g2 (far h.og t3)),(zk h.ob g2 (far h.ob t3)),s0,zk h.ot g2 (far h.ot t4),h.inn.grown g2 (λq hq=>by cases hq;exact h.inn.not_blk h.blk (λe=>t5 e.symm)),h.nd,h.lo⟩
theorem yE.more {G:Nat} {v:PV} (h:yE w B G v vs p p.threads.length) {t:List xA} (h2:w.ownsRow 0 68 3 (.slice a2 m c2) m (qR t)) 
  (hf:∀q,zj a2=some q->B<=q/\q∉uW vs) {a:uQ} {n c:Nat} (ho:w'.ownsRow B 48 1 (.slice a n c) n (vs++[.slice a2 m c2])) (hg:w.grownBy w' (zj v.t)):
  yE (w'.setCell ⟨G,4,none⟩ (.slice a n c)) B G (v.thr a n c) (vs++[.slice a2 m c2]) {p with threads:=p.threads++[t]} (p.threads++[t]).length:=by
 have e1:(p.threads++[t]).take p.threads.length=p.threads.take p.threads.length:=jv;have h0:yE w B G v vs {p with threads:=p.threads++[t]} p.threads.length:=⟨h.blk,h.os,h.og,h.ob,h.orr,h.ot,by show jU w vs (((p.threads++[t]).take p.threads.length).map qR);rw[e1];exact h.inn,h.nd,h.lo⟩
 have:=h0.step jv (by show w.ownsRow 0 68 3 (.slice a2 m c2) m (qR ((p.threads++[t]).getD p.threads.length []));simpa[List.getD] using h2) hf ho hg;simpa using this
theorem yE.small {G:Nat} {v:PV} (h:yE w B G v vs p p.threads.length) (hs:JN p k) (hk:k<=9):xH v p:=by
 have h1:=h.os.1;have h2:=h.og.1;have h3:=h.ob.1;have h4:=h.orr.1;have h5:=h.ot.1;have h6:=h.inn.len;simp only[zf,yG,List.take_length] at h1 h2 h3 h4 h6;have:=hs.s;have:=hs.g;have:=hs.b;have:=hs.r;have:=hs.t;refine⟨jq,jq,jq,jq,jq,λi=> ?_⟩;rw[xm]
 cases hi:p.threads[i]? with
 |none=>simp
 |some t=>
  have:=hs.i t (vB hi);simp only[Option.getD_some];omega
theorem qp.zero (w:World):qp w ⟨none,0,0,none,0,0,none,0,0,none,0,0,none,0,0⟩ [] xX.cells:=
 ⟨⟨by simp[xX,Pg.cells,zf],.inl ⟨rfl,rfl⟩⟩,⟨by simp[xX,Pg.cells,zf],.inl ⟨rfl,rfl⟩⟩,⟨by simp[xX,Pg.cells,zf],.inl ⟨rfl,rfl⟩⟩,⟨by simp[xX,Pg.cells,zf],.inl ⟨rfl,rfl⟩⟩,⟨⟨jv,.inl ⟨rfl,rfl⟩⟩,rfl,λi hi=>absurd hi (Nat.not_lt_zero _)⟩⟩
theorem xH.zero:xH ⟨none,0,0,none,0,0,none,0,0,none,0,0,none,0,0⟩ xX:=⟨jv,jv,jv,jv,jv,λi=>by simp[xX]⟩
theorem VX (s:ByteArray) (w:World) (hs:s.size<=4294967296):
  Calls Tryz.prog 117 #[.string s] w λe w'=>∃(v:PV) (vs:uZ),e= .returned (.tuple #[.agg (zF v),.bool (ub s).isSome])/\qp w' v vs ((ub s).getD xX).cells/\(∀q∈ZD v vs,w.heap.size<=q)/\xH v ((ub s).getD xX)/\xW w w':=by
 have B0:xW w (w.alloc (.cells #[uk,uk,uk,uk,uk] 26)):=zY;have kR:zm (w.alloc (.cells #[uk,uk,uk,uk,uk] 26)) w.heap.size #[uk,uk,uk,uk,uk] 26:=zm.new _ _ _;go_enter Tryz.func117,Tryz.ntmps117;go_wp2_with fail;refine(Jk s 10 _ hs).mono ?_;rintro e w1 ⟨ap,cp,rfl,d0,hb⟩;replace kR:=kR.below hb;replace B0:=B0.trans (hb.mono B0.size);have r1:w.heap.size+1<=w1.heap.size:=by have:=hb.size;simpa using this
 clear hb;obtain⟨a0,A0⟩:=jy (Zz s 10);have T0:1<=a0.length:=by rw[A0];exact Q3 s 10
 have K0:∀x∈a0,x.size<=4294967296:=λx hx=>by
  have:=Xh s 10 (s.size+1) x (by rw[A0] at hx;exact hx);omega
 have J0:a0.length<=4294967297:=by
  have:=(JP s 10 (s.size+1)).2;rw[A0];show(xY s 10 (s.size+1)).1.length<=_;omega
 have k1:uH (ub s=if zD (ZR a0)=true then (if uX (ZR a0)=s then some (ZR a0) else none) else none):=zd (by rw[A0];rfl);rw[<-A0] at d0⊢;obtain⟨np,S0⟩:=jy a0.length;rw[<-S0] at d0 T0 J0⊢;have F0:=zd S0;have l1:=zd K0;have HP:=zd (Rd.of_owns d0);have Q0:=zd kR;have p0:=zd B0;have f1:uH (yE (w1.alloc (.cells #[uk,uk,uk,uk,uk] 26)) w1.heap.size w1.heap.size ⟨none,0,0,none,0,0,none,0,0,none,0,0,none,0,0⟩ [] xX 0):=zd (yE.zero _ _ _ (zm.new _ _ _));clear A0 S0 K0 d0 kR B0;go_wp2
 go_loopw [6] (λvi wr=>∃(i:Nat) (v:PV) (vs:uZ),i+1<=np/\i<=9/\vi=uy i/\uH (yE wr w1.heap.size w1.heap.size v vs (jJ a0 i) (jJ a0 i).threads.length)/\uH (xW w1 wr)) (λvi _=>np-(intOf vi).toNat)
 case atStart=>exact⟨0,_,_,jq,jq,rfl,f1,zd (zY)⟩
 case round=>
  obtain⟨i,v,vs,p1,o1,rfl,HC,z0⟩:=hrel;have hS:=z0.out.size;have U0:=Jf a0 i;have X0:=zd U0;have v1:v.nt<=9:=by
   have h1:=HC.o.ot.1;have h2:=HC.o.inn.len;have h3:=U0.t;simp only[yG,List.take_length] at h2;omega
  clear U0;by_cases Z0:i+1<np/\i<9
  ·obtain⟨u1,t1⟩:=Z0;have i1:(i:Int)<(np:Int):=jq;have i2:(i:Int)+1<(np:Int):=jq;have i0:(0:Int)<=(i:Int):=jq;have i9:(i:Int)<9:=jq;obtain⟨b,o,rfl,hc⟩:=(HP.o.below z0.out).at (by rw[yG,<-F0.o];omega)
   have g1:=hc i (by rw[yG,<-F0.o];omega);obtain⟨x,hx⟩:=jy (a0.getD i ZG);have ex:(Z7 a0).getD i undef= .string x:=by rw[hx];simp[Z7,List.getD,show i<a0.length by rw[<-F0.o];omega]
   have o0:i<a0.length:=by rw[<-F0.o];omega
   have d1:x∈a0:=by
    rw[hx,xm,xV o0];exact List.getElem_mem o0
   have L0:x.size<=4294967296:=l1.out x d1;clear o0 d1;rw[ex] at g1;obtain⟨p,hp⟩:=jy (jJ a0 i);have t0:uH (jJ a0 (i+1)=uR p x):=zd (by rw[hp,hx];rfl);rw[<-hp] at HC;clear hc hx ex hp;go_wp2_with fail;refine(Jm x J4 _ L0).mono ?_;rintro e w2 ⟨a1,n1,c1,rfl,h1,b1⟩;have g2:=ze b1 g1;have H1:=zd h1;have V0:=zd b1;have s1:=b1.size;clear g1 h1 b1;go_wp2_with fail;refine(Jm x YP _ L0).mono ?_;rintro e w3 ⟨a2,n2,c2,rfl,h2,b2⟩;have g3:=ze b2 g2;have H2:=zd h2;have P0:=zd b2;have s2:=b2.size;clear g2 h2 b2;go_wp2_with fail;refine(Jm x Zp _ L0).mono ?_;rintro e w4 ⟨a3,n3,c3,rfl,h3,b3⟩;have g4:=ze b3 g3;have H3:=zd h3;have M0:=zd b3;have s3:=b3.size;clear g3 h3 b3;go_wp2_with fail;refine(Jm x X4 _ L0).mono ?_;rintro e w5 ⟨a4,n4,c4,rfl,h4,b4⟩;have g5:=ze b4 g4;have H4:=zd h4;have C0:=zd b4;have s4:=b4.size;clear g4 h4 b4;go_wp2_with fail;refine(kh x _ L0).mono ?_;rintro e w6 ⟨a5,n5,c5,rfl,h5,b5⟩;have H5:=zd h5;have r0:=zd b5;have s5:=b5.size;clear g5 h5 b5;have c0:=zd (((((HC.o.below V0.o).below P0.o).below M0.o).below C0.o).below r0.out);have l0:=zd (((((z0.out.trans (V0.o.mono jq)).trans (P0.o.mono jq)).trans (M0.o.mono jq)).trans (C0.o.mono jq)).trans (r0.out.mono jq));have x0:=c0.out.blk.fz 0
   have x1:=c0.out.blk.fz 1;have x2:=c0.out.blk.fz 2;have x3:=c0.out.blk.fz 3;have x4:=c0.out.blk.fz 4;have e0:=c0.out.blk.cell 0 rfl;have e1:=c0.out.blk.cell 1 rfl;have e2:=c0.out.blk.cell 2 rfl;have e3:=c0.out.blk.cell 3 rfl;have e4:=c0.out.blk.cell 4 rfl
   cases he1:vK x J4 with
   |some l=>
    have m0:=zd he1;have HN:uH (jJ a0 (i+1)={p with sems:=l}):=zd (by rw[t0.out];unfold uR;simp only[he1]);have HO:=zd (zw (zl (zl (zl (zl (H1.o l m0.out).2 P0.o) M0.o) C0.o) r0.out) (B':=w1.heap.size) jq);clear he1;simp only[Option.isSome_some];go_wp2
    go_roundw
    case rel=>
     refine⟨i+1,{v with s:=a1,ns:=n1,cs:=c1},vs,jq,jq,by go_num,zd ?_,zd (l0.out.setCell yk _)⟩;rw[HN.o];exact c0.out.sems HO.o
    case measure=>exact uq
   |none=>
    have m0:=zd he1;clear he1;simp only[Option.isSome_none]
    cases he2:vK x YP with
    |some l=>
     have s0:=zd he2;have HN:uH (jJ a0 (i+1)={p with groups:=l}):=zd (by rw[t0.out];unfold uR;simp only[m0.out,he2]);have HO:=zd (zw (zl (zl (zl (H2.o l s0.out).2 M0.o) C0.o) r0.out) (B':=w1.heap.size) jq);clear he2;simp only[Option.isSome_some];go_wp2
     go_roundw
     case rel=>
      refine⟨i+1,{v with g:=a2,ng:=n2,cg:=c2},vs,jq,jq,by go_num,zd ?_,zd (l0.out.setCell yk _)⟩;rw[HN.o];exact c0.out.groups HO.o
     case measure=>exact uq
    |none=>
     have s0:=zd he2;clear he2;simp only[Option.isSome_none]
     cases he3:vK x Zp with
     |some l=>
      have E0:=zd he3;have HN:uH (jJ a0 (i+1)={p with barriers:=l}):=zd (by rw[t0.out];unfold uR;simp only[m0.out,s0.out,he3]);have HO:=zd (zw (zl (zl (H3.o l E0.o).2 C0.o) r0.out) (B':=w1.heap.size) jq);clear he3;simp only[Option.isSome_some];go_wp2
      go_roundw
      case rel=>
       refine⟨i+1,{v with b:=a3,nb:=n3,cb:=c3},vs,jq,jq,by go_num,zd ?_,zd (l0.out.setCell yk _)⟩;rw[HN.o];exact c0.out.barriers HO.o
      case measure=>exact uq
     |none=>
      have E0:=zd he3;clear he3;simp only[Option.isSome_none]
      cases he4:vK x X4 with
      |some l=>
       have N0:=zd he4;have HN:uH (jJ a0 (i+1)={p with rooms:=l}):=zd (by rw[t0.out];unfold uR;simp only[m0.out,s0.out,E0.o,he4]);have HO:=zd (zw (zl (H4.o l N0.o).2 r0.out) (B':=w1.heap.size) jq);clear he4;simp only[Option.isSome_some];go_wp2
       go_roundw
       case rel=>
        refine⟨i+1,{v with r:=a4,nr:=n4,cr:=c4},vs,jq,jq,by go_num,zd ?_,zd (l0.out.setCell yk _)⟩;rw[HN.o];exact c0.out.rooms HO.o
       case measure=>exact uq
      |none=>
       have N0:=zd he4;clear he4;simp only[Option.isSome_none]
       cases he5:xD x with
       |some t=>
        have HN:uH (jJ a0 (i+1)={p with threads:=p.threads++[t]}):=zd (by rw[t0.out];unfold uR;simp only[m0.out,s0.out,E0.o,N0.o,he5]);have HO:=zd (zw (H5.o t he5).2 (B':=0) (Nat.zero_le _));have HF:uH (∀q,zj a5=some q->w1.heap.size<=q/\q∉uW vs):=zd (λq hq=>by
         have h1:=(zy (cs:=qR t) (by have:=(H5.o t he5).2;exact this) q hq).1;exact⟨jq,λhm=>by have h2:=HC.o.inn.lt q hm;omega⟩)
        clear he5;simp only[Option.isSome_some];have O0:=c0.out.ot;have Y0:=l0.out.size;go_wp2_with (at_builtin;refine yF (news:=[.slice a5 n5 c5]) rfl (.tmp 90) (.tmp 92) 24 rfl Tryz.underlying24 QW rfl jk rfl O0 rfl rfl rfl (by simp[Value.oneCell']) jq jk Y0 ?_;intro a6 c6 w7 I0 j0;have A1:=(c0.out.blk.grown j0 (yd c0.out.blk O0 jY.2.2.2.1)).fz 4;have z1:=(c0.out.blk.grown j0 (yd c0.out.blk O0 jY.2.2.2.1)).cell 4 rfl)
        go_roundw
        case rel=>
         refine⟨i+1,v.thr a6 (v.nt+1) c6,vs++[.slice a5 n5 c5],jq,jq,by go_num,zd ?_,zd ((l0.out.trans (zG j0 Y0 (λq hq=>(zy O0 q hq).1))).setCell yk _)⟩;rw[HN.o];exact c0.out.more HO.o HF.o I0 j0
        case measure=>exact uq
       |none=>
        have HN:uH (jJ a0 (i+1)=p):=zd (by rw[t0.out];unfold uR;simp only[m0.out,s0.out,E0.o,N0.o,he5]);clear he5;simp only[Option.isSome_none];go_wp2
        go_roundw
        case rel=>
         refine⟨i+1,v,vs,jq,jq,by go_num,zd ?_,l0⟩;rw[HN.o];exact c0.out
        case measure=>exact uq
  ·have H0:i=Nat.min (a0.length-1) 9:=by rw[<-F0.o];simp only[Nat.min_def];split<;>omega
   obtain⟨p,hp⟩:=jy (jJ a0 i);have R0:uH (ub s=if zD p=true then (if uX p=s then some p else none) else none):=zd (by
    rw[k1.out];unfold ZR;rw[<-H0,<-hp])
   rw[<-hp] at HC X0;have G0:=zd (HC.o.own rfl).rd;have HZ:=zd (HC.o.small X0.o o1);have e0:=HC.o.blk.cell 0 rfl;have e1:=HC.o.blk.cell 1 rfl;have e2:=HC.o.blk.cell 2 rfl;have e3:=HC.o.blk.cell 3 rfl;have e4:=HC.o.blk.cell 4 rfl;have m1:¬((i:Int)+1<(np:Int)/\(i:Int)<9):=λh=>Z0 ⟨jq,jq⟩;clear hp H0
   cases hv:zD p with
   |false=>
    have HV:=zd hv;have HR:uH (ub s=none):=zd (by rw[R0.o,if_neg (by rw[hv];decide)]);clear hv;by_cases hl:i+1<np
    all_goals
     go_wp2_with fail;refine(jX v p _ G0.o HZ.o).mono ?_;rintro e w2 ⟨rfl,g0⟩;rw[HV.o];have h0:=z0.out.trans (g0.mono hS);clear g0;have b0:=Q0.o.below h0;have y0:=b0.cell 0 rfl;have x0:=b0.fz 0;have y1:=b0.cell 1 rfl;have x1:=b0.fz 1;have y2:=b0.cell 2 rfl;have x2:=b0.fz 2;have y3:=b0.cell 3 rfl;have x3:=b0.fz 3;have y4:=b0.cell 4 rfl;have x4:=b0.fz 4;have BE:=p0.out.trans ((h0).mono p0.out.size);have D0:=zd BE;clear b0 BE;go_wp2;refine zM (v:= .tuple #[.agg #[uk,uk,uk,uk,uk],.bool false]) (by simp[results,Tryz.results117,go_sem,y0,y1,y2,y3,y4]) rfl ⟨⟨none,0,0,none,0,0,none,0,0,none,0,0,none,0,0⟩,[],by rw[HR.o];rfl,by rw[HR.o];exact qp.zero _,λq hq=>by simp[ZD,Vm,zj] at hq,by rw[HR.o];exact xH.zero,?_⟩;exact((((D0.o.setCell yk _).setCell yk _).setCell yk _).setCell yk _).setCell yk _
   |true=>
    have HV:=zd hv;clear hv;by_cases hf:uX p=s
    ·have HR:uH (ub s=some p):=zd (by rw[R0.o,if_pos HV.o,if_pos hf]);have j1:=zd hf;clear hf;by_cases hl:i+1<np
     all_goals
      go_wp2_with fail;refine(jX v p _ G0.o HZ.o).mono ?_;rintro e w2 ⟨rfl,g0⟩;rw[HV.o];have f0:=zd (HC.o.below g0);have n0:=zd (G0.o.below g0);have h0:=z0.out.trans (g0.mono hS);have e0:=f0.out.blk.cell 0 rfl;have e1:=f0.out.blk.cell 1 rfl;have e2:=f0.out.blk.cell 2 rfl;have e3:=f0.out.blk.cell 3 rfl;have e4:=f0.out.blk.cell 4 rfl;clear g0;go_wp2_with fail;refine(XS v p _ n0.out HZ.o).mono ?_;rintro e w3 ⟨rfl,u0⟩;rw[j1.out];have k0:=zd (f0.out.below u0);have v0:=h0.trans (u0.mono h0.size);have e0:=k0.out.blk.cell 0 rfl;have e1:=k0.out.blk.cell 1 rfl;have e2:=k0.out.blk.cell 2 rfl;have e3:=k0.out.blk.cell 3 rfl;have e4:=k0.out.blk.cell 4 rfl;have b0:=Q0.o.below v0;have y0:=b0.cell 0 rfl;have x0:=b0.fz 0;have y1:=b0.cell 1 rfl;have x1:=b0.fz 1;have y2:=b0.cell 2 rfl;have x2:=b0.fz 2;have y3:=b0.cell 3 rfl;have x3:=b0.fz 3;have y4:=b0.cell 4 rfl;have x4:=b0.fz 4;have BE:=p0.out.trans (v0.mono p0.out.size);have D0:=zd BE;clear b0 BE u0 h0 v0;go_wp2;refine zM (v:= .tuple #[.agg (zF v),.bool true]) (by simp[results,Tryz.results117,go_sem,y0,y1,y2,y3,y4]) rfl ⟨v,vs,by rw[HR.o];rfl,?_,λq hq=>by have:=k0.out.fresh q hq;omega,by rw[HR.o];exact HZ.o,?_⟩
      ·rw[HR.o];refine(k0.out.own rfl).touch (S:=[w.heap.size]) ?_ (λq hq hm=>by have:=k0.out.fresh q hq;simp at hm;omega);exact zo.set (zo.set (zo.set (zo.set (zo.set (zo.refl _ _) jv) jv) jv) jv) jv
      ·exact((((D0.o.setCell yk _).setCell yk _).setCell yk _).setCell yk _).setCell yk _
    ·have HR:uH (ub s=none):=zd (by rw[R0.o,if_pos HV.o,if_neg hf]);have q1:¬(uX p).toList=s.toList:=λh=>hf (toList_inj h);have q0:((uX p).toList==s.toList)=false:=(by simpa using q1);clear hf q1;by_cases hl:i+1<np
     all_goals
      go_wp2_with fail;refine(jX v p _ G0.o HZ.o).mono ?_;rintro e w2 ⟨rfl,g0⟩;rw[HV.o];have f0:=zd (HC.o.below g0);have n0:=zd (G0.o.below g0);have h0:=z0.out.trans (g0.mono hS);have e0:=f0.out.blk.cell 0 rfl;have e1:=f0.out.blk.cell 1 rfl;have e2:=f0.out.blk.cell 2 rfl;have e3:=f0.out.blk.cell 3 rfl;have e4:=f0.out.blk.cell 4 rfl;clear g0;go_wp2_with fail;refine(XS v p _ n0.out HZ.o).mono ?_;rintro e w3 ⟨rfl,u0⟩;have v0:=h0.trans (u0.mono h0.size);clear u0;have b0:=Q0.o.below v0;have y0:=b0.cell 0 rfl;have x0:=b0.fz 0;have y1:=b0.cell 1 rfl;have x1:=b0.fz 1;have y2:=b0.cell 2 rfl;have x2:=b0.fz 2;have y3:=b0.cell 3 rfl;have x3:=b0.fz 3;have y4:=b0.cell 4 rfl;have x4:=b0.fz 4;have BE:=p0.out.trans ((v0).mono p0.out.size);have D0:=zd BE;clear b0 BE;go_wp2;refine zM (v:= .tuple #[.agg #[uk,uk,uk,uk,uk],.bool false]) (by simp[results,Tryz.results117,go_sem,y0,y1,y2,y3,y4]) rfl ⟨⟨none,0,0,none,0,0,none,0,0,none,0,0,none,0,0⟩,[],by rw[HR.o];rfl,by rw[HR.o];exact qp.zero _,λq hq=>by simp[ZD,Vm,zj] at hq,by rw[HR.o];exact xH.zero,?_⟩;exact((((D0.o.setCell yk _).setCell yk _).setCell yk _).setCell yk _).setCell yk _
theorem pv (R:Nat) (a:uQ) (n c:Nat) (bs:List Int) (p:Int) (g m cm:Nat) (w:World) (h:jD w R a n c bs p) (hp:p<=1099511627776)
  (hm:1<=m) (g0:m<=1000) (hx:∀v:Nat,v<m->∃x:ByteArray,w.cell? ⟨g,v,none⟩=some (.string x)/\x.size<=4294967296) (hg:g≠R):
  Calls Tryz.prog 118 #[.pointer (some ⟨R,0,none⟩),.slice (some ⟨g,0,none⟩) m cm] w λe w'=>
   ∃x:ByteArray,e= .returned (.string x)/\x.size<=4294967296/\jD w' R a n c bs (p+1)/\w.grownBy w' (some R)/\uH (w'.heap.size=w.heap.size):=by
 have HX:=zd hx;clear hx;go_enter Tryz.func118,Tryz.ntmps118;go_wp2_with fail;refine(qK R a n c bs p m _ h hp jq).mono ?_;rintro e w1 ⟨v,rfl,hv,hr,b0,hs⟩;have c0:v<m:=jq;obtain⟨x,a0,d0⟩:=HX.o v c0;have f0:w1.cell? ⟨g,v,none⟩=some (.string x):=by
  have hb:=World.block_lt_of_cell? _ _ a0;have:=b0.block g hb (by simpa using hg);unfold World.cell? at a0⊢;simp only at a0⊢;rw[this];exact a0
 clear a0;go_wp2_with fail;go_ret;exact⟨x,rfl,d0,hr,b0,hs⟩
theorem GN (w:World):
  Calls Tryz.prog 119 #[] w λe w'=>
   ∃(g:Nat) (l:Array Value),e= .returned (.slice (some ⟨g,0,none⟩) 8 8)/\zm w' g l 9/\l.size=8/\(∀i:Nat,i<8->∃x:ByteArray,l[i]? =some (.string x)/\x.size<=4294967296)/\w.heap.size<=g/\xW w w':=by
 go_enter Tryz.func119,Tryz.ntmps119;go_wp2;go_ret;refine⟨_,_,rfl,zm.new _ _ _,rfl,?_,Nat.le_refl _,zY⟩;intro i hi
 match i,hi with
 |0,_=>exact⟨_,rfl,jk⟩
 |1,_=>exact⟨_,rfl,jk⟩
 |2,_=>exact⟨_,rfl,jk⟩
 |3,_=>exact⟨_,rfl,jk⟩
 |4,_=>exact⟨_,rfl,jk⟩
 |5,_=>exact⟨_,rfl,jk⟩
 |6,_=>exact⟨_,rfl,jk⟩
 |7,_=>exact⟨_,rfl,jk⟩
end Go.Proofs.YtfclolgfegdfjaaGreat
