/- Part of a proof: BaseC. -/
import Derived.Test.YtjmpejaifmopnaaGreatQBaseB
set_option maxRecDepth 100000
set_option maxHeartbeats 16000000
namespace Go.Proofs.YtjmpejaifmopnaaGreat
open Go.RowKit
def nlB:ByteArray:=⟨#[10]⟩
def commaB:ByteArray:=⟨#[44]⟩
def threadB:ByteArray:=⟨#[116,104,114,101,97,100]⟩
def semsB:ByteArray:=⟨#[115,101,109,115]⟩
def groupsB:ByteArray:=⟨#[103,114,111,117,112,115]⟩
def barriersB:ByteArray:=⟨#[98,97,114,114,105,101,114,115]⟩
def roomsB:ByteArray:=⟨#[114,111,111,109,115]⟩
def listTo (word:ByteArray) (l:List Int):Nat→ByteArray
 |0=>word
 |k+1=>listTo word l k++spB++decI (l.getD k 0)
def listText (word:ByteArray) (l:List Int):ByteArray:=if l.length=0 then ⟨#[]⟩ else listTo word l l.length++nlB
def opsTo (s:ByteArray) (l:List OpD):Nat→ByteArray
 |0=>s
 |k+1=>(if 0<k then opsTo s l k++commaB else opsTo s l k)++spB++fmtOp (l.getD k noOp)
def thrTo (s:ByteArray) (ts:List (List OpD)):Nat→ByteArray
 |0=>s
 |i+1=>opsTo (thrTo s ts i++threadB) (ts.getD i []) (ts.getD i []).length++nlB
def listsText (p:Pg):ByteArray:=listText semsB p.sems++listText groupsB p.groups++listText barriersB p.barriers++listText roomsB p.rooms
def fmtProg (p:Pg):ByteArray:=if progValid p=true then thrTo (listsText p) p.threads p.threads.length else ⟨#[]⟩
theorem within_facts {l:List Int} {lo hi:Int} (h:within l lo hi=true):l.length≤3∧∀j,j<l.length→lo≤l.getD j 0∧l.getD j 0≤hi:=by
 unfold within at h
 simp only[Bool.and_eq_true,decide_eq_true_eq,List.all_eq_true] at h
 refine⟨h.1,fun j hj=> ?_⟩
 have e:l.getD j 0=l[j]:=by simp[List.getD,hj]
 rw[e]
 exact h.2 _ (List.getElem_mem hj)
theorem valid_lists {p:Pg} (h:progValid p=true):within p.sems 1 9=true∧within p.groups 0 9=true∧within p.barriers 1 6=true∧within p.rooms 0 4=true:=by
 unfold progValid at h
 simp only[Bool.and_eq_true] at h
 exact⟨h.1.1.1.1.1.1,h.1.1.1.1.1.2,h.1.1.1.1.2,h.1.1.1.2⟩
theorem valid_bounds {p:Pg} (hv:progValid p=true) {o:OpD} (h:opValid p o=true):(0≤o.on∧o.on≤3)∧-9≤o.arg∧o.arg≤99:=by
 obtain⟨hk,hon,harg⟩:=opValid_facts h
 obtain⟨h1,h2,h3,h4⟩:=valid_lists hv
 have l1:=(within_facts h1).1
 have l2:=(within_facts h2).1
 have l3:=(within_facts h3).1
 have l4:=(within_facts h4).1
 have hsh:shared p o.kind≤3:=by
  unfold shared
  repeat' split
  all_goals omega
 refine⟨⟨hon.1,by omega⟩,?_⟩
 unfold argOk at harg
 split at harg
 ·simp only[Bool.and_eq_true,decide_eq_true_eq] at harg
  have hs:p.sems.getD o.on.toNat 0≤9:=by
   by_cases hi:o.on.toNat<p.sems.length
   ·exact((within_facts h1).2 _ hi).2
   ·rw[List.getD_eq_getElem?_getD,List.getElem?_eq_none (by omega)];simp
  omega
 ·split at harg
  ·simp only[Bool.and_eq_true,decide_eq_true_eq] at harg
   omega
  ·split at harg
   ·unfold isVal at harg
    simp only[Bool.and_eq_true,decide_eq_true_eq] at harg
    omega
   ·simp only[decide_eq_true_eq] at harg
    omega
def InI64 (n:Int):Prop:= -9223372036854775808≤n∧n≤9223372036854775807
theorem listTo_size {word:ByteArray} {l:List Int} (hb:∀j,j<l.length→InI64 (l.getD j 0)):∀k,k≤l.length→(listTo word l k).size≤word.size+21*k
 |0,_=>Nat.le_refl _
 |k+1,hk=>by
  have h:=listTo_size (word:=word) hb k (by omega)
  have h2:=decI_size _ (hb k (by omega)).1 (hb k (by omega)).2
  have hs:spB.size=1:=rfl
  show(listTo word l k++spB++decI (l.getD k 0)).size≤_
  rw[ByteArray.size_append,ByteArray.size_append]
  omega
theorem listText_size {word:ByteArray} {l:List Int} (hb:∀j,j<l.length→InI64 (l.getD j 0)) (hw:word.size≤8) (hl:l.length≤3):(listText word l).size≤72:=by
 unfold listText
 split
 ·show 0≤72;omega
 ·have:=listTo_size (word:=word) hb l.length xL1
  have hs:nlB.size=1:=rfl
  rw[ByteArray.size_append]
  omega
theorem opsTo_size {s:ByteArray} {l:List OpD} (hb:∀j,j<l.length→InI64 (l.getD j noOp).on∧InI64 (l.getD j noOp).arg):∀k,k≤l.length→(opsTo s l k).size≤s.size+51*k
 |0,_=>Nat.le_refl _
 |k+1,hk=>by
  have h:=opsTo_size (s:=s) hb k (by omega)
  have h2:=fmtOp_size _ (hb k (by omega)).1 (hb k (by omega)).2
  have hs:spB.size=1:=rfl
  have hc:commaB.size=1:=rfl
  show((if 0<k then opsTo s l k++commaB else opsTo s l k)++spB++fmtOp (l.getD k noOp)).size≤_
  rw[ByteArray.size_append,ByteArray.size_append]
  split
  ·rw[ByteArray.size_append];omega
  ·omega
theorem thrTo_size {s:ByteArray} {ts:List (List OpD)} (h8:∀i,i<ts.length→(ts.getD i []).length≤8) (hb:∀i j,i<ts.length→j<(ts.getD i []).length→InI64 ((ts.getD i []).getD j noOp).on∧InI64 ((ts.getD i []).getD j noOp).arg):
  ∀i,i≤ts.length→(thrTo s ts i).size≤s.size+415*i
 |0,_=>Nat.le_refl _
 |i+1,hi=>by
  have h:=thrTo_size (s:=s) h8 hb i (by omega)
  have h2:=opsTo_size (s:=thrTo s ts i++threadB) (fun j hj=>hb i j (by omega) hj) (ts.getD i []).length xL1
  have h3:=h8 i (by omega)
  have hs:threadB.size=6:=rfl
  have hc:nlB.size=1:=rfl
  show(opsTo (thrTo s ts i++threadB) (ts.getD i []) (ts.getD i []).length++nlB).size≤_
  rw[ByteArray.size_append]
  rw[ByteArray.size_append] at h2
  omega
theorem l6List_any (word:ByteArray) (a:Option Addr) (n c:Nat) (l:List Int) (w:World) (hl:l.length=n) (hn:n≤1000) (hw:word.size≤100) (hr:Rd w a (ints l)) (hb:∀j,j<l.length→InI64 (l.getD j 0)):
  Calls Tryz.prog 97 #[.string word,.slice a n c] w fun e w'=>e= .returned (.string (listText word l))∧Below w.heap.size w w':=by
 have HL:=xH1 hl
 have hsp:spB.size=1:=rfl
 have hnl:nlB.size=1:=rfl
 have HB:=xH1 hb
 by_cases h0:n=0
 ·have HR:Hid (listText word l=⟨#[]⟩):=xH1 (by unfold listText;rw[if_pos (by omega)])
  have t0:((n:Int)==0)=true:=by simp;omega
  clear hl hb hsp hnl
  go_enter Tryz.func97,Tryz.ntmps97
  go_wp2
  go_ret
  exact⟨ret_str HR.out.symm,Below.refl _ _⟩
 ·have HR:Hid (listText word l=listTo word l n++nlB):=xH1 (by unfold listText;rw[if_neg (by omega),hl])
  have t0:((n:Int)==0)=false:=by simp;omega
  have HSP:=xH1 hsp
  have HNL:=xH1 hnl
  have HR0:=xH1 hr
  clear hl hb hsp hnl hr
  go_enter Tryz.func97,Tryz.ntmps97
  go_wp2
  go_loopw [5,6] (fun vo vi wr=>∃k:Nat,k≤n∧vi= .int .i64 k∧vo= .string (listTo word l k)∧Below w.heap.size w wr) (fun _ vi _=>n-(intOf vi).toNat)
  case atStart=>exact⟨0,by omega,rfl,rfl,Below.refl _ _⟩
  case round=>
   obtain⟨k,hk,rfl,rfl,hbl⟩:=hrel
   have hsz:=listTo_size (word:=word) HB.out k (by have:=HL.out;omega)
   by_cases hlt:k<n
   ·obtain⟨b,o,rfl,hc⟩:=(HR0.out.below hbl).int (by have:=HL.out;omega)
    have g1:=hc k (by have:=HL.out;omega)
    have hx1:=HB.out k (by have:=HL.out;omega)
    have hx2:=decI_size _ hx1.1 hx1.2
    obtain⟨x,hx⟩:∃x,x=l.getD k 0:=⟨_,rfl⟩
    rw[←hx] at g1 hx1 hx2
    have HX:=xH1 hx
    have HX1:=xH1 hx1
    have s1:=fun(W:World)=>run_string_add_sum (P:=Tryz.prog) (w:=W) (listTo word l k) ⟨#[32]⟩ (by have:(⟨#[32]⟩:ByteArray).size=1:=rfl;omega)
    have s2:=fun(W:World)=>run_string_add_sum (P:=Tryz.prog) (w:=W) (listTo word l k++⟨#[32]⟩) (decI x) (by rw[ByteArray.size_append];have:(⟨#[32]⟩:ByteArray).size=1:=rfl;omega)
    clear hc hx hx1 hx2 hsz
    go_wp2_with fail
    refine(l13Dec_any x _ HX1.out.1 HX1.out.2).mono ?_
    rintro e w2 ⟨rfl,hb2⟩
    replace hbl:=hbl.trans (hb2.mono hbl.size)
    clear hb2
    go_wp2
    go_roundw
    case rel=>exact⟨k+1,by omega,by go_num,by rw[HX.out];rfl,hbl⟩
    case measure=>simp[intOf];omega
   ·obtain rfl:n=k:=by omega
    have s3:=fun(W:World)=>run_string_add_sum (P:=Tryz.prog) (w:=W) (listTo word l n) ⟨#[10]⟩ (by have:(⟨#[10]⟩:ByteArray).size=1:=rfl;omega)
    clear hsz
    go_wp2
    go_ret
    exact⟨ret_str HR.out.symm,hbl⟩
def makeOp (k:Int) (nums:List Int):Option OpD:=
 if argsN k=0∧nums.length=1 then some ⟨k,0,nums.getD 0 0⟩
 else if argsN k=1∧nums.length=1 then some ⟨k,nums.getD 0 0,0⟩
 else if argsN k=2∧nums.length=2 then some ⟨k,nums.getD 0 0,nums.getD 1 0⟩
 else none
abbrev zeroOp:OpD:=⟨0,0,0⟩
theorem argsN_cases (k:Int):argsN k=0∨argsN k=1∨argsN k=2:=by
 unfold argsN
 repeat' split
 all_goals simp
theorem l6Make_any (k:Int) (a:Option Addr) (n c:Nat) (nums:List Int) (w:World) (hl:nums.length=n) (hn:n≤100) (hr:Rd w a (ints nums)):
  Calls Tryz.prog 102 #[.int .i64 k,.slice a n c] w fun e w'=>e= .returned (.tuple #[.agg #[.int .i64 ((makeOp k nums).getD zeroOp).kind,.int .i64 ((makeOp k nums).getD zeroOp).on,.int .i64 ((makeOp k nums).getD zeroOp).arg],.bool (makeOp k nums).isSome])∧Below w.heap.size w w':=by
 obtain⟨W0,hW0⟩:∃W0:World,W0=((w.alloc (.cells #[.int .i64 0,.int .i64 0,.int .i64 0] 58)).alloc (.cells #[.int .i64 k,.int .i64 0,.int .i64 0] 58)):=⟨_,rfl⟩
 have b0:Below w.heap.size w ((w.alloc (.cells #[.int .i64 0,.int .i64 0,.int .i64 0] 58)).alloc (.cells #[.int .i64 k,.int .i64 0,.int .i64 0] 58)):=(xA1).alloc (by simp) _
 have HR:=xH1 hr
 have HL:=xH1 hl
 have hrA:=hr.below b0
 clear hr hl
 rcases argsN_cases k with ha|ha|ha
 ·by_cases hn1:n=1
  ·subst hn1
   obtain⟨b,o,rfl,hc⟩:=hrA.int (by rw[HL.out];decide)
   have g0:=hc 0 (by rw[HL.out];decide)
   rw[Nat.add_zero] at g0
   obtain⟨x0,hx0⟩:∃x,x=nums.getD 0 0:=⟨_,rfl⟩
   rw[←hx0] at g0
   have HM:Hid (makeOp k nums=some ⟨k,0,x0⟩):=xH1 (by unfold makeOp;rw[if_pos ⟨ha,HL.out⟩];rw[hx0])
   have HA:=xH1 ha
   clear ha hc hx0 hrA hW0 b0
   go_enter Tryz.func102,Tryz.ntmps102
   go_wp2_with fail
   refine(l6Args_any k _).mono ?_
   rintro e w0 ⟨rfl,hw⟩
   have hw':=hw.symm
   subst hw'
   rw[HA.out]
   go_wp2
   refine bodyPost_ret (v:= .tuple #[.agg #[.int .i64 k,.int .i64 0,.int .i64 x0],.bool true]) (by simp[results,Tryz.results102,go_sem]) rfl ⟨by rw[HM.out];rfl,?_⟩
   repeat (first|exact Below.refl _ _|refine Below.alloc ?_ (by simp<;>omega) _|refine Below.setCell ?_ (by simp<;>omega) _)
  have t0:((n:Int)==1)=false:=beq_eq_false_iff_ne.2 (by omega)
  have HM:Hid (makeOp k nums=none):=xH1 (by unfold makeOp;rw[if_neg (fun h=>by have:=h.1;have:=h.2;have:=HL.out;omega),if_neg (fun h=>by have:=h.1;have:=h.2;have:=HL.out;omega),if_neg (fun h=>by have:=h.1;have:=h.2;have:=HL.out;omega)])
  have HA:=xH1 ha
  clear ha hrA hW0 b0 hn1
  go_enter Tryz.func102,Tryz.ntmps102
  go_wp2_with fail
  refine(l6Args_any k _).mono ?_
  rintro e w0 ⟨rfl,hw⟩
  have hw':=hw.symm
  subst hw'
  rw[HA.out]
  go_wp2_with fail
  refine(l6Args_any k _).mono ?_
  rintro e w1 ⟨rfl,hw⟩
  have hw':=hw.symm
  subst hw'
  rw[HA.out]
  go_wp2_with fail
  refine(l6Args_any k _).mono ?_
  rintro e w2 ⟨rfl,hw⟩
  have hw':=hw.symm
  subst hw'
  rw[HA.out]
  go_wp2
  refine bodyPost_ret (v:= .tuple #[.agg #[.int .i64 0,.int .i64 0,.int .i64 0],.bool false]) (by simp[results,Tryz.results102,go_sem]) rfl ⟨by rw[HM.out];rfl,?_⟩
  repeat (first|exact Below.refl _ _|refine Below.alloc ?_ (by simp<;>omega) _|refine Below.setCell ?_ (by simp<;>omega) _)
 ·by_cases hn1:n=1
  ·subst hn1
   obtain⟨b,o,rfl,hc⟩:=hrA.int (by rw[HL.out];decide)
   have g0:=hc 0 (by rw[HL.out];decide)
   rw[Nat.add_zero] at g0
   obtain⟨x0,hx0⟩:∃x,x=nums.getD 0 0:=⟨_,rfl⟩
   rw[←hx0] at g0
   have HM:Hid (makeOp k nums=some ⟨k,x0,0⟩):=xH1 (by unfold makeOp;rw[if_neg (fun h=>by have:=h.1;omega),if_pos ⟨ha,HL.out⟩];rw[hx0])
   have HA:=xH1 ha
   clear ha hc hx0 hrA hW0 b0
   go_enter Tryz.func102,Tryz.ntmps102
   go_wp2_with fail
   refine(l6Args_any k _).mono ?_
   rintro e w0 ⟨rfl,hw⟩
   have hw':=hw.symm
   subst hw'
   rw[HA.out]
   go_wp2_with fail
   refine(l6Args_any k _).mono ?_
   rintro e w1 ⟨rfl,hw⟩
   have hw':=hw.symm
   subst hw'
   rw[HA.out]
   go_wp2
   refine bodyPost_ret (v:= .tuple #[.agg #[.int .i64 k,.int .i64 x0,.int .i64 0],.bool true]) (by simp[results,Tryz.results102,go_sem]) rfl ⟨by rw[HM.out];rfl,?_⟩
   repeat (first|exact Below.refl _ _|refine Below.alloc ?_ (by simp<;>omega) _|refine Below.setCell ?_ (by simp<;>omega) _)
  have t0:((n:Int)==1)=false:=beq_eq_false_iff_ne.2 (by omega)
  have HM:Hid (makeOp k nums=none):=xH1 (by unfold makeOp;rw[if_neg (fun h=>by have:=h.1;have:=h.2;have:=HL.out;omega),if_neg (fun h=>by have:=h.1;have:=h.2;have:=HL.out;omega),if_neg (fun h=>by have:=h.1;have:=h.2;have:=HL.out;omega)])
  have HA:=xH1 ha
  clear ha hrA hW0 b0 hn1
  go_enter Tryz.func102,Tryz.ntmps102
  go_wp2_with fail
  refine(l6Args_any k _).mono ?_
  rintro e w0 ⟨rfl,hw⟩
  have hw':=hw.symm
  subst hw'
  rw[HA.out]
  go_wp2_with fail
  refine(l6Args_any k _).mono ?_
  rintro e w1 ⟨rfl,hw⟩
  have hw':=hw.symm
  subst hw'
  rw[HA.out]
  go_wp2_with fail
  refine(l6Args_any k _).mono ?_
  rintro e w2 ⟨rfl,hw⟩
  have hw':=hw.symm
  subst hw'
  rw[HA.out]
  go_wp2
  refine bodyPost_ret (v:= .tuple #[.agg #[.int .i64 0,.int .i64 0,.int .i64 0],.bool false]) (by simp[results,Tryz.results102,go_sem]) rfl ⟨by rw[HM.out];rfl,?_⟩
  repeat (first|exact Below.refl _ _|refine Below.alloc ?_ (by simp<;>omega) _|refine Below.setCell ?_ (by simp<;>omega) _)
 ·by_cases hn1:n=2
  ·subst hn1
   obtain⟨b,o,rfl,hc⟩:=hrA.int (by rw[HL.out];decide)
   have g0:=hc 0 (by rw[HL.out];decide)
   have hb2:∀x:Int,Below w.heap.size w ((w.alloc (.cells #[.int .i64 0,.int .i64 0,.int .i64 0] 58)).alloc (.cells #[.int .i64 k,.int .i64 x,.int .i64 0] 58)):=fun x=>(xA1).alloc (by simp) _
   obtain⟨b',o',eb,hc'⟩:=HR.out.int (by rw[HL.out];decide)
   obtain⟨rfl,rfl⟩:b=b'∧o=o':=by simpa using eb
   have g1:=keepc (hb2 (nums.getD 0 0)) (hc' 1 (by rw[HL.out];decide))
   clear hc' eb hb2
   rw[Nat.add_zero] at g0
   obtain⟨x0,hx0⟩:∃x,x=nums.getD 0 0:=⟨_,rfl⟩
   rw[←hx0] at g0 g1
   obtain⟨x1,hx1⟩:∃x,x=nums.getD 1 0:=⟨_,rfl⟩
   rw[←hx1] at g1
   have HM:Hid (makeOp k nums=some ⟨k,x0,x1⟩):=xH1 (by unfold makeOp;rw[if_neg (fun h=>by have:=h.1;omega),if_neg (fun h=>by have:=h.1;omega),if_pos ⟨ha,HL.out⟩];rw[hx0,hx1])
   have HA:=xH1 ha
   clear ha hc hx0 hx1 hrA hW0 b0
   go_enter Tryz.func102,Tryz.ntmps102
   go_wp2_with fail
   refine(l6Args_any k _).mono ?_
   rintro e w0 ⟨rfl,hw⟩
   have hw':=hw.symm
   subst hw'
   rw[HA.out]
   go_wp2_with fail
   refine(l6Args_any k _).mono ?_
   rintro e w1 ⟨rfl,hw⟩
   have hw':=hw.symm
   subst hw'
   rw[HA.out]
   go_wp2_with fail
   refine(l6Args_any k _).mono ?_
   rintro e w2 ⟨rfl,hw⟩
   have hw':=hw.symm
   subst hw'
   rw[HA.out]
   go_wp2
   refine bodyPost_ret (v:= .tuple #[.agg #[.int .i64 k,.int .i64 x0,.int .i64 x1],.bool true]) (by simp[results,Tryz.results102,go_sem]) rfl ⟨by rw[HM.out];rfl,?_⟩
   repeat (first|exact Below.refl _ _|refine Below.alloc ?_ (by simp<;>omega) _|refine Below.setCell ?_ (by simp<;>omega) _)
  have t0:((n:Int)==2)=false:=beq_eq_false_iff_ne.2 (by omega)
  have HM:Hid (makeOp k nums=none):=xH1 (by unfold makeOp;rw[if_neg (fun h=>by have:=h.1;have:=h.2;have:=HL.out;omega),if_neg (fun h=>by have:=h.1;have:=h.2;have:=HL.out;omega),if_neg (fun h=>by have:=h.1;have:=h.2;have:=HL.out;omega)])
  have HA:=xH1 ha
  clear ha hrA hW0 b0 hn1
  go_enter Tryz.func102,Tryz.ntmps102
  go_wp2_with fail
  refine(l6Args_any k _).mono ?_
  rintro e w0 ⟨rfl,hw⟩
  have hw':=hw.symm
  subst hw'
  rw[HA.out]
  go_wp2_with fail
  refine(l6Args_any k _).mono ?_
  rintro e w1 ⟨rfl,hw⟩
  have hw':=hw.symm
  subst hw'
  rw[HA.out]
  go_wp2_with fail
  refine(l6Args_any k _).mono ?_
  rintro e w2 ⟨rfl,hw⟩
  have hw':=hw.symm
  subst hw'
  rw[HA.out]
  go_wp2
  refine bodyPost_ret (v:= .tuple #[.agg #[.int .i64 0,.int .i64 0,.int .i64 0],.bool false]) (by simp[results,Tryz.results102,go_sem]) rfl ⟨by rw[HM.out];rfl,?_⟩
  repeat (first|exact Below.refl _ _|refine Below.alloc ?_ (by simp<;>omega) _|refine Below.setCell ?_ (by simp<;>omega) _)
theorem info_str:(Tryz.prog.info? 9).map (fun i=>(i.zero,i.size,i.bytes))=some (some (.string ⟨#[]⟩),1,16):=by kernel_rfl
def byteAt (s:ByteArray) (i:Nat):Int:=if h:i<s.size then (s[i].toNat:Int) else 0
def cutTo (s:ByteArray) (c:Int):Nat→List ByteArray×Nat
 |0=>([],0)
 |i+1=>if i=s.size∨byteAt s i=c then ((cutTo s c i).1++[s.extract (cutTo s c i).2 i],i+1) else cutTo s c i
def cutB (s:ByteArray) (c:Int):List ByteArray:=(cutTo s c (s.size+1)).1
abbrev strs (l:List ByteArray):List Value:=l.map Value.string
theorem cutTo_le (s:ByteArray) (c:Int):∀i,(cutTo s c i).2≤i∧(cutTo s c i).1.length≤i
 |0=>⟨Nat.le_refl _,Nat.le_refl _⟩
 |i+1=>by
  have h:=cutTo_le s c i
  show(if i=s.size∨byteAt s i=c then ((cutTo s c i).1++[s.extract (cutTo s c i).2 i],i+1) else cutTo s c i).2≤i+1∧(if i=s.size∨byteAt s i=c then ((cutTo s c i).1++[s.extract (cutTo s c i).2 i],i+1) else cutTo s c i).1.length≤i+1
  split
  ·exact⟨Nat.le_refl _,by rw[List.length_append];show _+1≤_;omega⟩
  ·omega
theorem cutTo_size (s:ByteArray) (c:Int):∀i,∀x∈(cutTo s c i).1,x.size≤s.size
 |0,x,hx=>by cases hx
 |i+1,x,hx=>by
  have h:=cutTo_size s c i
  have hx':x∈(if i=s.size∨byteAt s i=c then ((cutTo s c i).1++[s.extract (cutTo s c i).2 i],i+1) else cutTo s c i).1:=hx
  split at hx'
  ·rcases xP1 hx' with h'|h'
   ·exact h x h'
   ·obtain rfl:=xS1 h'
    rw[ByteArray.size_extract];omega
  ·exact h x hx'
theorem cutB_pos (s:ByteArray) (c:Int):1≤(cutB s c).length:=by
 unfold cutB
 show 1≤(if s.size=s.size∨byteAt s s.size=c then ((cutTo s c s.size).1++[s.extract (cutTo s c s.size).2 s.size],s.size+1) else cutTo s c s.size).1.length
 rw[if_pos (.inl rfl),List.length_append]
 show 1≤_+1
 omega
theorem l13Cut_any (s:ByteArray) (c:Int) (w:World) (hs:s.size≤4294967296):
  Calls Tryz.prog 85 #[.string s,.int .u8 c] w fun e w'=>∃(a:Option Addr) (cap:Nat),e= .returned (.slice a (cutB s c).length cap)∧w'.ownsRow w.heap.size 9 1 (.slice a (cutB s c).length cap) (cutB s c).length (strs (cutB s c))∧Below w.heap.size w w':=by
 go_enter Tryz.func85,Tryz.ntmps85
 go_wp2
 go_loopw [5,6,7] (fun vo vf vi wr=>∃(i f n:Nat) (a:Option Addr) (cap:Nat),i≤s.size+1∧f≤i∧n≤i∧vi= .int .i64 i∧vf= .int .i64 f∧vo= .slice a n cap∧Hid (f=(cutTo s c i).2∧n=(cutTo s c i).1.length)∧wr.ownsRow w.heap.size 9 1 (.slice a n cap) n (strs (cutTo s c i).1)∧Below w.heap.size w wr) (fun _ _ vi _=>s.size+1-(intOf vi).toNat)
 case atStart=>exact⟨0,0,0,_,_,by omega,by omega,by omega,rfl,rfl,rfl,xH1 ⟨rfl,rfl⟩,owns_empty _ _ _,xA1⟩
 case round=>
  obtain⟨i,f,n,a,cap,hi,hf,hn,rfl,rfl,rfl,hfn,hown,hb⟩:=hrel
  by_cases hlt:i≤s.size
  ·have hS:=hb.size
   by_cases hend:i=s.size∨byteAt s i=c
   ·have hnx:Hid (cutTo s c (i+1)=((cutTo s c i).1++[s.extract f i],i+1)):=xH1 (by
     show(if i=s.size∨byteAt s i=c then ((cutTo s c i).1++[s.extract (cutTo s c i).2 i],i+1) else cutTo s c i)=_
     rw[if_pos hend,←hfn.out.1])
    have HOWN:=xH1 hown
    by_cases he:i=s.size
    ·have t0:((i:Int)==(s.size:Int))=true:=by simp;omega
     have hsl:∀W:World,(Instr.slice 9 (.string s) (some (.int .i64 f)) (some (.int .i64 i)) none).run Tryz.prog W= .ok (.string (s.extract f i)) W:=fun W=>by
      have:=run_slice_string (P:=Tryz.prog) W 9 s .i64 .i64 (f:Int) (i:Int) Tryz.underlying9 (by omega) (by omega) (by omega)
      simpa using this
     clear hend he
     go_wp2_with (at_builtin;refine wpList_append_sl (news:=[.string (s.extract f i)]) rfl _ _ 111 rfl Tryz.underlying111 info_str rfl (by decide) rfl hown rfl rfl rfl (by simp[Value.oneCell']) (by omega) (by decide) hS ?_;intro a3 c3 w3 hown3 hgr3;clear hown)
     go_roundw
     case rel=>
      refine⟨i+1,i+1,n+1,a3,c3,by omega,by omega,by omega,by go_num,by go_num,rfl,xH1 ⟨by rw[hnx.out],by rw[hnx.out,List.length_append,←hfn.out.2];rfl⟩,?_,hb.trans (below_of_grown hgr3 hS (fun q hq=>(owns_row HOWN.out q hq).1))⟩
      rw[hnx.out]
      simpa[strs] using hown3
     case measure=>simp[intOf];omega
    ·have t0:((i:Int)==(s.size:Int))=false:=by simp;omega
     have hlt2:i<s.size:=by omega
     have t1:((s[i].toNat:Int)==c)=true:=by
      rcases hend with h|h
      ·exact absurd h he
      ·unfold byteAt at h
       rw[dif_pos hlt2] at h
       simpa using h
     have hsl:∀W:World,(Instr.slice 9 (.string s) (some (.int .i64 f)) (some (.int .i64 i)) none).run Tryz.prog W= .ok (.string (s.extract f i)) W:=fun W=>by
      have:=run_slice_string (P:=Tryz.prog) W 9 s .i64 .i64 (f:Int) (i:Int) Tryz.underlying9 (by omega) (by omega) (by omega)
      simpa using this
     clear hend he
     go_wp2_with (at_builtin;refine wpList_append_sl (news:=[.string (s.extract f i)]) rfl _ _ 111 rfl Tryz.underlying111 info_str rfl (by decide) rfl hown rfl rfl rfl (by simp[Value.oneCell']) (by omega) (by decide) hS ?_;intro a3 c3 w3 hown3 hgr3;clear hown)
     go_roundw
     case rel=>
      refine⟨i+1,i+1,n+1,a3,c3,by omega,by omega,by omega,by go_num,by go_num,rfl,xH1 ⟨by rw[hnx.out],by rw[hnx.out,List.length_append,←hfn.out.2];rfl⟩,?_,hb.trans (below_of_grown hgr3 hS (fun q hq=>(owns_row HOWN.out q hq).1))⟩
      rw[hnx.out]
      simpa[strs] using hown3
     case measure=>simp[intOf];omega
   ·have hne:¬i=s.size:=fun h=>hend (.inl h)
    have hlt2:i<s.size:=by omega
    have t0:((i:Int)==(s.size:Int))=false:=by simp;omega
    have t1:((s[i].toNat:Int)==c)=false:=by
     have h:¬byteAt s i=c:=fun h=>hend (.inr h)
     unfold byteAt at h
     rw[dif_pos hlt2] at h
     simpa using h
    have hnx:Hid (cutTo s c (i+1)=cutTo s c i):=xH1 (by
     show(if i=s.size∨byteAt s i=c then ((cutTo s c i).1++[s.extract (cutTo s c i).2 i],i+1) else cutTo s c i)=_
     rw[if_neg hend])
    clear hend hne
    go_wp2
    go_roundw
    case rel=>exact⟨i+1,f,n,a,cap,by omega,by omega,by omega,by go_num,rfl,rfl,xH1 (by rw[hnx.out];exact hfn.out),by rw[hnx.out];exact hown,hb⟩
    case measure=>simp[intOf];omega
  ·obtain rfl:i=s.size+1:=by omega
   have hno:n=(cutB s c).length:=hfn.out.2
   subst hno
   go_wp2
   go_ret
   exact⟨a,cap,rfl,hown,hb⟩
def digsTo (t:ByteArray):Nat→Option Int
 |0=>some 0
 |k+1=>match digsTo t k with
  |none=>none
  |some n=>if 48≤byteAt t k∧byteAt t k≤57 then some (n*10+(byteAt t k-48)) else none
def numBody (t:ByteArray) (neg:Bool):Option Int:=
 if t.size=0∨17<t.size∨(byteAt t 0=48∧(1<t.size∨neg=true)) then none else (digsTo t t.size).map fun n=>if neg=true then-n else n
def numB (s:ByteArray):Option Int:=if 0<s.size∧byteAt s 0=45 then numBody (s.extract 1 s.size) true else numBody s false
theorem digsTo_none {t:ByteArray} {k:Nat}:∀{m:Nat},k≤m→digsTo t k=none→digsTo t m=none
 |0,h,hn=>by(obtain rfl:k=0:=by omega);exact hn
 |m+1,h,hn=>by
  rcases Nat.lt_or_ge m k with hc|hc
  ·obtain rfl:k=m+1:=by omega
   exact hn
  ·have:=digsTo_none (m:=m) hc hn
   show(match digsTo t m with|none=>none|some n=>if 48≤byteAt t m∧byteAt t m≤57 then some (n*10+(byteAt t m-48)) else none)=none
   rw[this]
theorem digsTo_bound {t:ByteArray}:∀{k:Nat} {n:Int},digsTo t k=some n→0≤n∧n<10^ k
 |0,n,h=>by
  have:n=0:=by simpa[digsTo] using h.symm
  omega
 |k+1,n,h=>by
  have h':(match digsTo t k with|none=>none|some n=>if 48≤byteAt t k∧byteAt t k≤57 then some (n*10+(byteAt t k-48)) else none)=some n:=h
  cases hd:digsTo t k with
  |none=>rw[hd] at h';cases h'
  |some m=>
   rw[hd] at h'
   have hb:=digsTo_bound hd
   simp only at h'
   split at h'
   ·have e:m*10+(byteAt t k-48)=n:=by simpa using h'
    rw[Int.pow_succ]
    omega
   ·cases h'
theorem l13Num_any (s:ByteArray) (w:World) (hs:s.size≤4294967296):
  Calls Tryz.prog 95 #[.string s] w fun e w'=>e= .returned (.tuple #[.int .i64 ((numB s).getD 0),.bool (numB s).isSome])∧w'=w:=by
 by_cases h0:s.size=0
 ·have HR:Hid (numB s=none):=xH1 (by unfold numB;rw[if_neg (by omega)];unfold numBody;rw[if_pos (.inl h0)])
  have d0:decide (0<s.size)=false:=decide_eq_false (by omega)
  have d0':decide ((0:Int)<(s.size:Int))=false:=decide_eq_false (by omega)
  have d1:((s.size:Int)==0)=true:=by rw[h0];rfl
  clear h0 hs
  go_enter Tryz.func95,Tryz.ntmps95
  go_wp2
  go_ret2
  exact⟨by rw[HR.out];rfl,rfl⟩
 have hp:0<s.size:=by omega
 have d0:decide (0<s.size)=true:=by simpa using hp
 have d0':decide ((0:Int)<(s.size:Int))=true:=by simpa using hp
 have eB:byteAt s 0=(s[0].toNat:Int):=by unfold byteAt;rw[dif_pos hp]
 rcases Bool.eq_false_or_eq_true ((s[0].toNat:Int)==45) with x45|x45
 ·obtain⟨T,hT⟩:∃T,T=s.extract 1 s.size:=⟨_,rfl⟩
  have HN:Hid (numB s=numBody T true):=xH1 (by unfold numB;rw[if_pos ⟨hp,by rw[eB];simpa using x45⟩,hT])
  have hTs:T.size=s.size-1:=by rw[hT,ByteArray.size_extract];omega
  have hp1:(1:Int)≤(s.size:Int):=by omega
  have hp2:¬(s.size:Int)<1:=by omega
  have hsl:∀W:World,(Instr.slice 9 (.string s) (some (.int .i64 1)) none none).run Tryz.prog W= .ok (.string T) W:=fun W=>by
   rw[hT];go_simp
  have HTS:=xH1 hTs
  have hT32:T.size≤4294967296:=by omega
  clear hT hTs eB
  by_cases e0:T.size=0
  ·have HR:Hid (numB s=none):=xH1 (by rw[HN.out];unfold numBody;rw[if_pos (.inl e0)])
   have x0:((T.size:Int)==0)=true:=by rw[e0];rfl
   clear e0
   go_enter Tryz.func95,Tryz.ntmps95
   go_wp2
   go_ret2
   exact⟨by rw[HR.out];rfl,rfl⟩
  have x0:((T.size:Int)==0)=false:=beq_eq_false_iff_ne.2 (by omega)
  have hpT:0<T.size:=by omega
  have eT:byteAt T 0=(T[0].toNat:Int):=by unfold byteAt;rw[dif_pos hpT]
  by_cases e17:17<T.size
  ·have HR:Hid (numB s=none):=xH1 (by rw[HN.out];unfold numBody;rw[if_pos (.inr (.inl e17))])
   have x1:decide ((17:Int)<(T.size:Int))=true:=by simp;omega
   clear e17 eT
   go_enter Tryz.func95,Tryz.ntmps95
   go_wp2
   go_ret2
   exact⟨by rw[HR.out];rfl,rfl⟩
  have x1:decide ((17:Int)<(T.size:Int))=false:=by simp;omega
  rcases Bool.eq_false_or_eq_true ((T[0].toNat:Int)==48) with x2|x2
  ·have HR:Hid (numB s=none):=xH1 (by rw[HN.out];unfold numBody;rw[if_pos (.inr (.inr ⟨by rw[eT];simpa using x2,.inr rfl⟩))])
   clear e17 eT
   go_enter Tryz.func95,Tryz.ntmps95
   go_wp2
   all_goals (go_ret2;exact⟨by rw[HR.out];rfl,rfl⟩)
  have hcond:¬(T.size=0∨17<T.size∨(byteAt T 0=48∧(1<T.size∨true=true))):=by
   rintro(h|h|⟨h,-⟩)
   ·omega
   ·omega
   ·rw[eT] at h
    rw[h] at x2
    simp at x2
  have HR:Hid (numB s=(digsTo T T.size).map fun n=>if true=true then-n else n):=xH1 (by rw[HN.out];unfold numBody;rw[if_neg hcond])
  have hle:T.size≤17:=by omega
  clear hcond eT e17
  go_enter Tryz.func95,Tryz.ntmps95
  go_wp2
  go_loop [5,6] (fun vn vi=>∃(k:Nat) (n:Int),k≤T.size∧vi= .int .i64 k∧vn= .int .i64 n∧0≤n∧n≤2000000000000000000∧Hid (digsTo T k=some n)) (fun _ vi=>T.size-(intOf vi).toNat)
  case atStart=>exact⟨0,0,by omega,rfl,rfl,by omega,by omega,xH1 rfl⟩
  case round=>
   obtain⟨k,n,hk,rfl,rfl,hn0,hn1,hd⟩:=hrel
   have hbd:=digsTo_bound hd.out
   have hn2:n≤100000000000000000:=by
    have h1:(10:Int)^ k≤10^ 17:=by exact_mod_cast Nat.pow_le_pow_right (by decide) (by omega:k≤17)
    have h2:(10:Int)^ 17=100000000000000000:=by decide
    omega
   clear hbd hn1
   by_cases hlt:k<T.size
   ·have eK:byteAt T k=(T[k].toNat:Int):=by unfold byteAt;rw[dif_pos hlt]
    have hst:digsTo T (k+1)=if 48≤byteAt T k∧byteAt T k≤57 then some (n*10+(byteAt T k-48)) else none:=by
     show(match digsTo T k with|none=>none|some n=>if 48≤byteAt T k∧byteAt T k≤57 then some (n*10+(byteAt T k-48)) else none)=_
     rw[hd.out]
    rw[eK] at hst
    obtain⟨b,hbk⟩:∃b:Nat,b=T[k].toNat:=⟨_,rfl⟩
    have hb255:b<256:=by rw[hbk];exact T[k].toNat_lt
    rw[←hbk] at hst
    by_cases hlo:b<48
    ·have HRN:Hid (numB s=none):=xH1 (by rw[HR.out,digsTo_none (k:=k+1) (by omega) (by rw[hst,if_neg (by omega)])];rfl)
     have y0:decide ((T[k].toNat:Int)<48)=true:=by rw[←hbk];simp;omega
     clear hst hbk eK
     go_wp2
     all_goals (go_ret2;exact⟨by rw[HRN.out];rfl,rfl⟩)
    ·by_cases hhi:57<b
     ·have HRN:Hid (numB s=none):=xH1 (by rw[HR.out,digsTo_none (k:=k+1) (by omega) (by rw[hst,if_neg (by omega)])];rfl)
      have y0:decide ((T[k].toNat:Int)<48)=false:=by rw[←hbk];simp;omega
      have y1:decide ((57:Int)<(T[k].toNat:Int))=true:=by rw[←hbk];simp;omega
      clear hst hbk eK
      go_wp2
      all_goals (go_ret2;exact⟨by rw[HRN.out];rfl,rfl⟩)
     ·have HST:Hid (digsTo T (k+1)=some (n*10+((T[k].toNat:Int)-48))):=xH1 (by rw[hst,if_pos (by omega),hbk])
      have y0:decide ((T[k].toNat:Int)<48)=false:=by rw[←hbk];simp;omega
      have y1:decide ((57:Int)<(T[k].toNat:Int))=false:=by rw[←hbk];simp;omega
      have g0:(48:Int)≤(T[k].toNat:Int):=by omega
      have g1:(T[k].toNat:Int)≤57:=by omega
      clear hst hbk eK hlo hhi
      go_wp2
      go_round
      case rel=>exact⟨k+1,n*10+((T[k].toNat:Int)-48),by omega,by go_num,rfl,by omega,by omega,HST⟩
      case measure=>simp[intOf];omega
   ·have hks:k=T.size:=by omega
    rw[hks] at hd
    clear hks
    have HRN:Hid (numB s=some (-n)):=xH1 (by rw[HR.out,hd.out];rfl)
    go_wp2
    go_ret2
    exact⟨by rw[HRN.out];rfl,rfl⟩
 have HN:Hid (numB s=numBody s false):=xH1 (by unfold numB;rw[if_neg (fun h=>by have:=h.2;rw[eB] at this;rw[this] at x45;simp at x45)])
 clear eB
 have x0:((s.size:Int)==0)=false:=beq_eq_false_iff_ne.2 (by omega)
 have hpT:0<s.size:=by omega
 have eT:byteAt s 0=(s[0].toNat:Int):=by unfold byteAt;rw[dif_pos hpT]
 by_cases e17:17<s.size
 ·have HR:Hid (numB s=none):=xH1 (by rw[HN.out];unfold numBody;rw[if_pos (.inr (.inl e17))])
  have x1:decide ((17:Int)<(s.size:Int))=true:=by simp;omega
  clear e17 eT
  go_enter Tryz.func95,Tryz.ntmps95
  go_wp2
  go_ret2
  exact⟨by rw[HR.out];rfl,rfl⟩
 have x1:decide ((17:Int)<(s.size:Int))=false:=by simp;omega
 rcases Bool.eq_false_or_eq_true ((s[0].toNat:Int)==48) with x2|x2
 ·by_cases e1:1<s.size
  ·have HR:Hid (numB s=none):=xH1 (by rw[HN.out];unfold numBody;rw[if_pos (.inr (.inr ⟨by rw[eT];simpa using x2,.inl e1⟩))])
   have x3:decide ((1:Int)<(s.size:Int))=true:=by simp;omega
   clear e17 eT e1
   go_enter Tryz.func95,Tryz.ntmps95
   go_wp2
   go_ret2
   exact⟨by rw[HR.out];rfl,rfl⟩
  have x3:decide ((1:Int)<(s.size:Int))=false:=by simp;omega
  have hcond:¬(s.size=0∨17<s.size∨(byteAt s 0=48∧(1<s.size∨false=true))):=by
   rintro(h|h|⟨-,h|h⟩)
   ·omega
   ·omega
   ·omega
   ·cases h
  clear e1
  have HR:Hid (numB s=(digsTo s s.size).map fun n=>if false=true then-n else n):=xH1 (by rw[HN.out];unfold numBody;rw[if_neg hcond])
  have hle:s.size≤17:=by omega
  clear hcond eT e17
  go_enter Tryz.func95,Tryz.ntmps95
  go_wp2
  go_loop [5,6] (fun vn vi=>∃(k:Nat) (n:Int),k≤s.size∧vi= .int .i64 k∧vn= .int .i64 n∧0≤n∧n≤2000000000000000000∧Hid (digsTo s k=some n)) (fun _ vi=>s.size-(intOf vi).toNat)
  case atStart=>exact⟨0,0,by omega,rfl,rfl,by omega,by omega,xH1 rfl⟩
  case round=>
   obtain⟨k,n,hk,rfl,rfl,hn0,hn1,hd⟩:=hrel
   have hbd:=digsTo_bound hd.out
   have hn2:n≤100000000000000000:=by
    have h1:(10:Int)^ k≤10^ 17:=by exact_mod_cast Nat.pow_le_pow_right (by decide) (by omega:k≤17)
    have h2:(10:Int)^ 17=100000000000000000:=by decide
    omega
   clear hbd hn1
   by_cases hlt:k<s.size
   ·have eK:byteAt s k=(s[k].toNat:Int):=by unfold byteAt;rw[dif_pos hlt]
    have hst:digsTo s (k+1)=if 48≤byteAt s k∧byteAt s k≤57 then some (n*10+(byteAt s k-48)) else none:=by
     show(match digsTo s k with|none=>none|some n=>if 48≤byteAt s k∧byteAt s k≤57 then some (n*10+(byteAt s k-48)) else none)=_
     rw[hd.out]
    rw[eK] at hst
    obtain⟨b,hbk⟩:∃b:Nat,b=s[k].toNat:=⟨_,rfl⟩
    have hb255:b<256:=by rw[hbk];exact s[k].toNat_lt
    rw[←hbk] at hst
    by_cases hlo:b<48
    ·have HRN:Hid (numB s=none):=xH1 (by rw[HR.out,digsTo_none (k:=k+1) (by omega) (by rw[hst,if_neg (by omega)])];rfl)
     have y0:decide ((s[k].toNat:Int)<48)=true:=by rw[←hbk];simp;omega
     clear hst hbk eK
     go_wp2
     all_goals (go_ret2;exact⟨by rw[HRN.out];rfl,rfl⟩)
    ·by_cases hhi:57<b
     ·have HRN:Hid (numB s=none):=xH1 (by rw[HR.out,digsTo_none (k:=k+1) (by omega) (by rw[hst,if_neg (by omega)])];rfl)
      have y0:decide ((s[k].toNat:Int)<48)=false:=by rw[←hbk];simp;omega
      have y1:decide ((57:Int)<(s[k].toNat:Int))=true:=by rw[←hbk];simp;omega
      clear hst hbk eK
      go_wp2
      all_goals (go_ret2;exact⟨by rw[HRN.out];rfl,rfl⟩)
     ·have HST:Hid (digsTo s (k+1)=some (n*10+((s[k].toNat:Int)-48))):=xH1 (by rw[hst,if_pos (by omega),hbk])
      have y0:decide ((s[k].toNat:Int)<48)=false:=by rw[←hbk];simp;omega
      have y1:decide ((57:Int)<(s[k].toNat:Int))=false:=by rw[←hbk];simp;omega
      have g0:(48:Int)≤(s[k].toNat:Int):=by omega
      have g1:(s[k].toNat:Int)≤57:=by omega
      clear hst hbk eK hlo hhi
      go_wp2
      go_round
      case rel=>exact⟨k+1,n*10+((s[k].toNat:Int)-48),by omega,by go_num,rfl,by omega,by omega,HST⟩
      case measure=>simp[intOf];omega
   ·have hks:k=s.size:=by omega
    rw[hks] at hd
    clear hks
    have HRN:Hid (numB s=some (n)):=xH1 (by rw[HR.out,hd.out];rfl)
    go_wp2
    go_ret2
    exact⟨by rw[HRN.out];rfl,rfl⟩
 have hcond:¬(s.size=0∨17<s.size∨(byteAt s 0=48∧(1<s.size∨false=true))):=by
  rintro(h|h|⟨h,-⟩)
  ·omega
  ·omega
  ·rw[eT] at h
   rw[h] at x2
   simp at x2
 have HR:Hid (numB s=(digsTo s s.size).map fun n=>if false=true then-n else n):=xH1 (by rw[HN.out];unfold numBody;rw[if_neg hcond])
 have hle:s.size≤17:=by omega
 clear hcond eT e17
 go_enter Tryz.func95,Tryz.ntmps95
 go_wp2
 go_loop [5,6] (fun vn vi=>∃(k:Nat) (n:Int),k≤s.size∧vi= .int .i64 k∧vn= .int .i64 n∧0≤n∧n≤2000000000000000000∧Hid (digsTo s k=some n)) (fun _ vi=>s.size-(intOf vi).toNat)
 case atStart=>exact⟨0,0,by omega,rfl,rfl,by omega,by omega,xH1 rfl⟩
 case round=>
  obtain⟨k,n,hk,rfl,rfl,hn0,hn1,hd⟩:=hrel
  have hbd:=digsTo_bound hd.out
  have hn2:n≤100000000000000000:=by
   have h1:(10:Int)^ k≤10^ 17:=by exact_mod_cast Nat.pow_le_pow_right (by decide) (by omega:k≤17)
   have h2:(10:Int)^ 17=100000000000000000:=by decide
   omega
  clear hbd hn1
  by_cases hlt:k<s.size
  ·have eK:byteAt s k=(s[k].toNat:Int):=by unfold byteAt;rw[dif_pos hlt]
   have hst:digsTo s (k+1)=if 48≤byteAt s k∧byteAt s k≤57 then some (n*10+(byteAt s k-48)) else none:=by
    show(match digsTo s k with|none=>none|some n=>if 48≤byteAt s k∧byteAt s k≤57 then some (n*10+(byteAt s k-48)) else none)=_
    rw[hd.out]
   rw[eK] at hst
   obtain⟨b,hbk⟩:∃b:Nat,b=s[k].toNat:=⟨_,rfl⟩
   have hb255:b<256:=by rw[hbk];exact s[k].toNat_lt
   rw[←hbk] at hst
   by_cases hlo:b<48
   ·have HRN:Hid (numB s=none):=xH1 (by rw[HR.out,digsTo_none (k:=k+1) (by omega) (by rw[hst,if_neg (by omega)])];rfl)
    have y0:decide ((s[k].toNat:Int)<48)=true:=by rw[←hbk];simp;omega
    clear hst hbk eK
    go_wp2
    all_goals (go_ret2;exact⟨by rw[HRN.out];rfl,rfl⟩)
   ·by_cases hhi:57<b
    ·have HRN:Hid (numB s=none):=xH1 (by rw[HR.out,digsTo_none (k:=k+1) (by omega) (by rw[hst,if_neg (by omega)])];rfl)
     have y0:decide ((s[k].toNat:Int)<48)=false:=by rw[←hbk];simp;omega
     have y1:decide ((57:Int)<(s[k].toNat:Int))=true:=by rw[←hbk];simp;omega
     clear hst hbk eK
     go_wp2
     all_goals (go_ret2;exact⟨by rw[HRN.out];rfl,rfl⟩)
    ·have HST:Hid (digsTo s (k+1)=some (n*10+((s[k].toNat:Int)-48))):=xH1 (by rw[hst,if_pos (by omega),hbk])
     have y0:decide ((s[k].toNat:Int)<48)=false:=by rw[←hbk];simp;omega
     have y1:decide ((57:Int)<(s[k].toNat:Int))=false:=by rw[←hbk];simp;omega
     have g0:(48:Int)≤(s[k].toNat:Int):=by omega
     have g1:(s[k].toNat:Int)≤57:=by omega
     clear hst hbk eK hlo hhi
     go_wp2
     go_round
     case rel=>exact⟨k+1,n*10+((s[k].toNat:Int)-48),by omega,by go_num,rfl,by omega,by omega,HST⟩
     case measure=>simp[intOf];omega
  ·have hks:k=s.size:=by omega
   rw[hks] at hd
   clear hks
   have HRN:Hid (numB s=some (n)):=xH1 (by rw[HR.out,hd.out];rfl)
   go_wp2
   go_ret2
   exact⟨by rw[HRN.out];rfl,rfl⟩
def noB:ByteArray:=⟨#[]⟩
def numsTo (parts:List ByteArray):Nat→Option (List Int)
 |0=>some []
 |j+1=>match numsTo parts j with
  |none=>none
  |some l=>match numB (parts.getD (j+1) noB) with
   |none=>none
   |some x=>some (l++[x])
def tryKind (text:ByteArray) (parts:List ByteArray) (nums:List Int) (k:Int):Option OpD:=
 if wordB k=parts.getD 0 noB then (makeOp k nums).bind fun o=>if fmtOp o=text then some o else none else none
def firstKind (text:ByteArray) (parts:List ByteArray) (nums:List Int):Nat→Option OpD
 |0=>none
 |n+1=>match firstKind text parts nums n with
  |some o=>some o
  |none=>tryKind text parts nums ((n:Int)+1)
def parseOpParts (text:ByteArray) (parts:List ByteArray):Option OpD:=
 (numsTo parts (Nat.min (parts.length-1) 3)).bind fun nums=>if nums.length=parts.length-1 then firstKind text parts nums 10 else none
def parseOp (text:ByteArray):Option OpD:=parseOpParts text (cutB text 32)
theorem toList_inj {a b:ByteArray} (h:a.toList=b.toList):a=b:=by
 rw[ByteArray.toList_eq,ByteArray.toList_eq] at h
 obtain⟨x⟩:=a
 obtain⟨y⟩:=b
 congr 1
 exact Array.toList_inj.1 h
theorem firstKind_more {text:ByteArray} {parts:List ByteArray} {nums:List Int} {o:OpD} {k:Nat} (h:firstKind text parts nums k=some o):∀m,k≤m→firstKind text parts nums m=some o
 |0,hm=>by(obtain rfl:k=0:=by omega);exact h
 |m+1,hm=>by
  rcases Nat.lt_or_ge m k with hc|hc
  ·obtain rfl:k=m+1:=by omega
   exact h
  ·have:=firstKind_more h m hc
   show(match firstKind text parts nums m with|some o=>some o|none=>tryKind text parts nums ((m:Int)+1))=some o
   rw[this]
theorem numsTo_len {parts:List ByteArray}:∀{j:Nat} {l:List Int},numsTo parts j=some l→l.length=j
 |0,l,h=>by
  obtain rfl:[]=l:=by simpa[numsTo] using h
  rfl
 |j+1,l,h=>by
  have h':(match numsTo parts j with|none=>none|some l=>match numB (parts.getD (j+1) noB) with|none=>none|some x=>some (l++[x]))=some l:=h
  cases hd:numsTo parts j with
  |none=>rw[hd] at h';cases h'
  |some m=>
   rw[hd] at h'
   simp only at h'
   cases hn:numB (parts.getD (j+1) noB) with
   |none=>rw[hn] at h';cases h'
   |some x=>
    rw[hn] at h'
    obtain rfl:m++[x]=l:=by simpa using h'
    have:=numsTo_len hd
    simp[this]
theorem numsTo_none {parts:List ByteArray} {k:Nat} (h:numsTo parts k=none):∀m,k≤m→numsTo parts m=none
 |0,hm=>by(obtain rfl:k=0:=by omega);exact h
 |m+1,hm=>by
  rcases Nat.lt_or_ge m k with hc|hc
  ·obtain rfl:k=m+1:=by omega
   exact h
  ·have:=numsTo_none h m hc
   show(match numsTo parts m with|none=>none|some l=>match numB (parts.getD (m+1) noB) with|none=>none|some x=>some (l++[x]))=none
   rw[this]
theorem numB_bound {s:ByteArray} {n:Int} (h:numB s=some n):InI64 n:=by
 have key:∀(t:ByteArray) (neg:Bool) (n:Int),numBody t neg=some n→InI64 n:=by
  intro t neg n h
  unfold numBody at h
  split at h
  ·cases h
  ·next hc=>
   have h17:t.size≤17:=by
    rcases Nat.lt_or_ge 17 t.size with h|h
    ·exact absurd (.inr (.inl h)) hc
    ·exact h
   cases hd:digsTo t t.size with
   |none=>rw[hd] at h;cases h
   |some m=>
    rw[hd] at h
    have hb:=digsTo_bound hd
    have h1:(10:Int)^ t.size≤10^ 17:=by exact_mod_cast Nat.pow_le_pow_right (by decide) h17
    have h2:(10:Int)^ 17=100000000000000000:=by decide
    simp only[Option.map_some,Option.some.injEq] at h
    unfold InI64
    split at h<;>omega
 unfold numB at h
 split at h
 ·exact key _ _ _ h
 ·exact key _ _ _ h
theorem numsTo_bound {parts:List ByteArray}:∀{j:Nat} {l:List Int},numsTo parts j=some l→∀x∈l,InI64 x
 |0,l,h,x,hx=>by
  obtain rfl:[]=l:=by simpa[numsTo] using h
  cases hx
 |j+1,l,h,x,hx=>by
  have h':(match numsTo parts j with|none=>none|some l=>match numB (parts.getD (j+1) noB) with|none=>none|some x=>some (l++[x]))=some l:=h
  cases hd:numsTo parts j with
  |none=>rw[hd] at h';cases h'
  |some m=>
   rw[hd] at h'
   simp only at h'
   cases hn:numB (parts.getD (j+1) noB) with
   |none=>rw[hn] at h';cases h'
   |some y=>
    rw[hn] at h'
    obtain rfl:m++[y]=l:=by simpa using h'
    rcases xP1 hx with hx|hx
    ·exact numsTo_bound hd x hx
    ·obtain rfl:=xS1 hx
     exact numB_bound hn
theorem makeOp_bound {k:Int} {nums:List Int} (hb:∀x∈nums,InI64 x) {o:OpD} (h:makeOp k nums=some o):InI64 o.on∧InI64 o.arg:=by
 have hg:∀j,InI64 (nums.getD j 0):=by
  intro j
  rw[List.getD_eq_getElem?_getD]
  cases hj:nums[j]? with
  |none=>show InI64 0;unfold InI64;omega
  |some x=>exact hb x (List.mem_of_getElem? hj)
 have h0:InI64 0:=by unfold InI64;omega
 unfold makeOp at h
 split at h
 ·cases h;exact⟨h0,hg 0⟩
 ·split at h
  ·cases h;exact⟨hg 0,h0⟩
  ·split at h
   ·cases h;exact⟨hg 0,hg 1⟩
   ·cases h
theorem specParseOp_any (s:ByteArray) (w:World) (hs:s.size≤4294967296):
  Calls Tryz.prog 96 #[.string s] w fun e w'=>e= .returned (.tuple #[.agg #[.int .i64 ((parseOp s).getD zeroOp).kind,.int .i64 ((parseOp s).getD zeroOp).on,.int .i64 ((parseOp s).getD zeroOp).arg],.bool (parseOp s).isSome])∧Below w.heap.size w w':=by
 have B0:Below w.heap.size w (w.alloc (.cells #[.int .i64 0,.int .i64 0,.int .i64 0] 58)):=xA1
 have kR:Blk (w.alloc (.cells #[.int .i64 0,.int .i64 0,.int .i64 0] 58)) w.heap.size #[.int .i64 0,.int .i64 0,.int .i64 0] 58:=Blk.new _ _ _
 go_enter Tryz.func96,Tryz.ntmps96
 go_wp2_with fail
 refine(l13Cut_any s 32 _ hs).mono ?_
 rintro e w1 ⟨ap,cp,rfl,hparts,hb⟩
 replace kR:=kR.below hb
 replace B0:=B0.trans (hb.mono B0.size)
 clear hb
 obtain⟨parts,hpt⟩:∃parts,parts=cutB s 32:=⟨_,rfl⟩
 have hpos:1≤parts.length:=by rw[hpt];exact cutB_pos s 32
 have hpsz:∀x∈parts,x.size≤4294967296:=fun x hx=>by
  have:=cutTo_size s 32 (s.size+1) x (by rw[hpt] at hx;exact hx)
  omega
 have hplen:parts.length≤4294967297:=by
  have:=(cutTo_le s 32 (s.size+1)).2
  rw[hpt]
  show(cutTo s 32 (s.size+1)).1.length≤_
  omega
 have HPO:Hid (parseOp s=parseOpParts s parts):=xH1 (by rw[hpt];rfl)
 rw[←hpt] at hparts⊢
 obtain⟨np,hnp⟩:∃np,np=parts.length:=⟨_,rfl⟩
 rw[←hnp] at hparts hpos hplen⊢
 have HNP:=xH1 hnp
 have HSZ:=xH1 hpsz
 have HP:=xH1 (Rd.of_owns hparts)
 have HKR:=xH1 kR
 clear hpt hnp hpsz hparts kR
 go_wp2
 have bE:Below w1.heap.size w1 (w1.alloc (.cells #[] 3)):=xA1
 go_loopw [5,6] (fun vn vi wr=>∃(i n:Nat) (l:List Int) (an:Option Addr) (cn:Nat),1≤i∧i≤np∧i≤4∧Hid (n+1=i)∧vi= .int .i64 i∧vn= .slice an n cn∧Hid (numsTo parts n=some l)∧wr.ownsRow w1.heap.size 3 1 (.slice an n cn) n (ints l)∧Hid (Below w1.heap.size w1 wr)) (fun _ vi _=>np-(intOf vi).toNat)
 case atStart=>exact⟨1,0,[],_,_,by omega,by omega,by omega,xH1 rfl,rfl,rfl,xH1 rfl,owns_empty _ _ _,xH1 bE⟩
 case round=>
  obtain⟨i,n,l,an,cn,hi1,hinp,hi4,hni,rfl,rfl,hnum,hown,hbh⟩:=hrel
  have hB1:=B0.trans (hbh.out.mono B0.size)
  have kR:=HKR.out.below hbh.out
  have y0:=kR.cell 0 rfl
  have y1:=kR.cell 1 rfl
  have y2:=kR.cell 2 rfl
  have x0:=kR.fz 0
  have x1:=kR.fz 1
  have x2:=kR.fz 2
  have hS:=hbh.out.size
  have hn4:n≤3:=by have:=hni.out;omega
  by_cases hgo:i<np∧i<4
  ·obtain⟨hlt,hl4⟩:=hgo
   obtain⟨b,o,rfl,hc⟩:=(HP.out.below hbh.out).at (by rw[List.length_map,←HNP.out];omega)
   have g1:=hc i (by rw[List.length_map,←HNP.out];exact hlt)
   obtain⟨x,hx⟩:∃x,x=parts.getD i noB:=⟨_,rfl⟩
   have ex:(strs parts).getD i undef= .string x:=by rw[hx];simp[strs,List.getD,show i<parts.length by rw[←HNP.out];exact hlt]
   have hilt:i<parts.length:=by rw[←HNP.out];exact hlt
   have hxm:x∈parts:=by
    rw[hx,List.getD_eq_getElem?_getD,List.getElem?_eq_getElem hilt]
    exact List.getElem_mem hilt
   have hxs:x.size≤4294967296:=HSZ.out x hxm
   clear hilt hxm
   rw[ex] at g1
   have i1:(i:Int)<(np:Int):=by omega
   have i0:(0:Int)≤(i:Int):=by omega
   have hst:numsTo parts (n+1)=match numB x with|none=>none|some y=>some (l++[y]):=by
    show(match numsTo parts n with|none=>none|some l=>match numB (parts.getD (n+1) noB) with|none=>none|some x=>some (l++[x]))=_
    rw[hnum.out,hni.out,←hx]
   clear hc hx ex
   cases hnb:numB x with
   |none=>
    have HST:Hid (numsTo parts (n+1)=none):=xH1 (by rw[hst,hnb])
    have HNB:=xH1 hnb
    have HR:Hid (parseOp s=none):=xH1 (by
     rw[HPO.out]
     unfold parseOpParts
     rw[numsTo_none HST.out _ (by have:=hni.out;rw[←HNP.out];simp only[Nat.min_def];split<;>omega)];rfl)
    clear hst hnb
    go_wp2_with fail
    refine(l13Num_any x _ hxs).mono ?_
    rintro e w3 ⟨rfl,hw3⟩
    have hw3':=hw3.symm
    subst hw3'
    rw[HNB.out]
    go_wp2
    refine bodyPost_ret (v:= .tuple #[.agg #[.int .i64 0,.int .i64 0,.int .i64 0],.bool false]) (by simp[results,Tryz.results96,go_sem,y0,y1,y2]) rfl ⟨by rw[HR.out];rfl,?_⟩
    exact(((hB1.setCell xL1 _).setCell xL1 _).setCell xL1 _)
   |some y=>
    have HST:Hid (numsTo parts (n+1)=some (l++[y])):=xH1 (by rw[hst,hnb])
    have HNB:=xH1 hnb
    have HOWN:=xH1 hown
    clear hst hnb
    go_wp2_with fail
    refine(l13Num_any x _ hxs).mono ?_
    rintro e w3 ⟨rfl,hw3⟩
    have hw3':=hw3.symm
    subst hw3'
    rw[HNB.out]
    simp only[Option.getD_some,Option.isSome_some]
    go_wp2_with (at_builtin;refine wpList_append_sl (news:=[.int .i64 y]) rfl _ _ 23 rfl Tryz.underlying23 info_int rfl (by decide) rfl hown rfl rfl rfl (by simp[Value.oneCell']) (by omega) (by decide) hS ?_;intro a3 c3 w3 hown3 hgr3;clear hown y0 y1 y2 x0 x1 x2 kR g1)
    go_roundw
    case rel=>
     refine⟨i+1,n+1,l++[y],a3,c3,by omega,by omega,by omega,xH1 (by have:=hni.out;omega),by go_num,rfl,HST,?_,xH1 (hbh.out.trans (below_of_grown hgr3 hS (fun q hq=>(owns_row HOWN.out q hq).1)))⟩
     simpa[ints] using hown3
    case measure=>simp[intOf];omega
  ·have hmin:n=Nat.min (parts.length-1) 3:=by have:=hni.out;rw[←HNP.out];simp only[Nat.min_def];split<;>omega
   have HNUM:Hid (numsTo parts (Nat.min (parts.length-1) 3)=some l):=xH1 (by rw[←hmin];exact hnum.out)
   have hll:=numsTo_len hnum.out
   have HLL:=xH1 hll
   have HBD:Hid (∀x∈l,InI64 x):=xH1 (numsTo_bound hnum.out)
   have HRN:=xH1 (Rd.of_owns hown)
   have e41:decide (i<np)=decide (i<np):=rfl
   clear hmin hll hown e41
   by_cases hE:n+1=np
   ·have HPA:Hid (parseOp s=firstKind s parts l 10):=xH1 (by
     rw[HPO.out]
     unfold parseOpParts
     rw[HNUM.out]
     show(if l.length=parts.length-1 then firstKind s parts l 10 else none)=_
     rw[if_pos (by rw[HLL.out,←HNP.out];omega)])
    have hinp':i=np:=by have:=hni.out;omega
    have t0:decide (i<np)=false:=decide_eq_false (by omega)
    have t0':decide ((i:Int)<(np:Int))=false:=decide_eq_false (by omega)
    have t9:((n:Int)==(np:Int)-1)=true:=by simp;omega
    have HIN:=xH1 hinp'
    obtain⟨b0,o0,eap,hc0⟩:=HP.out.at (by rw[List.length_map,←HNP.out];exact hpos)
    subst eap
    have g0:=hc0 0 (by rw[List.length_map,←HNP.out];exact hpos)
    obtain⟨p0,hp0⟩:∃p0,p0=parts.getD 0 noB:=⟨_,rfl⟩
    have ep0:(strs parts).getD 0 undef= .string p0:=by rw[hp0];simp[strs,List.getD,show 0<parts.length by rw[←HNP.out];exact hpos]
    rw[ep0,Nat.add_zero] at g0
    have HP0:=xH1 hp0
    have HG0:=xH1 (keepc hbh.out g0)
    obtain⟨wo,hwo⟩:∃wo:World,wo=wr:=⟨_,rfl⟩
    have hbh2:=hbh.out
    rw[←hwo] at HG0 hB1 hbh2 kR⊢
    have HRN2:Hid (Rd wo an (ints l)):=xH1 (by rw[hwo];exact HRN.out)
    have HKR2:=xH1 kR
    have hk0:=kR.lt
    clear hgo hinp' y0 y1 y2 x0 x1 x2 hc0 hp0 ep0 g0 hwo kR hS HRN hbh wr
    go_wp2
    go_loopw [9] (fun vk wk=>∃k:Nat,k≤10∧vk= .int .i64 ((k:Int)+1)∧Hid (firstKind s parts l k=none)∧Hid (Below wo.heap.size wo wk)) (fun vk _=>11-(intOf vk).toNat)
    case atStart=>exact⟨0,by omega,rfl,xH1 rfl,xH1 xB1⟩
    case round=>
     obtain⟨k,hk,rfl,hfk,hbk⟩:=hrel
     have hB3:=hB1.trans (hbk.out.mono hB1.size)
     by_cases hlt:k<10
     ·have t10:decide (((k:Int)+1)≤10)=true:=decide_eq_true (by omega)
      have g0:=keepc hbk.out HG0.out
      have i0:(0:Int)<(np:Int):=by omega
      have i0':¬np=0:=by omega
      obtain⟨K,hK⟩:∃K:Int,K=(k:Int)+1:=⟨_,rfl⟩
      have hstep:firstKind s parts l (k+1)=tryKind s parts l K:=by
       show(match firstKind s parts l k with|some o=>some o|none=>tryKind s parts l ((k:Int)+1))=_
       rw[hfk.out,←hK]
      have HSTEP:=xH1 hstep
      obtain⟨Wd,hWd⟩:∃Wd,Wd=wordB K:=⟨_,rfl⟩
      have HWD:=xH1 hWd
      have HKK:=xH1 hK
      clear hstep hWd
      by_cases hq:Wd=p0
      ·have HTK:Hid (tryKind s parts l K=(makeOp ((k:Int)+1) l).bind fun o=>if fmtOp o=s then some o else none):=xH1 (by unfold tryKind;rw[if_pos (by rw[←HWD.out,←HP0.out];exact hq),hK])
       have q0:(Wd.toList==p0.toList)=true:=by rw[hq];simp
       clear hK hq
       cases hm:makeOp ((k:Int)+1) l with
       |none=>
        have HNX:Hid (firstKind s parts l (k+1)=none):=xH1 (by rw[HSTEP.out,HTK.out,hm];rfl)
        have HMM:=xH1 hm
        clear hm
        go_wp2
        refine wp_region_fresh 5 (by kernel_rfl) (by kernel_rfl) [fun dz uz wz=>uz= .int .i64 ((k:Int)+1),fun dz uz wz=>uz= .string Wd,fun dz uz wz=>uz= .slice (some ⟨b0,o0,none⟩) np cp,fun dz uz wz=>uz= .pointer (some ⟨b0,o0,none⟩),fun dz uz wz=>uz= .string p0] (fun i=>match i with|_=>fun _=>none) (fun w'=>Below wr.heap.size wr w') xB1.drew (stab_of ⟨fun _ _ _ _ _ h=>h,fun _ _ _ _ _ h=>h,fun _ _ _ _ _ h=>h,fun _ _ _ _ _ h=>h,fun _ _ _ _ _ h=>h,trivial⟩) ?_ ?_
        ·simp only[List.take_succ_cons,List.take_zero]
         refine⟨?_,?_,?_,?_,?_,trivial⟩
         ·intro ρ w1 hG hfr hd
          obtain⟨fc,ff⟩:=xF1 hfr
          have f9:ρ (.tmp 9)= .int .i64 ((k:Int)+1):=hfr _ rfl
          refine gives_val (u:= .int .i64 ((k:Int)+1)) (w':=w1) (by go_simp) ⟨Below.refl _ _,rfl,xN1,hG⟩
         ·intro ρ w1 hG hfr hd
          obtain⟨fc,ff⟩:=xF1 hfr
          obtain⟨d0,-⟩:=hd
          have d0:(ρ (.tmp 52))= .int .i64 ((k:Int)+1):=d0
          refine gives_call (by go_simp;exact⟨⟨rfl,rfl⟩,rfl⟩) ?_
          refine(l6Word_any ((k:Int)+1) _).mono ?_
          rintro e w2 ⟨rfl,hb⟩
          exact⟨_,rfl,hb,by rw[HWD.out,HKK.out];rfl,xN1,hG.trans (hb.mono hG.size)⟩
         ·intro ρ w1 hG hfr hd
          obtain⟨fc,ff⟩:=xF1 hfr
          have f4:ρ (.tmp 4)= .slice (some ⟨b0,o0,none⟩) np cp:=hfr _ rfl
          refine gives_val (u:= .slice (some ⟨b0,o0,none⟩) np cp) (w':=w1) (by go_simp) ⟨Below.refl _ _,rfl,xN1,hG⟩
         ·intro ρ w1 hG hfr hd
          obtain⟨fc,ff⟩:=xF1 hfr
          obtain⟨d0,-⟩:=hd
          have d0:(ρ (.tmp 54))= .slice (some ⟨b0,o0,none⟩) np cp:=d0
          refine gives_val (u:= .pointer (some ⟨b0,o0,none⟩)) (w':=w1) (by go_simp) ⟨Below.refl _ _,rfl,xN1,hG⟩
         ·intro ρ w1 hG hfr hd
          obtain⟨fc,ff⟩:=xF1 hfr
          obtain⟨d0,-⟩:=hd
          have d0:(ρ (.tmp 55))= .pointer (some ⟨b0,o0,none⟩):=d0
          have g0:=keepc hG g0
          refine gives_val (u:= .string p0) (w':=w1) (by go_simp) ⟨Below.refl _ _,rfl,xN1,hG⟩
        intro vs w2 hG hlen hall hap hbd
        obtain⟨xv0,vs0,rfl,hl0⟩:=len_cons hlen
        obtain⟨xv1,vs1,rfl,hl1⟩:=len_cons hl0
        obtain⟨xv2,vs2,rfl,hl2⟩:=len_cons hl1
        obtain⟨xv3,vs3,rfl,hl3⟩:=len_cons hl2
        obtain⟨xv4,vs4,rfl,hl4⟩:=len_cons hl3
        obtain rfl:=len_nil hl4
        clear hlen hl0 hl1 hl2 hl3 hl4
        simp only[List.take_succ_cons,List.take_zero,List.drop_succ_cons,List.drop_zero] at hall⊢
        obtain⟨t0',t1',t2',t3',t4',-⟩:=hall
        have hv0:xv0= .int .i64 ((k:Int)+1):=t0'
        have hv1:xv1= .string Wd:=t1'
        have hv2:xv2= .slice (some ⟨b0,o0,none⟩) np cp:=t2'
        have hv3:xv3= .pointer (some ⟨b0,o0,none⟩):=t3'
        have hv4:xv4= .string p0:=t4'
        clear t0' t1' t2' t3' t4'
        clear hap hbd
        subst hv0 hv1 hv2 hv3 hv4
        simp only[putAll,Act.put,List.setIfInBounds_toArray,List.set_cons_succ,List.set_cons_zero]
        go_wp2_with fail
        refine(l6Make_any ((k:Int)+1) an n cn l _ HLL.out (by omega) (HRN2.out.below (hbk.out.trans (hG.mono hbk.out.size)))).mono ?_
        rintro e w5 ⟨rfl,hb5⟩
        rw[HMM.out]
        simp only[Option.getD_none,Option.isSome_none]
        have hbk5:=hbk.out.trans ((hG.trans (hb5.mono hG.size)).mono hbk.out.size)
        have HBK5:=xH1 hbk5
        clear hb5 hG hbk5
        go_wp2
        go_roundw
        case rel=>exact⟨k+1,by omega,by go_num,HNX,xH1 (HBK5.out.alloc HBK5.out.size _)⟩
        case measure=>simp[intOf];omega
       |some o=>
        have hob:=makeOp_bound HBD.out hm
        have HOB:=xH1 hob
        have HMM:=xH1 hm
        have HTO:Hid (tryKind s parts l K=if fmtOp o=s then some o else none):=xH1 (by rw[HTK.out,hm];rfl)
        clear hm hob
        by_cases hf:fmtOp o=s
        ·have HNX:Hid (parseOp s=some o):=xH1 (by rw[HPA.out];exact firstKind_more (k:=k+1) (by rw[HSTEP.out,HTO.out,if_pos hf]) 10 (by omega))
         have HFF:=xH1 hf
         clear hf
         go_wp2
         refine wp_region_fresh 5 (by kernel_rfl) (by kernel_rfl) [fun dz uz wz=>uz= .int .i64 ((k:Int)+1),fun dz uz wz=>uz= .string Wd,fun dz uz wz=>uz= .slice (some ⟨b0,o0,none⟩) np cp,fun dz uz wz=>uz= .pointer (some ⟨b0,o0,none⟩),fun dz uz wz=>uz= .string p0] (fun i=>match i with|_=>fun _=>none) (fun w'=>Below wr.heap.size wr w') xB1.drew (stab_of ⟨fun _ _ _ _ _ h=>h,fun _ _ _ _ _ h=>h,fun _ _ _ _ _ h=>h,fun _ _ _ _ _ h=>h,fun _ _ _ _ _ h=>h,trivial⟩) ?_ ?_
         ·simp only[List.take_succ_cons,List.take_zero]
          refine⟨?_,?_,?_,?_,?_,trivial⟩
          ·intro ρ w1 hG hfr hd
           obtain⟨fc,ff⟩:=xF1 hfr
           have f9:ρ (.tmp 9)= .int .i64 ((k:Int)+1):=hfr _ rfl
           refine gives_val (u:= .int .i64 ((k:Int)+1)) (w':=w1) (by go_simp) ⟨Below.refl _ _,rfl,xN1,hG⟩
          ·intro ρ w1 hG hfr hd
           obtain⟨fc,ff⟩:=xF1 hfr
           obtain⟨d0,-⟩:=hd
           have d0:(ρ (.tmp 52))= .int .i64 ((k:Int)+1):=d0
           refine gives_call (by go_simp;exact⟨⟨rfl,rfl⟩,rfl⟩) ?_
           refine(l6Word_any ((k:Int)+1) _).mono ?_
           rintro e w2 ⟨rfl,hb⟩
           exact⟨_,rfl,hb,by rw[HWD.out,HKK.out];rfl,xN1,hG.trans (hb.mono hG.size)⟩
          ·intro ρ w1 hG hfr hd
           obtain⟨fc,ff⟩:=xF1 hfr
           have f4:ρ (.tmp 4)= .slice (some ⟨b0,o0,none⟩) np cp:=hfr _ rfl
           refine gives_val (u:= .slice (some ⟨b0,o0,none⟩) np cp) (w':=w1) (by go_simp) ⟨Below.refl _ _,rfl,xN1,hG⟩
          ·intro ρ w1 hG hfr hd
           obtain⟨fc,ff⟩:=xF1 hfr
           obtain⟨d0,-⟩:=hd
           have d0:(ρ (.tmp 54))= .slice (some ⟨b0,o0,none⟩) np cp:=d0
           refine gives_val (u:= .pointer (some ⟨b0,o0,none⟩)) (w':=w1) (by go_simp) ⟨Below.refl _ _,rfl,xN1,hG⟩
          ·intro ρ w1 hG hfr hd
           obtain⟨fc,ff⟩:=xF1 hfr
           obtain⟨d0,-⟩:=hd
           have d0:(ρ (.tmp 55))= .pointer (some ⟨b0,o0,none⟩):=d0
           have g0:=keepc hG g0
           refine gives_val (u:= .string p0) (w':=w1) (by go_simp) ⟨Below.refl _ _,rfl,xN1,hG⟩
         intro vs w2 hG hlen hall hap hbd
         obtain⟨xv0,vs0,rfl,hl0⟩:=len_cons hlen
         obtain⟨xv1,vs1,rfl,hl1⟩:=len_cons hl0
         obtain⟨xv2,vs2,rfl,hl2⟩:=len_cons hl1
         obtain⟨xv3,vs3,rfl,hl3⟩:=len_cons hl2
         obtain⟨xv4,vs4,rfl,hl4⟩:=len_cons hl3
         obtain rfl:=len_nil hl4
         clear hlen hl0 hl1 hl2 hl3 hl4
         simp only[List.take_succ_cons,List.take_zero,List.drop_succ_cons,List.drop_zero] at hall⊢
         obtain⟨t0',t1',t2',t3',t4',-⟩:=hall
         have hv0:xv0= .int .i64 ((k:Int)+1):=t0'
         have hv1:xv1= .string Wd:=t1'
         have hv2:xv2= .slice (some ⟨b0,o0,none⟩) np cp:=t2'
         have hv3:xv3= .pointer (some ⟨b0,o0,none⟩):=t3'
         have hv4:xv4= .string p0:=t4'
         clear t0' t1' t2' t3' t4'
         clear hap hbd
         subst hv0 hv1 hv2 hv3 hv4
         simp only[putAll,Act.put,List.setIfInBounds_toArray,List.set_cons_succ,List.set_cons_zero]
         go_wp2_with fail
         refine(l6Make_any ((k:Int)+1) an n cn l _ HLL.out (by omega) (HRN2.out.below (hbk.out.trans (hG.mono hbk.out.size)))).mono ?_
         rintro e w5 ⟨rfl,hb5⟩
         rw[HMM.out]
         simp only[Option.getD_some,Option.isSome_some]
         have hB5:=hB3.trans ((hG.trans (hb5.mono hG.size)).mono hB3.size)
         have kR5:=HKR2.out.below (hbk.out.trans ((hG.trans (hb5.mono hG.size)).mono hbk.out.size))
         clear hb5 hG
         obtain⟨ok,ho⟩:∃ok,ok=o.kind:=⟨_,rfl⟩
         go_wp2_with fail
         refine(specFormatOp_any o _ HOB.out.1 HOB.out.2).mono ?_
         rintro e w6 ⟨rfl,hb6⟩
         rw[HFF.out]
         have kA:Blk (w5.alloc (.cells #[.int .i64 o.kind,.int .i64 o.on,.int .i64 o.arg] 58)) w5.heap.size #[.int .i64 o.kind,.int .i64 o.on,.int .i64 o.arg] 58:=Blk.new _ _ _
         have kA6:=kA.below hb6
         have z0:=kA6.cell 0 rfl
         have z1:=kA6.cell 1 rfl
         have z2:=kA6.cell 2 rfl
         have kR6:=(kR5.alloc (.cells #[.int .i64 o.kind,.int .i64 o.on,.int .i64 o.arg] 58)).below hb6
         have y0:=kR6.cell 0 rfl
         have y1:=kR6.cell 1 rfl
         have y2:=kR6.cell 2 rfl
         have x0:=kR6.fz 0
         have x1:=kR6.fz 1
         have x2:=kR6.fz 2
         have hB6:=(hB5.alloc hB5.size (.cells #[.int .i64 o.kind,.int .i64 o.on,.int .i64 o.arg] 58)).trans (hb6.mono (by have:=hB5.size;simp;omega))
         clear hb6 kA kA6 kR5 kR6 ho
         go_wp2
         refine bodyPost_ret (v:= .tuple #[.agg #[.int .i64 o.kind,.int .i64 o.on,.int .i64 o.arg],.bool true]) (by simp[results,Tryz.results96,go_sem,y0,y1,y2]) rfl ⟨by rw[HNX.out];rfl,?_⟩
         exact(((hB6.setCell xL1 _).setCell xL1 _).setCell xL1 _)
        ·have HNX:Hid (firstKind s parts l (k+1)=none):=xH1 (by rw[HSTEP.out,HTO.out,if_neg hf])
         have q1:¬(fmtOp o).toList=s.toList:=fun h=>hf (toList_inj h)
         have q0:((fmtOp o).toList==s.toList)=false:=by simpa using q1
         clear hf
         go_wp2
         refine wp_region_fresh 5 (by kernel_rfl) (by kernel_rfl) [fun dz uz wz=>uz= .int .i64 ((k:Int)+1),fun dz uz wz=>uz= .string Wd,fun dz uz wz=>uz= .slice (some ⟨b0,o0,none⟩) np cp,fun dz uz wz=>uz= .pointer (some ⟨b0,o0,none⟩),fun dz uz wz=>uz= .string p0] (fun i=>match i with|_=>fun _=>none) (fun w'=>Below wr.heap.size wr w') xB1.drew (stab_of ⟨fun _ _ _ _ _ h=>h,fun _ _ _ _ _ h=>h,fun _ _ _ _ _ h=>h,fun _ _ _ _ _ h=>h,fun _ _ _ _ _ h=>h,trivial⟩) ?_ ?_
         ·simp only[List.take_succ_cons,List.take_zero]
          refine⟨?_,?_,?_,?_,?_,trivial⟩
          ·intro ρ w1 hG hfr hd
           obtain⟨fc,ff⟩:=xF1 hfr
           have f9:ρ (.tmp 9)= .int .i64 ((k:Int)+1):=hfr _ rfl
           refine gives_val (u:= .int .i64 ((k:Int)+1)) (w':=w1) (by go_simp) ⟨Below.refl _ _,rfl,xN1,hG⟩
          ·intro ρ w1 hG hfr hd
           obtain⟨fc,ff⟩:=xF1 hfr
           obtain⟨d0,-⟩:=hd
           have d0:(ρ (.tmp 52))= .int .i64 ((k:Int)+1):=d0
           refine gives_call (by go_simp;exact⟨⟨rfl,rfl⟩,rfl⟩) ?_
           refine(l6Word_any ((k:Int)+1) _).mono ?_
           rintro e w2 ⟨rfl,hb⟩
           exact⟨_,rfl,hb,by rw[HWD.out,HKK.out];rfl,xN1,hG.trans (hb.mono hG.size)⟩
          ·intro ρ w1 hG hfr hd
           obtain⟨fc,ff⟩:=xF1 hfr
           have f4:ρ (.tmp 4)= .slice (some ⟨b0,o0,none⟩) np cp:=hfr _ rfl
           refine gives_val (u:= .slice (some ⟨b0,o0,none⟩) np cp) (w':=w1) (by go_simp) ⟨Below.refl _ _,rfl,xN1,hG⟩
          ·intro ρ w1 hG hfr hd
           obtain⟨fc,ff⟩:=xF1 hfr
           obtain⟨d0,-⟩:=hd
           have d0:(ρ (.tmp 54))= .slice (some ⟨b0,o0,none⟩) np cp:=d0
           refine gives_val (u:= .pointer (some ⟨b0,o0,none⟩)) (w':=w1) (by go_simp) ⟨Below.refl _ _,rfl,xN1,hG⟩
          ·intro ρ w1 hG hfr hd
           obtain⟨fc,ff⟩:=xF1 hfr
           obtain⟨d0,-⟩:=hd
           have d0:(ρ (.tmp 55))= .pointer (some ⟨b0,o0,none⟩):=d0
           have g0:=keepc hG g0
           refine gives_val (u:= .string p0) (w':=w1) (by go_simp) ⟨Below.refl _ _,rfl,xN1,hG⟩
         intro vs w2 hG hlen hall hap hbd
         obtain⟨xv0,vs0,rfl,hl0⟩:=len_cons hlen
         obtain⟨xv1,vs1,rfl,hl1⟩:=len_cons hl0
         obtain⟨xv2,vs2,rfl,hl2⟩:=len_cons hl1
         obtain⟨xv3,vs3,rfl,hl3⟩:=len_cons hl2
         obtain⟨xv4,vs4,rfl,hl4⟩:=len_cons hl3
         obtain rfl:=len_nil hl4
         clear hlen hl0 hl1 hl2 hl3 hl4
         simp only[List.take_succ_cons,List.take_zero,List.drop_succ_cons,List.drop_zero] at hall⊢
         obtain⟨t0',t1',t2',t3',t4',-⟩:=hall
         have hv0:xv0= .int .i64 ((k:Int)+1):=t0'
         have hv1:xv1= .string Wd:=t1'
         have hv2:xv2= .slice (some ⟨b0,o0,none⟩) np cp:=t2'
         have hv3:xv3= .pointer (some ⟨b0,o0,none⟩):=t3'
         have hv4:xv4= .string p0:=t4'
         clear t0' t1' t2' t3' t4'
         clear hap hbd
         subst hv0 hv1 hv2 hv3 hv4
         simp only[putAll,Act.put,List.setIfInBounds_toArray,List.set_cons_succ,List.set_cons_zero]
         go_wp2_with fail
         refine(l6Make_any ((k:Int)+1) an n cn l _ HLL.out (by omega) (HRN2.out.below (hbk.out.trans (hG.mono hbk.out.size)))).mono ?_
         rintro e w5 ⟨rfl,hb5⟩
         rw[HMM.out]
         simp only[Option.getD_some,Option.isSome_some]
         have hbk5:=hbk.out.trans ((hG.trans (hb5.mono hG.size)).mono hbk.out.size)
         have HBK5:=xH1 hbk5
         clear hb5 hG hbk5
         go_wp2_with fail
         refine(specFormatOp_any o _ HOB.out.1 HOB.out.2).mono ?_
         rintro e w6 ⟨rfl,hb6⟩
         have hs6:=HBK5.out.size
         have HB6:=xH1 hb6
         clear hb6
         go_wp2
         go_roundw
         case rel=>exact⟨k+1,by omega,by go_num,HNX,xH1 ((HBK5.out.alloc hs6 _).trans (HB6.out.mono (by simp;omega)))⟩
         case measure=>simp[intOf];omega
      ·have q1:¬Wd.toList=p0.toList:=fun h=>hq (toList_inj h)
       have q0:(Wd.toList==p0.toList)=false:=by simpa using q1
       have HNX:Hid (firstKind s parts l (k+1)=none):=xH1 (by rw[HSTEP.out];unfold tryKind;rw[if_neg (by rw[←HWD.out,←HP0.out];exact hq)])
       clear hq hK
       go_wp2
       refine wp_region_fresh 5 (by kernel_rfl) (by kernel_rfl) [fun dz uz wz=>uz= .int .i64 ((k:Int)+1),fun dz uz wz=>uz= .string Wd,fun dz uz wz=>uz= .slice (some ⟨b0,o0,none⟩) np cp,fun dz uz wz=>uz= .pointer (some ⟨b0,o0,none⟩),fun dz uz wz=>uz= .string p0] (fun i=>match i with|_=>fun _=>none) (fun w'=>Below wr.heap.size wr w') xB1.drew (stab_of ⟨fun _ _ _ _ _ h=>h,fun _ _ _ _ _ h=>h,fun _ _ _ _ _ h=>h,fun _ _ _ _ _ h=>h,fun _ _ _ _ _ h=>h,trivial⟩) ?_ ?_
       ·simp only[List.take_succ_cons,List.take_zero]
        refine⟨?_,?_,?_,?_,?_,trivial⟩
        ·intro ρ w1 hG hfr hd
         obtain⟨fc,ff⟩:=xF1 hfr
         have f9:ρ (.tmp 9)= .int .i64 ((k:Int)+1):=hfr _ rfl
         refine gives_val (u:= .int .i64 ((k:Int)+1)) (w':=w1) (by go_simp) ⟨Below.refl _ _,rfl,xN1,hG⟩
        ·intro ρ w1 hG hfr hd
         obtain⟨fc,ff⟩:=xF1 hfr
         obtain⟨d0,-⟩:=hd
         have d0:(ρ (.tmp 52))= .int .i64 ((k:Int)+1):=d0
         refine gives_call (by go_simp;exact⟨⟨rfl,rfl⟩,rfl⟩) ?_
         refine(l6Word_any ((k:Int)+1) _).mono ?_
         rintro e w2 ⟨rfl,hb⟩
         exact⟨_,rfl,hb,by rw[HWD.out,HKK.out];rfl,xN1,hG.trans (hb.mono hG.size)⟩
        ·intro ρ w1 hG hfr hd
         obtain⟨fc,ff⟩:=xF1 hfr
         have f4:ρ (.tmp 4)= .slice (some ⟨b0,o0,none⟩) np cp:=hfr _ rfl
         refine gives_val (u:= .slice (some ⟨b0,o0,none⟩) np cp) (w':=w1) (by go_simp) ⟨Below.refl _ _,rfl,xN1,hG⟩
        ·intro ρ w1 hG hfr hd
         obtain⟨fc,ff⟩:=xF1 hfr
         obtain⟨d0,-⟩:=hd
         have d0:(ρ (.tmp 54))= .slice (some ⟨b0,o0,none⟩) np cp:=d0
         refine gives_val (u:= .pointer (some ⟨b0,o0,none⟩)) (w':=w1) (by go_simp) ⟨Below.refl _ _,rfl,xN1,hG⟩
        ·intro ρ w1 hG hfr hd
         obtain⟨fc,ff⟩:=xF1 hfr
         obtain⟨d0,-⟩:=hd
         have d0:(ρ (.tmp 55))= .pointer (some ⟨b0,o0,none⟩):=d0
         have g0:=keepc hG g0
         refine gives_val (u:= .string p0) (w':=w1) (by go_simp) ⟨Below.refl _ _,rfl,xN1,hG⟩
       intro vs w2 hG hlen hall hap hbd
       obtain⟨xv0,vs0,rfl,hl0⟩:=len_cons hlen
       obtain⟨xv1,vs1,rfl,hl1⟩:=len_cons hl0
       obtain⟨xv2,vs2,rfl,hl2⟩:=len_cons hl1
       obtain⟨xv3,vs3,rfl,hl3⟩:=len_cons hl2
       obtain⟨xv4,vs4,rfl,hl4⟩:=len_cons hl3
       obtain rfl:=len_nil hl4
       clear hlen hl0 hl1 hl2 hl3 hl4
       simp only[List.take_succ_cons,List.take_zero,List.drop_succ_cons,List.drop_zero] at hall⊢
       obtain⟨t0',t1',t2',t3',t4',-⟩:=hall
       have hv0:xv0= .int .i64 ((k:Int)+1):=t0'
       have hv1:xv1= .string Wd:=t1'
       have hv2:xv2= .slice (some ⟨b0,o0,none⟩) np cp:=t2'
       have hv3:xv3= .pointer (some ⟨b0,o0,none⟩):=t3'
       have hv4:xv4= .string p0:=t4'
       clear t0' t1' t2' t3' t4'
       clear hap hbd
       subst hv0 hv1 hv2 hv3 hv4
       simp only[putAll,Act.put,List.setIfInBounds_toArray,List.set_cons_succ,List.set_cons_zero]
       go_wp2
       go_roundw
       case rel=>exact⟨k+1,by omega,by go_num,HNX,xH1 (hbk.out.trans (hG.mono hbk.out.size))⟩
       case measure=>simp[intOf];omega
     ·obtain rfl:k=10:=by omega
      have HR:Hid (parseOp s=none):=xH1 (by rw[HPA.out];exact hfk.out)
      have kR6:=HKR2.out.below hbk.out
      have y0:=kR6.cell 0 rfl
      have x0:=kR6.fz 0
      have y1:=kR6.cell 1 rfl
      have x1:=kR6.fz 1
      have y2:=kR6.cell 2 rfl
      have x2:=kR6.fz 2
      go_wp2
      refine bodyPost_ret (v:= .tuple #[.agg #[.int .i64 0,.int .i64 0,.int .i64 0],.bool false]) (by simp[results,Tryz.results96,go_sem,y0,y1,y2]) rfl ⟨by rw[HR.out];rfl,?_⟩
      exact(((hB3.setCell xL1 _).setCell xL1 _).setCell xL1 _)
   ·have HR:Hid (parseOp s=none):=xH1 (by
     rw[HPO.out]
     unfold parseOpParts
     rw[HNUM.out]
     show(if l.length=parts.length-1 then firstKind s parts l 10 else none)=_
     rw[if_neg (by rw[HLL.out,←HNP.out];omega)])
    have hi4':i=4∧i<np:=by have:=hni.out;omega
    have t0:decide (i<np)=true:=decide_eq_true hi4'.2
    have t0':decide ((i:Int)<(np:Int))=true:=decide_eq_true (by omega)
    have t4:decide ((i:Int)<4)=false:=decide_eq_false (by omega)
    have t4':decide (i<4)=false:=decide_eq_false (by omega)
    have t9:((n:Int)==(np:Int)-1)=false:=by simp;omega
    obtain⟨wo,hwo⟩:∃wo:World,wo=wr:=⟨_,rfl⟩
    rw[←hwo] at hB1 kR⊢
    clear hgo hi4' y0 y1 y2 x0 x1 x2 hwo hS hbh wr HRN hE
    go_wp2
    go_loopw [9] (fun vk wk=>vk= .int .i64 1∧wk=wo) (fun vk _=>11-(intOf vk).toNat)
    case atStart=>exact⟨rfl,rfl⟩
    case round=>
     obtain⟨rfl,rfl⟩:=hrel
     have kR6:=kR
     have y0:=kR6.cell 0 rfl
     have x0:=kR6.fz 0
     have y1:=kR6.cell 1 rfl
     have x1:=kR6.fz 1
     have y2:=kR6.cell 2 rfl
     have x2:=kR6.fz 2
     go_wp2
     refine bodyPost_ret (v:= .tuple #[.agg #[.int .i64 0,.int .i64 0,.int .i64 0],.bool false]) (by simp[results,Tryz.results96,go_sem,y0,y1,y2]) rfl ⟨by rw[HR.out];rfl,?_⟩
     exact(((hB1.setCell xL1 _).setCell xL1 _).setCell xL1 _)
def lineOf (parts:List ByteArray) (word:ByteArray):Option (List Int):=
 if parts.getD 0 noB=word then
  if parts.length<2 then none
  else (numsTo parts (Nat.min (parts.length-1) 5)).bind fun l=>if l.length=parts.length-1 then some l else none
 else none
def lineB (line word:ByteArray):Option (List Int):=lineOf (cutB line 32) word
theorem l6Line_any (s word:ByteArray) (w:World) (hs:s.size≤4294967296):
  Calls Tryz.prog 86 #[.string s,.string word] w fun e w'=>∃(a:Option Addr) (n c:Nat),e= .returned (.tuple #[.slice a n c,.bool (lineB s word).isSome])∧(∀l,lineB s word=some l→n=l.length∧w'.ownsRow w.heap.size 3 1 (.slice a n c) n (ints l))∧Below w.heap.size w w':=by
 go_enter Tryz.func86,Tryz.ntmps86
 go_wp2_with fail
 refine(l13Cut_any s 32 _ hs).mono ?_
 rintro e w1 ⟨ap,cp,rfl,hparts,hb⟩
 obtain⟨parts,hpt⟩:∃parts,parts=cutB s 32:=⟨_,rfl⟩
 have hpos:1≤parts.length:=by rw[hpt];exact cutB_pos s 32
 have hpsz:∀x∈parts,x.size≤4294967296:=fun x hx=>by
  have:=cutTo_size s 32 (s.size+1) x (by rw[hpt] at hx;exact hx)
  omega
 have hplen:parts.length≤4294967297:=by
  have:=(cutTo_le s 32 (s.size+1)).2
  rw[hpt]
  show(cutTo s 32 (s.size+1)).1.length≤_
  omega
 have HPO:Hid (lineB s word=lineOf parts word):=xH1 (by rw[hpt];rfl)
 rw[←hpt] at hparts⊢
 obtain⟨np,hnp⟩:∃np,np=parts.length:=⟨_,rfl⟩
 rw[←hnp] at hparts hpos hplen⊢
 have HNP:=xH1 hnp
 have HSZ:=xH1 hpsz
 have HP:=xH1 (Rd.of_owns hparts)
 have HB:=xH1 hb
 obtain⟨b,o,rfl,hc⟩:=HP.out.at (by rw[List.length_map,←HNP.out];exact hpos)
 have g1:=hc 0 (by rw[List.length_map,←HNP.out];exact hpos)
 obtain⟨p0,hp0⟩:∃p0,p0=parts.getD 0 noB:=⟨_,rfl⟩
 have ep0:(strs parts).getD 0 undef= .string p0:=by rw[hp0];simp[strs,List.getD,show 0<parts.length by rw[←HNP.out];exact hpos]
 have bE:Below w1.heap.size w1 (w1.alloc (.cells #[] 3)):=xA1
 rw[ep0,Nat.add_zero] at g1
 have g0:=keepc bE g1
 have HP0:=xH1 hp0
 have i0:(0:Int)<(np:Int):=by omega
 have i0':¬np=0:=by omega
 have i0'':0<np:=by omega
 clear hpt hnp hpsz hparts hb hc g1 hp0 ep0
 by_cases hq:p0=word
 ·have q0:(p0.toList==word.toList)=true:=by rw[hq];simp
  by_cases h2:np<2
  ·have t2:decide ((np:Int)<2)=true:=decide_eq_true (by omega)
   have HR:Hid (lineB s word=none):=xH1 (by rw[HPO.out];unfold lineOf;rw[if_pos (by rw[←HP0.out];exact hq),if_pos (by rw[←HNP.out];exact h2)])
   have t2':decide (np<2)=true:=decide_eq_true h2
   clear hq
   go_wp2
   refine bodyPost_ret (v:= .tuple #[.slice (some ⟨w1.heap.size,0,none⟩) 0 0,.bool false]) (by simp[results,Tryz.results86,go_sem]) rfl ⟨_,0,0,by rw[HR.out];rfl,(fun l hl=>by rw[HR.out] at hl;cases hl),?_⟩
   exact HB.out.alloc HB.out.size _
  ·have t2:decide ((np:Int)<2)=false:=decide_eq_false (by omega)
   have t2':decide (np<2)=false:=decide_eq_false h2
   have HPA:Hid (lineB s word=(numsTo parts (Nat.min (parts.length-1) 5)).bind fun l=>if l.length=parts.length-1 then some l else none):=xH1 (by rw[HPO.out];unfold lineOf;rw[if_pos (by rw[←HP0.out];exact hq),if_neg (by rw[←HNP.out];exact h2)])
   clear hq
   go_wp2
   have HBE:=xH1 bE
   clear g0 bE
   go_loopw [7,8] (fun vn vi wr=>∃(i n:Nat) (l:List Int) (an:Option Addr) (cn:Nat),1≤i∧i≤np∧i≤6∧Hid (n+1=i)∧vi= .int .i64 i∧vn= .slice an n cn∧Hid (numsTo parts n=some l)∧wr.ownsRow w1.heap.size 3 1 (.slice an n cn) n (ints l)∧Hid (Below w1.heap.size w1 wr)) (fun _ vi _=>np-(intOf vi).toNat)
   case atStart=>exact⟨1,0,[],_,_,by omega,by omega,by omega,xH1 rfl,rfl,rfl,xH1 rfl,owns_empty _ _ _,xH1 HBE.out⟩
   case round=>
    obtain⟨i,n,l,an,cn,hi1,hinp,hi4,hni,rfl,rfl,hnum,hown,hbh⟩:=hrel
    have hS:=hbh.out.size
    have hn4:n≤5:=by have:=hni.out;omega
    by_cases hgo:i<np∧i<6
    ·obtain⟨hlt,hl4⟩:=hgo
     have i1:(i:Int)<(np:Int):=by omega
     have i0:(0:Int)≤(i:Int):=by omega
     obtain⟨b,o,eb,hc⟩:=(HP.out.below hbh.out).at (by rw[List.length_map,←HNP.out];omega)
     obtain⟨rfl,rfl⟩:_∧_:=by simpa using eb
     have g1:=hc i (by rw[List.length_map,←HNP.out];exact hlt)
     obtain⟨x,hx⟩:∃x,x=parts.getD i noB:=⟨_,rfl⟩
     have ex:(strs parts).getD i undef= .string x:=by rw[hx];simp[strs,List.getD,show i<parts.length by rw[←HNP.out];exact hlt]
     have hilt:i<parts.length:=by rw[←HNP.out];exact hlt
     have hxm:x∈parts:=by
      rw[hx,List.getD_eq_getElem?_getD,List.getElem?_eq_getElem hilt]
      exact List.getElem_mem hilt
     have hxs:x.size≤4294967296:=HSZ.out x hxm
     clear hilt hxm
     rw[ex] at g1
     have hst:numsTo parts (n+1)=match numB x with|none=>none|some y=>some (l++[y]):=by
      show(match numsTo parts n with|none=>none|some l=>match numB (parts.getD (n+1) noB) with|none=>none|some x=>some (l++[x]))=_
      rw[hnum.out,hni.out,←hx]
     clear hc hx ex
     cases hnb:numB x with
     |none=>
      have HST:Hid (numsTo parts (n+1)=none):=xH1 (by rw[hst,hnb])
      have HNB:=xH1 hnb
      have HR:Hid (lineB s word=none):=xH1 (by
       rw[HPA.out,numsTo_none HST.out _ (by have:=hni.out;rw[←HNP.out];simp only[Nat.min_def];split<;>omega)];rfl)
      clear hst hnb
      go_wp2_with fail
      refine(l13Num_any x _ hxs).mono ?_
      rintro e w3 ⟨rfl,hw3⟩
      have hw3':=hw3.symm
      subst hw3'
      rw[HNB.out]
      go_wp2
      refine bodyPost_ret (v:= .tuple #[.slice (some ⟨wr.heap.size,0,none⟩) 0 0,.bool false]) (by simp[results,Tryz.results86,go_sem]) rfl ⟨_,0,0,by rw[HR.out];rfl,(fun l hl=>by rw[HR.out] at hl;cases hl),?_⟩
      exact(HB.out.trans (hbh.out.mono HB.out.size)).alloc (Nat.le_trans HB.out.size hS) _
     |some y=>
      have HST:Hid (numsTo parts (n+1)=some (l++[y])):=xH1 (by rw[hst,hnb])
      have HNB:=xH1 hnb
      have HOWN:=xH1 hown
      clear hst hnb
      go_wp2_with fail
      refine(l13Num_any x _ hxs).mono ?_
      rintro e w3 ⟨rfl,hw3⟩
      have hw3':=hw3.symm
      subst hw3'
      rw[HNB.out]
      simp only[Option.getD_some,Option.isSome_some]
      go_wp2_with (at_builtin;refine wpList_append_sl (news:=[.int .i64 y]) rfl _ _ 23 rfl Tryz.underlying23 info_int rfl (by decide) rfl hown rfl rfl rfl (by simp[Value.oneCell']) (by omega) (by decide) hS ?_;intro a3 c3 w3 hown3 hgr3;clear hown g1)
      go_roundw
      case rel=>
       refine⟨i+1,n+1,l++[y],a3,c3,by omega,by omega,by omega,xH1 (by have:=hni.out;omega),by go_num,rfl,HST,?_,xH1 (hbh.out.trans (below_of_grown hgr3 hS (fun q hq=>(owns_row HOWN.out q hq).1)))⟩
       simpa[ints] using hown3
      case measure=>simp[intOf];omega
    ·have hmin:n=Nat.min (parts.length-1) 5:=by have:=hni.out;rw[←HNP.out];simp only[Nat.min_def];split<;>omega
     have hll:=numsTo_len hnum.out
     have HPB:Hid (lineB s word=if l.length=parts.length-1 then some l else none):=xH1 (by rw[HPA.out,←hmin,hnum.out];rfl)
     have HLL:=xH1 hll
     have HRN:=xH1 hown
     have hW:=hbh.out.size
     clear hmin hll hown
     by_cases hE:n+1=np
     ·have HR:Hid (lineB s word=some l):=xH1 (by
       rw[HPB.out,if_pos (by rw[HLL.out,←HNP.out];omega)])
      have hinp':i=np:=by have:=hni.out;omega
      have t0:decide (i<np)=false:=decide_eq_false (by omega)
      have t0':decide ((i:Int)<(np:Int))=false:=decide_eq_false (by omega)
      have t9:((n:Int)==(np:Int)-1)=true:=by simp;omega
      go_wp2
      refine bodyPost_ret (v:= .tuple #[.slice an n cn,.bool true]) (by simp[results,Tryz.results86,go_sem]) rfl ⟨_,n,cn,by rw[HR.out];rfl,fun m hm=> ?_,HB.out.trans (hbh.out.mono HB.out.size)⟩
      rw[HR.out] at hm
      obtain rfl:l=m:=by simpa using hm
      exact⟨HLL.out.symm,owns_mono HRN.out HB.out.size⟩
     ·have HR:Hid (lineB s word=none):=xH1 (by
       rw[HPB.out,if_neg (by rw[HLL.out,←HNP.out];omega)])
      have hi4':i=6∧i<np:=by have:=hni.out;omega
      have t0:decide (i<np)=true:=decide_eq_true hi4'.2
      have t0':decide ((i:Int)<(np:Int))=true:=decide_eq_true (by omega)
      have t4:decide ((i:Int)<6)=false:=decide_eq_false (by omega)
      have t4':decide (i<6)=false:=decide_eq_false (by omega)
      have t9:((n:Int)==(np:Int)-1)=false:=by simp;omega
      go_wp2
      refine bodyPost_ret (v:= .tuple #[.slice an n cn,.bool false]) (by simp[results,Tryz.results86,go_sem]) rfl ⟨_,n,cn,by rw[HR.out];rfl,(fun m hm=>by rw[HR.out] at hm;cases hm),HB.out.trans (hbh.out.mono HB.out.size)⟩
 ·have q1:¬p0.toList=word.toList:=fun h=>hq (toList_inj h)
  have q0:(p0.toList==word.toList)=false:=by simpa using q1
  have HR:Hid (lineB s word=none):=xH1 (by rw[HPO.out];unfold lineOf;rw[if_neg (by rw[←HP0.out];exact hq)])
  clear hq
  go_wp2
  refine bodyPost_ret (v:= .tuple #[.slice (some ⟨w1.heap.size,0,none⟩) 0 0,.bool false]) (by simp[results,Tryz.results86,go_sem]) rfl ⟨_,0,0,by rw[HR.out];rfl,(fun l hl=>by rw[HR.out] at hl;cases hl),?_⟩
  exact HB.out.alloc HB.out.size _
theorem blk_owns {w:World} {G:Nat} {cs:Array Value} {t:TypeId} (h:Blk w G cs t) {B:Nat} {e:TypeId} {sz n c:Nat} {a:Option Addr} {xs:List Value} (ho:w.ownsRow B e sz (.slice a n c) n xs) (hne:t≠e):rowOf a≠some G:=by
 intro hk
 rcases ho.2 with ⟨h',h0⟩|⟨g,cap,cur,h',hb,hg,hnc,hcm,hcs,htake⟩
 ·simp only[Value.slice.injEq] at h'
  rw[h'.1] at hk;cases hk
 ·simp only[Value.slice.injEq,true_and] at h'
  obtain⟨rfl,rfl⟩:=h'
  obtain rfl:g=G:=by simpa[rowOf] using hk
  unfold Blk at h
  rw[h] at hg
  simp only[Option.some.injEq,Obj.cells.injEq] at hg
  exact hne hg.2.1
theorem owns_owns {w:World} {B B':Nat} {e e':TypeId} {sz sz' n n' c c':Nat} {a a':Option Addr} {xs xs':List Value} (h:w.ownsRow B e sz (.slice a n c) n xs) (h':w.ownsRow B' e' sz' (.slice a' n' c') n' xs') (hne:e≠e'):∀k,rowOf a=some k→rowOf a'=some k→False:=by
 intro k hk hk'
 rcases h.2 with ⟨h1,h0⟩|⟨g,cap,cur,h1,hb,hg,_⟩
 ·simp only[Value.slice.injEq] at h1
  rw[h1.1] at hk;cases hk
 ·simp only[Value.slice.injEq,true_and] at h1
  obtain⟨rfl,rfl⟩:=h1
  obtain rfl:g=k:=by simpa[rowOf] using hk
  exact blk_owns hg h' hne hk'
theorem types_ne:(3:TypeId)≠51∧(58:TypeId)≠51∧(26:TypeId)≠3∧(26:TypeId)≠51∧(26:TypeId)≠58∧(3:TypeId)≠58:=by decide
theorem Inner.types {w:World} {vs:List Value} {rows:List (List Value)} (h:Inner w vs rows):∀k∈fpV vs,∃cs fr,w.heap[k]? =some (.cells cs 58 fr):=by
 intro k hk
 obtain⟨v,hv,hvk⟩:=List.mem_filterMap.1 hk
 obtain⟨i,hi,e⟩:=List.mem_iff_getElem.1 hv
 obtain⟨a',m,c',e',ho⟩:=h.inn i hi
 have:vs.getD i undef=v:=by rw[List.getD_eq_getElem?_getD,List.getElem?_eq_getElem hi];simp[e]
 rw[this] at e'
 subst e'
 rw[ownBlock_slice] at hvk
 rcases ho.2 with ⟨h1,h0⟩|⟨g,cap,cur,h1,hb,hg,_⟩
 ·simp only[Value.slice.injEq] at h1
  rw[h1.1] at hvk;cases hvk
 ·simp only[Value.slice.injEq,true_and] at h1
  obtain⟨rfl,rfl⟩:=h1
  obtain rfl:g=k:=by simpa[rowOf] using hvk
  exact⟨_,_,hg⟩
theorem Inner.not_row {w:World} {vs:List Value} {rows:List (List Value)} (h:Inner w vs rows) {B:Nat} {e:TypeId} {sz n c:Nat} {a:Option Addr} {xs:List Value} (ho:w.ownsRow B e sz (.slice a n c) n xs) (hne:58≠e):∀k,rowOf a=some k→k∉fpV vs:=by
 intro k hk hm
 obtain⟨cs,fr,hb⟩:=h.types k hm
 rcases ho.2 with ⟨h1,h0⟩|⟨g,cap,cur,h1,hb',hg,_⟩
 ·simp only[Value.slice.injEq] at h1
  rw[h1.1] at hk;cases hk
 ·simp only[Value.slice.injEq,true_and] at h1
  obtain⟨rfl,rfl⟩:=h1
  obtain rfl:g=k:=by simpa[rowOf] using hk
  rw[hb] at hg
  simp only[Option.some.injEq,Obj.cells.injEq] at hg
  exact hne hg.2.1
theorem Inner.not_blk {w:World} {vs:List Value} {rows:List (List Value)} (h:Inner w vs rows) {G:Nat} {cs:Array Value} {t:TypeId} (hb:Blk w G cs t) (hne:58≠t):G∉fpV vs:=by
 intro hm
 obtain⟨cs',fr,hb'⟩:=h.types G hm
 unfold Blk at hb
 rw[hb] at hb'
 simp only[Option.some.injEq,Obj.cells.injEq] at hb'
 exact hne hb'.2.1.symm
structure CopyAt (w:World) (B G:Nat) (v:PV) (vs:List Value) (p:Pg) (k:Nat):Prop where
 blk:Blk w G #[.slice v.s v.ns v.cs,.slice v.g v.ng v.cg,.slice v.b v.nb v.cb,.slice v.r v.nr v.cr,.slice v.t v.nt v.ct] 26
 os:w.ownsRow B 3 1 (.slice v.s v.ns v.cs) v.ns (ints p.sems)
 og:w.ownsRow B 3 1 (.slice v.g v.ng v.cg) v.ng (ints p.groups)
 ob:w.ownsRow B 3 1 (.slice v.b v.nb v.cb) v.nb (ints p.barriers)
 orr:w.ownsRow B 3 1 (.slice v.r v.nr v.cr) v.nr (ints p.rooms)
 ot:w.ownsRow B 51 1 (.slice v.t v.nt v.ct) v.nt vs
 inn:Inner w vs ((p.threads.take k).map opsV)
 nd:(fpV vs).Nodup
 lo:∀q∈fpV vs,B≤q
theorem CopyAt.below {w w':World} {B G:Nat} {v:PV} {vs:List Value} {p:Pg} {k:Nat} (h:CopyAt w B G v vs p k) (hb:Below w.heap.size w w'):CopyAt w' B G v vs p k:=
 ⟨h.blk.below hb,owns_below h.os hb,owns_below h.og hb,owns_below h.ob hb,owns_below h.orr hb,owns_below h.ot hb,h.inn.below hb,h.nd,h.lo⟩
def PV.thr (v:PV) (a:Option Addr) (n c:Nat):PV:=⟨v.s,v.ns,v.cs,v.g,v.ng,v.cg,v.b,v.nb,v.cb,v.r,v.nr,v.cr,a,n,c⟩
theorem grown_set (w:World) (G j:Nat) (x:Value):w.grownBy (w.setCell ⟨G,j,none⟩ x) (some G):=⟨rfl,rfl,rfl,by simp,fun i _ hi=>Below.heap_setCell _ _ _ _ (fun e=>hi (by rw[e]))⟩
theorem CopyAt.step {w w':World} {B G:Nat} {v:PV} {vs:List Value} {p:Pg} {k:Nat} (h:CopyAt w B G v vs p k) (hk:k<p.threads.length) {a2:Option Addr} {m c2:Nat} (h2:w.ownsRow 0 58 3 (.slice a2 m c2) m (opsV (p.threads.getD k [])))
  (hf:∀q,rowOf a2=some q→B≤q∧q∉fpV vs) {a:Option Addr} {n c:Nat} (ho:w'.ownsRow B 51 1 (.slice a n c) n (vs++[.slice a2 m c2])) (hg:w.grownBy w' (rowOf v.t)):
  CopyAt (w'.setCell ⟨G,4,none⟩ (.slice a n c)) B G (v.thr a n c) (vs++[.slice a2 m c2]) p (k+1):=by
 obtain⟨t1,t2,t3,t4,t5,t6⟩:=types_ne
 have r1:rowOf v.t≠some G:=blk_owns h.blk h.ot t4
 have b1:=h.blk.grown hg r1
 have hin:=h.inn.snoc h2
 have hin1:=hin.grown hg (hin.not_row h.ot t2)
 have s1:=owns_grown h.os hg (owns_owns h.os h.ot t1)
 have s2:=owns_grown h.og hg (owns_owns h.og h.ot t1)
 have s3:=owns_grown h.ob hg (owns_owns h.ob h.ot t1)
 have s4:=owns_grown h.orr hg (owns_owns h.orr h.ot t1)
 have g2:=grown_set w' G 4 (.slice a n c)
 have far:∀{e:TypeId} {sz n' c' B':Nat} {a':Option Addr} {xs:List Value},w'.ownsRow B' e sz (.slice a' n' c') n' xs→26≠e→∀q,rowOf a'=some q→some G=some q→False:=by
  intro e sz n' c' B' a' xs ho' hne q hq e'
  cases e'
  exact blk_owns b1 ho' hne hq
 refine⟨?_,owns_grown s1 g2 (far s1 t3),owns_grown s2 g2 (far s2 t3),owns_grown s3 g2 (far s3 t3),owns_grown s4 g2 (far s4 t3),owns_grown ho g2 (far ho t4),?_,?_,?_⟩
 ·have:=b1.set 4 (.slice a n c)
  simpa[PV.thr] using this
 ·rw[rows_take_succ p.threads k hk]
  exact hin1.grown g2 (fun q hq=>by cases hq;exact hin1.not_blk b1 (fun e=>t5 e.symm))
 ·rw[fpV_snoc]
  exact nodup_snoc h.nd (fun q hq=>(hf q hq).2)
 ·intro q hq
  rw[fpV_snoc,List.mem_append] at hq
  rcases hq with hq|hq
  ·exact h.lo q hq
  ·exact(hf q (by simpa using hq)).1
theorem CopyAt.own {w:World} {B G:Nat} {v:PV} {vs:List Value} {p:Pg} {k:Nat} (h:CopyAt w B G v vs p k) (hk:k=p.threads.length):OwnP w v vs p.cells:=by
 have e:p.threads.take k=p.threads:=by rw[hk,List.take_length]
 have hin:=h.inn
 rw[e] at hin
 exact⟨owns_mono h.os (Nat.zero_le _),owns_mono h.og (Nat.zero_le _),owns_mono h.ob (Nat.zero_le _),owns_mono h.orr (Nat.zero_le _),OwnT.of_inner (owns_mono h.ot (Nat.zero_le _)) hin⟩
theorem CopyAt.fresh {w:World} {B G:Nat} {v:PV} {vs:List Value} {p:Pg} {k:Nat} (h:CopyAt w B G v vs p k):∀q∈fpP v vs,B≤q:=by
 intro q hq
 unfold fpP at hq
 simp only[List.mem_append,Option.mem_toList] at hq
 rcases hq with hq|hq|hq|hq|hq
 ·exact(owns_row h.os q hq).1
 ·exact(owns_row h.og q hq).1
 ·exact(owns_row h.ob q hq).1
 ·exact(owns_row h.orr q hq).1
 ·rw[fpT_eq,List.mem_append] at hq
  rcases hq with hq|hq
  ·exact(owns_row h.ot q (by simpa using hq)).1
  ·exact h.lo q hq
theorem RdP.thr {w:World} {v:PV} {p:Pg} (h:RdP w v p) (hne:0<p.threads.length):∃b o,v.t=some ⟨b,o,none⟩∧∀i,i<p.threads.length→∃a' c',w.cell? ⟨b,o+i,none⟩=some (.slice a' (p.threads.getD i []).length c')∧Rd w a' (opsV (p.threads.getD i [])):=by
 obtain⟨vs,hT⟩:=h.rt
 exact hT.thread hne
structure Four (v:PV):Prop where
 sg:∀k,slBk v.ns (.slice v.s v.ns v.cs)=some k→slBk v.ng (.slice v.g v.ng v.cg)≠some k
 sb:∀k,slBk v.ns (.slice v.s v.ns v.cs)=some k→slBk v.nb (.slice v.b v.nb v.cb)≠some k
 sr:∀k,slBk v.ns (.slice v.s v.ns v.cs)=some k→slBk v.nr (.slice v.r v.nr v.cr)≠some k
 gb:∀k,slBk v.ng (.slice v.g v.ng v.cg)=some k→slBk v.nb (.slice v.b v.nb v.cb)≠some k
 gr:∀k,slBk v.ng (.slice v.g v.ng v.cg)=some k→slBk v.nr (.slice v.r v.nr v.cr)≠some k
 br:∀k,slBk v.nb (.slice v.b v.nb v.cb)=some k→slBk v.nr (.slice v.r v.nr v.cr)≠some k
 zs:v.ns=0→v.cs=0
 zg:v.ng=0→v.cg=0
 zb:v.nb=0→v.cb=0
 zr:v.nr=0→v.cr=0
theorem Four.thr {v:PV} (h:Four v) (a:Option Addr) (n c:Nat):Four (v.thr a n c):=⟨h.sg,h.sb,h.sr,h.gb,h.gr,h.br,h.zs,h.zg,h.zb,h.zr⟩
structure FourF (v:PV):Prop where
 sg:∀k,rowOf v.s=some k→rowOf v.g≠some k
 sb:∀k,rowOf v.s=some k→rowOf v.b≠some k
 sr:∀k,rowOf v.s=some k→rowOf v.r≠some k
 gb:∀k,rowOf v.g=some k→rowOf v.b≠some k
 gr:∀k,rowOf v.g=some k→rowOf v.r≠some k
 br:∀k,rowOf v.b=some k→rowOf v.r≠some k
theorem FourF.of {a0 a1 a2 a3 a:Option Addr} {n0 n1 n2 n3 n c0 c1 c2 c3 c:Nat}
  (h1:∀k,Value.ownBlock (.slice a0 n0 c0)=some k→Value.ownBlock (.slice a1 n1 c1)≠some k) (h2:∀k,Value.ownBlock (.slice a0 n0 c0)=some k→Value.ownBlock (.slice a2 n2 c2)≠some k)
  (h3:∀k,Value.ownBlock (.slice a0 n0 c0)=some k→Value.ownBlock (.slice a3 n3 c3)≠some k) (h4:∀k,Value.ownBlock (.slice a1 n1 c1)=some k→Value.ownBlock (.slice a2 n2 c2)≠some k)
  (h5:∀k,Value.ownBlock (.slice a1 n1 c1)=some k→Value.ownBlock (.slice a3 n3 c3)≠some k) (h6:∀k,Value.ownBlock (.slice a2 n2 c2)=some k→Value.ownBlock (.slice a3 n3 c3)≠some k):
  FourF ⟨a0,n0,c0,a1,n1,c1,a2,n2,c2,a3,n3,c3,a,n,c⟩:=by
 simp only[ownBlock_slice] at h1 h2 h3 h4 h5 h6
 exact⟨h1,h2,h3,h4,h5,h6⟩
theorem FourF.thr {v:PV} (h:FourF v) (a:Option Addr) (n c:Nat):FourF (v.thr a n c):=⟨h.sg,h.sb,h.sr,h.gb,h.gr,h.br⟩
theorem CopyAt.nodup {w:World} {B G:Nat} {v:PV} {vs:List Value} {p:Pg} {k:Nat} (h:CopyAt w B G v vs p k) (f:FourF v):(fpP v vs).Nodup:=by
 obtain⟨t1,t2,t3,t4,t5,t6⟩:=types_ne
 have ht:(fpT v.t vs).Nodup:=by
  rw[fpT_eq]
  exact nodup_opt h.nd (h.inn.not_row h.ot t2)
 have no:∀{a:Option Addr} {n c:Nat} {xs:List Value},w.ownsRow B 3 1 (.slice a n c) n xs→∀q,rowOf a=some q→q∉fpT v.t vs:=by
  intro a n c xs ho q hq hm
  rw[fpT_eq,List.mem_append] at hm
  rcases hm with hm|hm
  ·exact owns_owns ho h.ot t1 q hq (by simpa using hm)
  ·exact h.inn.not_row ho (fun e=>t6 e.symm) q hq hm
 unfold fpP
 refine nodup_opt (nodup_opt (nodup_opt (nodup_opt ht (no h.orr)) (fun q hq hm=> ?_)) (fun q hq hm=> ?_)) (fun q hq hm=> ?_)
 all_goals simp only[List.mem_append,Option.mem_toList] at hm
 ·rcases hm with hm|hm
  ·exact f.br q hq hm
  ·exact no h.ob q hq hm
 ·rcases hm with hm|hm|hm
  ·exact f.gb q hq hm
  ·exact f.gr q hq hm
  ·exact no h.og q hq hm
 ·rcases hm with hm|hm|hm|hm
  ·exact f.sg q hq hm
  ·exact f.sb q hq hm
  ·exact f.sr q hq hm
  ·exact no h.os q hq hm
def threadSpB:ByteArray:=⟨#[116,104,114,101,97,100,32]⟩
def pieceOp (x:ByteArray) (i:Nat):Option OpD:=
 if i=0 then parseOp x else if x=noB then none else if byteAt x 0=32 then parseOp (x.extract 1 x.size) else none
def opsFrom (parts:List ByteArray):Nat→Option (List OpD)
 |0=>some []
 |i+1=>match opsFrom parts i with
  |none=>none
  |some l=>match pieceOp (parts.getD i noB) i with
   |none=>none
   |some o=>some (l++[o])
def threadOf (parts:List ByteArray):Option (List OpD):=
 if parts.length≤8 then opsFrom parts parts.length else none
def threadLine (line:ByteArray):Option (List OpD):=
 if line=threadB then some []
 else if line.size<7 then none
 else if line.extract 0 7=threadSpB then threadOf (cutB (line.extract 7 line.size) 44)
 else none
theorem opsFrom_len {parts:List ByteArray}:∀{j:Nat} {l:List OpD},opsFrom parts j=some l→l.length=j
 |0,l,h=>by
  obtain rfl:[]=l:=by simpa[opsFrom] using h
  rfl
 |j+1,l,h=>by
  have h':(match opsFrom parts j with|none=>none|some l=>match pieceOp (parts.getD j noB) j with|none=>none|some x=>some (l++[x]))=some l:=h
  cases hd:opsFrom parts j with
  |none=>rw[hd] at h';cases h'
  |some m=>
   rw[hd] at h'
   simp only at h'
   cases hn:pieceOp (parts.getD j noB) j with
   |none=>rw[hn] at h';cases h'
   |some x=>
    rw[hn] at h'
    obtain rfl:m++[x]=l:=by simpa using h'
    have:=opsFrom_len hd
    simp[this]
theorem opsFrom_none {parts:List ByteArray} {k:Nat} (h:opsFrom parts k=none):∀m,k≤m→opsFrom parts m=none
 |0,hm=>by(obtain rfl:k=0:=by omega);exact h
 |m+1,hm=>by
  rcases Nat.lt_or_ge m k with hc|hc
  ·obtain rfl:k=m+1:=by omega
   exact h
  ·have:=opsFrom_none h m hc
   show(match opsFrom parts m with|none=>none|some l=>match pieceOp (parts.getD m noB) m with|none=>none|some x=>some (l++[x]))=none
   rw[this]
theorem l6Thread_any (s:ByteArray) (w:World) (hs:s.size≤4294967296):
  Calls Tryz.prog 87 #[.string s] w fun e w'=>∃(a:Option Addr) (n c:Nat),e= .returned (.tuple #[.slice a n c,.bool (threadLine s).isSome])∧(∀l,threadLine s=some l→n=l.length∧w'.ownsRow w.heap.size 58 3 (.slice a n c) n (opsV l))∧Below w.heap.size w w':=by
 go_enter Tryz.func87,Tryz.ntmps87
 by_cases hT:s=threadB
 ·have HR:Hid (threadLine s=some []):=xH1 (by unfold threadLine;rw[if_pos hT])
  have q0:(s.toList==[116,104,114,101,97,100])=true:=by rw[hT,ByteArray.toList_eq];rfl
  clear hT
  go_wp2
  refine bodyPost_ret (v:= .tuple #[.slice (some ⟨w.heap.size,0,none⟩) 0 0,.bool true]) (by simp[results,Tryz.results87,go_sem]) rfl ⟨_,0,0,by rw[HR.out];rfl,fun l hl=> ?_,xA1⟩
  rw[HR.out] at hl
  obtain rfl:[]=l:=by simpa using hl
  exact⟨rfl,owns_empty _ _ _⟩
 ·have q0:(s.toList==[116,104,114,101,97,100])=false:=by
   have:¬s.toList=[116,104,114,101,97,100]:=fun h=>hT (toList_inj (by rw[h,ByteArray.toList_eq];rfl))
   simpa using this
  by_cases h7:s.size<7
  ·have HR:Hid (threadLine s=none):=xH1 (by unfold threadLine;rw[if_neg hT,if_pos h7])
   have t7:decide ((s.size:Int)<7)=true:=decide_eq_true (by omega)
   have t7':decide (s.size<7)=true:=decide_eq_true h7
   clear hT
   go_wp2
   refine bodyPost_ret (v:= .tuple #[.slice (some ⟨w.heap.size,0,none⟩) 0 0,.bool false]) (by simp[results,Tryz.results87,go_sem]) rfl ⟨_,0,0,by rw[HR.out];rfl,(fun l hl=>by rw[HR.out] at hl;cases hl),?_⟩
   exact xA1
  ·have t7:decide ((s.size:Int)<7)=false:=decide_eq_false (by omega)
   have t7':decide (s.size<7)=false:=decide_eq_false h7
   obtain⟨H,hH⟩:∃H,H=s.extract 0 7:=⟨_,rfl⟩
   have i7:(7:Int)≤(s.size:Int):=by omega
   by_cases hh:H=threadSpB
   ·have q1:((s.extract 0 7).toList==[116,104,114,101,97,100,32])=true:=by rw[←hH,hh,ByteArray.toList_eq];rfl
    obtain⟨R,hR⟩:∃R,R=s.extract 7 s.size:=⟨_,rfl⟩
    have hsl2:∀W:World,(Instr.slice 9 (.string s) (some (.int .i64 7)) none none).run Tryz.prog W= .ok (.string R) W:=fun W=>by
     rw[hR];go_simp
    have hRs:R.size≤4294967296:=by rw[hR,ByteArray.size_extract];omega
    obtain⟨parts,hpt⟩:∃parts,parts=cutB R 44:=⟨_,rfl⟩
    have HPA:Hid (threadLine s=threadOf parts):=xH1 (by unfold threadLine;rw[if_neg hT,if_neg h7,←hH,if_pos hh,←hR,←hpt])
    have hpos:1≤parts.length:=by rw[hpt];exact cutB_pos R 44
    have hpsz:∀x∈parts,x.size≤4294967296:=fun x hx=>by
     have:=cutTo_size R 44 (R.size+1) x (by rw[hpt] at hx;exact hx)
     omega
    have hplen:parts.length≤4294967297:=by
     have:=(cutTo_le R 44 (R.size+1)).2
     rw[hpt]
     show(cutTo R 44 (R.size+1)).1.length≤_
     omega
    have HPT:=xH1 hpt
    have HSZ:=xH1 hpsz
    clear hT hH hh hR hpt hpsz h7
    go_wp2_with fail
    refine(l13Cut_any R 44 _ hRs).mono ?_
    rintro e w1 ⟨ap,cp,rfl,hparts,hb⟩
    rw[←HPT.out] at hparts⊢
    obtain⟨np,hnp⟩:∃np,np=parts.length:=⟨_,rfl⟩
    rw[←hnp] at hparts hpos hplen⊢
    have HNP:=xH1 hnp
    have HP:=xH1 (owns_mono hparts (B':=w.heap.size) (by simp))
    have bE:Below w.heap.size w w1:=(xA1).trans (hb.mono (by simp))
    have HBE:=xH1 bE
    have HO0:=xH1 (owns_below (owns_empty w 58 3) hb)
    clear hnp hparts hb bE
    go_wp2
    go_loopw [4,6] (fun vn vi wr=>∃(i:Nat) (l:List OpD) (an:Option Addr) (cn:Nat),i≤np∧i≤9∧vi= .int .i64 i∧vn= .slice an i cn∧Hid (opsFrom parts i=some l)∧wr.ownsRow w.heap.size 58 3 (.slice an i cn) i (opsV l)∧Hid (wr.ownsRow w.heap.size 9 1 (.slice ap np cp) np (strs parts))∧Hid (Below w.heap.size w wr)) (fun _ vi _=>np-(intOf vi).toNat)
    case atStart=>exact⟨0,[],_,_,by omega,by omega,rfl,rfl,xH1 rfl,HO0.out,HP,HBE⟩
    case round=>
     obtain⟨i,l,an,cn,hinp,hi9,rfl,rfl,hnum,hown,HPR,hbh⟩:=hrel
     have hB1:=hbh.out
     have hS:=hB1.size
     by_cases hgo:i<np∧i≤8
     ·obtain⟨hlt,hl4⟩:=hgo
      have i1:(i:Int)<(np:Int):=by omega
      have i0:(0:Int)≤(i:Int):=by omega
      have i8:(i:Int)≤8:=by omega
      obtain⟨b,o,rfl,hc⟩:=(Rd.of_owns HPR.out).at (by rw[List.length_map,←HNP.out];omega)
      have g1:=hc i (by rw[List.length_map,←HNP.out];exact hlt)
      obtain⟨x,hx⟩:∃x,x=parts.getD i noB:=⟨_,rfl⟩
      have ex:(strs parts).getD i undef= .string x:=by rw[hx];simp[strs,List.getD,show i<parts.length by rw[←HNP.out];exact hlt]
      have hilt:i<parts.length:=by rw[←HNP.out];exact hlt
      have hxm:x∈parts:=by
       rw[hx,List.getD_eq_getElem?_getD,List.getElem?_eq_getElem hilt]
       exact List.getElem_mem hilt
      have hxs:x.size≤4294967296:=HSZ.out x hxm
      clear hilt hxm
      rw[ex] at g1
      have hst:opsFrom parts (i+1)=match pieceOp x i with|none=>none|some y=>some (l++[y]):=by
       show(match opsFrom parts i with|none=>none|some l=>match pieceOp (parts.getD i noB) i with|none=>none|some x=>some (l++[x]))=_
       rw[hnum.out,←hx]
      clear hc hx ex
      by_cases hz:i=0
      ·have HPC:Hid (pieceOp x i=parseOp x):=xH1 (by unfold pieceOp;rw[if_pos hz])
       have tz:decide ((0:Int)<(i:Int))=false:=decide_eq_false (by omega)
       have tz':decide (0<i)=false:=decide_eq_false (by omega)
       have hTs:=hxs
       clear hz
       cases hpo:parseOp x with
       |none=>
        have HPN:=xH1 hpo
        have HR:Hid (threadLine s=none):=xH1 (by
         rw[HPA.out]
         unfold threadOf
         split
         ·exact opsFrom_none (k:=i+1) (by rw[hst,HPC.out,hpo]) _ (by rw[←HNP.out];exact hlt)
         ·rfl)
        clear hst hpo
        go_wp2_with fail
        refine(specParseOp_any x _ hTs).mono ?_
        rintro e w3 ⟨rfl,hb3⟩
        rw[HPN.out]
        simp only[Option.getD_none,Option.isSome_none]
        have hB3:=hB1.trans (hb3.mono hB1.size)
        have HB3:=xH1 hB3
        clear hb3 hB3
        go_wp2
        refine bodyPost_ret (v:= .tuple #[.slice (some ⟨w3.heap.size+1,0,none⟩) 0 0,.bool false]) (by simp[results,Tryz.results87,go_sem]) rfl ⟨_,0,0,by rw[HR.out];rfl,(fun l hl=>by rw[HR.out] at hl;cases hl),?_⟩
        exact(HB3.out.alloc HB3.out.size _).alloc (by have:=HB3.out.size;simp;omega) _
       |some o=>
        have ONE:Hid (∀u∈opv o,u.oneCell'=true):=xH1 (by intro u hu;simp only[opv,List.mem_cons,List.not_mem_nil,or_false] at hu;rcases hu with rfl|rfl|rfl<;>rfl)
        have HPN:=xH1 hpo
        have HST:Hid (opsFrom parts (i+1)=some (l++[o])):=xH1 (by rw[hst,HPC.out,hpo])
        clear hst hpo
        go_wp2_with fail
        refine(specParseOp_any x _ hTs).mono ?_
        rintro e w3 ⟨rfl,hb3⟩
        rw[HPN.out]
        simp only[Option.getD_some,Option.isSome_some]
        have hbk3:=hbh.out.trans (hb3.mono hS)
        have kA:Blk (w3.alloc (.cells #[.int .i64 o.kind,.int .i64 o.on,.int .i64 o.arg] 58)) w3.heap.size #[.int .i64 o.kind,.int .i64 o.on,.int .i64 o.arg] 58:=Blk.new _ _ _
        have z0:=kA.cell 0 rfl
        have z1:=kA.cell 1 rfl
        have z2:=kA.cell 2 rfl
        have hown3:=(owns_below hown hb3).alloc (.cells #[.int .i64 o.kind,.int .i64 o.on,.int .i64 o.arg] 58)
        have hbk4:=hbk3.alloc hbk3.size (.cells #[.int .i64 o.kind,.int .i64 o.on,.int .i64 o.arg] 58)
        have HBK4:=xH1 hbk4
        have HOWN:=xH1 hown3
        have HPW:=xH1 ((owns_below HPR.out hb3).alloc (.cells #[.int .i64 o.kind,.int .i64 o.on,.int .i64 o.arg] 58))
        have hS4:=hbk4.size
        clear hb3 hbk3 kA hown hbk4
        go_wp2_with (at_builtin;refine wpList_append_sl (m:=1) (cm:=1) (news:=opv o) rfl (.tmp 64) (.tmp 66) 51 rfl Tryz.underlying51 info_op rfl (by decide) rfl hown3 (by show Value.slice (some ⟨w3.heap.size+1,0,none⟩) 1 1=_;simp) (by rw[opv_len]) rfl ONE.out (by omega) (by decide) hS4 ?_;intro a5 c5 w5 hown5 hgr5;clear hown3)
        go_roundw
        case rel=>
         refine⟨i+1,l++[o],a5,c5,by omega,by omega,by go_num,rfl,HST,?_,xH1 (owns_grown HPW.out hgr5 (owns_owns HPW.out HOWN.out (by decide))),xH1 (HBK4.out.trans (below_of_grown hgr5 hS4 (fun q hq=>(owns_row HOWN.out q hq).1)))⟩
         simpa[opsV] using hown5
        case measure=>simp[intOf];omega
      ·have tz:decide ((0:Int)<(i:Int))=true:=decide_eq_true (by omega)
       have tz':decide (0<i)=true:=decide_eq_true (by omega)
       by_cases hxe:x=noB
       ·have HPC:Hid (pieceOp x i=none):=xH1 (by unfold pieceOp;rw[if_neg hz,if_pos hxe])
        have q2:x.toList.isEmpty=true:=by rw[hxe,ByteArray.toList_eq];rfl
        clear hxe
        have HR:Hid (threadLine s=none):=xH1 (by
         rw[HPA.out]
         unfold threadOf
         split
         ·exact opsFrom_none (k:=i+1) (by rw[hst,HPC.out]) _ (by rw[←HNP.out];exact hlt)
         ·rfl)
        clear hst
        go_wp2
        refine bodyPost_ret (v:= .tuple #[.slice (some ⟨wr.heap.size,0,none⟩) 0 0,.bool false]) (by simp[results,Tryz.results87,go_sem]) rfl ⟨_,0,0,by rw[HR.out];rfl,(fun l hl=>by rw[HR.out] at hl;cases hl),?_⟩
        exact hB1.alloc hB1.size _
       ·have q2:x.toList.isEmpty=false:=by
         have:¬x.toList=[]:=fun h=>hxe (toList_inj (by rw[h,ByteArray.toList_eq];rfl))
         simpa using this
        have hp:0<x.size:=by
         rcases Nat.eq_zero_or_pos x.size with h|h
         ·exact absurd (ByteArray.size_eq_zero_iff.1 h) hxe
         ·exact h
        have eB:byteAt x 0=(x[0].toNat:Int):=by unfold byteAt;rw[dif_pos hp]
        rcases Bool.eq_false_or_eq_true ((x[0].toNat:Int)==32) with x32|x32
        ·obtain⟨T,hT⟩:∃T,T=x.extract 1 x.size:=⟨_,rfl⟩
         have HPC:Hid (pieceOp x i=parseOp T):=xH1 (by unfold pieceOp;rw[if_neg hz,if_neg hxe,if_pos (by rw[eB];simpa using x32),←hT])
         have hTs:T.size≤4294967296:=by rw[hT,ByteArray.size_extract];omega
         have hp1:(1:Int)≤(x.size:Int):=by omega
         have hp2:¬(x.size:Int)<1:=by omega
         have hsl3:∀W:World,(Instr.slice 9 (.string x) (some (.int .i64 1)) none none).run Tryz.prog W= .ok (.string T) W:=fun W=>by
          rw[hT];go_simp
         clear hT eB hxe
         cases hpo:parseOp T with
         |none=>
          have HPN:=xH1 hpo
          have HR:Hid (threadLine s=none):=xH1 (by
           rw[HPA.out]
           unfold threadOf
           split
           ·exact opsFrom_none (k:=i+1) (by rw[hst,HPC.out,hpo]) _ (by rw[←HNP.out];exact hlt)
           ·rfl)
          clear hst hpo
          go_wp2_with fail
          refine(specParseOp_any T _ hTs).mono ?_
          rintro e w3 ⟨rfl,hb3⟩
          rw[HPN.out]
          simp only[Option.getD_none,Option.isSome_none]
          have hB3:=hB1.trans (hb3.mono hB1.size)
          have HB3:=xH1 hB3
          clear hb3 hB3
          go_wp2
          refine bodyPost_ret (v:= .tuple #[.slice (some ⟨w3.heap.size+1,0,none⟩) 0 0,.bool false]) (by simp[results,Tryz.results87,go_sem]) rfl ⟨_,0,0,by rw[HR.out];rfl,(fun l hl=>by rw[HR.out] at hl;cases hl),?_⟩
          exact(HB3.out.alloc HB3.out.size _).alloc (by have:=HB3.out.size;simp;omega) _
         |some o=>
          have ONE:Hid (∀u∈opv o,u.oneCell'=true):=xH1 (by intro u hu;simp only[opv,List.mem_cons,List.not_mem_nil,or_false] at hu;rcases hu with rfl|rfl|rfl<;>rfl)
          have HPN:=xH1 hpo
          have HST:Hid (opsFrom parts (i+1)=some (l++[o])):=xH1 (by rw[hst,HPC.out,hpo])
          clear hst hpo
          go_wp2_with fail
          refine(specParseOp_any T _ hTs).mono ?_
          rintro e w3 ⟨rfl,hb3⟩
          rw[HPN.out]
          simp only[Option.getD_some,Option.isSome_some]
          have hbk3:=hbh.out.trans (hb3.mono hS)
          have kA:Blk (w3.alloc (.cells #[.int .i64 o.kind,.int .i64 o.on,.int .i64 o.arg] 58)) w3.heap.size #[.int .i64 o.kind,.int .i64 o.on,.int .i64 o.arg] 58:=Blk.new _ _ _
          have z0:=kA.cell 0 rfl
          have z1:=kA.cell 1 rfl
          have z2:=kA.cell 2 rfl
          have hown3:=(owns_below hown hb3).alloc (.cells #[.int .i64 o.kind,.int .i64 o.on,.int .i64 o.arg] 58)
          have hbk4:=hbk3.alloc hbk3.size (.cells #[.int .i64 o.kind,.int .i64 o.on,.int .i64 o.arg] 58)
          have HBK4:=xH1 hbk4
          have HOWN:=xH1 hown3
          have HPW:=xH1 ((owns_below HPR.out hb3).alloc (.cells #[.int .i64 o.kind,.int .i64 o.on,.int .i64 o.arg] 58))
          have hS4:=hbk4.size
          clear hb3 hbk3 kA hown hbk4
          go_wp2_with (at_builtin;refine wpList_append_sl (m:=1) (cm:=1) (news:=opv o) rfl (.tmp 64) (.tmp 66) 51 rfl Tryz.underlying51 info_op rfl (by decide) rfl hown3 (by show Value.slice (some ⟨w3.heap.size+1,0,none⟩) 1 1=_;simp) (by rw[opv_len]) rfl ONE.out (by omega) (by decide) hS4 ?_;intro a5 c5 w5 hown5 hgr5;clear hown3)
          go_roundw
          case rel=>
           refine⟨i+1,l++[o],a5,c5,by omega,by omega,by go_num,rfl,HST,?_,xH1 (owns_grown HPW.out hgr5 (owns_owns HPW.out HOWN.out (by decide))),xH1 (HBK4.out.trans (below_of_grown hgr5 hS4 (fun q hq=>(owns_row HOWN.out q hq).1)))⟩
           simpa[opsV] using hown5
          case measure=>simp[intOf];omega
        ·have HPC:Hid (pieceOp x i=none):=xH1 (by unfold pieceOp;rw[if_neg hz,if_neg hxe,if_neg (fun h=>by rw[eB] at h;rw[h] at x32;simp at x32)])
         clear eB hxe
         have HR:Hid (threadLine s=none):=xH1 (by
          rw[HPA.out]
          unfold threadOf
          split
          ·exact opsFrom_none (k:=i+1) (by rw[hst,HPC.out]) _ (by rw[←HNP.out];exact hlt)
          ·rfl)
         clear hst
         go_wp2
         refine bodyPost_ret (v:= .tuple #[.slice (some ⟨wr.heap.size,0,none⟩) 0 0,.bool false]) (by simp[results,Tryz.results87,go_sem]) rfl ⟨_,0,0,by rw[HR.out];rfl,(fun l hl=>by rw[HR.out] at hl;cases hl),?_⟩
         exact hB1.alloc hB1.size _
     ·have hll:=opsFrom_len hnum.out
      by_cases h8:np≤8
      ·have hE:i=np:=by omega
       subst hE
       have HR:Hid (threadLine s=some l):=xH1 (by rw[HPA.out];unfold threadOf;rw[if_pos (by rw[←HNP.out];exact h8),←HNP.out];exact hnum.out)
       have t8:decide ((i:Int)≤8)=true:=decide_eq_true (by omega)
       have t8':decide (i≤8)=true:=decide_eq_true h8
       have HLL:=xH1 hll
       clear hgo
       go_wp2
       refine bodyPost_ret (v:= .tuple #[.slice an i cn,.bool true]) (by simp[results,Tryz.results87,go_sem]) rfl ⟨_,i,cn,by rw[HR.out];rfl,fun m hm=> ?_,hB1⟩
       rw[HR.out] at hm
       obtain rfl:l=m:=by simpa using hm
       exact⟨HLL.out.symm,hown⟩
      ·have hi9':i=9∧9≤np:=by omega
       obtain⟨rfl,h9⟩:=hi9'
       have HR:Hid (threadLine s=none):=xH1 (by rw[HPA.out];unfold threadOf;rw[if_neg (by rw[←HNP.out];exact h8)])
       have t8:decide ((np:Int)≤8)=false:=decide_eq_false (by omega)
       have t8':decide (np≤8)=false:=decide_eq_false h8
       clear hgo
       go_wp2
       all_goals refine bodyPost_ret (v:= .tuple #[.slice an 9 cn,.bool false]) (by simp[results,Tryz.results87,go_sem]) rfl ⟨_,9,cn,by rw[HR.out];rfl,(fun l hl=>by rw[HR.out] at hl;cases hl),hB1⟩
   ·have HR:Hid (threadLine s=none):=xH1 (by unfold threadLine;rw[if_neg hT,if_neg h7,←hH,if_neg hh])
    have q1:((s.extract 0 7).toList==[116,104,114,101,97,100,32])=false:=by
     have:¬(s.extract 0 7).toList=[116,104,114,101,97,100,32]:=fun h=>hh (toList_inj (by rw[hH,h,ByteArray.toList_eq];rfl))
     simpa using this
    clear hT hH hh
    go_wp2
    refine bodyPost_ret (v:= .tuple #[.slice (some ⟨w.heap.size,0,none⟩) 0 0,.bool false]) (by simp[results,Tryz.results87,go_sem]) rfl ⟨_,0,0,by rw[HR.out];rfl,(fun l hl=>by rw[HR.out] at hl;cases hl),?_⟩
    exact xA1
theorem valid_i64 {p:Pg} (hv:progValid p=true) (i j:Nat) (hi:i<p.threads.length) (hj:j<(p.threads.getD i []).length):InI64 ((p.threads.getD i []).getD j noOp).on∧InI64 ((p.threads.getD i []).getD j noOp).arg:=by
 obtain⟨⟨h1,h2⟩,h3,h4⟩:=valid_bounds hv (valid_op hv hi hj)
 unfold InI64
 omega
theorem within_i64 {l:List Int} {lo hi:Int} (h:within l lo hi=true) (h0: -9≤lo) (h1:hi≤9):∀j,j<l.length→InI64 (l.getD j 0):=fun j hj=>by
 have:=(within_facts h).2 j hj
 unfold InI64
 omega
theorem listsText_size {p:Pg} (hv:progValid p=true):(listsText p).size≤288:=by
 obtain⟨h1,h2,h3,h4⟩:=valid_lists hv
 have a1:=listText_size (word:=semsB) (within_i64 h1 (by omega) (by omega)) (by decide) (within_facts h1).1
 have a2:=listText_size (word:=groupsB) (within_i64 h2 (by omega) (by omega)) (by decide) (within_facts h2).1
 have a3:=listText_size (word:=barriersB) (within_i64 h3 (by omega) (by omega)) (by decide) (within_facts h3).1
 have a4:=listText_size (word:=roomsB) (within_i64 h4 (by omega) (by omega)) (by decide) (within_facts h4).1
 unfold listsText
 simp only[ByteArray.size_append]
 omega
theorem specFormatProg_any (v:PV) (p:Pg) (w:World) (hr:RdP w v p) (hz:Small v p):
  Calls Tryz.prog 88 #[.agg #[.slice v.s v.ns v.cs,.slice v.g v.ng v.cg,.slice v.b v.nb v.cb,.slice v.r v.nr v.cr,.slice v.t v.nt v.ct]] w fun e w'=>e= .returned (.string (fmtProg p))∧Below w.heap.size w w':=by
 have hs:v.ns≤maxLen∧v.ng≤maxLen∧v.nb≤maxLen∧v.nr≤maxLen:=by
  obtain⟨z1,z2,z3,z4,z5,z6⟩:=hz;unfold maxLen;omega
 have zz:Hid (v.ns≤maxLen∧v.ng≤maxLen∧v.nb≤maxLen∧v.nr≤maxLen):=xH1 hs
 have HZ:=xH1 hz
 have z5:v.nt≤1048576:=hz.lt
 have Z6:=xH1 hz.inn
 have ls:=xH1 hr.ls
 have lg:=xH1 hr.lg
 have lb:=xH1 hr.lb
 have lr:=xH1 hr.lr
 have lt:=xH1 hr.lt
 clear hz
 have B0:Below w.heap.size w (w.alloc (.cells #[.slice v.s v.ns v.cs,.slice v.g v.ng v.cg,.slice v.b v.nb v.cb,.slice v.r v.nr v.cr,.slice v.t v.nt v.ct] 26)):=xA1
 have k0:Blk (w.alloc (.cells #[.slice v.s v.ns v.cs,.slice v.g v.ng v.cg,.slice v.b v.nb v.cb,.slice v.r v.nr v.cr,.slice v.t v.nt v.ct] 26)) w.heap.size #[.slice v.s v.ns v.cs,.slice v.g v.ng v.cg,.slice v.b v.nb v.cb,.slice v.r v.nr v.cr,.slice v.t v.nt v.ct] 26:=Blk.new _ _ _
 have q0:(w.alloc (.cells #[.slice v.s v.ns v.cs,.slice v.g v.ng v.cg,.slice v.b v.nb v.cb,.slice v.r v.nr v.cr,.slice v.t v.nt v.ct] 26)).cell? ⟨w.heap.size,0,none⟩=some (.slice v.s v.ns v.cs):=k0.cell 0 rfl
 have q1:(w.alloc (.cells #[.slice v.s v.ns v.cs,.slice v.g v.ng v.cg,.slice v.b v.nb v.cb,.slice v.r v.nr v.cr,.slice v.t v.nt v.ct] 26)).cell? ⟨w.heap.size,1,none⟩=some (.slice v.g v.ng v.cg):=k0.cell 1 rfl
 have q2:(w.alloc (.cells #[.slice v.s v.ns v.cs,.slice v.g v.ng v.cg,.slice v.b v.nb v.cb,.slice v.r v.nr v.cr,.slice v.t v.nt v.ct] 26)).cell? ⟨w.heap.size,2,none⟩=some (.slice v.b v.nb v.cb):=k0.cell 2 rfl
 have q3:(w.alloc (.cells #[.slice v.s v.ns v.cs,.slice v.g v.ng v.cg,.slice v.b v.nb v.cb,.slice v.r v.nr v.cr,.slice v.t v.nt v.ct] 26)).cell? ⟨w.heap.size,3,none⟩=some (.slice v.r v.nr v.cr):=k0.cell 3 rfl
 have q4:(w.alloc (.cells #[.slice v.s v.ns v.cs,.slice v.g v.ng v.cg,.slice v.b v.nb v.cb,.slice v.r v.nr v.cr,.slice v.t v.nt v.ct] 26)).cell? ⟨w.heap.size,4,none⟩=some (.slice v.t v.nt v.ct):=k0.cell 4 rfl
 clear k0
 rcases Bool.eq_false_or_eq_true (progValid p) with hv|hv
 rotate_left
 ·have HR:Hid (fmtProg p=⟨#[]⟩):=xH1 (by unfold fmtProg;rw[if_neg (by rw[hv];simp)])
  have HV:=xH1 hv
  clear hv
  go_enter Tryz.func88,Tryz.ntmps88
  go_wp2_with fail
  refine(specProgValid_any v p _ (hr.below B0) HZ.out).mono ?_
  rintro e wS ⟨rfl,hb⟩
  rw[HV.out]
  go_wp2
  go_ret
  exact⟨ret_str HR.out.symm,B0.trans (hb.mono B0.size)⟩
 have HR:Hid (fmtProg p=thrTo (listsText p) p.threads p.threads.length):=xH1 (by unfold fmtProg;rw[if_pos hv])
 have HVV:=xH1 hv
 have hlists:=valid_lists hv
 have hsL:=listsText_size hv
 have hnt:=valid_threads hv
 rw[lt.out] at hnt
 have HLI:=xH1 hlists
 have HSL:=xH1 hsL
 have HV:=xH1 hv
 have w1s:=(within_facts hlists.1).1
 have w2s:=(within_facts hlists.2.1).1
 have w3s:=(within_facts hlists.2.2.1).1
 have w4s:=(within_facts hlists.2.2.2).1
 rw[ls.out] at w1s
 rw[lg.out] at w2s
 rw[lb.out] at w3s
 rw[lr.out] at w4s
 have hT1:=listText_size (word:=semsB) (within_i64 hlists.1 (by omega) (by omega)) (by decide) (within_facts hlists.1).1
 have hT2:=listText_size (word:=groupsB) (within_i64 hlists.2.1 (by omega) (by omega)) (by decide) (within_facts hlists.2.1).1
 have hT3:=listText_size (word:=barriersB) (within_i64 hlists.2.2.1 (by omega) (by omega)) (by decide) (within_facts hlists.2.2.1).1
 have hT4:=listText_size (word:=roomsB) (within_i64 hlists.2.2.2 (by omega) (by omega)) (by decide) (within_facts hlists.2.2.2).1
 obtain⟨T1,eT1⟩:∃T1,T1=listText semsB p.sems:=⟨_,rfl⟩
 obtain⟨T2,eT2⟩:∃T2,T2=listText groupsB p.groups:=⟨_,rfl⟩
 obtain⟨T3,eT3⟩:∃T3,T3=listText barriersB p.barriers:=⟨_,rfl⟩
 obtain⟨T4,eT4⟩:∃T4,T4=listText roomsB p.rooms:=⟨_,rfl⟩
 have HTT:Hid (T1++T2++T3++T4=listsText p):=xH1 (by rw[eT1,eT2,eT3,eT4];rfl)
 rw[←eT1] at hT1
 rw[←eT2] at hT2
 rw[←eT3] at hT3
 rw[←eT4] at hT4
 have ET1:=xH1 eT1
 have ET2:=xH1 eT2
 have ET3:=xH1 eT3
 have ET4:=xH1 eT4
 have s1:=fun(W:World)=>run_string_add_sum (P:=Tryz.prog) (w:=W) T1 T2 (by omega)
 have s2:=fun(W:World)=>run_string_add_sum (P:=Tryz.prog) (w:=W) (T1++T2) T3 (by rw[ByteArray.size_append];omega)
 have s3:=fun(W:World)=>run_string_add_sum (P:=Tryz.prog) (w:=W) (T1++T2++T3) T4 (by rw[ByteArray.size_append,ByteArray.size_append];omega)
 clear hv hlists hsL eT1 eT2 eT3 eT4 hT1 hT2 hT3 hT4
 go_enter Tryz.func88,Tryz.ntmps88
 go_wp2_with fail
 refine(specProgValid_any v p _ (hr.below B0) HZ.out).mono ?_
 rintro e wS ⟨rfl,hb⟩
 rw[HV.out]
 have hBS:=B0.trans (hb.mono B0.size)
 replace q0:=keepc hb q0
 replace q1:=keepc hb q1
 replace q2:=keepc hb q2
 replace q3:=keepc hb q3
 replace q4:=keepc hb q4
 clear hb
 go_wp2
 refine wp_region_fresh 15 (by kernel_rfl) (by kernel_rfl) [fun dz uz wz=>uz= .pointer (some ⟨w.heap.size,0,none⟩),fun dz uz wz=>uz= .slice v.s v.ns v.cs,fun dz uz wz=>uz= .string T1,fun dz uz wz=>uz= .pointer (some ⟨w.heap.size,1,none⟩),fun dz uz wz=>uz= .slice v.g v.ng v.cg,fun dz uz wz=>uz= .string T2,fun dz uz wz=>uz= .string (T1++T2),fun dz uz wz=>uz= .pointer (some ⟨w.heap.size,2,none⟩),fun dz uz wz=>uz= .slice v.b v.nb v.cb,fun dz uz wz=>uz= .string T3,fun dz uz wz=>uz= .string (T1++T2++T3),fun dz uz wz=>uz= .pointer (some ⟨w.heap.size,3,none⟩),fun dz uz wz=>uz= .slice v.r v.nr v.cr,fun dz uz wz=>uz= .string T4,fun dz uz wz=>uz= .string (T1++T2++T3++T4)] (fun i=>match i with|_=>fun _=>none) (fun w'=>Below wS.heap.size wS w') xB1.drew (stab_of ⟨fun _ _ _ _ _ h=>h,fun _ _ _ _ _ h=>h,fun _ _ _ _ _ h=>h,fun _ _ _ _ _ h=>h,fun _ _ _ _ _ h=>h,fun _ _ _ _ _ h=>h,fun _ _ _ _ _ h=>h,fun _ _ _ _ _ h=>h,fun _ _ _ _ _ h=>h,fun _ _ _ _ _ h=>h,fun _ _ _ _ _ h=>h,fun _ _ _ _ _ h=>h,fun _ _ _ _ _ h=>h,fun _ _ _ _ _ h=>h,fun _ _ _ _ _ h=>h,trivial⟩) ?_ ?_
 ·simp only[List.take_succ_cons,List.take_zero]
  refine⟨?_,?_,?_,?_,?_,?_,?_,?_,?_,?_,?_,?_,?_,?_,?_,trivial⟩
  ·intro ρ w1 hG hfr hd
   obtain⟨fc,ff⟩:=xF1 hfr
   have f1:ρ (.tmp 1)= .pointer (some ⟨w.heap.size,0,none⟩):=hfr _ rfl
   refine gives_val (u:= .pointer (some ⟨w.heap.size,0,none⟩)) (w':=w1) (by go_simp) ⟨Below.refl _ _,rfl,xN1,hG⟩
  ·intro ρ w1 hG hfr hd
   obtain⟨fc,ff⟩:=xF1 hfr
   obtain⟨d0,-⟩:=hd
   have d0:(ρ (.tmp 9))= .pointer (some ⟨w.heap.size,0,none⟩):=d0
   have q0:=keepc hG q0
   refine gives_val (u:= .slice v.s v.ns v.cs) (w':=w1) (by go_simp) ⟨Below.refl _ _,rfl,xN1,hG⟩
  ·intro ρ w1 hG hfr hd
   obtain⟨fc,ff⟩:=xF1 hfr
   obtain⟨d0,-⟩:=hd
   have d0:(ρ (.tmp 10))= .slice v.s v.ns v.cs:=d0
   refine gives_call (by go_simp;exact⟨⟨rfl,rfl⟩,rfl⟩) ?_
   refine(l6List_any semsB v.s v.ns v.cs p.sems _ ls.out (by omega) (by decide) (hr.rs.below (hBS.trans (hG.mono hBS.size))) (within_i64 HLI.out.1 (by omega) (by omega))).mono ?_
   rintro e w2 ⟨rfl,hb⟩
   exact⟨_,rfl,hb,by rw[ET1.out];rfl,xN1,hG.trans (hb.mono hG.size)⟩
  ·intro ρ w1 hG hfr hd
   obtain⟨fc,ff⟩:=xF1 hfr
   have f1:ρ (.tmp 1)= .pointer (some ⟨w.heap.size,0,none⟩):=hfr _ rfl
   refine gives_val (u:= .pointer (some ⟨w.heap.size,1,none⟩)) (w':=w1) (by go_simp) ⟨Below.refl _ _,rfl,xN1,hG⟩
  ·intro ρ w1 hG hfr hd
   obtain⟨fc,ff⟩:=xF1 hfr
   obtain⟨d0,-⟩:=hd
   have d0:(ρ (.tmp 12))= .pointer (some ⟨w.heap.size,1,none⟩):=d0
   have q1:=keepc hG q1
   refine gives_val (u:= .slice v.g v.ng v.cg) (w':=w1) (by go_simp) ⟨Below.refl _ _,rfl,xN1,hG⟩
  ·intro ρ w1 hG hfr hd
   obtain⟨fc,ff⟩:=xF1 hfr
   obtain⟨d0,-⟩:=hd
   have d0:(ρ (.tmp 13))= .slice v.g v.ng v.cg:=d0
   refine gives_call (by go_simp;exact⟨⟨rfl,rfl⟩,rfl⟩) ?_
   refine(l6List_any groupsB v.g v.ng v.cg p.groups _ lg.out (by omega) (by decide) (hr.rg.below (hBS.trans (hG.mono hBS.size))) (within_i64 HLI.out.2.1 (by omega) (by omega))).mono ?_
   rintro e w2 ⟨rfl,hb⟩
   exact⟨_,rfl,hb,by rw[ET2.out];rfl,xN1,hG.trans (hb.mono hG.size)⟩
  ·intro ρ w1 hG hfr hd
   obtain⟨fc,ff⟩:=xF1 hfr
   obtain⟨d0,d1,-⟩:=hd
   have d0:(ρ (.tmp 11))= .string T1:=d0
   have d1:(ρ (.tmp 14))= .string T2:=d1
   refine gives_val (u:= .string (T1++T2)) (w':=w1) (by go_simp) ⟨Below.refl _ _,rfl,xN1,hG⟩
  ·intro ρ w1 hG hfr hd
   obtain⟨fc,ff⟩:=xF1 hfr
   have f1:ρ (.tmp 1)= .pointer (some ⟨w.heap.size,0,none⟩):=hfr _ rfl
   refine gives_val (u:= .pointer (some ⟨w.heap.size,2,none⟩)) (w':=w1) (by go_simp) ⟨Below.refl _ _,rfl,xN1,hG⟩
  ·intro ρ w1 hG hfr hd
   obtain⟨fc,ff⟩:=xF1 hfr
   obtain⟨d0,-⟩:=hd
   have d0:(ρ (.tmp 16))= .pointer (some ⟨w.heap.size,2,none⟩):=d0
   have q2:=keepc hG q2
   refine gives_val (u:= .slice v.b v.nb v.cb) (w':=w1) (by go_simp) ⟨Below.refl _ _,rfl,xN1,hG⟩
  ·intro ρ w1 hG hfr hd
   obtain⟨fc,ff⟩:=xF1 hfr
   obtain⟨d0,-⟩:=hd
   have d0:(ρ (.tmp 17))= .slice v.b v.nb v.cb:=d0
   refine gives_call (by go_simp;exact⟨⟨rfl,rfl⟩,rfl⟩) ?_
   refine(l6List_any barriersB v.b v.nb v.cb p.barriers _ lb.out (by omega) (by decide) (hr.rb.below (hBS.trans (hG.mono hBS.size))) (within_i64 HLI.out.2.2.1 (by omega) (by omega))).mono ?_
   rintro e w2 ⟨rfl,hb⟩
   exact⟨_,rfl,hb,by rw[ET3.out];rfl,xN1,hG.trans (hb.mono hG.size)⟩
  ·intro ρ w1 hG hfr hd
   obtain⟨fc,ff⟩:=xF1 hfr
   obtain⟨d0,d1,-⟩:=hd
   have d0:(ρ (.tmp 15))= .string (T1++T2):=d0
   have d1:(ρ (.tmp 18))= .string T3:=d1
   refine gives_val (u:= .string (T1++T2++T3)) (w':=w1) (by go_simp) ⟨Below.refl _ _,rfl,xN1,hG⟩
  ·intro ρ w1 hG hfr hd
   obtain⟨fc,ff⟩:=xF1 hfr
   have f1:ρ (.tmp 1)= .pointer (some ⟨w.heap.size,0,none⟩):=hfr _ rfl
   refine gives_val (u:= .pointer (some ⟨w.heap.size,3,none⟩)) (w':=w1) (by go_simp) ⟨Below.refl _ _,rfl,xN1,hG⟩
  ·intro ρ w1 hG hfr hd
   obtain⟨fc,ff⟩:=xF1 hfr
   obtain⟨d0,-⟩:=hd
   have d0:(ρ (.tmp 20))= .pointer (some ⟨w.heap.size,3,none⟩):=d0
   have q3:=keepc hG q3
   refine gives_val (u:= .slice v.r v.nr v.cr) (w':=w1) (by go_simp) ⟨Below.refl _ _,rfl,xN1,hG⟩
  ·intro ρ w1 hG hfr hd
   obtain⟨fc,ff⟩:=xF1 hfr
   obtain⟨d0,-⟩:=hd
   have d0:(ρ (.tmp 21))= .slice v.r v.nr v.cr:=d0
   refine gives_call (by go_simp;exact⟨⟨rfl,rfl⟩,rfl⟩) ?_
   refine(l6List_any roomsB v.r v.nr v.cr p.rooms _ lr.out (by omega) (by decide) (hr.rr.below (hBS.trans (hG.mono hBS.size))) (within_i64 HLI.out.2.2.2 (by omega) (by omega))).mono ?_
   rintro e w2 ⟨rfl,hb⟩
   exact⟨_,rfl,hb,by rw[ET4.out];rfl,xN1,hG.trans (hb.mono hG.size)⟩
  ·intro ρ w1 hG hfr hd
   obtain⟨fc,ff⟩:=xF1 hfr
   obtain⟨d0,d1,-⟩:=hd
   have d0:(ρ (.tmp 19))= .string (T1++T2++T3):=d0
   have d1:(ρ (.tmp 22))= .string T4:=d1
   refine gives_val (u:= .string (T1++T2++T3++T4)) (w':=w1) (by go_simp) ⟨Below.refl _ _,rfl,xN1,hG⟩
 intro vs w2 hG hlen hall hap hbd
 obtain⟨xv0,vs0,rfl,hl0⟩:=len_cons hlen
 obtain⟨xv1,vs1,rfl,hl1⟩:=len_cons hl0
 obtain⟨xv2,vs2,rfl,hl2⟩:=len_cons hl1
 obtain⟨xv3,vs3,rfl,hl3⟩:=len_cons hl2
 obtain⟨xv4,vs4,rfl,hl4⟩:=len_cons hl3
 obtain⟨xv5,vs5,rfl,hl5⟩:=len_cons hl4
 obtain⟨xv6,vs6,rfl,hl6⟩:=len_cons hl5
 obtain⟨xv7,vs7,rfl,hl7⟩:=len_cons hl6
 obtain⟨xv8,vs8,rfl,hl8⟩:=len_cons hl7
 obtain⟨xv9,vs9,rfl,hl9⟩:=len_cons hl8
 obtain⟨xv10,vs10,rfl,hl10⟩:=len_cons hl9
 obtain⟨xv11,vs11,rfl,hl11⟩:=len_cons hl10
 obtain⟨xv12,vs12,rfl,hl12⟩:=len_cons hl11
 obtain⟨xv13,vs13,rfl,hl13⟩:=len_cons hl12
 obtain⟨xv14,vs14,rfl,hl14⟩:=len_cons hl13
 obtain rfl:=len_nil hl14
 clear hlen hl0 hl1 hl2 hl3 hl4 hl5 hl6 hl7 hl8 hl9 hl10 hl11 hl12 hl13 hl14
 simp only[List.take_succ_cons,List.take_zero,List.drop_succ_cons,List.drop_zero] at hall⊢
 obtain⟨t0',t1',t2',t3',t4',t5',t6',t7',t8',t9',t10',t11',t12',t13',t14',-⟩:=hall
 have hv0:xv0= .pointer (some ⟨w.heap.size,0,none⟩):=t0'
 have hv1:xv1= .slice v.s v.ns v.cs:=t1'
 have hv2:xv2= .string T1:=t2'
 have hv3:xv3= .pointer (some ⟨w.heap.size,1,none⟩):=t3'
 have hv4:xv4= .slice v.g v.ng v.cg:=t4'
 have hv5:xv5= .string T2:=t5'
 have hv6:xv6= .string (T1++T2):=t6'
 have hv7:xv7= .pointer (some ⟨w.heap.size,2,none⟩):=t7'
 have hv8:xv8= .slice v.b v.nb v.cb:=t8'
 have hv9:xv9= .string T3:=t9'
 have hv10:xv10= .string (T1++T2++T3):=t10'
 have hv11:xv11= .pointer (some ⟨w.heap.size,3,none⟩):=t11'
 have hv12:xv12= .slice v.r v.nr v.cr:=t12'
 have hv13:xv13= .string T4:=t13'
 have hv14:xv14= .string (T1++T2++T3++T4):=t14'
 clear t0' t1' t2' t3' t4' t5' t6' t7' t8' t9' t10' t11' t12' t13' t14'
 clear hap hbd
 subst hv0 hv1 hv2 hv3 hv4 hv5 hv6 hv7 hv8 hv9 hv10 hv11 hv12 hv13 hv14
 simp only[putAll,Act.put,List.setIfInBounds_toArray,List.set_cons_succ,List.set_cons_zero]
 have hBS2:=hBS.trans (hG.mono hBS.size)
 replace q0:=keepc hG q0
 replace q1:=keepc hG q1
 replace q2:=keepc hG q2
 replace q3:=keepc hG q3
 replace q4:=keepc hG q4
 have HHT:=xH1 HTT.out
 clear hG hBS s1 s2 s3 w1s w2s w3s w4s
 obtain⟨vs,hT⟩:=hr.rt
 obtain⟨b1,o1,ea,g1'⟩:=(hT.below hBS2).thread (by have:=lt.out;omega)
 rw[ea] at q4
 have G1:=xH1 g1'
 clear g1' ea hT
 generalize w2=W0 at*
 go_wp2
 rw[HTT.out]
 go_loopw [3,4] (fun vo vi wr=>∃i:Nat,i≤v.nt∧vi= .int .i64 i∧vo= .string (thrTo (listsText p) p.threads i)∧Below W0.heap.size W0 wr) (fun _ vi _=>v.nt-(intOf vi).toNat)
 case atStart=>exact⟨0,by omega,rfl,rfl,Below.refl _ _⟩
 case round=>
  obtain⟨i,hi,rfl,rfl,hb0⟩:=hrel
  have B2:Below w.heap.size w wr:=hBS2.trans (hb0.mono hBS2.size)
  have c4:=keepc hb0 q4
  have hsI:=thrTo_size (s:=listsText p) (fun i hi=>valid_len HVV.out hi) (fun i j hi hj=>valid_i64 HVV.out i j hi hj) i (by have:=lt.out;omega)
  have hsL:=HSL.out
  by_cases hlt:i<v.nt
  ·obtain⟨wo,hwo⟩:∃wo:World,wo=wr:=⟨_,rfl⟩
   rw[←hwo] at hb0 c4 B2⊢
   clear hwo wr
   obtain⟨a2,x2,g1,r2⟩:=G1.out i (by have:=lt.out;omega)
   obtain⟨m,hm⟩:∃m,m=(p.threads.getD i []).length:=⟨_,rfl⟩
   rw[←hm] at g1
   replace g1:=keepc hb0 g1
   replace r2:=r2.below hb0
   have hmm:=Z6.out i
   rw[←hm] at hmm
   have HM:=xH1 hm
   clear hm
   have hm8:m≤8:=by rw[HM.out];exact valid_len HVV.out (by have:=lt.out;omega)
   obtain⟨ops,hops⟩:∃ops,ops=p.threads.getD i []:=⟨_,rfl⟩
   have HOPS:=xH1 hops
   obtain⟨S0,hS0⟩:∃S0,S0=thrTo (listsText p) p.threads i:=⟨_,rfl⟩
   have hnx:thrTo (listsText p) p.threads (i+1)=opsTo (S0++threadB) ops m++nlB:=by rw[hS0,hops,HM.out];rfl
   have HNX:=xH1 hnx
   rw[←hS0] at hsI⊢
   have HS0:=xH1 hS0
   have hS1:(S0++threadB).size≤2000:=by rw[ByteArray.size_append];have:threadB.size=6:=rfl;omega
   have HOPB:Hid (∀j,j<ops.length→InI64 (ops.getD j noOp).on∧InI64 (ops.getD j noOp).arg):=xH1 (by rw[hops];exact fun j hj=>valid_i64 HVV.out i j (by have:=lt.out;omega) hj)
   have s1:=fun(W:World)=>run_string_add_sum (P:=Tryz.prog) (w:=W) S0 ⟨#[116,104,114,101,97,100]⟩ (by have:(⟨#[116,104,114,101,97,100]⟩:ByteArray).size=6:=rfl;omega)
   rw[←hops] at r2
   have HMO:Hid (ops.length=m):=xH1 (by rw[hops,←HM.out])
   clear hops hS0 hnx hsI
   go_wp2
   go_loopw [3,5] (fun vo vj wk=>∃k:Nat,k≤m∧vj= .int .i64 k∧vo= .string (opsTo (S0++threadB) ops k)∧Below wo.heap.size wo wk) (fun _ vj _=>m-(intOf vj).toNat)
   case atStart=>exact⟨0,by omega,rfl,rfl,Below.refl _ _⟩
   case round=>
    obtain⟨k,hk,rfl,rfl,hbk⟩:=hrel
    have d4:=keepc hbk c4
    have f1:=keepc hbk g1
    have hsK:=opsTo_size (s:=S0++threadB) HOPB.out k (by have:=HMO.out;omega)
    by_cases hkl:k<m
    ·obtain⟨b2,o2,ea2,g2'⟩:=(r2.below hbk).op (by have:=HMO.out;omega)
     obtain⟨g2a,g2b,g2c⟩:=g2' k (by have:=HMO.out;omega)
     have hx1:=HOPB.out k (by have:=HMO.out;omega)
     have hx2:=fmtOp_size _ hx1.1 hx1.2
     obtain⟨x,hx⟩:∃x,x=ops.getD k noOp:=⟨_,rfl⟩
     rw[←hx] at g2a g2b g2c hx1 hx2
     subst ea2
     have HX:=xH1 hx
     have HX1:=xH1 hx1
     obtain⟨S,hS⟩:∃S,S=opsTo (S0++threadB) ops k:=⟨_,rfl⟩
     have hnx:opsTo (S0++threadB) ops (k+1)=(if 0<k then S++commaB else S)++spB++fmtOp x:=by rw[hS,hx];rfl
     have HN2:=xH1 hnx
     rw[←hS] at hsK⊢
     have sz1:(⟨#[32]⟩:ByteArray).size=1:=rfl
     have sz2:(⟨#[44]⟩:ByteArray).size=1:=rfl
     clear g2' hx hx1 hS hnx
     by_cases hk0:0<k
     ·have t0:decide (0<k)=true:=decide_eq_true hk0
      have a0:=fun(W:World)=>run_string_add_sum (P:=Tryz.prog) (w:=W) S ⟨#[44]⟩ (by omega)
      have a1:=fun(W:World)=>run_string_add_sum (P:=Tryz.prog) (w:=W) (S++⟨#[44]⟩) ⟨#[32]⟩ (by rw[ByteArray.size_append];omega)
      have a2:=fun(W:World)=>run_string_add_sum (P:=Tryz.prog) (w:=W) (S++⟨#[44]⟩++⟨#[32]⟩) (fmtOp x) (by rw[ByteArray.size_append,ByteArray.size_append];omega)
      have HN3:Hid (opsTo (S0++threadB) ops (k+1)=S++commaB++spB++fmtOp x):=xH1 (by rw[HN2.out,if_pos hk0])
      clear sz1 sz2 hx2
      go_wp2_with fail
      refine(specFormatOp_any x _ HX1.out.1 HX1.out.2).mono ?_
      rintro e w5 ⟨rfl,hb5⟩
      replace hbk:=hbk.trans (hb5.mono hbk.size)
      clear hb5
      go_wp2
      go_roundw
      case rel=>exact⟨k+1,by omega,by go_num,by rw[HN3.out];rfl,hbk⟩
      case measure=>simp[intOf];omega
     ·have t0:decide (0<k)=false:=decide_eq_false hk0
      have a1:=fun(W:World)=>run_string_add_sum (P:=Tryz.prog) (w:=W) S ⟨#[32]⟩ (by omega)
      have a2:=fun(W:World)=>run_string_add_sum (P:=Tryz.prog) (w:=W) (S++⟨#[32]⟩) (fmtOp x) (by rw[ByteArray.size_append];omega)
      have HN3:Hid (opsTo (S0++threadB) ops (k+1)=S++spB++fmtOp x):=xH1 (by rw[HN2.out,if_neg hk0])
      clear sz1 sz2 hx2
      go_wp2_with fail
      refine(specFormatOp_any x _ HX1.out.1 HX1.out.2).mono ?_
      rintro e w5 ⟨rfl,hb5⟩
      replace hbk:=hbk.trans (hb5.mono hbk.size)
      clear hb5
      go_wp2
      go_roundw
      case rel=>exact⟨k+1,by omega,by go_num,by rw[HN3.out];rfl,hbk⟩
      case measure=>simp[intOf];omega
    ·obtain rfl:m=k:=by omega
     have s9:=fun(W:World)=>run_string_add_sum (P:=Tryz.prog) (w:=W) (opsTo (S0++threadB) ops m) ⟨#[10]⟩ (by have:(⟨#[10]⟩:ByteArray).size=1:=rfl;omega)
     clear hsK
     go_wp2
     go_roundw
     case rel=>exact⟨i+1,by omega,by go_num,by rw[HNX.out];rfl,hb0.trans (hbk.mono hb0.size)⟩
     case measure=>simp[intOf];omega
  ·have hin:i=v.nt:=by omega
   clear hsI hsL
   go_wp2
   go_ret
   exact⟨ret_str (by rw[HR.out,lt.out,hin]),B2⟩
def zeroPg:Pg:=⟨[],[],[],[],[]⟩
def stepLine (p:Pg) (x:ByteArray):Pg:=
 match lineB x semsB with
 |some l=>{p with sems:=l}
 |none=>match lineB x groupsB with
  |some l=>{p with groups:=l}
  |none=>match lineB x barriersB with
   |some l=>{p with barriers:=l}
   |none=>match lineB x roomsB with
    |some l=>{p with rooms:=l}
    |none=>match threadLine x with
     |some t=>{p with threads:=p.threads++[t]}
     |none=>p
def linesTo (lines:List ByteArray):Nat→Pg
 |0=>zeroPg
 |i+1=>stepLine (linesTo lines i) (lines.getD i noB)
def readLines (lines:List ByteArray):Pg:=linesTo lines (Nat.min (lines.length-1) 9)
def parseProg (text:ByteArray):Option Pg:=
 if progValid (readLines (cutB text 10))=true then
  if fmtProg (readLines (cutB text 10))=text then some (readLines (cutB text 10)) else none
 else none
theorem lineB_len {x word:ByteArray} {l:List Int} (h:lineB x word=some l):l.length≤5:=by
 unfold lineB lineOf at h
 split at h
 ·split at h
  ·cases h
  ·cases hn:numsTo (cutB x 32) (Nat.min ((cutB x 32).length-1) 5) with
   |none=>rw[hn] at h;cases h
   |some m=>
    rw[hn] at h
    have hl:=numsTo_len hn
    simp only[Option.bind_some] at h
    split at h
    ·obtain rfl:m=l:=by simpa using h
     rw[hl]
     exact Nat.min_le_right _ _
    ·cases h
 ·cases h
theorem threadLine_len {x:ByteArray} {l:List OpD} (h:threadLine x=some l):l.length≤8:=by
 unfold threadLine at h
 split at h
 ·obtain rfl:[]=l:=by simpa using h
  simp
 ·split at h
  ·cases h
  ·split at h
   ·unfold threadOf at h
    split at h
    ·next h8=>rw[opsFrom_len h];exact h8
    ·cases h
   ·cases h
structure ShortP (p:Pg) (k:Nat):Prop where
 s:p.sems.length≤5
 g:p.groups.length≤5
 b:p.barriers.length≤5
 r:p.rooms.length≤5
 t:p.threads.length≤k
 i:∀t∈p.threads,t.length≤8
theorem linesTo_small (lines:List ByteArray):∀i,ShortP (linesTo lines i) i
 |0=>⟨by simp[linesTo,zeroPg],by simp[linesTo,zeroPg],by simp[linesTo,zeroPg],by simp[linesTo,zeroPg],by simp[linesTo,zeroPg],by simp[linesTo,zeroPg]⟩
 |i+1=>by
  have h:=linesTo_small lines i
  show ShortP (stepLine (linesTo lines i) (lines.getD i noB)) (i+1)
  have h':ShortP (linesTo lines i) (i+1):=⟨h.s,h.g,h.b,h.r,Nat.le_succ_of_le h.t,h.i⟩
  unfold stepLine
  split
  ·next l e=>exact⟨lineB_len e,h'.g,h'.b,h'.r,h'.t,h'.i⟩
  ·split
   ·next l e=>exact⟨h'.s,lineB_len e,h'.b,h'.r,h'.t,h'.i⟩
   ·split
    ·next l e=>exact⟨h'.s,h'.g,lineB_len e,h'.r,h'.t,h'.i⟩
    ·split
     ·next l e=>exact⟨h'.s,h'.g,h'.b,lineB_len e,h'.t,h'.i⟩
     ·split
      ·next l e=>
       refine⟨h'.s,h'.g,h'.b,h'.r,by have:=h.t;simp;omega,fun t ht=> ?_⟩
       rcases xP1 ht with ht|ht
       ·exact h'.i t ht
       ·obtain rfl:=xS1 ht
        exact threadLine_len e
      ·exact h'
theorem CopyAt.zero (w:World) (B G:Nat) (h:Blk w G #[.slice none 0 0,.slice none 0 0,.slice none 0 0,.slice none 0 0,.slice none 0 0] 26):
  CopyAt w B G ⟨none,0,0,none,0,0,none,0,0,none,0,0,none,0,0⟩ [] zeroPg 0:=
 ⟨h,⟨by simp[zeroPg,ints],.inl ⟨rfl,rfl⟩⟩,⟨by simp[zeroPg,ints],.inl ⟨rfl,rfl⟩⟩,⟨by simp[zeroPg,ints],.inl ⟨rfl,rfl⟩⟩,⟨by simp[zeroPg,ints],.inl ⟨rfl,rfl⟩⟩,⟨by simp,.inl ⟨rfl,rfl⟩⟩,Inner.nil w,by simp[fpV],by simp[fpV]⟩
theorem CopyAt.sems {w:World} {B G:Nat} {v:PV} {vs:List Value} {p:Pg} {k:Nat} (h:CopyAt w B G v vs p k) {a:Option Addr} {n c:Nat} {l:List Int} (ho:w.ownsRow B 3 1 (.slice a n c) n (ints l)):
  CopyAt (w.setCell ⟨G,0,none⟩ (.slice a n c)) B G {v with s:=a,ns:=n,cs:=c} vs {p with sems:=l} k:=by
 obtain⟨t1,t2,t3,t4,t5,t6⟩:=types_ne
 have g2:=grown_set w G 0 (.slice a n c)
 have far:∀{e:TypeId} {sz n' c' B':Nat} {a':Option Addr} {xs:List Value},w.ownsRow B' e sz (.slice a' n' c') n' xs→26≠e→∀q,rowOf a'=some q→some G=some q→False:=by
  intro e sz n' c' B' a' xs ho' hne q hq e'
  cases e'
  exact blk_owns h.blk ho' hne hq
 have s0:=owns_grown ho g2 (far ho t3)
 exact⟨by simpa using h.blk.set 0 (.slice a n c),s0,(owns_grown h.og g2 (far h.og t3)),(owns_grown h.ob g2 (far h.ob t3)),(owns_grown h.orr g2 (far h.orr t3)),owns_grown h.ot g2 (far h.ot t4),h.inn.grown g2 (fun q hq=>by cases hq;exact h.inn.not_blk h.blk (fun e=>t5 e.symm)),h.nd,h.lo⟩
theorem CopyAt.groups {w:World} {B G:Nat} {v:PV} {vs:List Value} {p:Pg} {k:Nat} (h:CopyAt w B G v vs p k) {a:Option Addr} {n c:Nat} {l:List Int} (ho:w.ownsRow B 3 1 (.slice a n c) n (ints l)):
  CopyAt (w.setCell ⟨G,1,none⟩ (.slice a n c)) B G {v with g:=a,ng:=n,cg:=c} vs {p with groups:=l} k:=by
 obtain⟨t1,t2,t3,t4,t5,t6⟩:=types_ne
 have g2:=grown_set w G 1 (.slice a n c)
 have far:∀{e:TypeId} {sz n' c' B':Nat} {a':Option Addr} {xs:List Value},w.ownsRow B' e sz (.slice a' n' c') n' xs→26≠e→∀q,rowOf a'=some q→some G=some q→False:=by
  intro e sz n' c' B' a' xs ho' hne q hq e'
  cases e'
  exact blk_owns h.blk ho' hne hq
 have s0:=owns_grown ho g2 (far ho t3)
 exact⟨by simpa using h.blk.set 1 (.slice a n c),(owns_grown h.os g2 (far h.os t3)),s0,(owns_grown h.ob g2 (far h.ob t3)),(owns_grown h.orr g2 (far h.orr t3)),owns_grown h.ot g2 (far h.ot t4),h.inn.grown g2 (fun q hq=>by cases hq;exact h.inn.not_blk h.blk (fun e=>t5 e.symm)),h.nd,h.lo⟩
theorem CopyAt.barriers {w:World} {B G:Nat} {v:PV} {vs:List Value} {p:Pg} {k:Nat} (h:CopyAt w B G v vs p k) {a:Option Addr} {n c:Nat} {l:List Int} (ho:w.ownsRow B 3 1 (.slice a n c) n (ints l)):
  CopyAt (w.setCell ⟨G,2,none⟩ (.slice a n c)) B G {v with b:=a,nb:=n,cb:=c} vs {p with barriers:=l} k:=by
 obtain⟨t1,t2,t3,t4,t5,t6⟩:=types_ne
 have g2:=grown_set w G 2 (.slice a n c)
 have far:∀{e:TypeId} {sz n' c' B':Nat} {a':Option Addr} {xs:List Value},w.ownsRow B' e sz (.slice a' n' c') n' xs→26≠e→∀q,rowOf a'=some q→some G=some q→False:=by
  intro e sz n' c' B' a' xs ho' hne q hq e'
  cases e'
  exact blk_owns h.blk ho' hne hq
 have s0:=owns_grown ho g2 (far ho t3)
 exact⟨by simpa using h.blk.set 2 (.slice a n c),(owns_grown h.os g2 (far h.os t3)),(owns_grown h.og g2 (far h.og t3)),s0,(owns_grown h.orr g2 (far h.orr t3)),owns_grown h.ot g2 (far h.ot t4),h.inn.grown g2 (fun q hq=>by cases hq;exact h.inn.not_blk h.blk (fun e=>t5 e.symm)),h.nd,h.lo⟩
theorem CopyAt.rooms {w:World} {B G:Nat} {v:PV} {vs:List Value} {p:Pg} {k:Nat} (h:CopyAt w B G v vs p k) {a:Option Addr} {n c:Nat} {l:List Int} (ho:w.ownsRow B 3 1 (.slice a n c) n (ints l)):
  CopyAt (w.setCell ⟨G,3,none⟩ (.slice a n c)) B G {v with r:=a,nr:=n,cr:=c} vs {p with rooms:=l} k:=by
 obtain⟨t1,t2,t3,t4,t5,t6⟩:=types_ne
 have g2:=grown_set w G 3 (.slice a n c)
 have far:∀{e:TypeId} {sz n' c' B':Nat} {a':Option Addr} {xs:List Value},w.ownsRow B' e sz (.slice a' n' c') n' xs→26≠e→∀q,rowOf a'=some q→some G=some q→False:=by
  intro e sz n' c' B' a' xs ho' hne q hq e'
  cases e'
  exact blk_owns h.blk ho' hne hq
 have s0:=owns_grown ho g2 (far ho t3)
 exact⟨by simpa using h.blk.set 3 (.slice a n c),(owns_grown h.os g2 (far h.os t3)),(owns_grown h.og g2 (far h.og t3)),(owns_grown h.ob g2 (far h.ob t3)),s0,owns_grown h.ot g2 (far h.ot t4),h.inn.grown g2 (fun q hq=>by cases hq;exact h.inn.not_blk h.blk (fun e=>t5 e.symm)),h.nd,h.lo⟩
theorem CopyAt.more {w w':World} {B G:Nat} {v:PV} {vs:List Value} {p:Pg} (h:CopyAt w B G v vs p p.threads.length) {t:List OpD} {a2:Option Addr} {m c2:Nat} (h2:w.ownsRow 0 58 3 (.slice a2 m c2) m (opsV t))
  (hf:∀q,rowOf a2=some q→B≤q∧q∉fpV vs) {a:Option Addr} {n c:Nat} (ho:w'.ownsRow B 51 1 (.slice a n c) n (vs++[.slice a2 m c2])) (hg:w.grownBy w' (rowOf v.t)):
  CopyAt (w'.setCell ⟨G,4,none⟩ (.slice a n c)) B G (v.thr a n c) (vs++[.slice a2 m c2]) {p with threads:=p.threads++[t]} (p.threads++[t]).length:=by
 have e1:(p.threads++[t]).take p.threads.length=p.threads.take p.threads.length:=by simp
 have h0:CopyAt w B G v vs {p with threads:=p.threads++[t]} p.threads.length:=⟨h.blk,h.os,h.og,h.ob,h.orr,h.ot,by show Inner w vs (((p.threads++[t]).take p.threads.length).map opsV);rw[e1];exact h.inn,h.nd,h.lo⟩
 have:=h0.step (by simp) (by show w.ownsRow 0 58 3 (.slice a2 m c2) m (opsV ((p.threads++[t]).getD p.threads.length []));simpa[List.getD] using h2) hf ho hg
 simpa using this
theorem CopyAt.small {w:World} {B G:Nat} {v:PV} {vs:List Value} {p:Pg} {k:Nat} (h:CopyAt w B G v vs p p.threads.length) (hs:ShortP p k) (hk:k≤9):Small v p:=by
 have h1:=h.os.1
 have h2:=h.og.1
 have h3:=h.ob.1
 have h4:=h.orr.1
 have h5:=h.ot.1
 have h6:=h.inn.len
 simp only[ints,List.length_map,List.take_length] at h1 h2 h3 h4 h6
 have:=hs.s
 have:=hs.g
 have:=hs.b
 have:=hs.r
 have:=hs.t
 refine⟨by omega,by omega,by omega,by omega,by omega,fun i=> ?_⟩
 rw[List.getD_eq_getElem?_getD]
 cases hi:p.threads[i]? with
 |none=>simp
 |some t=>
  have:=hs.i t (List.mem_of_getElem? hi)
  simp only[Option.getD_some]
  omega
theorem OwnP.zero (w:World):OwnP w ⟨none,0,0,none,0,0,none,0,0,none,0,0,none,0,0⟩ [] zeroPg.cells:=
 ⟨⟨by simp[zeroPg,Pg.cells,ints],.inl ⟨rfl,rfl⟩⟩,⟨by simp[zeroPg,Pg.cells,ints],.inl ⟨rfl,rfl⟩⟩,⟨by simp[zeroPg,Pg.cells,ints],.inl ⟨rfl,rfl⟩⟩,⟨by simp[zeroPg,Pg.cells,ints],.inl ⟨rfl,rfl⟩⟩,⟨⟨by simp,.inl ⟨rfl,rfl⟩⟩,rfl,fun i hi=>absurd hi (Nat.not_lt_zero _)⟩⟩
theorem Small.zero:Small ⟨none,0,0,none,0,0,none,0,0,none,0,0,none,0,0⟩ zeroPg:=⟨by simp,by simp,by simp,by simp,by simp,fun i=>by simp[zeroPg]⟩
theorem specParseProg_any (s:ByteArray) (w:World) (hs:s.size≤4294967296):
  Calls Tryz.prog 56 #[.string s] w fun e w'=>∃(v:PV) (vs:List Value),e= .returned (.tuple #[.agg #[.slice v.s v.ns v.cs,.slice v.g v.ng v.cg,.slice v.b v.nb v.cb,.slice v.r v.nr v.cr,.slice v.t v.nt v.ct],.bool (parseProg s).isSome])∧OwnP w' v vs ((parseProg s).getD zeroPg).cells∧(∀q∈fpP v vs,w.heap.size≤q)∧Small v ((parseProg s).getD zeroPg)∧Below w.heap.size w w':=by
 have B0:Below w.heap.size w (w.alloc (.cells #[.slice none 0 0,.slice none 0 0,.slice none 0 0,.slice none 0 0,.slice none 0 0] 26)):=xA1
 have kR:Blk (w.alloc (.cells #[.slice none 0 0,.slice none 0 0,.slice none 0 0,.slice none 0 0,.slice none 0 0] 26)) w.heap.size #[.slice none 0 0,.slice none 0 0,.slice none 0 0,.slice none 0 0,.slice none 0 0] 26:=Blk.new _ _ _
 go_enter Tryz.func56,Tryz.ntmps56
 go_wp2_with fail
 refine(l13Cut_any s 10 _ hs).mono ?_
 rintro e w1 ⟨ap,cp,rfl,hparts,hb⟩
 replace kR:=kR.below hb
 replace B0:=B0.trans (hb.mono B0.size)
 have hW1:w.heap.size+1≤w1.heap.size:=by have:=hb.size;simpa using this
 clear hb
 obtain⟨parts,hpt⟩:∃parts,parts=cutB s 10:=⟨_,rfl⟩
 have hpos:1≤parts.length:=by rw[hpt];exact cutB_pos s 10
 have hpsz:∀x∈parts,x.size≤4294967296:=fun x hx=>by
  have:=cutTo_size s 10 (s.size+1) x (by rw[hpt] at hx;exact hx)
  omega
 have hplen:parts.length≤4294967297:=by
  have:=(cutTo_le s 10 (s.size+1)).2
  rw[hpt]
  show(cutTo s 10 (s.size+1)).1.length≤_
  omega
 have HPO:Hid (parseProg s=if progValid (readLines parts)=true then (if fmtProg (readLines parts)=s then some (readLines parts) else none) else none):=xH1 (by rw[hpt];rfl)
 rw[←hpt] at hparts⊢
 obtain⟨np,hnp⟩:∃np,np=parts.length:=⟨_,rfl⟩
 rw[←hnp] at hparts hpos hplen⊢
 have HNP:=xH1 hnp
 have HSZ:=xH1 hpsz
 have HP:=xH1 (Rd.of_owns hparts)
 have HKR:=xH1 kR
 have HB0:=xH1 B0
 have HC0:Hid (CopyAt (w1.alloc (.cells #[.slice none 0 0,.slice none 0 0,.slice none 0 0,.slice none 0 0,.slice none 0 0] 26)) w1.heap.size w1.heap.size ⟨none,0,0,none,0,0,none,0,0,none,0,0,none,0,0⟩ [] zeroPg 0):=xH1 (CopyAt.zero _ _ _ (Blk.new _ _ _))
 clear hpt hnp hpsz hparts kR B0
 go_wp2
 go_loopw [6] (fun vi wr=>∃(i:Nat) (v:PV) (vs:List Value),i+1≤np∧i≤9∧vi= .int .i64 i∧Hid (CopyAt wr w1.heap.size w1.heap.size v vs (linesTo parts i) (linesTo parts i).threads.length)∧Hid (Below w1.heap.size w1 wr)) (fun vi _=>np-(intOf vi).toNat)
 case atStart=>exact⟨0,_,_,by omega,by omega,rfl,HC0,xH1 (xA1)⟩
 case round=>
  obtain⟨i,v,vs,hinp,hi9,rfl,HC,hbw⟩:=hrel
  have hS:=hbw.out.size
  have hsm:=linesTo_small parts i
  have HSM:=xH1 hsm
  have hnt:v.nt≤9:=by
   have h1:=HC.out.ot.1
   have h2:=HC.out.inn.len
   have h3:=hsm.t
   simp only[List.length_map,List.take_length] at h2
   omega
  clear hsm
  by_cases hgo:i+1<np∧i<9
  ·obtain⟨hlt,hl9⟩:=hgo
   have i1:(i:Int)<(np:Int):=by omega
   have i2:(i:Int)+1<(np:Int):=by omega
   have i0:(0:Int)≤(i:Int):=by omega
   have i9:(i:Int)<9:=by omega
   obtain⟨b,o,rfl,hc⟩:=(HP.out.below hbw.out).at (by rw[List.length_map,←HNP.out];omega)
   have g1:=hc i (by rw[List.length_map,←HNP.out];omega)
   obtain⟨x,hx⟩:∃x,x=parts.getD i noB:=⟨_,rfl⟩
   have ex:(strs parts).getD i undef= .string x:=by rw[hx];simp[strs,List.getD,show i<parts.length by rw[←HNP.out];omega]
   have hilt:i<parts.length:=by rw[←HNP.out];omega
   have hxm:x∈parts:=by
    rw[hx,List.getD_eq_getElem?_getD,List.getElem?_eq_getElem hilt]
    exact List.getElem_mem hilt
   have hxs:x.size≤4294967296:=HSZ.out x hxm
   clear hilt hxm
   rw[ex] at g1
   obtain⟨p,hp⟩:∃p,p=linesTo parts i:=⟨_,rfl⟩
   have HST:Hid (linesTo parts (i+1)=stepLine p x):=xH1 (by rw[hp,hx];rfl)
   rw[←hp] at HC
   clear hc hx ex hp
   go_wp2_with fail
   refine(l6Line_any x semsB _ hxs).mono ?_
   rintro e w2 ⟨a1,n1,c1,rfl,h1,b1⟩
   have g2:=keepc b1 g1
   have H1:=xH1 h1
   have HB1:=xH1 b1
   have s1:=b1.size
   clear g1 h1 b1
   go_wp2_with fail
   refine(l6Line_any x groupsB _ hxs).mono ?_
   rintro e w3 ⟨a2,n2,c2,rfl,h2,b2⟩
   have g3:=keepc b2 g2
   have H2:=xH1 h2
   have HB2:=xH1 b2
   have s2:=b2.size
   clear g2 h2 b2
   go_wp2_with fail
   refine(l6Line_any x barriersB _ hxs).mono ?_
   rintro e w4 ⟨a3,n3,c3,rfl,h3,b3⟩
   have g4:=keepc b3 g3
   have H3:=xH1 h3
   have HB3:=xH1 b3
   have s3:=b3.size
   clear g3 h3 b3
   go_wp2_with fail
   refine(l6Line_any x roomsB _ hxs).mono ?_
   rintro e w5 ⟨a4,n4,c4,rfl,h4,b4⟩
   have g5:=keepc b4 g4
   have H4:=xH1 h4
   have HB4:=xH1 b4
   have s4:=b4.size
   clear g4 h4 b4
   go_wp2_with fail
   refine(l6Thread_any x _ hxs).mono ?_
   rintro e w6 ⟨a5,n5,c5,rfl,h5,b5⟩
   have H5:=xH1 h5
   have HB5:=xH1 b5
   have s5:=b5.size
   clear g5 h5 b5
   have HC6:=xH1 (((((HC.out.below HB1.out).below HB2.out).below HB3.out).below HB4.out).below HB5.out)
   have HB6:=xH1 (((((hbw.out.trans (HB1.out.mono (by omega))).trans (HB2.out.mono (by omega))).trans (HB3.out.mono (by omega))).trans (HB4.out.mono (by omega))).trans (HB5.out.mono (by omega)))
   have x0:=HC6.out.blk.fz 0
   have x1:=HC6.out.blk.fz 1
   have x2:=HC6.out.blk.fz 2
   have x3:=HC6.out.blk.fz 3
   have x4:=HC6.out.blk.fz 4
   have e0:=HC6.out.blk.cell 0 rfl
   have e1:=HC6.out.blk.cell 1 rfl
   have e2:=HC6.out.blk.cell 2 rfl
   have e3:=HC6.out.blk.cell 3 rfl
   have e4:=HC6.out.blk.cell 4 rfl
   cases he1:lineB x semsB with
   |some l=>
    have HE1:=xH1 he1
    have HN:Hid (linesTo parts (i+1)={p with sems:=l}):=xH1 (by rw[HST.out];unfold stepLine;simp only[he1])
    have HO:=xH1 (owns_mono (owns_below (owns_below (owns_below (owns_below (H1.out l HE1.out).2 HB2.out) HB3.out) HB4.out) HB5.out) (B':=w1.heap.size) (by omega))
    clear he1
    simp only[Option.isSome_some]
    go_wp2
    go_roundw
    case rel=>
     refine⟨i+1,{v with s:=a1,ns:=n1,cs:=c1},vs,by omega,by omega,by go_num,xH1 ?_,xH1 (HB6.out.setCell xL1 _)⟩
     rw[HN.out]
     exact HC6.out.sems HO.out
    case measure=>simp[intOf];omega
   |none=>
    have HE1:=xH1 he1
    clear he1
    simp only[Option.isSome_none]
    cases he2:lineB x groupsB with
    |some l=>
     have HE2:=xH1 he2
     have HN:Hid (linesTo parts (i+1)={p with groups:=l}):=xH1 (by rw[HST.out];unfold stepLine;simp only[HE1.out,he2])
     have HO:=xH1 (owns_mono (owns_below (owns_below (owns_below (H2.out l HE2.out).2 HB3.out) HB4.out) HB5.out) (B':=w1.heap.size) (by omega))
     clear he2
     simp only[Option.isSome_some]
     go_wp2
     go_roundw
     case rel=>
      refine⟨i+1,{v with g:=a2,ng:=n2,cg:=c2},vs,by omega,by omega,by go_num,xH1 ?_,xH1 (HB6.out.setCell xL1 _)⟩
      rw[HN.out]
      exact HC6.out.groups HO.out
     case measure=>simp[intOf];omega
    |none=>
     have HE2:=xH1 he2
     clear he2
     simp only[Option.isSome_none]
     cases he3:lineB x barriersB with
     |some l=>
      have HE3:=xH1 he3
      have HN:Hid (linesTo parts (i+1)={p with barriers:=l}):=xH1 (by rw[HST.out];unfold stepLine;simp only[HE1.out,HE2.out,he3])
      have HO:=xH1 (owns_mono (owns_below (owns_below (H3.out l HE3.out).2 HB4.out) HB5.out) (B':=w1.heap.size) (by omega))
      clear he3
      simp only[Option.isSome_some]
      go_wp2
      go_roundw
      case rel=>
       refine⟨i+1,{v with b:=a3,nb:=n3,cb:=c3},vs,by omega,by omega,by go_num,xH1 ?_,xH1 (HB6.out.setCell xL1 _)⟩
       rw[HN.out]
       exact HC6.out.barriers HO.out
      case measure=>simp[intOf];omega
     |none=>
      have HE3:=xH1 he3
      clear he3
      simp only[Option.isSome_none]
      cases he4:lineB x roomsB with
      |some l=>
       have HE4:=xH1 he4
       have HN:Hid (linesTo parts (i+1)={p with rooms:=l}):=xH1 (by rw[HST.out];unfold stepLine;simp only[HE1.out,HE2.out,HE3.out,he4])
       have HO:=xH1 (owns_mono (owns_below (H4.out l HE4.out).2 HB5.out) (B':=w1.heap.size) (by omega))
       clear he4
       simp only[Option.isSome_some]
       go_wp2
       go_roundw
       case rel=>
        refine⟨i+1,{v with r:=a4,nr:=n4,cr:=c4},vs,by omega,by omega,by go_num,xH1 ?_,xH1 (HB6.out.setCell xL1 _)⟩
        rw[HN.out]
        exact HC6.out.rooms HO.out
       case measure=>simp[intOf];omega
      |none=>
       have HE4:=xH1 he4
       clear he4
       simp only[Option.isSome_none]
       cases he5:threadLine x with
       |some t=>
        have HN:Hid (linesTo parts (i+1)={p with threads:=p.threads++[t]}):=xH1 (by rw[HST.out];unfold stepLine;simp only[HE1.out,HE2.out,HE3.out,HE4.out,he5])
        have HO:=xH1 (owns_mono (H5.out t he5).2 (B':=0) (Nat.zero_le _))
        have HF:Hid (∀q,rowOf a5=some q→w1.heap.size≤q∧q∉fpV vs):=xH1 (fun q hq=>by
         have h1:=(owns_row (cs:=opsV t) (by have:=(H5.out t he5).2;exact this) q hq).1
         exact⟨by omega,fun hm=>by have h2:=HC.out.inn.lt q hm;omega⟩)
        clear he5
        simp only[Option.isSome_some]
        have hot:=HC6.out.ot
        have hB6:=HB6.out.size
        go_wp2_with (at_builtin;refine wpList_append_sl (news:=[.slice a5 n5 c5]) rfl (.tmp 90) (.tmp 92) 24 rfl Tryz.underlying24 info_ops rfl (by decide) rfl hot rfl rfl rfl (by simp[Value.oneCell']) (by omega) (by decide) hB6 ?_;intro a6 c6 w7 hown7 hgr7;have hy4:=(HC6.out.blk.grown hgr7 (blk_owns HC6.out.blk hot types_ne.2.2.2.1)).fz 4;have hx4:=(HC6.out.blk.grown hgr7 (blk_owns HC6.out.blk hot types_ne.2.2.2.1)).cell 4 rfl)
        go_roundw
        case rel=>
         refine⟨i+1,v.thr a6 (v.nt+1) c6,vs++[.slice a5 n5 c5],by omega,by omega,by go_num,xH1 ?_,xH1 ((HB6.out.trans (below_of_grown hgr7 hB6 (fun q hq=>(owns_row hot q hq).1))).setCell xL1 _)⟩
         rw[HN.out]
         exact HC6.out.more HO.out HF.out hown7 hgr7
        case measure=>simp[intOf];omega
       |none=>
        have HN:Hid (linesTo parts (i+1)=p):=xH1 (by rw[HST.out];unfold stepLine;simp only[HE1.out,HE2.out,HE3.out,HE4.out,he5])
        clear he5
        simp only[Option.isSome_none]
        go_wp2
        go_roundw
        case rel=>
         refine⟨i+1,v,vs,by omega,by omega,by go_num,xH1 ?_,HB6⟩
         rw[HN.out]
         exact HC6.out
        case measure=>simp[intOf];omega
  ·have hmin:i=Nat.min (parts.length-1) 9:=by rw[←HNP.out];simp only[Nat.min_def];split<;>omega
   obtain⟨p,hp⟩:∃p,p=linesTo parts i:=⟨_,rfl⟩
   have HPA:Hid (parseProg s=if progValid p=true then (if fmtProg p=s then some p else none) else none):=xH1 (by
    rw[HPO.out]
    unfold readLines
    rw[←hmin,←hp])
   rw[←hp] at HC HSM
   have HRD:=xH1 (HC.out.own rfl).rd
   have HZ:=xH1 (HC.out.small HSM.out hi9)
   have e0:=HC.out.blk.cell 0 rfl
   have e1:=HC.out.blk.cell 1 rfl
   have e2:=HC.out.blk.cell 2 rfl
   have e3:=HC.out.blk.cell 3 rfl
   have e4:=HC.out.blk.cell 4 rfl
   have hgoI:¬((i:Int)+1<(np:Int)∧(i:Int)<9):=fun h=>hgo ⟨by omega,by omega⟩
   clear hp hmin
   cases hv:progValid p with
   |false=>
    have HV:=xH1 hv
    have HR:Hid (parseProg s=none):=xH1 (by rw[HPA.out,if_neg (by rw[hv];decide)])
    clear hv
    by_cases hl:i+1<np
    all_goals
     go_wp2_with fail
     refine(specProgValid_any v p _ HRD.out HZ.out).mono ?_
     rintro e w2 ⟨rfl,hb2⟩
     rw[HV.out]
     have hb3:=hbw.out.trans (hb2.mono hS)
     clear hb2
     have kR2:=HKR.out.below hb3
     have y0:=kR2.cell 0 rfl
     have x0:=kR2.fz 0
     have y1:=kR2.cell 1 rfl
     have x1:=kR2.fz 1
     have y2:=kR2.cell 2 rfl
     have x2:=kR2.fz 2
     have y3:=kR2.cell 3 rfl
     have x3:=kR2.fz 3
     have y4:=kR2.cell 4 rfl
     have x4:=kR2.fz 4
     have BE:=HB0.out.trans ((hb3).mono HB0.out.size)
     have HBE:=xH1 BE
     clear kR2 BE
     go_wp2
     refine bodyPost_ret (v:= .tuple #[.agg #[.slice none 0 0,.slice none 0 0,.slice none 0 0,.slice none 0 0,.slice none 0 0],.bool false]) (by simp[results,Tryz.results56,go_sem,y0,y1,y2,y3,y4]) rfl ⟨⟨none,0,0,none,0,0,none,0,0,none,0,0,none,0,0⟩,[],by rw[HR.out];rfl,by rw[HR.out];exact OwnP.zero _,fun q hq=>by simp[fpP,fpT,rowOf] at hq,by rw[HR.out];exact Small.zero,?_⟩
     exact((((HBE.out.setCell xL1 _).setCell xL1 _).setCell xL1 _).setCell xL1 _).setCell xL1 _
   |true=>
    have HV:=xH1 hv
    clear hv
    by_cases hf:fmtProg p=s
    ·have HR:Hid (parseProg s=some p):=xH1 (by rw[HPA.out,if_pos HV.out,if_pos hf])
     have HFF:=xH1 hf
     clear hf
     by_cases hl:i+1<np
     all_goals
      go_wp2_with fail
      refine(specProgValid_any v p _ HRD.out HZ.out).mono ?_
      rintro e w2 ⟨rfl,hb2⟩
      rw[HV.out]
      have HC2:=xH1 (HC.out.below hb2)
      have HRD2:=xH1 (HRD.out.below hb2)
      have hb3:=hbw.out.trans (hb2.mono hS)
      have e0:=HC2.out.blk.cell 0 rfl
      have e1:=HC2.out.blk.cell 1 rfl
      have e2:=HC2.out.blk.cell 2 rfl
      have e3:=HC2.out.blk.cell 3 rfl
      have e4:=HC2.out.blk.cell 4 rfl
      clear hb2
      go_wp2_with fail
      refine(specFormatProg_any v p _ HRD2.out HZ.out).mono ?_
      rintro e w3 ⟨rfl,hb4⟩
      rw[HFF.out]
      have HC3:=xH1 (HC2.out.below hb4)
      have hb5:=hb3.trans (hb4.mono hb3.size)
      have e0:=HC3.out.blk.cell 0 rfl
      have e1:=HC3.out.blk.cell 1 rfl
      have e2:=HC3.out.blk.cell 2 rfl
      have e3:=HC3.out.blk.cell 3 rfl
      have e4:=HC3.out.blk.cell 4 rfl
      have kR2:=HKR.out.below hb5
      have y0:=kR2.cell 0 rfl
      have x0:=kR2.fz 0
      have y1:=kR2.cell 1 rfl
      have x1:=kR2.fz 1
      have y2:=kR2.cell 2 rfl
      have x2:=kR2.fz 2
      have y3:=kR2.cell 3 rfl
      have x3:=kR2.fz 3
      have y4:=kR2.cell 4 rfl
      have x4:=kR2.fz 4
      have BE:=HB0.out.trans (hb5.mono HB0.out.size)
      have HBE:=xH1 BE
      clear kR2 BE hb4 hb3 hb5
      go_wp2
      refine bodyPost_ret (v:= .tuple #[.agg #[.slice v.s v.ns v.cs,.slice v.g v.ng v.cg,.slice v.b v.nb v.cb,.slice v.r v.nr v.cr,.slice v.t v.nt v.ct],.bool true]) (by simp[results,Tryz.results56,go_sem,y0,y1,y2,y3,y4]) rfl ⟨v,vs,by rw[HR.out];rfl,?_,fun q hq=>by have:=HC3.out.fresh q hq;omega,by rw[HR.out];exact HZ.out,?_⟩
      ·rw[HR.out]
       refine(HC3.out.own rfl).touch (S:=[w.heap.size]) ?_ (fun q hq hm=>by have:=HC3.out.fresh q hq;simp at hm;omega)
       exact Touch.set (Touch.set (Touch.set (Touch.set (Touch.set (Touch.refl _ _) (by simp)) (by simp)) (by simp)) (by simp)) (by simp)
      ·exact((((HBE.out.setCell xL1 _).setCell xL1 _).setCell xL1 _).setCell xL1 _).setCell xL1 _
    ·have HR:Hid (parseProg s=none):=xH1 (by rw[HPA.out,if_pos HV.out,if_neg hf])
     have q1:¬(fmtProg p).toList=s.toList:=fun h=>hf (toList_inj h)
     have q0:((fmtProg p).toList==s.toList)=false:=by simpa using q1
     clear hf q1
     by_cases hl:i+1<np
     all_goals
      go_wp2_with fail
      refine(specProgValid_any v p _ HRD.out HZ.out).mono ?_
      rintro e w2 ⟨rfl,hb2⟩
      rw[HV.out]
      have HC2:=xH1 (HC.out.below hb2)
      have HRD2:=xH1 (HRD.out.below hb2)
      have hb3:=hbw.out.trans (hb2.mono hS)
      have e0:=HC2.out.blk.cell 0 rfl
      have e1:=HC2.out.blk.cell 1 rfl
      have e2:=HC2.out.blk.cell 2 rfl
      have e3:=HC2.out.blk.cell 3 rfl
      have e4:=HC2.out.blk.cell 4 rfl
      clear hb2
      go_wp2_with fail
      refine(specFormatProg_any v p _ HRD2.out HZ.out).mono ?_
      rintro e w3 ⟨rfl,hb4⟩
      have hb5:=hb3.trans (hb4.mono hb3.size)
      clear hb4
      have kR2:=HKR.out.below hb5
      have y0:=kR2.cell 0 rfl
      have x0:=kR2.fz 0
      have y1:=kR2.cell 1 rfl
      have x1:=kR2.fz 1
      have y2:=kR2.cell 2 rfl
      have x2:=kR2.fz 2
      have y3:=kR2.cell 3 rfl
      have x3:=kR2.fz 3
      have y4:=kR2.cell 4 rfl
      have x4:=kR2.fz 4
      have BE:=HB0.out.trans ((hb5).mono HB0.out.size)
      have HBE:=xH1 BE
      clear kR2 BE
      go_wp2
      refine bodyPost_ret (v:= .tuple #[.agg #[.slice none 0 0,.slice none 0 0,.slice none 0 0,.slice none 0 0,.slice none 0 0],.bool false]) (by simp[results,Tryz.results56,go_sem,y0,y1,y2,y3,y4]) rfl ⟨⟨none,0,0,none,0,0,none,0,0,none,0,0,none,0,0⟩,[],by rw[HR.out];rfl,by rw[HR.out];exact OwnP.zero _,fun q hq=>by simp[fpP,fpT,rowOf] at hq,by rw[HR.out];exact Small.zero,?_⟩
      exact((((HBE.out.setCell xL1 _).setCell xL1 _).setCell xL1 _).setCell xL1 _).setCell xL1 _
theorem of_any (R:Nat) (a:Option Addr) (n c:Nat) (bs:List Int) (p:Int) (g m cm:Nat) (w:World) (h:Rdr w R a n c bs p) (hp:p≤1099511627776)
  (hm:1≤m) (hm2:m≤1000) (hx:∀v:Nat,v<m→∃x:ByteArray,w.cell? ⟨g,v,none⟩=some (.string x)∧x.size≤4294967296) (hg:g≠R):
  Calls Tryz.prog 57 #[.pointer (some ⟨R,0,none⟩),.slice (some ⟨g,0,none⟩) m cm] w fun e w'=>
   ∃x:ByteArray,e= .returned (.string x)∧x.size≤4294967296∧Rdr w' R a n c bs (p+1)∧w.grownBy w' (some R)∧Hid (w'.heap.size=w.heap.size):=by
 have HX:=xH1 hx
 clear hx
 go_enter Tryz.func57,Tryz.ntmps57
 go_wp2_with fail
 refine(pick_some R a n c bs p m _ h hp (by omega)).mono ?_
 rintro e w1 ⟨v,rfl,hv,hr,hgr,hs⟩
 have hvm:v<m:=by omega
 obtain⟨x,hx1,hx2⟩:=HX.out v hvm
 have hcv:w1.cell? ⟨g,v,none⟩=some (.string x):=by
  have hb:=World.block_lt_of_cell? _ _ hx1
  have:=hgr.block g hb (by simpa using hg)
  unfold World.cell? at hx1⊢
  simp only at hx1⊢
  rw[this]
  exact hx1
 clear hx1
 go_wp2_with fail
 go_ret
 exact⟨x,rfl,hx2,hr,hgr,hs⟩
theorem l6Samples_any (w:World):
  Calls Tryz.prog 58 #[] w fun e w'=>
   ∃(g:Nat) (l:Array Value),e= .returned (.slice (some ⟨g,0,none⟩) 8 8)∧Blk w' g l 9∧l.size=8∧(∀i:Nat,i<8→∃x:ByteArray,l[i]? =some (.string x)∧x.size≤4294967296)∧w.heap.size≤g∧Below w.heap.size w w':=by
 go_enter Tryz.func58,Tryz.ntmps58
 go_wp2
 go_ret
 refine⟨_,_,rfl,Blk.new _ _ _,rfl,?_,Nat.le_refl _,xA1⟩
 intro i hi
 match i,hi with
 |0,_=>exact⟨_,rfl,by decide⟩
 |1,_=>exact⟨_,rfl,by decide⟩
 |2,_=>exact⟨_,rfl,by decide⟩
 |3,_=>exact⟨_,rfl,by decide⟩
 |4,_=>exact⟨_,rfl,by decide⟩
 |5,_=>exact⟨_,rfl,by decide⟩
 |6,_=>exact⟨_,rfl,by decide⟩
 |7,_=>exact⟨_,rfl,by decide⟩
end Go.Proofs.YtjmpejaifmopnaaGreat
