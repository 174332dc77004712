/- Part of a proof: BaseE. -/
import Derived.Deep.RegionHeld3
import Derived.Deep.AppendLies
import Derived.Test.YtjmpejaifmopnaaGreatQBaseD
set_option maxRecDepth 100000
set_option maxHeartbeats 16000000
namespace Go.Proofs.YtjmpejaifmopnaaGreat
open Go.RowKit
instance:DecidableEq OpD:=fun a b=>decidable_of_iff (a.kind=b.kind∧a.on=b.on∧a.arg=b.arg) (by cases a;cases b;simp)
instance:DecidableEq Pg:=fun a b=>decidable_of_iff (a.sems=b.sems∧a.groups=b.groups∧a.barriers=b.barriers∧a.rooms=b.rooms∧a.threads=b.threads) (by cases a;cases b;simp)
theorem ext_getD_of {α:Type} (d:α) {xs ys:List α} (hl:xs.length=ys.length) (h:∀j,j<xs.length→xs.getD j d=ys.getD j d):xs=ys:=by
 refine List.ext_getElem hl fun j h1 h2=> ?_
 have:=h j h1
 simpa[List.getD,h1,h2] using this
theorem neq_op (w:World) (a0 a1 a2 b0 b1 b2:Int):(binOp .neq 58 (.agg #[.int .i64 a0,.int .i64 a1,.int .i64 a2]) (.agg #[.int .i64 b0,.int .i64 b1,.int .i64 b2])).run Tryz.prog w= .ok (.bool (!(a0==b0&&a1==b1&&a2==b2))) w:=by
 have u3:=Tryz.underlying3
 have a3:=Tryz.isAgg3
 have z3:=Tryz.sizeOf3
 have hS:Tryz.prog.underlying 58=some (.struct (Tryz.prog.fieldsOf 58)):=by kernel_rfl
 have hp:Tryz.prog.stoodInHeld 58=false:=by kernel_rfl
 rw[run_neq_struct,show(10000:Nat)=9999+1 from rfl,run_equalIn_agg w 9999 _ _ _ hS hp]
 simp only[Program.fieldsOf,Tryz.underlying58]
 go_simp
 by_cases h0:a0=b0<;>by_cases h1:a1=b1<;>by_cases h2:a2=b2<;>simp[h0,h1,h2]
theorem guard_op (w:World) (x y:Operand) (xs ys:Array Value):(eqGuard .neq 58 x y (.agg xs) (.agg ys)).run Tryz.prog w= .ok () w:=
 run_eqGuard_agg w .neq _ x y xs ys (by kernel_rfl)
theorem slicesInts_n (a1 a2:Option Addr) (n c1 c2:Nat) (xs ys:List Int) (w:World) (hn:n≤1099511627776) (hl:xs.length=n) (hl2:ys.length=n) (h1:Rd w a1 (ints xs)) (h2:Rd w a2 (ints ys)):
  Calls Tryz.prog 19 #[.slice a1 n c1,.slice a2 n c2] w fun e w'=>e= .returned (.bool (decide (xs=ys)))∧∃n,w'=w.drewN n:=by
 have HL:=xH1 hl
 have HL2:=xH1 hl2
 clear hl hl2
 go_enter Tryz.func19,Tryz.ntmps19
 go_wp2
 go_loopw [5,13] (fun _ i wr=>∃k:Nat,k≤n∧i= .int .i64 k∧Hid (∀j,j<k→xs.getD j 0=ys.getD j 0)∧∃d,wr=w.drewN d) (fun _ i _=>n-(intOf i).toNat)
 case atStart=>exact⟨0,by omega,rfl,xH1 (by omega),0,rfl⟩
 case round=>
  obtain⟨k,hk,rfl,hall,d,rfl⟩:=hrel
  by_cases hlt:k<n
  ·obtain⟨b1,o1,rfl,g1'⟩:=h1.int (by have:=HL.out;omega)
   obtain⟨b2,o2,rfl,g2'⟩:=h2.int (by have:=HL2.out;omega)
   have g1a:=g1' k (by have:=HL.out;omega)
   have g2a:=g2' k (by have:=HL2.out;omega)
   obtain⟨x,hx⟩:∃x,x=xs.getD k 0:=⟨_,rfl⟩
   obtain⟨y,hy⟩:∃y,y=ys.getD k 0:=⟨_,rfl⟩
   rw[←hx] at g1a
   rw[←hy] at g2a
   have HX:=xH1 hx
   have HY:=xH1 hy
   clear g1' g2' hx hy
   go_wp2
   go_quiet (fail)
   go_wp2
   ·go_ret
    refine⟨?_,d+nq,World.drewN_drewN _ _ _⟩
    have hne:(x !=y)=true:=by assumption
    refine ret_bool (decide_eq_false ?_).symm
    intro e
    rw[HX.out,HY.out,e] at hne
    simp at hne
   ·have hne:(x !=y)=false:=by assumption
    have he:x=y:=by simpa using hne
    refine⟨⟨k+1,by omega,by go_num,xH1 ?_,d+nq,rfl⟩,by simp[intOf];omega⟩
    intro j hj
    by_cases hjk:j=k
    ·rw[hjk,←HX.out,←HY.out,he]
    ·exact hall.out j (by omega)
  ·have hkm:k=n:=by omega
   subst hkm
   go_wp2
   go_ret
   exact⟨ret_bool (decide_eq_true (ext_getD_of 0 (by rw[HL.out,HL2.out]) (fun j hj=>hall.out j (by rw[HL.out] at hj;exact hj)))).symm,d,rfl⟩
theorem slicesInts_no (a1 a2:Option Addr) (n m c1 c2:Nat) (w:World) (hnm:n≠m):
  Calls Tryz.prog 19 #[.slice a1 n c1,.slice a2 m c2] w fun e w'=>e= .returned (.bool false)∧∃n,w'=w.drewN n:=by
 have hd:((n:Int) !=(m:Int))=true:=by simp;omega
 clear hnm
 go_enter Tryz.func19,Tryz.ntmps19
 go_wp2
 go_ret
 exact⟨rfl,0,rfl⟩
theorem slicesInts_any (a1 a2:Option Addr) (n m c1 c2:Nat) (xs ys:List Int) (w:World) (hn:n≤1099511627776) (hl:xs.length=n) (hl2:ys.length=m) (h1:Rd w a1 (ints xs)) (h2:Rd w a2 (ints ys)):
  Calls Tryz.prog 19 #[.slice a1 n c1,.slice a2 m c2] w fun e w'=>e= .returned (.bool (decide (xs=ys)))∧∃n,w'=w.drewN n:=by
 by_cases hnm:n=m
 ·subst hnm
  exact slicesInts_n a1 a2 n c1 c2 xs ys w hn hl hl2 h1 h2
 ·rw[decide_eq_false (fun e=>hnm (by rw[←hl,←hl2,e]))]
  exact slicesInts_no a1 a2 n m c1 c2 w hnm
theorem slicesOps_n (a1 a2:Option Addr) (n c1 c2:Nat) (xs ys:List OpD) (w:World) (hn:n≤1099511627776) (hl:xs.length=n) (hl2:ys.length=n) (h1:Rd w a1 (opsV xs)) (h2:Rd w a2 (opsV ys)):
  Calls Tryz.prog 22 #[.slice a1 n c1,.slice a2 n c2] w fun e w'=>e= .returned (.bool (decide (xs=ys)))∧∃n,w'=w.drewN n:=by
 have HL:=xH1 hl
 have HL2:=xH1 hl2
 clear hl hl2
 have kn:=neq_op
 have kg:=guard_op
 go_enter Tryz.func22,Tryz.ntmps22
 go_wp2
 go_loopw [5,13] (fun _ i wr=>∃k:Nat,k≤n∧i= .int .i64 k∧Hid (∀j,j<k→xs.getD j noOp=ys.getD j noOp)∧∃d,wr=w.drewN d) (fun _ i _=>n-(intOf i).toNat)
 case atStart=>exact⟨0,by omega,rfl,xH1 (by omega),0,rfl⟩
 case round=>
  obtain⟨k,hk,rfl,hall,d,rfl⟩:=hrel
  by_cases hlt:k<n
  ·obtain⟨b1,o1,rfl,g1'⟩:=h1.op (by have:=HL.out;omega)
   obtain⟨b2,o2,rfl,g2'⟩:=h2.op (by have:=HL2.out;omega)
   obtain⟨g1a,g1b,g1c⟩:=g1' k (by have:=HL.out;omega)
   obtain⟨g2a,g2b,g2c⟩:=g2' k (by have:=HL2.out;omega)
   obtain⟨x,hx⟩:∃x,x=xs.getD k noOp:=⟨_,rfl⟩
   obtain⟨y,hy⟩:∃y,y=ys.getD k noOp:=⟨_,rfl⟩
   rw[←hx] at g1a g1b g1c
   rw[←hy] at g2a g2b g2c
   have HX:=xH1 hx
   have HY:=xH1 hy
   clear g1' g2' hx hy
   go_wp2
   go_quiet (fail)
   go_wp2
   ·go_ret
    refine⟨?_,d+nq,World.drewN_drewN _ _ _⟩
    have hne:(((!x.kind==y.kind)=true)∨(!x.on==y.on)=true)∨(!x.arg==y.arg)=true:=by assumption
    refine ret_bool (decide_eq_false ?_).symm
    intro e
    rw[HX.out,HY.out,e] at hne
    simp at hne
   ·have hne:(((!x.kind==y.kind)=false)∧(!x.on==y.on)=false)∧(!x.arg==y.arg)=false:=by assumption
    have he:x=y:=by cases x;cases y;simp at hne;simp only[OpD.mk.injEq];omega
    refine⟨⟨k+1,by omega,by go_num,xH1 ?_,d+nq,rfl⟩,by simp[intOf];omega⟩
    intro j hj
    by_cases hjk:j=k
    ·rw[hjk,←HX.out,←HY.out,he]
    ·exact hall.out j (by omega)
  ·have hkm:k=n:=by omega
   subst hkm
   go_wp2
   go_ret
   exact⟨ret_bool (decide_eq_true (ext_getD_of noOp (by rw[HL.out,HL2.out]) (fun j hj=>hall.out j (by rw[HL.out] at hj;exact hj)))).symm,d,rfl⟩
theorem slicesOps_no (a1 a2:Option Addr) (n m c1 c2:Nat) (w:World) (hnm:n≠m):
  Calls Tryz.prog 22 #[.slice a1 n c1,.slice a2 m c2] w fun e w'=>e= .returned (.bool false)∧∃n,w'=w.drewN n:=by
 have hd:((n:Int) !=(m:Int))=true:=by simp;omega
 clear hnm
 go_enter Tryz.func22,Tryz.ntmps22
 go_wp2
 go_ret
 exact⟨rfl,0,rfl⟩
theorem slicesOps_any (a1 a2:Option Addr) (n m c1 c2:Nat) (xs ys:List OpD) (w:World) (hn:n≤1099511627776) (hl:xs.length=n) (hl2:ys.length=m) (h1:Rd w a1 (opsV xs)) (h2:Rd w a2 (opsV ys)):
  Calls Tryz.prog 22 #[.slice a1 n c1,.slice a2 m c2] w fun e w'=>e= .returned (.bool (decide (xs=ys)))∧∃n,w'=w.drewN n:=by
 by_cases hnm:n=m
 ·subst hnm
  exact slicesOps_n a1 a2 n c1 c2 xs ys w hn hl hl2 h1 h2
 ·rw[decide_eq_false (fun e=>hnm (by rw[←hl,←hl2,e]))]
  exact slicesOps_no a1 a2 n m c1 c2 w hnm
theorem sameFn_any (a1 a2:Option Addr) (n m c1 c2:Nat) (xs ys:List OpD) (w:World) (hn:n≤1099511627776) (hl:xs.length=n) (hl2:ys.length=m) (h1:Rd w a1 (opsV xs)) (h2:Rd w a2 (opsV ys)):
  Calls Tryz.prog 21 #[.slice a1 n c1,.slice a2 m c2] w fun e w'=>e= .returned (.bool (decide (xs=ys)))∧∃n,w'=w.drewN n:=by
 go_enter Tryz.func21,Tryz.ntmps21
 go_wp2_with fail
 refine(slicesOps_any a1 a2 n m c1 c2 xs ys w hn hl hl2 h1 h2).mono ?_
 rintro e w1 ⟨rfl,d⟩
 go_wp2_with fail
 go_ret
 exact⟨rfl,d⟩
theorem equalThreads_n (a1 a2:Option Addr) (n c1 c2:Nat) (xs ys:List (List OpD)) (vs us:List Value) (w:World) (hn:n≤1048576) (hl:xs.length=n) (hl2:ys.length=n) (h1:RdT w a1 xs vs) (h2:RdT w a2 ys us) (hz:∀i,(xs.getD i []).length≤1048576):
  Calls Tryz.prog 20 #[.slice a1 n c1,.slice a2 n c2,.func (.func 21) #[] #[]] w fun e w'=>e= .returned (.bool (decide (xs=ys)))∧∃n,w'=w.drewN n:=by
 have HL:=xH1 hl
 have HL2:=xH1 hl2
 have HZ:=xH1 hz
 have eg:∀args w,(callFunc 21 args).run Tryz.prog w= .ok (.enter 21 args) w:=enters_of Tryz.func21 (by kernel_rfl) rfl
 clear hl hl2 hz
 go_enter Tryz.func20,Tryz.ntmps20
 go_wp2
 go_loopw [17] (fun i wr=>∃k:Nat,k≤n∧i= .int .i64 k∧Hid (∀j,j<k→xs.getD j []=ys.getD j [])∧∃d,wr=w.drewN d) (fun i _=>n-(intOf i).toNat)
 case atStart=>exact⟨0,by omega,rfl,xH1 (by omega),0,rfl⟩
 case round=>
  obtain⟨k,hk,rfl,hall,d,rfl⟩:=hrel
  by_cases hlt:k<n
  ·obtain⟨b1,o1,rfl,g1'⟩:=(h1.below (below_drewN' _ d)).thread (by have:=HL.out;omega)
   obtain⟨b2,o2,rfl,g2'⟩:=(h2.below (below_drewN' _ d)).thread (by have:=HL2.out;omega)
   obtain⟨a1',c1',g1,r1⟩:=g1' k (by have:=HL.out;omega)
   obtain⟨a2',c2',g2,r2⟩:=g2' k (by have:=HL2.out;omega)
   obtain⟨x,hx⟩:∃x,x=xs.getD k []:=⟨_,rfl⟩
   obtain⟨y,hy⟩:∃y,y=ys.getD k []:=⟨_,rfl⟩
   have hxl:x.length≤1048576:=by rw[hx];exact HZ.out k
   rw[←hx] at g1 r1
   rw[←hy] at g2 r2
   have HX:=xH1 hx
   have HY:=xH1 hy
   clear g1' g2' hx hy
   by_cases hxy:x=y
   ·have HXY:=xH1 hxy
    clear hxy
    go_wp2_with (go_at_fn 21;refine(sameFn_any a1' a2' x.length y.length c1' c2' x y _ (by omega) rfl rfl r1 r2).mono ?_;rintro e w1 ⟨rfl,nq,rfl⟩;rw[decide_eq_true HXY.out])
    refine⟨⟨k+1,by omega,by go_num,xH1 ?_,d+nq,rfl⟩,by simp[intOf];omega⟩
    intro j hj
    by_cases hjk:j=k
    ·rw[hjk,←HX.out,←HY.out,HXY.out]
    ·exact hall.out j (by omega)
   ·have HXY:=xH1 hxy
    clear hxy
    go_wp2_with (go_at_fn 21;refine(sameFn_any a1' a2' x.length y.length c1' c2' x y _ (by omega) rfl rfl r1 r2).mono ?_;rintro e w1 ⟨rfl,nq,rfl⟩;rw[decide_eq_false HXY.out])
    go_ret
    refine⟨ret_bool (decide_eq_false ?_).symm,d+nq,rfl⟩
    intro e
    exact HXY.out (by rw[HX.out,HY.out,e])
  ·have hkm:k=n:=by omega
   subst hkm
   go_wp2
   go_ret
   exact⟨ret_bool (decide_eq_true (ext_getD_of [] (by rw[HL.out,HL2.out]) (fun j hj=>hall.out j (by rw[HL.out] at hj;exact hj)))).symm,d,rfl⟩
theorem equalThreads_no (a1 a2:Option Addr) (n m c1 c2:Nat) (w:World) (hnm:n≠m):
  Calls Tryz.prog 20 #[.slice a1 n c1,.slice a2 m c2,.func (.func 21) #[] #[]] w fun e w'=>e= .returned (.bool false)∧∃n,w'=w.drewN n:=by
 have hd:((n:Int) !=(m:Int))=true:=by simp;omega
 clear hnm
 go_enter Tryz.func20,Tryz.ntmps20
 go_wp2
 go_ret
 exact⟨rfl,0,rfl⟩
theorem equalThreads_any (a1 a2:Option Addr) (n m c1 c2:Nat) (xs ys:List (List OpD)) (vs us:List Value) (w:World) (hn:n≤1048576) (hl:xs.length=n) (hl2:ys.length=m) (h1:RdT w a1 xs vs) (h2:RdT w a2 ys us) (hz:∀i,(xs.getD i []).length≤1048576):
  Calls Tryz.prog 20 #[.slice a1 n c1,.slice a2 m c2,.func (.func 21) #[] #[]] w fun e w'=>e= .returned (.bool (decide (xs=ys)))∧∃n,w'=w.drewN n:=by
 by_cases hnm:n=m
 ·subst hnm
  exact equalThreads_n a1 a2 n c1 c2 xs ys vs us w hn hl hl2 h1 h2 hz
 ·rw[decide_eq_false (fun e=>hnm (by rw[←hl,←hl2,e]))]
  exact equalThreads_no a1 a2 n m c1 c2 w hnm
theorem implProgSame_any (v1 v2:PV) (p1 p2:Pg) (w:World) (h1:RdP w v1 p1) (h2:RdP w v2 p2) (hz:Small v1 p1):
  Calls Tryz.prog 7 #[.agg #[.slice v1.s v1.ns v1.cs,.slice v1.g v1.ng v1.cg,.slice v1.b v1.nb v1.cb,.slice v1.r v1.nr v1.cr,.slice v1.t v1.nt v1.ct],.agg #[.slice v2.s v2.ns v2.cs,.slice v2.g v2.ng v2.cg,.slice v2.b v2.nb v2.cb,.slice v2.r v2.nr v2.cr,.slice v2.t v2.nt v2.ct]] w fun e w'=>e= .returned (.bool (decide (p1=p2)))∧Below w.heap.size w w':=by
 have hq1:v1.ns≤1099511627776∧v1.ng≤1099511627776∧v1.nb≤1099511627776∧v1.nr≤1099511627776:=by obtain⟨z1,z2,z3,z4,z5,z6⟩:=hz;omega
 obtain⟨q1,q2,q3,q4⟩:=hq1
 have qt:=hz.lt
 have HZ:=xH1 hz
 have kA:Blk ((w.alloc (.cells #[.slice v1.s v1.ns v1.cs,.slice v1.g v1.ng v1.cg,.slice v1.b v1.nb v1.cb,.slice v1.r v1.nr v1.cr,.slice v1.t v1.nt v1.ct] 26)).alloc (.cells #[.slice v2.s v2.ns v2.cs,.slice v2.g v2.ng v2.cg,.slice v2.b v2.nb v2.cb,.slice v2.r v2.nr v2.cr,.slice v2.t v2.nt v2.ct] 26)) w.heap.size #[.slice v1.s v1.ns v1.cs,.slice v1.g v1.ng v1.cg,.slice v1.b v1.nb v1.cb,.slice v1.r v1.nr v1.cr,.slice v1.t v1.nt v1.ct] 26:=(Blk.new _ _ _).alloc _
 have kB:Blk ((w.alloc (.cells #[.slice v1.s v1.ns v1.cs,.slice v1.g v1.ng v1.cg,.slice v1.b v1.nb v1.cb,.slice v1.r v1.nr v1.cr,.slice v1.t v1.nt v1.ct] 26)).alloc (.cells #[.slice v2.s v2.ns v2.cs,.slice v2.g v2.ng v2.cg,.slice v2.b v2.nb v2.cb,.slice v2.r v2.nr v2.cr,.slice v2.t v2.nt v2.ct] 26)) (w.heap.size+1) #[.slice v2.s v2.ns v2.cs,.slice v2.g v2.ng v2.cg,.slice v2.b v2.nb v2.cb,.slice v2.r v2.nr v2.cr,.slice v2.t v2.nt v2.ct] 26:=by simpa using Blk.new (w.alloc (.cells #[.slice v1.s v1.ns v1.cs,.slice v1.g v1.ng v1.cg,.slice v1.b v1.nb v1.cb,.slice v1.r v1.nr v1.cr,.slice v1.t v1.nt v1.ct] 26)) #[.slice v2.s v2.ns v2.cs,.slice v2.g v2.ng v2.cg,.slice v2.b v2.nb v2.cb,.slice v2.r v2.nr v2.cr,.slice v2.t v2.nt v2.ct] 26
 have b0:Below w.heap.size w ((w.alloc (.cells #[.slice v1.s v1.ns v1.cs,.slice v1.g v1.ng v1.cg,.slice v1.b v1.nb v1.cb,.slice v1.r v1.nr v1.cr,.slice v1.t v1.nt v1.ct] 26)).alloc (.cells #[.slice v2.s v2.ns v2.cs,.slice v2.g v2.ng v2.cg,.slice v2.b v2.nb v2.cb,.slice v2.r v2.nr v2.cr,.slice v2.t v2.nt v2.ct] 26)):=(xA1).alloc (by simp) _
 have H1:=xH1 (h1.below b0)
 have H2:=xH1 (h2.below b0)
 have HB:=xH1 b0
 clear b0 h1 h2 hz
 obtain⟨W0,hW0⟩:∃W0,W0=(w.alloc (.cells #[.slice v1.s v1.ns v1.cs,.slice v1.g v1.ng v1.cg,.slice v1.b v1.nb v1.cb,.slice v1.r v1.nr v1.cr,.slice v1.t v1.nt v1.ct] 26)).alloc (.cells #[.slice v2.s v2.ns v2.cs,.slice v2.g v2.ng v2.cg,.slice v2.b v2.nb v2.cb,.slice v2.r v2.nr v2.cr,.slice v2.t v2.nt v2.ct] 26):=⟨_,rfl⟩
 rw[←hW0] at kA kB H1 H2 HB
 by_cases c0:p1.sems=p2.sems
 ·by_cases c1:p1.groups=p2.groups
  ·by_cases c2:p1.barriers=p2.barriers
   ·by_cases c3:p1.rooms=p2.rooms
    ·by_cases c4:p1.threads=p2.threads
     ·have d0:decide (p1.sems=p2.sems)=true:=by simpa using c0
      have d1:decide (p1.groups=p2.groups)=true:=by simpa using c1
      have d2:decide (p1.barriers=p2.barriers)=true:=by simpa using c2
      have d3:decide (p1.rooms=p2.rooms)=true:=by simpa using c3
      have d4:decide (p1.threads=p2.threads)=true:=by simpa using c4
      have D0:=xH1 d0
      have D1:=xH1 d1
      have D2:=xH1 d2
      have D3:=xH1 d3
      have D4:=xH1 d4
      clear d0 d1 d2 d3 d4
      have C0:=xH1 c0
      have C1:=xH1 c1
      have C2:=xH1 c2
      have C3:=xH1 c3
      have C4:=xH1 c4
      clear c0 c1 c2 c3 c4
      go_enter Tryz.func7,Tryz.ntmps7
      go_wp2_with fail
      rw[←hW0]
      refine(slicesInts_any v1.s v2.s v1.ns v2.ns v1.cs v2.cs p1.sems p2.sems _ q1 H1.out.ls H2.out.ls H1.out.rs H2.out.rs).mono ?_
      rintro e w1 ⟨rfl,d⟩
      rw[D0.out]
      have bd:=below_of_drewN (B:=W0.heap.size) d
      replace kA:=kA.below bd
      replace kB:=kB.below bd
      replace H1:=xH1 (H1.out.below bd)
      replace H2:=xH1 (H2.out.below bd)
      replace HB:=xH1 (HB.out.trans (bd.mono HB.out.size))
      clear bd d hW0
      have e0:=kA.cell 0 rfl
      have e1:=kA.cell 1 rfl
      have e2:=kA.cell 2 rfl
      have e3:=kA.cell 3 rfl
      have e4:=kA.cell 4 rfl
      have z0:=kB.cell 0 rfl
      have z1:=kB.cell 1 rfl
      have z2:=kB.cell 2 rfl
      have z3:=kB.cell 3 rfl
      have z4:=kB.cell 4 rfl
      go_wp2_with fail
      refine(slicesInts_any v1.g v2.g v1.ng v2.ng v1.cg v2.cg p1.groups p2.groups _ q2 H1.out.lg H2.out.lg H1.out.rg H2.out.rg).mono ?_
      rintro e w2 ⟨rfl,d⟩
      rw[D1.out]
      have bd:=below_of_drewN (B:=w1.heap.size) d
      replace kA:=kA.below bd
      replace kB:=kB.below bd
      replace H1:=xH1 (H1.out.below bd)
      replace H2:=xH1 (H2.out.below bd)
      replace HB:=xH1 (HB.out.trans (bd.mono HB.out.size))
      clear bd d
      clear e0 z0 e1 z1 e2 z2 e3 z3 e4 z4
      have e0:=kA.cell 0 rfl
      have e1:=kA.cell 1 rfl
      have e2:=kA.cell 2 rfl
      have e3:=kA.cell 3 rfl
      have e4:=kA.cell 4 rfl
      have z0:=kB.cell 0 rfl
      have z1:=kB.cell 1 rfl
      have z2:=kB.cell 2 rfl
      have z3:=kB.cell 3 rfl
      have z4:=kB.cell 4 rfl
      go_wp2_with fail
      refine(slicesInts_any v1.b v2.b v1.nb v2.nb v1.cb v2.cb p1.barriers p2.barriers _ q3 H1.out.lb H2.out.lb H1.out.rb H2.out.rb).mono ?_
      rintro e w3 ⟨rfl,d⟩
      rw[D2.out]
      have bd:=below_of_drewN (B:=w2.heap.size) d
      replace kA:=kA.below bd
      replace kB:=kB.below bd
      replace H1:=xH1 (H1.out.below bd)
      replace H2:=xH1 (H2.out.below bd)
      replace HB:=xH1 (HB.out.trans (bd.mono HB.out.size))
      clear bd d
      clear e0 z0 e1 z1 e2 z2 e3 z3 e4 z4
      have e0:=kA.cell 0 rfl
      have e1:=kA.cell 1 rfl
      have e2:=kA.cell 2 rfl
      have e3:=kA.cell 3 rfl
      have e4:=kA.cell 4 rfl
      have z0:=kB.cell 0 rfl
      have z1:=kB.cell 1 rfl
      have z2:=kB.cell 2 rfl
      have z3:=kB.cell 3 rfl
      have z4:=kB.cell 4 rfl
      go_wp2_with fail
      refine(slicesInts_any v1.r v2.r v1.nr v2.nr v1.cr v2.cr p1.rooms p2.rooms _ q4 H1.out.lr H2.out.lr H1.out.rr H2.out.rr).mono ?_
      rintro e w4 ⟨rfl,d⟩
      rw[D3.out]
      have bd:=below_of_drewN (B:=w3.heap.size) d
      replace kA:=kA.below bd
      replace kB:=kB.below bd
      replace H1:=xH1 (H1.out.below bd)
      replace H2:=xH1 (H2.out.below bd)
      replace HB:=xH1 (HB.out.trans (bd.mono HB.out.size))
      clear bd d
      clear e0 z0 e1 z1 e2 z2 e3 z3 e4 z4
      have e0:=kA.cell 0 rfl
      have e1:=kA.cell 1 rfl
      have e2:=kA.cell 2 rfl
      have e3:=kA.cell 3 rfl
      have e4:=kA.cell 4 rfl
      have z0:=kB.cell 0 rfl
      have z1:=kB.cell 1 rfl
      have z2:=kB.cell 2 rfl
      have z3:=kB.cell 3 rfl
      have z4:=kB.cell 4 rfl
      go_wp2_with fail
      obtain⟨vs,hvs⟩:=H1.out.rt
      obtain⟨us,hus⟩:=H2.out.rt
      refine(equalThreads_any v1.t v2.t v1.nt v2.nt v1.ct v2.ct p1.threads p2.threads vs us _ qt H1.out.lt H2.out.lt hvs hus HZ.out.inn).mono ?_
      rintro e w5 ⟨rfl,d⟩
      rw[D4.out]
      have bd:=below_of_drewN (B:=w4.heap.size) d
      replace kA:=kA.below bd
      replace kB:=kB.below bd
      replace H1:=xH1 (H1.out.below bd)
      replace H2:=xH1 (H2.out.below bd)
      replace HB:=xH1 (HB.out.trans (bd.mono HB.out.size))
      clear bd d
      clear e0 z0 e1 z1 e2 z2 e3 z3 e4 z4
      have e0:=kA.cell 0 rfl
      have e1:=kA.cell 1 rfl
      have e2:=kA.cell 2 rfl
      have e3:=kA.cell 3 rfl
      have e4:=kA.cell 4 rfl
      have z0:=kB.cell 0 rfl
      have z1:=kB.cell 1 rfl
      have z2:=kB.cell 2 rfl
      have z3:=kB.cell 3 rfl
      have z4:=kB.cell 4 rfl
      go_wp2
      go_ret
      exact⟨ret_bool (decide_eq_true (by cases p1;cases p2;simp only[Pg.mk.injEq];exact⟨C0.out,C1.out,C2.out,C3.out,C4.out⟩)).symm,HB.out⟩
     ·have d0:decide (p1.sems=p2.sems)=true:=by simpa using c0
      have d1:decide (p1.groups=p2.groups)=true:=by simpa using c1
      have d2:decide (p1.barriers=p2.barriers)=true:=by simpa using c2
      have d3:decide (p1.rooms=p2.rooms)=true:=by simpa using c3
      have d4:decide (p1.threads=p2.threads)=false:=by simpa using c4
      have D0:=xH1 d0
      have D1:=xH1 d1
      have D2:=xH1 d2
      have D3:=xH1 d3
      have D4:=xH1 d4
      clear d0 d1 d2 d3 d4
      have C0:=xH1 c0
      have C1:=xH1 c1
      have C2:=xH1 c2
      have C3:=xH1 c3
      have C4:=xH1 c4
      clear c0 c1 c2 c3 c4
      go_enter Tryz.func7,Tryz.ntmps7
      go_wp2_with fail
      rw[←hW0]
      refine(slicesInts_any v1.s v2.s v1.ns v2.ns v1.cs v2.cs p1.sems p2.sems _ q1 H1.out.ls H2.out.ls H1.out.rs H2.out.rs).mono ?_
      rintro e w1 ⟨rfl,d⟩
      rw[D0.out]
      have bd:=below_of_drewN (B:=W0.heap.size) d
      replace kA:=kA.below bd
      replace kB:=kB.below bd
      replace H1:=xH1 (H1.out.below bd)
      replace H2:=xH1 (H2.out.below bd)
      replace HB:=xH1 (HB.out.trans (bd.mono HB.out.size))
      clear bd d hW0
      have e0:=kA.cell 0 rfl
      have e1:=kA.cell 1 rfl
      have e2:=kA.cell 2 rfl
      have e3:=kA.cell 3 rfl
      have e4:=kA.cell 4 rfl
      have z0:=kB.cell 0 rfl
      have z1:=kB.cell 1 rfl
      have z2:=kB.cell 2 rfl
      have z3:=kB.cell 3 rfl
      have z4:=kB.cell 4 rfl
      go_wp2_with fail
      refine(slicesInts_any v1.g v2.g v1.ng v2.ng v1.cg v2.cg p1.groups p2.groups _ q2 H1.out.lg H2.out.lg H1.out.rg H2.out.rg).mono ?_
      rintro e w2 ⟨rfl,d⟩
      rw[D1.out]
      have bd:=below_of_drewN (B:=w1.heap.size) d
      replace kA:=kA.below bd
      replace kB:=kB.below bd
      replace H1:=xH1 (H1.out.below bd)
      replace H2:=xH1 (H2.out.below bd)
      replace HB:=xH1 (HB.out.trans (bd.mono HB.out.size))
      clear bd d
      clear e0 z0 e1 z1 e2 z2 e3 z3 e4 z4
      have e0:=kA.cell 0 rfl
      have e1:=kA.cell 1 rfl
      have e2:=kA.cell 2 rfl
      have e3:=kA.cell 3 rfl
      have e4:=kA.cell 4 rfl
      have z0:=kB.cell 0 rfl
      have z1:=kB.cell 1 rfl
      have z2:=kB.cell 2 rfl
      have z3:=kB.cell 3 rfl
      have z4:=kB.cell 4 rfl
      go_wp2_with fail
      refine(slicesInts_any v1.b v2.b v1.nb v2.nb v1.cb v2.cb p1.barriers p2.barriers _ q3 H1.out.lb H2.out.lb H1.out.rb H2.out.rb).mono ?_
      rintro e w3 ⟨rfl,d⟩
      rw[D2.out]
      have bd:=below_of_drewN (B:=w2.heap.size) d
      replace kA:=kA.below bd
      replace kB:=kB.below bd
      replace H1:=xH1 (H1.out.below bd)
      replace H2:=xH1 (H2.out.below bd)
      replace HB:=xH1 (HB.out.trans (bd.mono HB.out.size))
      clear bd d
      clear e0 z0 e1 z1 e2 z2 e3 z3 e4 z4
      have e0:=kA.cell 0 rfl
      have e1:=kA.cell 1 rfl
      have e2:=kA.cell 2 rfl
      have e3:=kA.cell 3 rfl
      have e4:=kA.cell 4 rfl
      have z0:=kB.cell 0 rfl
      have z1:=kB.cell 1 rfl
      have z2:=kB.cell 2 rfl
      have z3:=kB.cell 3 rfl
      have z4:=kB.cell 4 rfl
      go_wp2_with fail
      refine(slicesInts_any v1.r v2.r v1.nr v2.nr v1.cr v2.cr p1.rooms p2.rooms _ q4 H1.out.lr H2.out.lr H1.out.rr H2.out.rr).mono ?_
      rintro e w4 ⟨rfl,d⟩
      rw[D3.out]
      have bd:=below_of_drewN (B:=w3.heap.size) d
      replace kA:=kA.below bd
      replace kB:=kB.below bd
      replace H1:=xH1 (H1.out.below bd)
      replace H2:=xH1 (H2.out.below bd)
      replace HB:=xH1 (HB.out.trans (bd.mono HB.out.size))
      clear bd d
      clear e0 z0 e1 z1 e2 z2 e3 z3 e4 z4
      have e0:=kA.cell 0 rfl
      have e1:=kA.cell 1 rfl
      have e2:=kA.cell 2 rfl
      have e3:=kA.cell 3 rfl
      have e4:=kA.cell 4 rfl
      have z0:=kB.cell 0 rfl
      have z1:=kB.cell 1 rfl
      have z2:=kB.cell 2 rfl
      have z3:=kB.cell 3 rfl
      have z4:=kB.cell 4 rfl
      go_wp2_with fail
      obtain⟨vs,hvs⟩:=H1.out.rt
      obtain⟨us,hus⟩:=H2.out.rt
      refine(equalThreads_any v1.t v2.t v1.nt v2.nt v1.ct v2.ct p1.threads p2.threads vs us _ qt H1.out.lt H2.out.lt hvs hus HZ.out.inn).mono ?_
      rintro e w5 ⟨rfl,d⟩
      rw[D4.out]
      have bd:=below_of_drewN (B:=w4.heap.size) d
      replace kA:=kA.below bd
      replace kB:=kB.below bd
      replace H1:=xH1 (H1.out.below bd)
      replace H2:=xH1 (H2.out.below bd)
      replace HB:=xH1 (HB.out.trans (bd.mono HB.out.size))
      clear bd d
      clear e0 z0 e1 z1 e2 z2 e3 z3 e4 z4
      have e0:=kA.cell 0 rfl
      have e1:=kA.cell 1 rfl
      have e2:=kA.cell 2 rfl
      have e3:=kA.cell 3 rfl
      have e4:=kA.cell 4 rfl
      have z0:=kB.cell 0 rfl
      have z1:=kB.cell 1 rfl
      have z2:=kB.cell 2 rfl
      have z3:=kB.cell 3 rfl
      have z4:=kB.cell 4 rfl
      go_wp2
      go_ret
      exact⟨ret_bool (decide_eq_false (fun e=>C4.out (by rw[e]))).symm,HB.out⟩
    ·have d0:decide (p1.sems=p2.sems)=true:=by simpa using c0
     have d1:decide (p1.groups=p2.groups)=true:=by simpa using c1
     have d2:decide (p1.barriers=p2.barriers)=true:=by simpa using c2
     have d3:decide (p1.rooms=p2.rooms)=false:=by simpa using c3
     have D0:=xH1 d0
     have D1:=xH1 d1
     have D2:=xH1 d2
     have D3:=xH1 d3
     clear d0 d1 d2 d3
     have C0:=xH1 c0
     have C1:=xH1 c1
     have C2:=xH1 c2
     have C3:=xH1 c3
     clear c0 c1 c2 c3
     go_enter Tryz.func7,Tryz.ntmps7
     go_wp2_with fail
     rw[←hW0]
     refine(slicesInts_any v1.s v2.s v1.ns v2.ns v1.cs v2.cs p1.sems p2.sems _ q1 H1.out.ls H2.out.ls H1.out.rs H2.out.rs).mono ?_
     rintro e w1 ⟨rfl,d⟩
     rw[D0.out]
     have bd:=below_of_drewN (B:=W0.heap.size) d
     replace kA:=kA.below bd
     replace kB:=kB.below bd
     replace H1:=xH1 (H1.out.below bd)
     replace H2:=xH1 (H2.out.below bd)
     replace HB:=xH1 (HB.out.trans (bd.mono HB.out.size))
     clear bd d hW0
     have e0:=kA.cell 0 rfl
     have e1:=kA.cell 1 rfl
     have e2:=kA.cell 2 rfl
     have e3:=kA.cell 3 rfl
     have e4:=kA.cell 4 rfl
     have z0:=kB.cell 0 rfl
     have z1:=kB.cell 1 rfl
     have z2:=kB.cell 2 rfl
     have z3:=kB.cell 3 rfl
     have z4:=kB.cell 4 rfl
     go_wp2_with fail
     refine(slicesInts_any v1.g v2.g v1.ng v2.ng v1.cg v2.cg p1.groups p2.groups _ q2 H1.out.lg H2.out.lg H1.out.rg H2.out.rg).mono ?_
     rintro e w2 ⟨rfl,d⟩
     rw[D1.out]
     have bd:=below_of_drewN (B:=w1.heap.size) d
     replace kA:=kA.below bd
     replace kB:=kB.below bd
     replace H1:=xH1 (H1.out.below bd)
     replace H2:=xH1 (H2.out.below bd)
     replace HB:=xH1 (HB.out.trans (bd.mono HB.out.size))
     clear bd d
     clear e0 z0 e1 z1 e2 z2 e3 z3 e4 z4
     have e0:=kA.cell 0 rfl
     have e1:=kA.cell 1 rfl
     have e2:=kA.cell 2 rfl
     have e3:=kA.cell 3 rfl
     have e4:=kA.cell 4 rfl
     have z0:=kB.cell 0 rfl
     have z1:=kB.cell 1 rfl
     have z2:=kB.cell 2 rfl
     have z3:=kB.cell 3 rfl
     have z4:=kB.cell 4 rfl
     go_wp2_with fail
     refine(slicesInts_any v1.b v2.b v1.nb v2.nb v1.cb v2.cb p1.barriers p2.barriers _ q3 H1.out.lb H2.out.lb H1.out.rb H2.out.rb).mono ?_
     rintro e w3 ⟨rfl,d⟩
     rw[D2.out]
     have bd:=below_of_drewN (B:=w2.heap.size) d
     replace kA:=kA.below bd
     replace kB:=kB.below bd
     replace H1:=xH1 (H1.out.below bd)
     replace H2:=xH1 (H2.out.below bd)
     replace HB:=xH1 (HB.out.trans (bd.mono HB.out.size))
     clear bd d
     clear e0 z0 e1 z1 e2 z2 e3 z3 e4 z4
     have e0:=kA.cell 0 rfl
     have e1:=kA.cell 1 rfl
     have e2:=kA.cell 2 rfl
     have e3:=kA.cell 3 rfl
     have e4:=kA.cell 4 rfl
     have z0:=kB.cell 0 rfl
     have z1:=kB.cell 1 rfl
     have z2:=kB.cell 2 rfl
     have z3:=kB.cell 3 rfl
     have z4:=kB.cell 4 rfl
     go_wp2_with fail
     refine(slicesInts_any v1.r v2.r v1.nr v2.nr v1.cr v2.cr p1.rooms p2.rooms _ q4 H1.out.lr H2.out.lr H1.out.rr H2.out.rr).mono ?_
     rintro e w4 ⟨rfl,d⟩
     rw[D3.out]
     have bd:=below_of_drewN (B:=w3.heap.size) d
     replace kA:=kA.below bd
     replace kB:=kB.below bd
     replace H1:=xH1 (H1.out.below bd)
     replace H2:=xH1 (H2.out.below bd)
     replace HB:=xH1 (HB.out.trans (bd.mono HB.out.size))
     clear bd d
     clear e0 z0 e1 z1 e2 z2 e3 z3 e4 z4
     have e0:=kA.cell 0 rfl
     have e1:=kA.cell 1 rfl
     have e2:=kA.cell 2 rfl
     have e3:=kA.cell 3 rfl
     have e4:=kA.cell 4 rfl
     have z0:=kB.cell 0 rfl
     have z1:=kB.cell 1 rfl
     have z2:=kB.cell 2 rfl
     have z3:=kB.cell 3 rfl
     have z4:=kB.cell 4 rfl
     go_wp2
     go_ret
     exact⟨ret_bool (decide_eq_false (fun e=>C3.out (by rw[e]))).symm,HB.out⟩
   ·have d0:decide (p1.sems=p2.sems)=true:=by simpa using c0
    have d1:decide (p1.groups=p2.groups)=true:=by simpa using c1
    have d2:decide (p1.barriers=p2.barriers)=false:=by simpa using c2
    have D0:=xH1 d0
    have D1:=xH1 d1
    have D2:=xH1 d2
    clear d0 d1 d2
    have C0:=xH1 c0
    have C1:=xH1 c1
    have C2:=xH1 c2
    clear c0 c1 c2
    go_enter Tryz.func7,Tryz.ntmps7
    go_wp2_with fail
    rw[←hW0]
    refine(slicesInts_any v1.s v2.s v1.ns v2.ns v1.cs v2.cs p1.sems p2.sems _ q1 H1.out.ls H2.out.ls H1.out.rs H2.out.rs).mono ?_
    rintro e w1 ⟨rfl,d⟩
    rw[D0.out]
    have bd:=below_of_drewN (B:=W0.heap.size) d
    replace kA:=kA.below bd
    replace kB:=kB.below bd
    replace H1:=xH1 (H1.out.below bd)
    replace H2:=xH1 (H2.out.below bd)
    replace HB:=xH1 (HB.out.trans (bd.mono HB.out.size))
    clear bd d hW0
    have e0:=kA.cell 0 rfl
    have e1:=kA.cell 1 rfl
    have e2:=kA.cell 2 rfl
    have e3:=kA.cell 3 rfl
    have e4:=kA.cell 4 rfl
    have z0:=kB.cell 0 rfl
    have z1:=kB.cell 1 rfl
    have z2:=kB.cell 2 rfl
    have z3:=kB.cell 3 rfl
    have z4:=kB.cell 4 rfl
    go_wp2_with fail
    refine(slicesInts_any v1.g v2.g v1.ng v2.ng v1.cg v2.cg p1.groups p2.groups _ q2 H1.out.lg H2.out.lg H1.out.rg H2.out.rg).mono ?_
    rintro e w2 ⟨rfl,d⟩
    rw[D1.out]
    have bd:=below_of_drewN (B:=w1.heap.size) d
    replace kA:=kA.below bd
    replace kB:=kB.below bd
    replace H1:=xH1 (H1.out.below bd)
    replace H2:=xH1 (H2.out.below bd)
    replace HB:=xH1 (HB.out.trans (bd.mono HB.out.size))
    clear bd d
    clear e0 z0 e1 z1 e2 z2 e3 z3 e4 z4
    have e0:=kA.cell 0 rfl
    have e1:=kA.cell 1 rfl
    have e2:=kA.cell 2 rfl
    have e3:=kA.cell 3 rfl
    have e4:=kA.cell 4 rfl
    have z0:=kB.cell 0 rfl
    have z1:=kB.cell 1 rfl
    have z2:=kB.cell 2 rfl
    have z3:=kB.cell 3 rfl
    have z4:=kB.cell 4 rfl
    go_wp2_with fail
    refine(slicesInts_any v1.b v2.b v1.nb v2.nb v1.cb v2.cb p1.barriers p2.barriers _ q3 H1.out.lb H2.out.lb H1.out.rb H2.out.rb).mono ?_
    rintro e w3 ⟨rfl,d⟩
    rw[D2.out]
    have bd:=below_of_drewN (B:=w2.heap.size) d
    replace kA:=kA.below bd
    replace kB:=kB.below bd
    replace H1:=xH1 (H1.out.below bd)
    replace H2:=xH1 (H2.out.below bd)
    replace HB:=xH1 (HB.out.trans (bd.mono HB.out.size))
    clear bd d
    clear e0 z0 e1 z1 e2 z2 e3 z3 e4 z4
    have e0:=kA.cell 0 rfl
    have e1:=kA.cell 1 rfl
    have e2:=kA.cell 2 rfl
    have e3:=kA.cell 3 rfl
    have e4:=kA.cell 4 rfl
    have z0:=kB.cell 0 rfl
    have z1:=kB.cell 1 rfl
    have z2:=kB.cell 2 rfl
    have z3:=kB.cell 3 rfl
    have z4:=kB.cell 4 rfl
    go_wp2
    go_ret
    exact⟨ret_bool (decide_eq_false (fun e=>C2.out (by rw[e]))).symm,HB.out⟩
  ·have d0:decide (p1.sems=p2.sems)=true:=by simpa using c0
   have d1:decide (p1.groups=p2.groups)=false:=by simpa using c1
   have D0:=xH1 d0
   have D1:=xH1 d1
   clear d0 d1
   have C0:=xH1 c0
   have C1:=xH1 c1
   clear c0 c1
   go_enter Tryz.func7,Tryz.ntmps7
   go_wp2_with fail
   rw[←hW0]
   refine(slicesInts_any v1.s v2.s v1.ns v2.ns v1.cs v2.cs p1.sems p2.sems _ q1 H1.out.ls H2.out.ls H1.out.rs H2.out.rs).mono ?_
   rintro e w1 ⟨rfl,d⟩
   rw[D0.out]
   have bd:=below_of_drewN (B:=W0.heap.size) d
   replace kA:=kA.below bd
   replace kB:=kB.below bd
   replace H1:=xH1 (H1.out.below bd)
   replace H2:=xH1 (H2.out.below bd)
   replace HB:=xH1 (HB.out.trans (bd.mono HB.out.size))
   clear bd d hW0
   have e0:=kA.cell 0 rfl
   have e1:=kA.cell 1 rfl
   have e2:=kA.cell 2 rfl
   have e3:=kA.cell 3 rfl
   have e4:=kA.cell 4 rfl
   have z0:=kB.cell 0 rfl
   have z1:=kB.cell 1 rfl
   have z2:=kB.cell 2 rfl
   have z3:=kB.cell 3 rfl
   have z4:=kB.cell 4 rfl
   go_wp2_with fail
   refine(slicesInts_any v1.g v2.g v1.ng v2.ng v1.cg v2.cg p1.groups p2.groups _ q2 H1.out.lg H2.out.lg H1.out.rg H2.out.rg).mono ?_
   rintro e w2 ⟨rfl,d⟩
   rw[D1.out]
   have bd:=below_of_drewN (B:=w1.heap.size) d
   replace kA:=kA.below bd
   replace kB:=kB.below bd
   replace H1:=xH1 (H1.out.below bd)
   replace H2:=xH1 (H2.out.below bd)
   replace HB:=xH1 (HB.out.trans (bd.mono HB.out.size))
   clear bd d
   clear e0 z0 e1 z1 e2 z2 e3 z3 e4 z4
   have e0:=kA.cell 0 rfl
   have e1:=kA.cell 1 rfl
   have e2:=kA.cell 2 rfl
   have e3:=kA.cell 3 rfl
   have e4:=kA.cell 4 rfl
   have z0:=kB.cell 0 rfl
   have z1:=kB.cell 1 rfl
   have z2:=kB.cell 2 rfl
   have z3:=kB.cell 3 rfl
   have z4:=kB.cell 4 rfl
   go_wp2
   go_ret
   exact⟨ret_bool (decide_eq_false (fun e=>C1.out (by rw[e]))).symm,HB.out⟩
 ·have d0:decide (p1.sems=p2.sems)=false:=by simpa using c0
  have D0:=xH1 d0
  clear d0
  have C0:=xH1 c0
  clear c0
  go_enter Tryz.func7,Tryz.ntmps7
  go_wp2_with fail
  rw[←hW0]
  refine(slicesInts_any v1.s v2.s v1.ns v2.ns v1.cs v2.cs p1.sems p2.sems _ q1 H1.out.ls H2.out.ls H1.out.rs H2.out.rs).mono ?_
  rintro e w1 ⟨rfl,d⟩
  rw[D0.out]
  have bd:=below_of_drewN (B:=W0.heap.size) d
  replace kA:=kA.below bd
  replace kB:=kB.below bd
  replace H1:=xH1 (H1.out.below bd)
  replace H2:=xH1 (H2.out.below bd)
  replace HB:=xH1 (HB.out.trans (bd.mono HB.out.size))
  clear bd d hW0
  have e0:=kA.cell 0 rfl
  have e1:=kA.cell 1 rfl
  have e2:=kA.cell 2 rfl
  have e3:=kA.cell 3 rfl
  have e4:=kA.cell 4 rfl
  have z0:=kB.cell 0 rfl
  have z1:=kB.cell 1 rfl
  have z2:=kB.cell 2 rfl
  have z3:=kB.cell 3 rfl
  have z4:=kB.cell 4 rfl
  go_wp2
  go_ret
  exact⟨ret_bool (decide_eq_false (fun e=>C0.out (by rw[e]))).symm,HB.out⟩
theorem clone_any (v:PV) (p:Pg) (w:World) (hr:RdP w v p) (hz:Small v p) (hne:0<p.threads.length):
  Calls Tryz.prog 37 #[.agg #[.slice v.s v.ns v.cs,.slice v.g v.ng v.cg,.slice v.b v.nb v.cb,.slice v.r v.nr v.cr,.slice v.t v.nt v.ct]] w fun e w'=>∃(u:PV) (us:List Value),e= .returned (.agg #[.slice u.s u.ns u.cs,.slice u.g u.ng u.cg,.slice u.b u.nb u.cb,.slice u.r u.nr u.cr,.slice u.t u.nt u.ct])∧OwnP w' u us p.cells∧(fpP u us).Nodup∧(∀k∈fpP u us,w.heap.size≤k)∧Below w.heap.size w w':=by
 have hs:v.ns≤maxLen∧v.ng≤maxLen∧v.nb≤maxLen∧v.nr≤maxLen:=by
  obtain⟨z1,z2,z3,z4,z5,z6⟩:=hz;unfold maxLen;omega
 have zz:Hid (v.ns≤maxLen∧v.ng≤maxLen∧v.nb≤maxLen∧v.nr≤maxLen):=xH1 hs
 have HZ:=xH1 hz
 have z5:v.nt≤1048576:=hz.lt
 have Z6:=xH1 hz.inn
 have ls:=xH1 hr.ls
 have lg:=xH1 hr.lg
 have lb:=xH1 hr.lb
 have lr:=xH1 hr.lr
 have lt:=xH1 hr.lt
 clear hz
 have B0:Below w.heap.size w (w.alloc (.cells #[.slice v.s v.ns v.cs,.slice v.g v.ng v.cg,.slice v.b v.nb v.cb,.slice v.r v.nr v.cr,.slice v.t v.nt v.ct] 26)):=xA1
 have k0:Blk (w.alloc (.cells #[.slice v.s v.ns v.cs,.slice v.g v.ng v.cg,.slice v.b v.nb v.cb,.slice v.r v.nr v.cr,.slice v.t v.nt v.ct] 26)) w.heap.size #[.slice v.s v.ns v.cs,.slice v.g v.ng v.cg,.slice v.b v.nb v.cb,.slice v.r v.nr v.cr,.slice v.t v.nt v.ct] 26:=Blk.new _ _ _
 have q0:(w.alloc (.cells #[.slice v.s v.ns v.cs,.slice v.g v.ng v.cg,.slice v.b v.nb v.cb,.slice v.r v.nr v.cr,.slice v.t v.nt v.ct] 26)).cell? ⟨w.heap.size,0,none⟩=some (.slice v.s v.ns v.cs):=k0.cell 0 rfl
 have q1:(w.alloc (.cells #[.slice v.s v.ns v.cs,.slice v.g v.ng v.cg,.slice v.b v.nb v.cb,.slice v.r v.nr v.cr,.slice v.t v.nt v.ct] 26)).cell? ⟨w.heap.size,1,none⟩=some (.slice v.g v.ng v.cg):=k0.cell 1 rfl
 have q2:(w.alloc (.cells #[.slice v.s v.ns v.cs,.slice v.g v.ng v.cg,.slice v.b v.nb v.cb,.slice v.r v.nr v.cr,.slice v.t v.nt v.ct] 26)).cell? ⟨w.heap.size,2,none⟩=some (.slice v.b v.nb v.cb):=k0.cell 2 rfl
 have q3:(w.alloc (.cells #[.slice v.s v.ns v.cs,.slice v.g v.ng v.cg,.slice v.b v.nb v.cb,.slice v.r v.nr v.cr,.slice v.t v.nt v.ct] 26)).cell? ⟨w.heap.size,3,none⟩=some (.slice v.r v.nr v.cr):=k0.cell 3 rfl
 have q4:(w.alloc (.cells #[.slice v.s v.ns v.cs,.slice v.g v.ng v.cg,.slice v.b v.nb v.cb,.slice v.r v.nr v.cr,.slice v.t v.nt v.ct] 26)).cell? ⟨w.heap.size,4,none⟩=some (.slice v.t v.nt v.ct):=k0.cell 4 rfl
 clear k0
 have zs:v.ns≤1048576:=HZ.out.ls
 have zg:v.ng≤1048576:=HZ.out.lg
 have zb:v.nb≤1048576:=HZ.out.lb
 have zr:v.nr≤1048576:=HZ.out.lr
 have Hs:Hid ((ints p.sems).length=v.ns*1):=xH1 (by simp[ls.out])
 have Hg:Hid ((ints p.groups).length=v.ng*1):=xH1 (by simp[lg.out])
 have Hb:Hid ((ints p.barriers).length=v.nb*1):=xH1 (by simp[lb.out])
 have Hr:Hid ((ints p.rooms).length=v.nr*1):=xH1 (by simp[lr.out])
 go_enter Tryz.func37,Tryz.ntmps37
 go_wp2
 obtain⟨W0,hW0⟩:∃W0:World,W0=(w.alloc (.cells #[.slice v.s v.ns v.cs,.slice v.g v.ng v.cg,.slice v.b v.nb v.cb,.slice v.r v.nr v.cr,.slice v.t v.nt v.ct] 26)):=⟨_,rfl⟩
 have hw0s:W0.heap.size=w.heap.size+1:=by rw[hW0];simp
 have HW0:=xH1 hw0s
 clear hw0s
 rw[←hW0] at B0 q0 q1 q2 q3 q4⊢
 clear hW0
 obtain⟨W1,hW1⟩:∃W1:World,W1=W0.alloc (.cells #[.slice none 0 0,.slice none 0 0,.slice none 0 0,.slice none 0 0,.slice none 0 0] 26):=⟨_,rfl⟩
 have b1:Below W0.heap.size W0 (W0.alloc (.cells #[.slice none 0 0,.slice none 0 0,.slice none 0 0,.slice none 0 0,.slice none 0 0] 26)):=xA1
 have kR:Blk (W0.alloc (.cells #[.slice none 0 0,.slice none 0 0,.slice none 0 0,.slice none 0 0,.slice none 0 0] 26)) (w.heap.size+1) #[.slice none 0 0,.slice none 0 0,.slice none 0 0,.slice none 0 0,.slice none 0 0] 26:=by rw[←HW0.out];exact Blk.new _ _ _
 rw[←hW1] at b1 kR⊢
 have hr1:=kR.lt
 clear hW1
 replace q0:=keepc b1 q0
 replace q1:=keepc b1 q1
 replace q2:=keepc b1 q2
 replace q3:=keepc b1 q3
 replace q4:=keepc b1 q4
 replace B0:=B0.trans (b1.mono B0.size)
 clear b1
 refine wp_region_fresh 14 (by kernel_rfl) (by kernel_rfl) [fun dz uz wz=>uz= .pointer (some ⟨w.heap.size,0,none⟩),fun dz uz wz=>uz= .slice v.s v.ns v.cs,fun dz uz wz=>∃(az:Option Addr) (cz:Nat),uz= .slice az v.ns cz∧wz.ownsRow W1.heap.size 3 1 (.slice az v.ns cz) v.ns (ints p.sems),fun dz uz wz=>uz= .pointer (some ⟨w.heap.size,1,none⟩),fun dz uz wz=>uz= .slice v.g v.ng v.cg,fun dz uz wz=>∃(az:Option Addr) (cz:Nat),uz= .slice az v.ng cz∧wz.ownsRow W1.heap.size 3 1 (.slice az v.ng cz) v.ng (ints p.groups),fun dz uz wz=>uz= .pointer (some ⟨w.heap.size,2,none⟩),fun dz uz wz=>uz= .slice v.b v.nb v.cb,fun dz uz wz=>∃(az:Option Addr) (cz:Nat),uz= .slice az v.nb cz∧wz.ownsRow W1.heap.size 3 1 (.slice az v.nb cz) v.nb (ints p.barriers),fun dz uz wz=>uz= .pointer (some ⟨w.heap.size,3,none⟩),fun dz uz wz=>uz= .slice v.r v.nr v.cr,fun dz uz wz=>∃(az:Option Addr) (cz:Nat),uz= .slice az v.nr cz∧wz.ownsRow W1.heap.size 3 1 (.slice az v.nr cz) v.nr (ints p.rooms),fun dz uz wz=>uz=Value.agg #[(dz.getD 0 undef),(dz.getD 1 undef),(dz.getD 2 undef),(dz.getD 3 undef),.slice none 0 0],fun dz uz wz=>∃gz:Nat,uz= .pointer (some ⟨gz,0,none⟩)∧Blk wz gz #[.slice none 0 0,.slice none 0 0,.slice none 0 0,.slice none 0 0,.slice none 0 0] 26∧W1.heap.size≤gz] (fun i=>match i with|2=>Value.ownBlock|5=>Value.ownBlock|8=>Value.ownBlock|11=>Value.ownBlock|13=>ptBk|_=>fun _=>none) (fun w'=>Below W1.heap.size W1 w') xB1.drew (stab_of ⟨fun _ _ _ _ _ h=>h,fun _ _ _ _ _ h=>h,fun _ _ _ _ hb ⟨a,c,e,h⟩=>⟨a,c,e,owns_below h hb⟩,fun _ _ _ _ _ h=>h,fun _ _ _ _ _ h=>h,fun _ _ _ _ hb ⟨a,c,e,h⟩=>⟨a,c,e,owns_below h hb⟩,fun _ _ _ _ _ h=>h,fun _ _ _ _ _ h=>h,fun _ _ _ _ hb ⟨a,c,e,h⟩=>⟨a,c,e,owns_below h hb⟩,fun _ _ _ _ _ h=>h,fun _ _ _ _ _ h=>h,fun _ _ _ _ hb ⟨a,c,e,h⟩=>⟨a,c,e,owns_below h hb⟩,fun _ _ _ _ _ h=>h,fun _ _ _ _ hb ⟨g,e,h,hs⟩=>⟨g,e,h.below hb,hs⟩,trivial⟩) ?_ ?_
 ·simp only[List.take_succ_cons,List.take_zero]
  refine⟨?_,?_,?_,?_,?_,?_,?_,?_,?_,?_,?_,?_,?_,?_,trivial⟩
  ·intro ρ w1 hG hfr hd
   obtain⟨fc,ff⟩:=xF1 hfr
   have f1:ρ (.tmp 1)= .pointer (some ⟨w.heap.size,0,none⟩):=hfr _ rfl
   refine gives_val (u:= .pointer (some ⟨w.heap.size,0,none⟩)) (w':=w1) (by go_simp) ⟨Below.refl _ _,rfl,xN1,hG⟩
  ·intro ρ w1 hG hfr hd
   obtain⟨fc,ff⟩:=xF1 hfr
   obtain⟨d0,-⟩:=hd
   have d0:(ρ (.tmp 6))= .pointer (some ⟨w.heap.size,0,none⟩):=d0
   have q0:=keepc hG q0
   refine gives_val (u:= .slice v.s v.ns v.cs) (w':=w1) (by go_simp) ⟨Below.refl _ _,rfl,xN1,hG⟩
  ·intro ρ w1 hG hfr hd
   obtain⟨fc,ff⟩:=xF1 hfr
   obtain⟨d0,-⟩:=hd
   have d0:(ρ (.tmp 7))= .slice v.s v.ns v.cs:=d0
   refine gives_call (by go_simp;exact⟨⟨rfl,rfl⟩,rfl⟩) ?_
   refine(implCloneInts_any v.s v.ns v.cs p.sems _ ls.out (by omega) (hr.rs.below (B0.trans (hG.mono B0.size)))).mono ?_
   rintro e w2 ⟨a,c,rfl,hown,hb⟩
   exact⟨_,rfl,hb,⟨a,c,rfl,owns_mono hown hG.size⟩,hown.lt,hG.trans (hb.mono hG.size)⟩
  ·intro ρ w1 hG hfr hd
   obtain⟨fc,ff⟩:=xF1 hfr
   have f1:ρ (.tmp 1)= .pointer (some ⟨w.heap.size,0,none⟩):=hfr _ rfl
   refine gives_val (u:= .pointer (some ⟨w.heap.size,1,none⟩)) (w':=w1) (by go_simp) ⟨Below.refl _ _,rfl,xN1,hG⟩
  ·intro ρ w1 hG hfr hd
   obtain⟨fc,ff⟩:=xF1 hfr
   obtain⟨d0,-⟩:=hd
   have d0:(ρ (.tmp 9))= .pointer (some ⟨w.heap.size,1,none⟩):=d0
   have q1:=keepc hG q1
   refine gives_val (u:= .slice v.g v.ng v.cg) (w':=w1) (by go_simp) ⟨Below.refl _ _,rfl,xN1,hG⟩
  ·intro ρ w1 hG hfr hd
   obtain⟨fc,ff⟩:=xF1 hfr
   obtain⟨d0,d1,-⟩:=hd
   have d0:(ρ (.tmp 10))= .slice v.g v.ng v.cg:=d0
   have d1:∃(az:Option Addr) (cz:Nat),(ρ (.tmp 8))= .slice az v.ns cz∧w1.ownsRow W1.heap.size 3 1 (.slice az v.ns cz) v.ns (ints p.sems):=d1
   refine gives_call (by go_simp;exact⟨⟨rfl,rfl⟩,rfl⟩) ?_
   refine(implCloneInts_any v.g v.ng v.cg p.groups _ lg.out (by omega) (hr.rg.below (B0.trans (hG.mono B0.size)))).mono ?_
   rintro e w2 ⟨a,c,rfl,hown,hb⟩
   exact⟨_,rfl,hb,⟨a,c,rfl,owns_mono hown hG.size⟩,hown.lt,hG.trans (hb.mono hG.size)⟩
  ·intro ρ w1 hG hfr hd
   obtain⟨fc,ff⟩:=xF1 hfr
   have f1:ρ (.tmp 1)= .pointer (some ⟨w.heap.size,0,none⟩):=hfr _ rfl
   refine gives_val (u:= .pointer (some ⟨w.heap.size,2,none⟩)) (w':=w1) (by go_simp) ⟨Below.refl _ _,rfl,xN1,hG⟩
  ·intro ρ w1 hG hfr hd
   obtain⟨fc,ff⟩:=xF1 hfr
   obtain⟨d0,-⟩:=hd
   have d0:(ρ (.tmp 12))= .pointer (some ⟨w.heap.size,2,none⟩):=d0
   have q2:=keepc hG q2
   refine gives_val (u:= .slice v.b v.nb v.cb) (w':=w1) (by go_simp) ⟨Below.refl _ _,rfl,xN1,hG⟩
  ·intro ρ w1 hG hfr hd
   obtain⟨fc,ff⟩:=xF1 hfr
   obtain⟨d0,d1,-⟩:=hd
   have d0:(ρ (.tmp 13))= .slice v.b v.nb v.cb:=d0
   have d1:∃(az:Option Addr) (cz:Nat),(ρ (.tmp 11))= .slice az v.ng cz∧w1.ownsRow W1.heap.size 3 1 (.slice az v.ng cz) v.ng (ints p.groups):=d1
   refine gives_call (by go_simp;exact⟨⟨rfl,rfl⟩,rfl⟩) ?_
   refine(implCloneInts_any v.b v.nb v.cb p.barriers _ lb.out (by omega) (hr.rb.below (B0.trans (hG.mono B0.size)))).mono ?_
   rintro e w2 ⟨a,c,rfl,hown,hb⟩
   exact⟨_,rfl,hb,⟨a,c,rfl,owns_mono hown hG.size⟩,hown.lt,hG.trans (hb.mono hG.size)⟩
  ·intro ρ w1 hG hfr hd
   obtain⟨fc,ff⟩:=xF1 hfr
   have f1:ρ (.tmp 1)= .pointer (some ⟨w.heap.size,0,none⟩):=hfr _ rfl
   refine gives_val (u:= .pointer (some ⟨w.heap.size,3,none⟩)) (w':=w1) (by go_simp) ⟨Below.refl _ _,rfl,xN1,hG⟩
  ·intro ρ w1 hG hfr hd
   obtain⟨fc,ff⟩:=xF1 hfr
   obtain⟨d0,-⟩:=hd
   have d0:(ρ (.tmp 15))= .pointer (some ⟨w.heap.size,3,none⟩):=d0
   have q3:=keepc hG q3
   refine gives_val (u:= .slice v.r v.nr v.cr) (w':=w1) (by go_simp) ⟨Below.refl _ _,rfl,xN1,hG⟩
  ·intro ρ w1 hG hfr hd
   obtain⟨fc,ff⟩:=xF1 hfr
   obtain⟨d0,d1,-⟩:=hd
   have d0:(ρ (.tmp 16))= .slice v.r v.nr v.cr:=d0
   have d1:∃(az:Option Addr) (cz:Nat),(ρ (.tmp 14))= .slice az v.nb cz∧w1.ownsRow W1.heap.size 3 1 (.slice az v.nb cz) v.nb (ints p.barriers):=d1
   refine gives_call (by go_simp;exact⟨⟨rfl,rfl⟩,rfl⟩) ?_
   refine(implCloneInts_any v.r v.nr v.cr p.rooms _ lr.out (by omega) (hr.rr.below (B0.trans (hG.mono B0.size)))).mono ?_
   rintro e w2 ⟨a,c,rfl,hown,hb⟩
   exact⟨_,rfl,hb,⟨a,c,rfl,owns_mono hown hG.size⟩,hown.lt,hG.trans (hb.mono hG.size)⟩
  ·intro ρ w1 hG hfr hd
   obtain⟨fc,ff⟩:=xF1 hfr
   obtain⟨d0,d1,d2,d3,-⟩:=hd
   have d0:∃(az:Option Addr) (cz:Nat),(ρ (.tmp 8))= .slice az v.ns cz∧w1.ownsRow W1.heap.size 3 1 (.slice az v.ns cz) v.ns (ints p.sems):=d0
   have d1:∃(az:Option Addr) (cz:Nat),(ρ (.tmp 11))= .slice az v.ng cz∧w1.ownsRow W1.heap.size 3 1 (.slice az v.ng cz) v.ng (ints p.groups):=d1
   have d2:∃(az:Option Addr) (cz:Nat),(ρ (.tmp 14))= .slice az v.nb cz∧w1.ownsRow W1.heap.size 3 1 (.slice az v.nb cz) v.nb (ints p.barriers):=d2
   have d3:∃(az:Option Addr) (cz:Nat),(ρ (.tmp 17))= .slice az v.nr cz∧w1.ownsRow W1.heap.size 3 1 (.slice az v.nr cz) v.nr (ints p.rooms):=d3
   obtain⟨a0,c0,d0,-⟩:=d0
   obtain⟨a1,c1,d1,-⟩:=d1
   obtain⟨a2,c2,d2,-⟩:=d2
   obtain⟨a3,c3,d3,-⟩:=d3
   refine gives_val (u:= .agg #[.slice a0 v.ns c0,.slice a1 v.ng c1,.slice a2 v.nb c2,.slice a3 v.nr c3,.slice none 0 0]) (w':=w1) (by go_simp) ⟨Below.refl _ _,?_,xN1,hG⟩
   show Value.agg #[.slice a0 v.ns c0,.slice a1 v.ng c1,.slice a2 v.nb c2,.slice a3 v.nr c3,.slice none 0 0]=Value.agg #[(ρ (.tmp 8)),(ρ (.tmp 11)),(ρ (.tmp 14)),(ρ (.tmp 17)),.slice none 0 0]
   rw[d0,d1,d2,d3]
  ·intro ρ w1 hG hfr hd
   obtain⟨fc,ff⟩:=xF1 hfr
   refine gives_val (u:= .pointer (some ⟨w1.heap.size,0,none⟩)) (w':=w1.alloc (.cells #[.slice none 0 0,.slice none 0 0,.slice none 0 0,.slice none 0 0,.slice none 0 0] 26)) (by go_simp) ⟨xA1,⟨_,rfl,Blk.new _ _ _,hG.size⟩,ptBk_new _ _,hG.alloc hG.size _⟩
 intro vs w2 hG hlen hall hap hbd
 obtain⟨xv0,vs0,rfl,hl0⟩:=len_cons hlen
 obtain⟨xv1,vs1,rfl,hl1⟩:=len_cons hl0
 obtain⟨xv2,vs2,rfl,hl2⟩:=len_cons hl1
 obtain⟨xv3,vs3,rfl,hl3⟩:=len_cons hl2
 obtain⟨xv4,vs4,rfl,hl4⟩:=len_cons hl3
 obtain⟨xv5,vs5,rfl,hl5⟩:=len_cons hl4
 obtain⟨xv6,vs6,rfl,hl6⟩:=len_cons hl5
 obtain⟨xv7,vs7,rfl,hl7⟩:=len_cons hl6
 obtain⟨xv8,vs8,rfl,hl8⟩:=len_cons hl7
 obtain⟨xv9,vs9,rfl,hl9⟩:=len_cons hl8
 obtain⟨xv10,vs10,rfl,hl10⟩:=len_cons hl9
 obtain⟨xv11,vs11,rfl,hl11⟩:=len_cons hl10
 obtain⟨xv12,vs12,rfl,hl12⟩:=len_cons hl11
 obtain⟨xv13,vs13,rfl,hl13⟩:=len_cons hl12
 obtain rfl:=len_nil hl13
 clear hlen hl0 hl1 hl2 hl3 hl4 hl5 hl6 hl7 hl8 hl9 hl10 hl11 hl12 hl13
 simp only[List.take_succ_cons,List.take_zero,List.drop_succ_cons,List.drop_zero] at hall⊢
 obtain⟨t0',t1',t2',t3',t4',t5',t6',t7',t8',t9',t10',t11',t12',t13',-⟩:=hall
 have hv0:xv0= .pointer (some ⟨w.heap.size,0,none⟩):=t0'
 have hv1:xv1= .slice v.s v.ns v.cs:=t1'
 have hv2:∃(az:Option Addr) (cz:Nat),xv2= .slice az v.ns cz∧w2.ownsRow W1.heap.size 3 1 (.slice az v.ns cz) v.ns (ints p.sems):=t2'
 have hv3:xv3= .pointer (some ⟨w.heap.size,1,none⟩):=t3'
 have hv4:xv4= .slice v.g v.ng v.cg:=t4'
 have hv5:∃(az:Option Addr) (cz:Nat),xv5= .slice az v.ng cz∧w2.ownsRow W1.heap.size 3 1 (.slice az v.ng cz) v.ng (ints p.groups):=t5'
 have hv6:xv6= .pointer (some ⟨w.heap.size,2,none⟩):=t6'
 have hv7:xv7= .slice v.b v.nb v.cb:=t7'
 have hv8:∃(az:Option Addr) (cz:Nat),xv8= .slice az v.nb cz∧w2.ownsRow W1.heap.size 3 1 (.slice az v.nb cz) v.nb (ints p.barriers):=t8'
 have hv9:xv9= .pointer (some ⟨w.heap.size,3,none⟩):=t9'
 have hv10:xv10= .slice v.r v.nr v.cr:=t10'
 have hv11:∃(az:Option Addr) (cz:Nat),xv11= .slice az v.nr cz∧w2.ownsRow W1.heap.size 3 1 (.slice az v.nr cz) v.nr (ints p.rooms):=t11'
 have hv12:xv12=Value.agg #[xv2,xv5,xv8,xv11,.slice none 0 0]:=t12'
 have hv13:∃gz:Nat,xv13= .pointer (some ⟨gz,0,none⟩)∧Blk w2 gz #[.slice none 0 0,.slice none 0 0,.slice none 0 0,.slice none 0 0,.slice none 0 0] 26∧W1.heap.size≤gz:=t13'
 clear t0' t1' t2' t3' t4' t5' t6' t7' t8' t9' t10' t11' t12' t13'
 have pv2_5:∀k,(Value.ownBlock) xv2=some k→(Value.ownBlock) xv5≠some k:=hap 2 5 (by simp) (by simp) (by decide)
 have pv2_8:∀k,(Value.ownBlock) xv2=some k→(Value.ownBlock) xv8≠some k:=hap 2 8 (by simp) (by simp) (by decide)
 have pv2_11:∀k,(Value.ownBlock) xv2=some k→(Value.ownBlock) xv11≠some k:=hap 2 11 (by simp) (by simp) (by decide)
 have pv5_8:∀k,(Value.ownBlock) xv5=some k→(Value.ownBlock) xv8≠some k:=hap 5 8 (by simp) (by simp) (by decide)
 have pv5_11:∀k,(Value.ownBlock) xv5=some k→(Value.ownBlock) xv11≠some k:=hap 5 11 (by simp) (by simp) (by decide)
 have pv8_11:∀k,(Value.ownBlock) xv8=some k→(Value.ownBlock) xv11≠some k:=hap 8 11 (by simp) (by simp) (by decide)
 clear hap hbd
 subst hv0 hv1 hv3 hv4 hv6 hv7 hv9 hv10
 obtain⟨a0,c0,rfl,o0⟩:=hv2
 obtain⟨a1,c1,rfl,o1⟩:=hv5
 obtain⟨a2,c2,rfl,o2⟩:=hv8
 obtain⟨a3,c3,rfl,o3⟩:=hv11
 obtain⟨G,rfl,kG,hGW⟩:=hv13
 subst hv12
 simp only[putAll,Act.put,List.setIfInBounds_toArray,List.set_cons_succ,List.set_cons_zero]
 have e0:=kG.cell 0 rfl
 have y0:=kG.fz 0
 have e1:=kG.cell 1 rfl
 have y1:=kG.fz 1
 have e2:=kG.cell 2 rfl
 have y2:=kG.fz 2
 have e3:=kG.cell 3 rfl
 have y3:=kG.fz 3
 have e4:=kG.cell 4 rfl
 have y4:=kG.fz 4
 have four:FourF ⟨a0,v.ns,c0,a1,v.ng,c1,a2,v.nb,c2,a3,v.nr,c3,none,0,0⟩:=FourF.of pv2_5 pv2_8 pv2_11 pv5_8 pv5_11 pv8_11
 have C0:CopyAt (((((w2.setCell ⟨G,0,none⟩ (.slice a0 v.ns c0)).setCell ⟨G,1,none⟩ (.slice a1 v.ng c1)).setCell ⟨G,2,none⟩ (.slice a2 v.nb c2)).setCell ⟨G,3,none⟩ (.slice a3 v.nr c3)).setCell ⟨G,4,none⟩ (.slice none 0 0)) W1.heap.size G ⟨a0,v.ns,c0,a1,v.ng,c1,a2,v.nb,c2,a3,v.nr,c3,none,0,0⟩ [] p 0:=by
  obtain⟨t1,t2,t3,t4,t5,t6⟩:=types_ne
  have g5:w2.grownBy (((((w2.setCell ⟨G,0,none⟩ (.slice a0 v.ns c0)).setCell ⟨G,1,none⟩ (.slice a1 v.ng c1)).setCell ⟨G,2,none⟩ (.slice a2 v.nb c2)).setCell ⟨G,3,none⟩ (.slice a3 v.nr c3)).setCell ⟨G,4,none⟩ (.slice none 0 0)) (some G):=grown_trans (grown_trans (grown_trans (grown_trans (grown_set _ _ _ _) (grown_set _ _ _ _)) (grown_set _ _ _ _)) (grown_set _ _ _ _)) (grown_set _ _ _ _)
  have far:∀{e:TypeId} {sz n' c' B':Nat} {a':Option Addr} {xs:List Value},w2.ownsRow B' e sz (.slice a' n' c') n' xs→26≠e→∀q,rowOf a'=some q→some G=some q→False:=by
   intro e sz n' c' B' a' xs ho' hne q hq e'
   cases e'
   exact blk_owns kG ho' hne hq
  refine⟨?_,owns_grown o0 g5 (far o0 t3),owns_grown o1 g5 (far o1 t3),owns_grown o2 g5 (far o2 t3),owns_grown o3 g5 (far o3 t3),World.ownsRow_nil _ _ _ _,by simpa using Inner.nil _,by simp[fpV],by simp[fpV]⟩
  have:=((((kG.set 0 (.slice a0 v.ns c0)).set 1 (.slice a1 v.ng c1)).set 2 (.slice a2 v.nb c2)).set 3 (.slice a3 v.nr c3)).set 4 (.slice none 0 0)
  simpa using this
 have BB:Below W1.heap.size W1 (((((w2.setCell ⟨G,0,none⟩ (.slice a0 v.ns c0)).setCell ⟨G,1,none⟩ (.slice a1 v.ng c1)).setCell ⟨G,2,none⟩ (.slice a2 v.nb c2)).setCell ⟨G,3,none⟩ (.slice a3 v.nr c3)).setCell ⟨G,4,none⟩ (.slice none 0 0)):=((((hG.setCell hGW _).setCell hGW _).setCell hGW _).setCell hGW _).setCell hGW _
 have HC0:=xH1 C0
 have HF:=xH1 four
 obtain⟨bt,ot,ea,g1'⟩:=(hr.below B0).thr hne
 have c4:=keepc BB q4
 rw[ea] at c4
 clear C0 four pv2_5 pv2_8 pv2_11 pv5_8 pv5_11 pv8_11 o0 o1 o2 o3
 go_wp2
 obtain⟨W6,hW6⟩:∃W6:World,W6=((((w2.setCell ⟨G,0,none⟩ (.slice a0 v.ns c0)).setCell ⟨G,1,none⟩ (.slice a1 v.ng c1)).setCell ⟨G,2,none⟩ (.slice a2 v.nb c2)).setCell ⟨G,3,none⟩ (.slice a3 v.nr c3)).setCell ⟨G,4,none⟩ (.slice none 0 0):=⟨_,rfl⟩
 rw[←hW6] at HC0 BB⊢
 have G1:=xH1 g1'
 clear g1' ea c4
 clear hW6 e0 e1 e2 e3 e4 y0 y1 y2 y3 y4 kG hG
 go_loopw [22] (fun i wr=>∃(j:Nat) (U:PV) (us:List Value),j≤v.nt∧i= .int .i64 j∧Hid (FourF U)∧Hid (CopyAt wr W1.heap.size G U us p j)∧Below W1.heap.size W1 wr) (fun i _=>v.nt-(intOf i).toNat)
 case atStart=>exact⟨0,_,_,by omega,rfl,HF,HC0,BB⟩
 case round=>
  obtain⟨j,U,us,hj,rfl,HF1,HC,hb0⟩:=hrel
  by_cases hlt:j<v.nt
  ·obtain⟨a2,x2,g1,r2⟩:=G1.out j (by have:=lt.out;omega)
   obtain⟨m,hm⟩:∃m,m=(p.threads.getD j []).length:=⟨_,rfl⟩
   rw[←hm] at g1
   replace g1:=keepc hb0 g1
   replace r2:=r2.below hb0
   have hmm:=Z6.out j
   rw[←hm] at hmm
   have HM:=xH1 hm
   have e4:wr.cell? ⟨G,4,none⟩=some (.slice U.t U.nt U.ct):=HC.out.blk.cell 4 rfl
   have hun:U.nt=j:=by
    have h1:=HC.out.ot.1
    have h2:=HC.out.inn.len
    simp only[List.length_map,List.length_take] at h2
    have:=lt.out
    omega
   have HU:=xH1 hun
   have hun2:U.nt≤1048576:=by omega
   have HOPS:Hid ((opsV (p.threads.getD j [])).length=m*3):=xH1 (by rw[opsV_len,hm])
   clear hm hun
   go_wp2
   refine wp_region_fresh 5 (by kernel_rfl) (by kernel_rfl) [fun dz uz wz=>uz= .pointer (some ⟨G,4,none⟩),fun dz uz wz=>uz= .slice U.t U.nt U.ct,fun dz uz wz=>uz= .slice a2 m x2,fun dz uz wz=>∃(az:Option Addr) (cz:Nat),uz= .slice az m cz∧wz.ownsRow wr.heap.size 58 3 (.slice az m cz) m (opsV (p.threads.getD j []))∧(m=0→cz=0),fun dz uz wz=>∃gz:Nat,uz= .slice (some ⟨gz,0,none⟩) 1 1∧Blk wz gz #[(dz.getD 0 undef)] 51∧wr.heap.size≤gz] (fun i=>match i with|_=>fun _=>none) (fun w'=>Below wr.heap.size wr w') xB1.drew (stab_of ⟨fun _ _ _ _ _ h=>h,fun _ _ _ _ _ h=>h,fun _ _ _ _ _ h=>h,fun _ _ _ _ hb ⟨a,c,e,h,h0⟩=>⟨a,c,e,owns_below h hb,h0⟩,fun _ _ _ _ hb ⟨g,e,h,hs⟩=>⟨g,e,h.below hb,hs⟩,trivial⟩) ?_ ?_
   ·simp only[List.take_succ_cons,List.take_zero]
    refine⟨?_,?_,?_,?_,?_,trivial⟩
    ·intro ρ w1 hG hfr hd
     obtain⟨fc,ff⟩:=xF1 hfr
     have f3:ρ (.tmp 3)= .pointer (some ⟨G,0,none⟩):=hfr _ rfl
     refine gives_val (u:= .pointer (some ⟨G,4,none⟩)) (w':=w1) (by go_simp) ⟨Below.refl _ _,rfl,xN1,hG⟩
    ·intro ρ w1 hG hfr hd
     obtain⟨fc,ff⟩:=xF1 hfr
     obtain⟨d0,-⟩:=hd
     have d0:(ρ (.tmp 26))= .pointer (some ⟨G,4,none⟩):=d0
     have e4:=keepc hG e4
     refine gives_val (u:= .slice U.t U.nt U.ct) (w':=w1) (by go_simp) ⟨Below.refl _ _,rfl,xN1,hG⟩
    ·intro ρ w1 hG hfr hd
     obtain⟨fc,ff⟩:=xF1 hfr
     have f5:ρ (.tmp 5)= .slice a2 m x2:=hfr _ rfl
     refine gives_val (u:= .slice a2 m x2) (w':=w1) (by go_simp) ⟨Below.refl _ _,rfl,xN1,hG⟩
    ·intro ρ w1 hG hfr hd
     obtain⟨fc,ff⟩:=xF1 hfr
     obtain⟨d0,-⟩:=hd
     have d0:(ρ (.tmp 28))= .slice a2 m x2:=d0
     refine gives_append_new _ _ 51 rfl Tryz.underlying51 info_op rfl (by decide) (fc _) (World.ownsRow_nil _ wr.heap.size _ _) d0 HOPS.out (r2.below hG) (opsV_one _) (by omega) (by decide) hG.size ?_
     intro a c w2 hown hb hf h0
     exact⟨hb,⟨a,c,rfl,hown,h0⟩,xN1,hG.trans (hb.mono hG.size)⟩
    ·intro ρ w1 hG hfr hd
     obtain⟨fc,ff⟩:=xF1 hfr
     obtain⟨d0,-⟩:=hd
     have d0:∃(az:Option Addr) (cz:Nat),(ρ (.tmp 29))= .slice az m cz∧w1.ownsRow wr.heap.size 58 3 (.slice az m cz) m (opsV (p.threads.getD j []))∧(m=0→cz=0):=d0
     obtain⟨a,c,d0,-,-⟩:=d0
     refine gives_val (u:= .slice (some ⟨w1.heap.size,0,none⟩) 1 1) (w':=w1.alloc (.cells #[.slice a m c] 51)) (by go_simp) ⟨xA1,⟨_,rfl,?_,hG.size⟩,xN1,hG.alloc hG.size _⟩
     show Blk _ _ #[(ρ (.tmp 29))] _
     rw[d0]
     exact Blk.new _ _ _
   intro vs w2 hG hlen hall hap hbd
   obtain⟨xv0,vs0,rfl,hl0⟩:=len_cons hlen
   obtain⟨xv1,vs1,rfl,hl1⟩:=len_cons hl0
   obtain⟨xv2,vs2,rfl,hl2⟩:=len_cons hl1
   obtain⟨xv3,vs3,rfl,hl3⟩:=len_cons hl2
   obtain⟨xv4,vs4,rfl,hl4⟩:=len_cons hl3
   obtain rfl:=len_nil hl4
   clear hlen hl0 hl1 hl2 hl3 hl4
   simp only[List.take_succ_cons,List.take_zero,List.drop_succ_cons,List.drop_zero] at hall⊢
   obtain⟨t0',t1',t2',t3',t4',-⟩:=hall
   have hv0:xv0= .pointer (some ⟨G,4,none⟩):=t0'
   have hv1:xv1= .slice U.t U.nt U.ct:=t1'
   have hv2:xv2= .slice a2 m x2:=t2'
   have hv3:∃(az:Option Addr) (cz:Nat),xv3= .slice az m cz∧w2.ownsRow wr.heap.size 58 3 (.slice az m cz) m (opsV (p.threads.getD j []))∧(m=0→cz=0):=t3'
   have hv4:∃gz:Nat,xv4= .slice (some ⟨gz,0,none⟩) 1 1∧Blk w2 gz #[xv3] 51∧wr.heap.size≤gz:=t4'
   clear t0' t1' t2' t3' t4'
   clear hap hbd
   subst hv0 hv1 hv2
   obtain⟨a3,c3,rfl,o3,z3⟩:=hv3
   obtain⟨g9,rfl,k9,hg9⟩:=hv4
   simp only[putAll,Act.put,List.setIfInBounds_toArray,List.set_cons_succ,List.set_cons_zero]
   have HC2:=HC.out.below hG
   have e4':=keepc hG e4
   have y4:w2.frozen? ⟨G,4,none⟩=false:=HC2.blk.fz 4
   have hB:W1.heap.size≤w2.heap.size:=Nat.le_trans hb0.size hG.size
   have hin:∀q,rowOf a3=some q→W1.heap.size≤q∧q∉fpV us:=fun q hq=>⟨Nat.le_trans hb0.size (owns_row o3 q hq).1,fun hm=>by have h1:=HC.out.inn.lt q hm;have h2:=(owns_row o3 q hq).1;omega⟩
   have HIN:=xH1 hin
   have HO3:=xH1 o3
   have HCC:=xH1 HC2
   have hot:=HC2.ot
   clear hin o3 HC2
   go_wp2_with (at_builtin;refine wpList_append_rd (news:=[.slice a3 m c3]) rfl _ _ 24 rfl Tryz.underlying24 info_ops rfl (by decide) rfl hot rfl rfl (Rd.of_blk k9) (by simp[Value.oneCell']) (by omega) (by decide) hB ?_;intro a4 c4' w3 hown1 hgr1;have hx4:=keepg hgr1 e4' (blk_owns HCC.out.blk hot types_ne.2.2.2.1);have hy4:=(HCC.out.blk.grown hgr1 (blk_owns HCC.out.blk hot types_ne.2.2.2.1)).fz 4)
   go_roundw
   case rel=>
    refine⟨j+1,U.thr a4 (U.nt+1) c4',us++[.slice a3 m c3],by omega,by go_num,xH1 (HF1.out.thr _ _ _),xH1 ?_,?_⟩
    ·exact HCC.out.step (by have:=lt.out;omega) (owns_mono HO3.out (Nat.zero_le _)) HIN.out hown1 hgr1
    ·exact(((hb0.trans (hG.mono hb0.size)).trans (below_of_grown hgr1 hB (fun q hq=>(owns_row hot q hq).1))).setCell hGW _)
   case measure=>simp[intOf];omega
  ·have hkm:v.nt=j:=by omega
   subst hkm
   have HO:=xH1 (HC.out.own lt.out.symm)
   have HFR:=xH1 HC.out.fresh
   have hun:U.nt=v.nt:=by
    have h1:=HC.out.ot.1
    have h2:=HC.out.inn.len
    simp only[List.length_map,List.length_take] at h2
    have:=lt.out
    omega
   have e0:=HC.out.blk.cell 0 rfl
   have e1:=HC.out.blk.cell 1 rfl
   have e2:=HC.out.blk.cell 2 rfl
   have e3:=HC.out.blk.cell 3 rfl
   have e4:=HC.out.blk.cell 4 rfl
   have kR2:=kR.below hb0
   have y0:=kR2.cell 0 rfl
   have y1:=kR2.cell 1 rfl
   have y2:=kR2.cell 2 rfl
   have y3:=kR2.cell 3 rfl
   have y4:=kR2.cell 4 rfl
   have x0:=kR2.fz 0
   have x1:=kR2.fz 1
   have x2:=kR2.fz 2
   have x3:=kR2.fz 3
   have x4:=kR2.fz 4
   have BE:=B0.trans (hb0.mono B0.size)
   clear kR2 hun
   go_wp2
   refine bodyPost_ret (v:= .agg #[.slice U.s U.ns U.cs,.slice U.g U.ng U.cg,.slice U.b U.nb U.cb,.slice U.r U.nr U.cr,.slice U.t U.nt U.ct]) (by simp[results,Tryz.results37,go_sem,y0,y1,y2,y3,y4]) rfl ⟨U,us,rfl,?_,HC.out.nodup HF1.out,fun q hq=>Nat.le_trans B0.size (HFR.out q hq),?_⟩
   ·refine HO.out.touch (S:=[w.heap.size+1]) ?_ (fun q hq hm=>by have:=HFR.out q hq;simp at hm;omega)
    exact Touch.set (Touch.set (Touch.set (Touch.set (Touch.set (Touch.refl _ _) (by simp)) (by simp)) (by simp)) (by simp)) (by simp)
   ·exact((((BE.setCell (Nat.le_add_right _ _) _).setCell (Nat.le_add_right _ _) _).setCell (Nat.le_add_right _ _) _).setCell (Nat.le_add_right _ _) _).setCell (Nat.le_add_right _ _) _


def noPg:Pg:=⟨[],[],[],[],[]⟩
structure SmallP (p:Pg):Prop where
 ls:p.sems.length≤1048576
 lg:p.groups.length≤1048576
 lb:p.barriers.length≤1048576
 lr:p.rooms.length≤1048576
 lt:p.threads.length≤1048576
 inn:∀i,(p.threads.getD i []).length≤1048576
theorem SmallP.at {v:PV} {p:Pg} {w:World} (h:SmallP p) (hr:RdP w v p):Small v p:=
 ⟨by rw[←hr.ls];exact h.ls,by rw[←hr.lg];exact h.lg,by rw[←hr.lb];exact h.lb,by rw[←hr.lr];exact h.lr,by rw[←hr.lt];exact h.lt,h.inn⟩
theorem Small.data {v:PV} {p:Pg} {w:World} (h:Small v p) (hr:RdP w v p):SmallP p:=
 ⟨by rw[hr.ls];exact h.ls,by rw[hr.lg];exact h.lg,by rw[hr.lb];exact h.lb,by rw[hr.lr];exact h.lr,by rw[hr.lt];exact h.lt,h.inn⟩
def nilPV:PV:=⟨none,0,0,none,0,0,none,0,0,none,0,0,none,0,0⟩
theorem own_nil (w:World):OwnP w nilPV [] noPg.cells:=
 ⟨World.ownsRow_nil _ _ _ _,World.ownsRow_nil _ _ _ _,World.ownsRow_nil _ _ _ _,World.ownsRow_nil _ _ _ _,⟨World.ownsRow_nil _ _ _ _,rfl,by intro i hi;simp[nilPV] at hi⟩⟩
theorem fp_nil:fpP nilPV []=[]:=rfl
def changeP (p:Pg) (thread:Int) (res:Option Pg):Option Pg:=if progValid p=true∧0≤thread∧thread<p.threads.length then res else none
def Changes (H:World) (f:Nat) (caps:Array Value) (p:Pg) (res:Option Pg):Prop:=
 ∀(u:PV) (us:List Value) (W:World) (Bq:Nat),Below H.heap.size H W→H.heap.size≤Bq→OwnP W u us p.cells→(fpP u us).Nodup→(∀k∈fpP u us,H.heap.size≤k)→Blk W Bq #[.slice u.s u.ns u.cs,.slice u.g u.ng u.cg,.slice u.b u.nb u.cb,.slice u.r u.nr u.cr,.slice u.t u.nt u.ct] 26→
  Calls Tryz.prog f (#[.pointer (some ⟨Bq,0,none⟩)]++caps) W fun e w'=>e= .returned (.bool res.isSome)∧Below H.heap.size H w'∧
   ∀p',res=some p'→∃u':PV,Blk w' Bq #[.slice u'.s u'.ns u'.cs,.slice u'.g u'.ng u'.cg,.slice u'.b u'.nb u'.cb,.slice u'.r u'.nr u'.cr,.slice u'.t u'.nt u'.ct] 26∧RdP w' u' p'
theorem change_any (f:Nat) (caps:Array Value) (v:PV) (p:Pg) (thread:Int) (res:Option Pg) (w:World) (eg:∀args w,(callFunc f args).run Tryz.prog w= .ok (.enter f args) w) (hr:RdP w v p) (hz:Small v p)
  (hf:progValid p=true→0≤thread→thread<p.threads.length→∀H,Below w.heap.size w H→Changes H f caps p res) (hres:progValid p=true→0≤thread→thread<p.threads.length→∀p',res=some p'→SmallP p'∧0<p'.threads.length):
  Calls Tryz.prog 15 #[.agg #[.slice v.s v.ns v.cs,.slice v.g v.ng v.cg,.slice v.b v.nb v.cb,.slice v.r v.nr v.cr,.slice v.t v.nt v.ct],.int .i64 thread,.func (.func f) #[] caps] w fun e w'=>∃(u:PV) (us:List Value),e= .returned (.tuple #[.agg #[.slice u.s u.ns u.cs,.slice u.g u.ng u.cg,.slice u.b u.nb u.cb,.slice u.r u.nr u.cr,.slice u.t u.nt u.ct],.bool (changeP p thread res).isSome])∧OwnP w' u us ((changeP p thread res).getD noPg).cells∧(fpP u us).Nodup∧(∀k∈fpP u us,w.heap.size≤k)∧Below w.heap.size w w':=by
 have hs:v.ns≤maxLen∧v.ng≤maxLen∧v.nb≤maxLen∧v.nr≤maxLen:=by
  obtain⟨z1,z2,z3,z4,z5,z6⟩:=hz;unfold maxLen;omega
 have zz:Hid (v.ns≤maxLen∧v.ng≤maxLen∧v.nb≤maxLen∧v.nr≤maxLen):=xH1 hs
 have HZ:=xH1 hz
 have z5:v.nt≤1048576:=hz.lt
 have Z6:=xH1 hz.inn
 have ls:=xH1 hr.ls
 have lg:=xH1 hr.lg
 have lb:=xH1 hr.lb
 have lr:=xH1 hr.lr
 have lt:=xH1 hr.lt
 clear hz
 have B0:Below w.heap.size w (w.alloc (.cells #[.slice v.s v.ns v.cs,.slice v.g v.ng v.cg,.slice v.b v.nb v.cb,.slice v.r v.nr v.cr,.slice v.t v.nt v.ct] 26)):=xA1
 have k0:Blk (w.alloc (.cells #[.slice v.s v.ns v.cs,.slice v.g v.ng v.cg,.slice v.b v.nb v.cb,.slice v.r v.nr v.cr,.slice v.t v.nt v.ct] 26)) w.heap.size #[.slice v.s v.ns v.cs,.slice v.g v.ng v.cg,.slice v.b v.nb v.cb,.slice v.r v.nr v.cr,.slice v.t v.nt v.ct] 26:=Blk.new _ _ _
 have q0:(w.alloc (.cells #[.slice v.s v.ns v.cs,.slice v.g v.ng v.cg,.slice v.b v.nb v.cb,.slice v.r v.nr v.cr,.slice v.t v.nt v.ct] 26)).cell? ⟨w.heap.size,0,none⟩=some (.slice v.s v.ns v.cs):=k0.cell 0 rfl
 have q1:(w.alloc (.cells #[.slice v.s v.ns v.cs,.slice v.g v.ng v.cg,.slice v.b v.nb v.cb,.slice v.r v.nr v.cr,.slice v.t v.nt v.ct] 26)).cell? ⟨w.heap.size,1,none⟩=some (.slice v.g v.ng v.cg):=k0.cell 1 rfl
 have q2:(w.alloc (.cells #[.slice v.s v.ns v.cs,.slice v.g v.ng v.cg,.slice v.b v.nb v.cb,.slice v.r v.nr v.cr,.slice v.t v.nt v.ct] 26)).cell? ⟨w.heap.size,2,none⟩=some (.slice v.b v.nb v.cb):=k0.cell 2 rfl
 have q3:(w.alloc (.cells #[.slice v.s v.ns v.cs,.slice v.g v.ng v.cg,.slice v.b v.nb v.cb,.slice v.r v.nr v.cr,.slice v.t v.nt v.ct] 26)).cell? ⟨w.heap.size,3,none⟩=some (.slice v.r v.nr v.cr):=k0.cell 3 rfl
 have q4:(w.alloc (.cells #[.slice v.s v.ns v.cs,.slice v.g v.ng v.cg,.slice v.b v.nb v.cb,.slice v.r v.nr v.cr,.slice v.t v.nt v.ct] 26)).cell? ⟨w.heap.size,4,none⟩=some (.slice v.t v.nt v.ct):=k0.cell 4 rfl
 clear k0
 obtain⟨W0,hW0⟩:∃W0:World,W0=((w.alloc (.cells #[.slice v.s v.ns v.cs,.slice v.g v.ng v.cg,.slice v.b v.nb v.cb,.slice v.r v.nr v.cr,.slice v.t v.nt v.ct] 26)).alloc (.cells #[.slice none 0 0,.slice none 0 0,.slice none 0 0,.slice none 0 0,.slice none 0 0] 26)):=⟨_,rfl⟩
 have b1:Below (w.alloc (.cells #[.slice v.s v.ns v.cs,.slice v.g v.ng v.cg,.slice v.b v.nb v.cb,.slice v.r v.nr v.cr,.slice v.t v.nt v.ct] 26)).heap.size (w.alloc (.cells #[.slice v.s v.ns v.cs,.slice v.g v.ng v.cg,.slice v.b v.nb v.cb,.slice v.r v.nr v.cr,.slice v.t v.nt v.ct] 26)) ((w.alloc (.cells #[.slice v.s v.ns v.cs,.slice v.g v.ng v.cg,.slice v.b v.nb v.cb,.slice v.r v.nr v.cr,.slice v.t v.nt v.ct] 26)).alloc (.cells #[.slice none 0 0,.slice none 0 0,.slice none 0 0,.slice none 0 0,.slice none 0 0] 26)):=xA1
 have kR:Blk ((w.alloc (.cells #[.slice v.s v.ns v.cs,.slice v.g v.ng v.cg,.slice v.b v.nb v.cb,.slice v.r v.nr v.cr,.slice v.t v.nt v.ct] 26)).alloc (.cells #[.slice none 0 0,.slice none 0 0,.slice none 0 0,.slice none 0 0,.slice none 0 0] 26)) (w.heap.size+1) #[.slice none 0 0,.slice none 0 0,.slice none 0 0,.slice none 0 0,.slice none 0 0] 26:=by simpa using Blk.new (w.alloc (.cells #[.slice v.s v.ns v.cs,.slice v.g v.ng v.cg,.slice v.b v.nb v.cb,.slice v.r v.nr v.cr,.slice v.t v.nt v.ct] 26)) #[.slice none 0 0,.slice none 0 0,.slice none 0 0,.slice none 0 0,.slice none 0 0] 26
 replace q0:=keepc b1 q0
 replace q1:=keepc b1 q1
 replace q2:=keepc b1 q2
 replace q3:=keepc b1 q3
 replace q4:=keepc b1 q4
 replace B0:=B0.trans (b1.mono B0.size)
 have HW0:=xH1 hW0
 rw[←hW0] at q0 q1 q2 q3 q4 B0 kR
 clear b1 hW0
 have HRES:=xH1 hres
 have HF:=xH1 hf
 clear hres hf
 rcases Bool.eq_false_or_eq_true (progValid p) with hv|hv
 rotate_left
 ·have HN:Hid (changeP p thread res=none):=xH1 (by unfold changeP;rw[if_neg (by rw[hv];simp)])
  have HV:=xH1 hv
  clear hv
  go_enter Tryz.func15,Tryz.ntmps15
  go_wp2_with fail
  rw[←HW0.out]
  refine(implProgValid_any v p _ (hr.below B0) HZ.out).mono ?_
  rintro e w1 ⟨rfl,hb⟩
  rw[HV.out]
  have kR1:=kR.below hb
  have c0:=keepc hb q0
  have c1:=keepc hb q1
  have c2:=keepc hb q2
  have c3:=keepc hb q3
  have c4:=keepc hb q4
  have B1:=B0.trans (hb.mono B0.size)
  clear hb
  have y0:=kR1.cell 0 rfl
  have x0:=kR1.fz 0
  have y1:=kR1.cell 1 rfl
  have x1:=kR1.fz 1
  have y2:=kR1.cell 2 rfl
  have x2:=kR1.fz 2
  have y3:=kR1.cell 3 rfl
  have x3:=kR1.fz 3
  have y4:=kR1.cell 4 rfl
  have x4:=kR1.fz 4
  go_wp2
  refine bodyPost_ret (v:= .tuple #[.agg #[.slice none 0 0,.slice none 0 0,.slice none 0 0,.slice none 0 0,.slice none 0 0],.bool false]) (by simp[results,Tryz.results15,go_sem,y0,y1,y2,y3,y4]) rfl ⟨nilPV,[],by rw[HN.out];rfl,by rw[HN.out];exact own_nil _,by rw[fp_nil];exact List.nodup_nil,by simp[fp_nil],?_⟩
  exact((((B1.setCell (Nat.le_add_right _ _) _).setCell (Nat.le_add_right _ _) _).setCell (Nat.le_add_right _ _) _).setCell (Nat.le_add_right _ _) _).setCell (Nat.le_add_right _ _) _
 by_cases hc0:thread<0
 ·have t0:decide (thread<0)=true:=decide_eq_true hc0
  have HN:Hid (changeP p thread res=none):=xH1 (by unfold changeP;rw[if_neg (by rintro⟨_,h1,h2⟩;have:=lt.out;omega)])
  have HV:=xH1 hv
  clear hv
  go_enter Tryz.func15,Tryz.ntmps15
  go_wp2_with fail
  rw[←HW0.out]
  refine(implProgValid_any v p _ (hr.below B0) HZ.out).mono ?_
  rintro e w1 ⟨rfl,hb⟩
  rw[HV.out]
  have kR1:=kR.below hb
  have c0:=keepc hb q0
  have c1:=keepc hb q1
  have c2:=keepc hb q2
  have c3:=keepc hb q3
  have c4:=keepc hb q4
  have B1:=B0.trans (hb.mono B0.size)
  clear hb
  have y0:=kR1.cell 0 rfl
  have x0:=kR1.fz 0
  have y1:=kR1.cell 1 rfl
  have x1:=kR1.fz 1
  have y2:=kR1.cell 2 rfl
  have x2:=kR1.fz 2
  have y3:=kR1.cell 3 rfl
  have x3:=kR1.fz 3
  have y4:=kR1.cell 4 rfl
  have x4:=kR1.fz 4
  go_wp2
  refine bodyPost_ret (v:= .tuple #[.agg #[.slice none 0 0,.slice none 0 0,.slice none 0 0,.slice none 0 0,.slice none 0 0],.bool false]) (by simp[results,Tryz.results15,go_sem,y0,y1,y2,y3,y4]) rfl ⟨nilPV,[],by rw[HN.out];rfl,by rw[HN.out];exact own_nil _,by rw[fp_nil];exact List.nodup_nil,by simp[fp_nil],?_⟩
  exact((((B1.setCell (Nat.le_add_right _ _) _).setCell (Nat.le_add_right _ _) _).setCell (Nat.le_add_right _ _) _).setCell (Nat.le_add_right _ _) _).setCell (Nat.le_add_right _ _) _
 have t0:decide (thread<0)=false:=decide_eq_false hc0
 by_cases hc1:v.nt≤thread
 ·have t1:decide ((v.nt:Int)≤thread)=true:=decide_eq_true hc1
  have HN:Hid (changeP p thread res=none):=xH1 (by unfold changeP;rw[if_neg (by rintro⟨_,h1,h2⟩;have:=lt.out;omega)])
  have HV:=xH1 hv
  clear hv
  go_enter Tryz.func15,Tryz.ntmps15
  go_wp2_with fail
  rw[←HW0.out]
  refine(implProgValid_any v p _ (hr.below B0) HZ.out).mono ?_
  rintro e w1 ⟨rfl,hb⟩
  rw[HV.out]
  have kR1:=kR.below hb
  have c0:=keepc hb q0
  have c1:=keepc hb q1
  have c2:=keepc hb q2
  have c3:=keepc hb q3
  have c4:=keepc hb q4
  have B1:=B0.trans (hb.mono B0.size)
  clear hb
  have y0:=kR1.cell 0 rfl
  have x0:=kR1.fz 0
  have y1:=kR1.cell 1 rfl
  have x1:=kR1.fz 1
  have y2:=kR1.cell 2 rfl
  have x2:=kR1.fz 2
  have y3:=kR1.cell 3 rfl
  have x3:=kR1.fz 3
  have y4:=kR1.cell 4 rfl
  have x4:=kR1.fz 4
  go_wp2
  refine bodyPost_ret (v:= .tuple #[.agg #[.slice none 0 0,.slice none 0 0,.slice none 0 0,.slice none 0 0,.slice none 0 0],.bool false]) (by simp[results,Tryz.results15,go_sem,y0,y1,y2,y3,y4]) rfl ⟨nilPV,[],by rw[HN.out];rfl,by rw[HN.out];exact own_nil _,by rw[fp_nil];exact List.nodup_nil,by simp[fp_nil],?_⟩
  exact((((B1.setCell (Nat.le_add_right _ _) _).setCell (Nat.le_add_right _ _) _).setCell (Nat.le_add_right _ _) _).setCell (Nat.le_add_right _ _) _).setCell (Nat.le_add_right _ _) _
 have t1:decide ((v.nt:Int)≤thread)=false:=decide_eq_false hc1
 have hpos:0<p.threads.length:=by have:=lt.out;omega
 have HCH:Hid (changeP p thread res=res):=xH1 (by unfold changeP;rw[if_pos ⟨hv,by omega,by have:=lt.out;omega⟩])
 have HFF:=xH1 (HF.out hv (by omega) (by have:=lt.out;omega))
 replace HRES:=xH1 (HRES.out hv (by omega) (by have:=lt.out;omega))
 have HV:=xH1 hv
 clear hv
 go_enter Tryz.func15,Tryz.ntmps15
 go_wp2_with fail
 rw[←HW0.out]
 refine(implProgValid_any v p _ (hr.below B0) HZ.out).mono ?_
 rintro e w1 ⟨rfl,hb⟩
 rw[HV.out]
 have kR1:=kR.below hb
 have c0:=keepc hb q0
 have c1:=keepc hb q1
 have c2:=keepc hb q2
 have c3:=keepc hb q3
 have c4:=keepc hb q4
 have B1:=B0.trans (hb.mono B0.size)
 clear hb
 go_wp2_with fail
 refine(clone_any v p _ (hr.below B1) HZ.out hpos).mono ?_
 rintro e w2 ⟨u,us,rfl,ou,hnd,hfr,hb⟩
 have kR2:=kR1.below hb
 have B2:=B1.trans (hb.mono B1.size)
 have hs1:=B1.size
 clear c0 c1 c2 c3 c4
 have bq:Below w2.heap.size w2 (w2.alloc (.cells #[.slice u.s u.ns u.cs,.slice u.g u.ng u.cg,.slice u.b u.nb u.cb,.slice u.r u.nr u.cr,.slice u.t u.nt u.ct] 26)):=xA1
 have kQ:Blk (w2.alloc (.cells #[.slice u.s u.ns u.cs,.slice u.g u.ng u.cg,.slice u.b u.nb u.cb,.slice u.r u.nr u.cr,.slice u.t u.nt u.ct] 26)) w2.heap.size #[.slice u.s u.ns u.cs,.slice u.g u.ng u.cg,.slice u.b u.nb u.cb,.slice u.r u.nr u.cr,.slice u.t u.nt u.ct] 26:=Blk.new _ _ _
 have hcl:=HFF.out w1 B1 u us (w2.alloc (.cells #[.slice u.s u.ns u.cs,.slice u.g u.ng u.cg,.slice u.b u.nb u.cb,.slice u.r u.nr u.cr,.slice u.t u.nt u.ct] 26)) w2.heap.size (hb.trans (bq.mono hb.size)) hb.size (ou.below bq) hnd hfr kQ
 have HCL:=xH1 hcl
 have hs2:w.heap.size+1<w2.heap.size:=kR2.lt
 have hs12:w.heap.size+1<w1.heap.size:=kR1.lt
 clear hcl hnd hfr ou hb
 cases hres:res with
 |none=>
  have HN:Hid (changeP p thread res=none):=xH1 (HCH.out.trans hres)
  rw[hres] at HCL
  clear HCH HRES HFF HF hres
  go_wp2_with (go_at_fn f;refine HCL.out.mono ?_;rintro e w3 ⟨rfl,hb3,-⟩;have kR3:=kR1.below hb3;have y0:=kR3.cell 0 rfl;have x0:=kR3.fz 0;have y1:=kR3.cell 1 rfl;have x1:=kR3.fz 1;have y2:=kR3.cell 2 rfl;have x2:=kR3.fz 2;have y3:=kR3.cell 3 rfl;have x3:=kR3.fz 3;have y4:=kR3.cell 4 rfl;have x4:=kR3.fz 4;have B3:=B1.trans (hb3.mono B1.size))
  refine bodyPost_ret (v:= .tuple #[.agg #[.slice none 0 0,.slice none 0 0,.slice none 0 0,.slice none 0 0,.slice none 0 0],.bool false]) (by simp[results,Tryz.results15,go_sem,y0,y1,y2,y3,y4]) rfl ⟨nilPV,[],by rw[HN.out];rfl,by rw[HN.out];exact own_nil _,by rw[fp_nil];exact List.nodup_nil,by simp[fp_nil],?_⟩
  exact((((B3.setCell (Nat.le_add_right _ _) _).setCell (Nat.le_add_right _ _) _).setCell (Nat.le_add_right _ _) _).setCell (Nat.le_add_right _ _) _).setCell (Nat.le_add_right _ _) _
 |some p'=>
  have HN:Hid (changeP p thread res=some p'):=xH1 (HCH.out.trans hres)
  rw[hres] at HCL HRES
  obtain⟨hsp,hnp⟩:=HRES.out p' rfl
  have HSP:=xH1 hsp
  clear HCH HRES HFF HF hres hsp
  go_wp2_with (first|(go_at_fn f;refine HCL.out.mono ?_;rintro e w3 ⟨rfl,hb3,hh⟩;obtain⟨u',kQ3,ru'⟩:=hh p' rfl;have kR3:=kR1.below hb3;have z0:=kQ3.cell 0 rfl;have z1:=kQ3.cell 1 rfl;have z2:=kQ3.cell 2 rfl;have z3:=kQ3.cell 3 rfl;have z4:=kQ3.cell 4 rfl;have B3:=B1.trans (hb3.mono B1.size))|(go_at_call 37;refine(clone_any u' p' _ ru' (HSP.out.at ru') hnp).mono ?_;rintro e w4 ⟨t,ts,rfl,ot,hnd,hfr,hb4⟩;have kR4:=kR3.below hb4;have B4:=B3.trans (hb4.mono B3.size);have hs3:=kR3.lt;have HOT:=xH1 ot;have HFR:=xH1 hfr;have y0:=kR4.cell 0 rfl;have x0:=kR4.fz 0;have y1:=kR4.cell 1 rfl;have x1:=kR4.fz 1;have y2:=kR4.cell 2 rfl;have x2:=kR4.fz 2;have y3:=kR4.cell 3 rfl;have x3:=kR4.fz 3;have y4:=kR4.cell 4 rfl;have x4:=kR4.fz 4;clear ot hfr))
  refine bodyPost_ret (v:= .tuple #[.agg #[.slice t.s t.ns t.cs,.slice t.g t.ng t.cg,.slice t.b t.nb t.cb,.slice t.r t.nr t.cr,.slice t.t t.nt t.ct],.bool true]) (by simp[results,Tryz.results15,go_sem,y0,y1,y2,y3,y4]) rfl ⟨t,ts,by rw[HN.out];rfl,?_,hnd,fun q hq=>by have:=HFR.out q hq;omega,?_⟩
  ·rw[HN.out]
   refine HOT.out.touch (S:=[w.heap.size+1]) ?_ (fun q hq hm=>by have:=HFR.out q hq;simp at hm;omega)
   exact Touch.set (Touch.set (Touch.set (Touch.set (Touch.set (Touch.refl _ _) (by simp)) (by simp)) (by simp)) (by simp)) (by simp)
  ·exact((((B4.setCell (Nat.le_add_right _ _) _).setCell (Nat.le_add_right _ _) _).setCell (Nat.le_add_right _ _) _).setCell (Nat.le_add_right _ _) _).setCell (Nat.le_add_right _ _) _
theorem getD_len {ts:List (List OpD)} {i:Nat} (hi:i<ts.length):(ts.map opsV).getD i []=opsV (ts.getD i []):=by simp[List.getD,hi]
theorem OwnP.inner_rd {w w':World} {u:PV} {us:List Value} {p:Pg} (hO:OwnP w u us p.cells) (hg:w.grownBy w' (rowOf u.t)):
  ∀j,j<p.threads.length→∃a c,us.getD j undef= .slice a (p.threads.getD j []).length c∧Rd w' a (opsV (p.threads.getD j [])):=by
 intro j hj
 have hin:=hO.ot.inner
 have hl:p.threads.length=u.nt:=by have:=hO.ot.len;simpa[Pg.cells] using this
 obtain⟨a',m,c',e,ho⟩:=hO.ot.inn j (by omega)
 have er:(p.cells).t.getD j []=opsV (p.threads.getD j []):=getD_len hj
 rw[er] at ho
 have hm:m=(p.threads.getD j []).length:=by
  have:=ho.1
  rw[opsV_len] at this;omega
 subst hm
 refine⟨a',c',e,Rd.of_owns (owns_grown ho hg (fun k h1 h2=> ?_))⟩
 exact owns_owns ho hO.ot.out types_ne.2.1 k h1 h2
theorem rdp_threads {w w':World} {u:PV} {us:List Value} {p:Pg} (hO:OwnP w u us p.cells) (hg:w.grownBy w' (rowOf u.t)) {B n' c':Nat} {a':Option Addr} {us':List Value} (ho':w'.ownsRow B 51 1 (.slice a' n' c') n' us')
  {ts':List (List OpD)} (hl:ts'.length=n') (hin:∀i,i<ts'.length→∃a c,us'.getD i undef= .slice a (ts'.getD i []).length c∧Rd w' a (opsV (ts'.getD i []))):
  RdP w' (u.thr a' n' c') ⟨p.sems,p.groups,p.barriers,p.rooms,ts'⟩:=by
 have t1:=types_ne.1
 have h1:=owns_grown hO.os hg (owns_owns hO.os hO.ot.out t1)
 have h2:=owns_grown hO.og hg (owns_owns hO.og hO.ot.out t1)
 have h3:=owns_grown hO.ob hg (owns_owns hO.ob hO.ot.out t1)
 have h4:=owns_grown hO.orr hg (owns_owns hO.orr hO.ot.out t1)
 have r:=hO.rd
 exact⟨r.ls,r.lg,r.lb,r.lr,hl,Rd.of_owns h1,Rd.of_owns h2,Rd.of_owns h3,Rd.of_owns h4,⟨us',⟨by show us'.length=ts'.length;have:=ho'.1;omega,Rd.of_owns ho',hin⟩⟩⟩
def Pg.thr (p:Pg) (ts:List (List OpD)):Pg:=⟨p.sems,p.groups,p.barriers,p.rooms,ts⟩
theorem SmallP.thr {p:Pg} (h:SmallP p) {ts:List (List OpD)} (hl:ts.length≤1048576) (hin:∀i,(ts.getD i []).length≤1048576):SmallP (p.thr ts):=⟨h.ls,h.lg,h.lb,h.lr,hl,hin⟩
def swapTs {α:Type} (d:α) (l:List α) (i j:Nat):List α:=(l.set i (l.getD j d)).set j (l.getD i d)
theorem swapTs_len {α:Type} (d:α) (l:List α) (i j:Nat):(swapTs d l i j).length=l.length:=by simp[swapTs]
theorem swapTs_get {α:Type} (d:α) (l:List α) (i j k:Nat) (hi:i<l.length) (hj:j<l.length):(swapTs d l i j).getD k d=if k=j then l.getD i d else if k=i then l.getD j d else l.getD k d:=by
 unfold swapTs
 simp only[List.getD,List.getElem?_set,List.length_set]
 by_cases h1:j=k
 ·subst h1;simp[hj]
 ·have h1':¬k=j:=fun e=>h1 e.symm
  by_cases h2:i=k
  ·subst h2;simp[h1,h1',hi]
  ·have h2':¬k=i:=fun e=>h2 e.symm
   simp[h1,h1',h2,h2']
def swapRes (p:Pg) (a b:Int):Option Pg:=if 0≤b∧b<p.threads.length then some (p.thr (swapTs [] p.threads a.toNat b.toNat)) else none
def swapThreads (p:Pg) (a b:Int):Option Pg:=changeP p a (swapRes p a b)
theorem swapFn_any (p:Pg) (a b:Int) (H:World) (ba bb:Nat) (ha:H.cell? ⟨ba,0,none⟩=some (.int .i64 a)) (hb:H.cell? ⟨bb,0,none⟩=some (.int .i64 b)) (h0:0≤a) (h1:a<p.threads.length) (hlen:p.threads.length≤1048576):
  Changes H 16 #[.pointer (some ⟨bb,0,none⟩),.pointer (some ⟨ba,0,none⟩)] p (swapRes p a b):=by
 intro u us W Bq hB hq hO hnd hfr kQ
 have hnt:p.threads.length=u.nt:=by have:=hO.ot.len;simpa[Pg.cells] using this
 have ca:=keepc hB ha
 have cb:=keepc hB hb
 have e4:=kQ.cell 4 rfl
 have hA:=ha
 have hB':=hb
 clear ha hb
 by_cases hb0:b<0
 ·have HN:Hid (swapRes p a b=none):=xH1 (by unfold swapRes;rw[if_neg (by omega)])
  rw[HN.out]
  have t0:decide (b<0)=true:=decide_eq_true hb0
  go_enter Tryz.func16,Tryz.ntmps16
  go_wp2
  go_quiet (fail)
  go_wp2
  go_ret
  exact⟨rfl,hB.trans ((below_drewN' _ _).mono hB.size),by simp⟩
 by_cases hb1:(u.nt:Int)≤b
 ·have HN:Hid (swapRes p a b=none):=xH1 (by unfold swapRes;rw[if_neg (by omega)])
  rw[HN.out]
  have t0:decide (b<0)=false:=decide_eq_false hb0
  have t1:decide ((u.nt:Int)≤b)=true:=decide_eq_true hb1
  go_enter Tryz.func16,Tryz.ntmps16
  go_wp2
  go_quiet (fail)
  go_wp2
  go_ret
  exact⟨rfl,hB.trans ((below_drewN' _ _).mono hB.size),by simp⟩
 have HN:Hid (swapRes p a b=some (p.thr (swapTs [] p.threads a.toNat b.toNat))):=xH1 (by unfold swapRes;rw[if_pos (by omega)])
 rw[HN.out]
 have t0:decide (b<0)=false:=decide_eq_false hb0
 have t1:decide ((u.nt:Int)≤b)=false:=decide_eq_false hb1
 obtain⟨na,rfl⟩:=Int.eq_ofNat_of_zero_le h0
 obtain⟨nb,rfl⟩:=Int.eq_ofNat_of_zero_le (show 0≤b by omega)
 have hna:na<u.nt:=by omega
 have hnb:nb<u.nt:=by omega
 obtain⟨T,eT,hT1,hT2⟩:=owns_at hO.ot.out (by omega)
 obtain⟨xa,ma,ya,exa,-⟩:=hO.ot.inn na hna
 obtain⟨xb,mb,yb,exb,-⟩:=hO.ot.inn nb hnb
 have hot:=hO.ot.out
 rw[eT] at hot e4
 have hvl:=hO.ot.vlen
 have ga:W.cell? ⟨T,na,none⟩=some (.slice xa ma ya):=by rw[hot.cellAt na (by omega),←exa];simp[List.getD,hvl,hna]
 have gb:W.cell? ⟨T,nb,none⟩=some (.slice xb mb yb):=by rw[hot.cellAt nb (by omega),←exb];simp[List.getD,hvl,hnb]
 have fa:=hot.frozenAt na
 have fb:=hot.frozenAt nb
 have hQT:Bq≠T:=fun e=>blk_owns kQ hO.ot.out types_ne.2.2.2.1 (by rw[eT,e];rfl)
 have hTH:H.heap.size≤T:=hfr T (by unfold fpP fpT;rw[eT];simp[rowOf])
 have hTa:ba≠T:=by have:=World.block_lt_of_cell? _ _ hA;simp only at this;omega
 have hTb:bb≠T:=by have:=World.block_lt_of_cell? _ _ hB';simp only at this;omega
 have EXA:=xH1 exa
 have EXB:=xH1 exb
 clear exa exb
 have HNT:=xH1 hnt
 have HO:=xH1 hO
 have HOT:=xH1 hot
 have i0:(0:Int)≤(na:Int):=by omega
 have i1:(na:Int)<u.nt:=by omega
 have i2:(0:Int)≤(nb:Int):=by omega
 have i3:(nb:Int)<u.nt:=by omega
 clear hnt hO hot hvl hlen h0 h1 hnd hA hB'
 go_enter Tryz.func16,Tryz.ntmps16
 go_wp2
 go_quiet (fail)
 go_wp2
 obtain⟨W1,hW1⟩:∃W1:World,W1=W.drewN nq:=⟨_,rfl⟩
 have hd:Below W.heap.size W (W.drewN nq):=below_drewN' _ _
 rw[←hW1] at hd⊢
 clear hW1
 replace ca:=keepc hd ca
 replace cb:=keepc hd cb
 replace e4:=keepc hd e4
 replace ga:=keepc hd ga
 replace gb:=keepc hd gb
 have fa1:W1.frozen? ⟨T,na,none⟩=false:=(hd.frozen hT2).trans fa
 have fb1:W1.frozen? ⟨T,nb,none⟩=false:=(hd.frozen hT2).trans fb
 clear fa fb
 have HD:=xH1 hd
 have HK:=xH1 (kQ.below hd)
 have HO1:=xH1 (HO.out.below hd)
 have HOT1:=xH1 (owns_below HOT.out hd)
 clear fa1 fb1
 refine wp_region_steps 26 (by kernel_rfl) (by kernel_rfl) [fun dz uz wz=>uz= .pointer (some ⟨Bq,0,none⟩),fun dz uz wz=>uz= .pointer (some ⟨Bq,0,none⟩),fun dz uz wz=>uz= .pointer (some ⟨Bq,4,none⟩),fun dz uz wz=>uz= .slice (some ⟨T,0,none⟩) u.nt u.ct,fun dz uz wz=>uz= .int .i64 na,fun dz uz wz=>uz= .pointer (some ⟨Bq,0,none⟩),fun dz uz wz=>uz= .pointer (some ⟨Bq,0,none⟩),fun dz uz wz=>uz= .pointer (some ⟨Bq,4,none⟩),fun dz uz wz=>uz= .slice (some ⟨T,0,none⟩) u.nt u.ct,fun dz uz wz=>uz= .int .i64 nb,fun dz uz wz=>uz= .pointer (some ⟨Bq,0,none⟩),fun dz uz wz=>uz= .pointer (some ⟨Bq,0,none⟩),fun dz uz wz=>uz= .pointer (some ⟨Bq,4,none⟩),fun dz uz wz=>uz= .slice (some ⟨T,0,none⟩) u.nt u.ct,fun dz uz wz=>uz= .int .i64 nb,fun dz uz wz=>uz= .pointer (some ⟨T,nb,none⟩),fun dz uz wz=>uz= .slice xb mb yb,fun dz uz wz=>uz= .pointer (some ⟨Bq,0,none⟩),fun dz uz wz=>uz= .pointer (some ⟨Bq,0,none⟩),fun dz uz wz=>uz= .pointer (some ⟨Bq,4,none⟩),fun dz uz wz=>uz= .slice (some ⟨T,0,none⟩) u.nt u.ct,fun dz uz wz=>uz= .int .i64 na,fun dz uz wz=>uz= .pointer (some ⟨T,na,none⟩),fun dz uz wz=>uz= .slice xa ma ya,fun dz uz wz=>uz= .pointer (some ⟨T,na,none⟩),fun dz uz wz=>wz.ownsRow 0 51 1 (.slice (some ⟨T,0,none⟩) u.nt u.ct) u.nt (us.set na (.slice xb mb yb))] (St1 25 (Touch [T])) (fun _ _=>none) (Stage 25 [T] W1) (Stage.start _ _ _) (st1_size (fun _ _ h=>h.size)) (stab1_of ⟨fun _ _ _ _ _ h=>h,fun _ _ _ _ _ h=>h,fun _ _ _ _ _ h=>h,fun _ _ _ _ _ h=>h,fun _ _ _ _ _ h=>h,fun _ _ _ _ _ h=>h,fun _ _ _ _ _ h=>h,fun _ _ _ _ _ h=>h,fun _ _ _ _ _ h=>h,fun _ _ _ _ _ h=>h,fun _ _ _ _ _ h=>h,fun _ _ _ _ _ h=>h,fun _ _ _ _ _ h=>h,fun _ _ _ _ _ h=>h,fun _ _ _ _ _ h=>h,fun _ _ _ _ _ h=>h,fun _ _ _ _ _ h=>h,fun _ _ _ _ _ h=>h,fun _ _ _ _ _ h=>h,fun _ _ _ _ _ h=>h,fun _ _ _ _ _ h=>h,fun _ _ _ _ _ h=>h,fun _ _ _ _ _ h=>h,fun _ _ _ _ _ h=>h,fun _ _ _ _ _ h=>h,fun _ _ _ _ hb h=>owns_below h hb,trivial⟩ ⟨.inr (fun _ _ _ _ _ h=>h),.inr (fun _ _ _ _ _ h=>h),.inr (fun _ _ _ _ _ h=>h),.inr (fun _ _ _ _ _ h=>h),.inr (fun _ _ _ _ _ h=>h),.inr (fun _ _ _ _ _ h=>h),.inr (fun _ _ _ _ _ h=>h),.inr (fun _ _ _ _ _ h=>h),.inr (fun _ _ _ _ _ h=>h),.inr (fun _ _ _ _ _ h=>h),.inr (fun _ _ _ _ _ h=>h),.inr (fun _ _ _ _ _ h=>h),.inr (fun _ _ _ _ _ h=>h),.inr (fun _ _ _ _ _ h=>h),.inr (fun _ _ _ _ _ h=>h),.inr (fun _ _ _ _ _ h=>h),.inr (fun _ _ _ _ _ h=>h),.inr (fun _ _ _ _ _ h=>h),.inr (fun _ _ _ _ _ h=>h),.inr (fun _ _ _ _ _ h=>h),.inr (fun _ _ _ _ _ h=>h),.inr (fun _ _ _ _ _ h=>h),.inr (fun _ _ _ _ _ h=>h),.inr (fun _ _ _ _ _ h=>h),.inr (fun _ _ _ _ _ h=>h),.inl rfl,trivial⟩) ?_ ?_
 ·simp only[List.take_succ_cons,List.take_zero]
  refine⟨?_,?_,?_,?_,?_,?_,?_,?_,?_,?_,?_,?_,?_,?_,?_,?_,?_,?_,?_,?_,?_,?_,?_,?_,?_,?_,trivial⟩
  ·intro ρ w1 L hG hny hfr hd
   obtain⟨fc,ff⟩:=xF1 hfr
   have f0:ρ (.tmp 0)= .pointer (some ⟨Bq,0,none⟩):=hfr _ rfl
   refine gives_val (u:= .pointer (some ⟨Bq,0,none⟩)) (w':=w1) (by go_simp) ⟨st1_below (by decide) xB1,rfl,xN1,hG.step (by decide) xB1⟩
  ·intro ρ w1 L hG hny hfr hd
   obtain⟨fc,ff⟩:=xF1 hfr
   obtain⟨d0,-⟩:=hd
   have d0:(ρ (.tmp 16))= .pointer (some ⟨Bq,0,none⟩):=d0
   refine gives_val (u:= .pointer (some ⟨Bq,0,none⟩)) (w':=w1) (by go_simp) ⟨st1_below (by decide) xB1,rfl,xN1,hG.step (by decide) xB1⟩
  ·intro ρ w1 L hG hny hfr hd
   obtain⟨fc,ff⟩:=xF1 hfr
   obtain⟨d0,-⟩:=hd
   have d0:(ρ (.tmp 17))= .pointer (some ⟨Bq,0,none⟩):=d0
   refine gives_val (u:= .pointer (some ⟨Bq,4,none⟩)) (w':=w1) (by go_simp) ⟨st1_below (by decide) xB1,rfl,xN1,hG.step (by decide) xB1⟩
  ·intro ρ w1 L hG hny hfr hd
   obtain⟨fc,ff⟩:=xF1 hfr
   obtain⟨d0,-⟩:=hd
   have d0:(ρ (.tmp 18))= .pointer (some ⟨Bq,4,none⟩):=d0
   have e4:=cell_touch hG.2 e4 (by simpa using hQT)
   refine gives_val (u:= .slice (some ⟨T,0,none⟩) u.nt u.ct) (w':=w1) (by go_simp) ⟨st1_below (by decide) xB1,rfl,xN1,hG.step (by decide) xB1⟩
  ·intro ρ w1 L hG hny hfr hd
   obtain⟨fc,ff⟩:=xF1 hfr
   have f2:ρ (.tmp 2)= .pointer (some ⟨ba,0,none⟩):=hfr _ rfl
   have ca:=cell_touch hG.2 ca (by simpa using hTa)
   refine gives_val (u:= .int .i64 na) (w':=w1) (by go_simp) ⟨st1_below (by decide) xB1,rfl,xN1,hG.step (by decide) xB1⟩
  ·intro ρ w1 L hG hny hfr hd
   obtain⟨fc,ff⟩:=xF1 hfr
   have f0:ρ (.tmp 0)= .pointer (some ⟨Bq,0,none⟩):=hfr _ rfl
   refine gives_val (u:= .pointer (some ⟨Bq,0,none⟩)) (w':=w1) (by go_simp) ⟨st1_below (by decide) xB1,rfl,xN1,hG.step (by decide) xB1⟩
  ·intro ρ w1 L hG hny hfr hd
   obtain⟨fc,ff⟩:=xF1 hfr
   obtain⟨d0,-⟩:=hd
   have d0:(ρ (.tmp 21))= .pointer (some ⟨Bq,0,none⟩):=d0
   refine gives_val (u:= .pointer (some ⟨Bq,0,none⟩)) (w':=w1) (by go_simp) ⟨st1_below (by decide) xB1,rfl,xN1,hG.step (by decide) xB1⟩
  ·intro ρ w1 L hG hny hfr hd
   obtain⟨fc,ff⟩:=xF1 hfr
   obtain⟨d0,-⟩:=hd
   have d0:(ρ (.tmp 22))= .pointer (some ⟨Bq,0,none⟩):=d0
   refine gives_val (u:= .pointer (some ⟨Bq,4,none⟩)) (w':=w1) (by go_simp) ⟨st1_below (by decide) xB1,rfl,xN1,hG.step (by decide) xB1⟩
  ·intro ρ w1 L hG hny hfr hd
   obtain⟨fc,ff⟩:=xF1 hfr
   obtain⟨d0,-⟩:=hd
   have d0:(ρ (.tmp 23))= .pointer (some ⟨Bq,4,none⟩):=d0
   have e4:=cell_touch hG.2 e4 (by simpa using hQT)
   refine gives_val (u:= .slice (some ⟨T,0,none⟩) u.nt u.ct) (w':=w1) (by go_simp) ⟨st1_below (by decide) xB1,rfl,xN1,hG.step (by decide) xB1⟩
  ·intro ρ w1 L hG hny hfr hd
   obtain⟨fc,ff⟩:=xF1 hfr
   have f1:ρ (.tmp 1)= .pointer (some ⟨bb,0,none⟩):=hfr _ rfl
   have cb:=cell_touch hG.2 cb (by simpa using hTb)
   refine gives_val (u:= .int .i64 nb) (w':=w1) (by go_simp) ⟨st1_below (by decide) xB1,rfl,xN1,hG.step (by decide) xB1⟩
  ·intro ρ w1 L hG hny hfr hd
   obtain⟨fc,ff⟩:=xF1 hfr
   have f0:ρ (.tmp 0)= .pointer (some ⟨Bq,0,none⟩):=hfr _ rfl
   refine gives_val (u:= .pointer (some ⟨Bq,0,none⟩)) (w':=w1) (by go_simp) ⟨st1_below (by decide) xB1,rfl,xN1,hG.step (by decide) xB1⟩
  ·intro ρ w1 L hG hny hfr hd
   obtain⟨fc,ff⟩:=xF1 hfr
   obtain⟨d0,-⟩:=hd
   have d0:(ρ (.tmp 26))= .pointer (some ⟨Bq,0,none⟩):=d0
   refine gives_val (u:= .pointer (some ⟨Bq,0,none⟩)) (w':=w1) (by go_simp) ⟨st1_below (by decide) xB1,rfl,xN1,hG.step (by decide) xB1⟩
  ·intro ρ w1 L hG hny hfr hd
   obtain⟨fc,ff⟩:=xF1 hfr
   obtain⟨d0,-⟩:=hd
   have d0:(ρ (.tmp 27))= .pointer (some ⟨Bq,0,none⟩):=d0
   refine gives_val (u:= .pointer (some ⟨Bq,4,none⟩)) (w':=w1) (by go_simp) ⟨st1_below (by decide) xB1,rfl,xN1,hG.step (by decide) xB1⟩
  ·intro ρ w1 L hG hny hfr hd
   obtain⟨fc,ff⟩:=xF1 hfr
   obtain⟨d0,-⟩:=hd
   have d0:(ρ (.tmp 28))= .pointer (some ⟨Bq,4,none⟩):=d0
   have e4:=cell_touch hG.2 e4 (by simpa using hQT)
   refine gives_val (u:= .slice (some ⟨T,0,none⟩) u.nt u.ct) (w':=w1) (by go_simp) ⟨st1_below (by decide) xB1,rfl,xN1,hG.step (by decide) xB1⟩
  ·intro ρ w1 L hG hny hfr hd
   obtain⟨fc,ff⟩:=xF1 hfr
   have f1:ρ (.tmp 1)= .pointer (some ⟨bb,0,none⟩):=hfr _ rfl
   have cb:=cell_touch hG.2 cb (by simpa using hTb)
   refine gives_val (u:= .int .i64 nb) (w':=w1) (by go_simp) ⟨st1_below (by decide) xB1,rfl,xN1,hG.step (by decide) xB1⟩
  ·intro ρ w1 L hG hny hfr hd
   obtain⟨fc,ff⟩:=xF1 hfr
   obtain⟨d0,d1,-⟩:=hd
   have d0:(ρ (.tmp 29))= .slice (some ⟨T,0,none⟩) u.nt u.ct:=d0
   have d1:(ρ (.tmp 30))= .int .i64 nb:=d1
   refine gives_val (u:= .pointer (some ⟨T,nb,none⟩)) (w':=w1) (by go_simp) ⟨st1_below (by decide) xB1,rfl,xN1,hG.step (by decide) xB1⟩
  ·intro ρ w1 L hG hny hfr hd
   obtain⟨fc,ff⟩:=xF1 hfr
   obtain⟨d0,-⟩:=hd
   have d0:(ρ (.tmp 31))= .pointer (some ⟨T,nb,none⟩):=d0
   have hL:=hny 25 _ rfl (by kernel_rfl)
   have gb:=keepc (hG.1 hL) gb
   refine gives_val (u:= .slice xb mb yb) (w':=w1) (by go_simp) ⟨st1_below (by decide) xB1,rfl,xN1,hG.step (by decide) xB1⟩
  ·intro ρ w1 L hG hny hfr hd
   obtain⟨fc,ff⟩:=xF1 hfr
   have f0:ρ (.tmp 0)= .pointer (some ⟨Bq,0,none⟩):=hfr _ rfl
   refine gives_val (u:= .pointer (some ⟨Bq,0,none⟩)) (w':=w1) (by go_simp) ⟨st1_below (by decide) xB1,rfl,xN1,hG.step (by decide) xB1⟩
  ·intro ρ w1 L hG hny hfr hd
   obtain⟨fc,ff⟩:=xF1 hfr
   obtain⟨d0,-⟩:=hd
   have d0:(ρ (.tmp 33))= .pointer (some ⟨Bq,0,none⟩):=d0
   refine gives_val (u:= .pointer (some ⟨Bq,0,none⟩)) (w':=w1) (by go_simp) ⟨st1_below (by decide) xB1,rfl,xN1,hG.step (by decide) xB1⟩
  ·intro ρ w1 L hG hny hfr hd
   obtain⟨fc,ff⟩:=xF1 hfr
   obtain⟨d0,-⟩:=hd
   have d0:(ρ (.tmp 34))= .pointer (some ⟨Bq,0,none⟩):=d0
   refine gives_val (u:= .pointer (some ⟨Bq,4,none⟩)) (w':=w1) (by go_simp) ⟨st1_below (by decide) xB1,rfl,xN1,hG.step (by decide) xB1⟩
  ·intro ρ w1 L hG hny hfr hd
   obtain⟨fc,ff⟩:=xF1 hfr
   obtain⟨d0,-⟩:=hd
   have d0:(ρ (.tmp 35))= .pointer (some ⟨Bq,4,none⟩):=d0
   have e4:=cell_touch hG.2 e4 (by simpa using hQT)
   refine gives_val (u:= .slice (some ⟨T,0,none⟩) u.nt u.ct) (w':=w1) (by go_simp) ⟨st1_below (by decide) xB1,rfl,xN1,hG.step (by decide) xB1⟩
  ·intro ρ w1 L hG hny hfr hd
   obtain⟨fc,ff⟩:=xF1 hfr
   have f2:ρ (.tmp 2)= .pointer (some ⟨ba,0,none⟩):=hfr _ rfl
   have ca:=cell_touch hG.2 ca (by simpa using hTa)
   refine gives_val (u:= .int .i64 na) (w':=w1) (by go_simp) ⟨st1_below (by decide) xB1,rfl,xN1,hG.step (by decide) xB1⟩
  ·intro ρ w1 L hG hny hfr hd
   obtain⟨fc,ff⟩:=xF1 hfr
   obtain⟨d0,d1,-⟩:=hd
   have d0:(ρ (.tmp 36))= .slice (some ⟨T,0,none⟩) u.nt u.ct:=d0
   have d1:(ρ (.tmp 37))= .int .i64 na:=d1
   refine gives_val (u:= .pointer (some ⟨T,na,none⟩)) (w':=w1) (by go_simp) ⟨st1_below (by decide) xB1,rfl,xN1,hG.step (by decide) xB1⟩
  ·intro ρ w1 L hG hny hfr hd
   obtain⟨fc,ff⟩:=xF1 hfr
   obtain⟨d0,-⟩:=hd
   have d0:(ρ (.tmp 38))= .pointer (some ⟨T,na,none⟩):=d0
   have hL:=hny 25 _ rfl (by kernel_rfl)
   have ga:=keepc (hG.1 hL) ga
   refine gives_val (u:= .slice xa ma ya) (w':=w1) (by go_simp) ⟨st1_below (by decide) xB1,rfl,xN1,hG.step (by decide) xB1⟩
  ·intro ρ w1 L hG hny hfr hd
   obtain⟨fc,ff⟩:=xF1 hfr
   obtain⟨d0,d1,-⟩:=hd
   have d0:(ρ (.tmp 19))= .slice (some ⟨T,0,none⟩) u.nt u.ct:=d0
   have d1:(ρ (.tmp 20))= .int .i64 na:=d1
   refine gives_val (u:= .pointer (some ⟨T,na,none⟩)) (w':=w1) (by go_simp) ⟨st1_below (by decide) xB1,rfl,xN1,hG.step (by decide) xB1⟩
  ·intro ρ w1 L hG hny hfr hd
   obtain⟨fc,ff⟩:=xF1 hfr
   obtain⟨d0,d1,-⟩:=hd
   have d0:(ρ (.tmp 40))= .pointer (some ⟨T,na,none⟩):=d0
   have d1:(ρ (.tmp 32))= .slice xb mb yb:=d1
   have hL:=hny 25 _ rfl (by kernel_rfl)
   have ga:=keepc (hG.1 hL) ga
   have ho:=owns_below HOT1.out (hG.1 hL)
   have fz:=ho.frozenAt na
   have HS:=xH1 (owns_store ho na (.slice xb mb yb) rfl).1
   clear ho
   refine gives_skip (w':=w1.setCell ⟨T,na,none⟩ (.slice xb mb yb)) (by go_simp) ⟨st1_own ((Touch.refl _ _).set (by simp)),HS.out,xN1,hG.own ((Touch.refl _ _).set (by simp))⟩
 intro vs w2 L hG hlen hall hap hbd
 obtain⟨xv0,vs0,rfl,hl0⟩:=len_cons hlen
 obtain⟨xv1,vs1,rfl,hl1⟩:=len_cons hl0
 obtain⟨xv2,vs2,rfl,hl2⟩:=len_cons hl1
 obtain⟨xv3,vs3,rfl,hl3⟩:=len_cons hl2
 obtain⟨xv4,vs4,rfl,hl4⟩:=len_cons hl3
 obtain⟨xv5,vs5,rfl,hl5⟩:=len_cons hl4
 obtain⟨xv6,vs6,rfl,hl6⟩:=len_cons hl5
 obtain⟨xv7,vs7,rfl,hl7⟩:=len_cons hl6
 obtain⟨xv8,vs8,rfl,hl8⟩:=len_cons hl7
 obtain⟨xv9,vs9,rfl,hl9⟩:=len_cons hl8
 obtain⟨xv10,vs10,rfl,hl10⟩:=len_cons hl9
 obtain⟨xv11,vs11,rfl,hl11⟩:=len_cons hl10
 obtain⟨xv12,vs12,rfl,hl12⟩:=len_cons hl11
 obtain⟨xv13,vs13,rfl,hl13⟩:=len_cons hl12
 obtain⟨xv14,vs14,rfl,hl14⟩:=len_cons hl13
 obtain⟨xv15,vs15,rfl,hl15⟩:=len_cons hl14
 obtain⟨xv16,vs16,rfl,hl16⟩:=len_cons hl15
 obtain⟨xv17,vs17,rfl,hl17⟩:=len_cons hl16
 obtain⟨xv18,vs18,rfl,hl18⟩:=len_cons hl17
 obtain⟨xv19,vs19,rfl,hl19⟩:=len_cons hl18
 obtain⟨xv20,vs20,rfl,hl20⟩:=len_cons hl19
 obtain⟨xv21,vs21,rfl,hl21⟩:=len_cons hl20
 obtain⟨xv22,vs22,rfl,hl22⟩:=len_cons hl21
 obtain⟨xv23,vs23,rfl,hl23⟩:=len_cons hl22
 obtain⟨xv24,vs24,rfl,hl24⟩:=len_cons hl23
 obtain⟨xv25,vs25,rfl,hl25⟩:=len_cons hl24
 obtain rfl:=len_nil hl25
 clear hlen hl0 hl1 hl2 hl3 hl4 hl5 hl6 hl7 hl8 hl9 hl10 hl11 hl12 hl13 hl14 hl15 hl16 hl17 hl18 hl19 hl20 hl21 hl22 hl23 hl24 hl25
 simp only[List.take_succ_cons,List.take_zero,List.drop_succ_cons,List.drop_zero] at hall⊢
 obtain⟨t0',t1',t2',t3',t4',t5',t6',t7',t8',t9',t10',t11',t12',t13',t14',t15',t16',t17',t18',t19',t20',t21',t22',t23',t24',t25',-⟩:=hall
 have hv0:xv0= .pointer (some ⟨Bq,0,none⟩):=t0'
 have hv1:xv1= .pointer (some ⟨Bq,0,none⟩):=t1'
 have hv2:xv2= .pointer (some ⟨Bq,4,none⟩):=t2'
 have hv3:xv3= .slice (some ⟨T,0,none⟩) u.nt u.ct:=t3'
 have hv4:xv4= .int .i64 na:=t4'
 have hv5:xv5= .pointer (some ⟨Bq,0,none⟩):=t5'
 have hv6:xv6= .pointer (some ⟨Bq,0,none⟩):=t6'
 have hv7:xv7= .pointer (some ⟨Bq,4,none⟩):=t7'
 have hv8:xv8= .slice (some ⟨T,0,none⟩) u.nt u.ct:=t8'
 have hv9:xv9= .int .i64 nb:=t9'
 have hv10:xv10= .pointer (some ⟨Bq,0,none⟩):=t10'
 have hv11:xv11= .pointer (some ⟨Bq,0,none⟩):=t11'
 have hv12:xv12= .pointer (some ⟨Bq,4,none⟩):=t12'
 have hv13:xv13= .slice (some ⟨T,0,none⟩) u.nt u.ct:=t13'
 have hv14:xv14= .int .i64 nb:=t14'
 have hv15:xv15= .pointer (some ⟨T,nb,none⟩):=t15'
 have hv16:xv16= .slice xb mb yb:=t16'
 have hv17:xv17= .pointer (some ⟨Bq,0,none⟩):=t17'
 have hv18:xv18= .pointer (some ⟨Bq,0,none⟩):=t18'
 have hv19:xv19= .pointer (some ⟨Bq,4,none⟩):=t19'
 have hv20:xv20= .slice (some ⟨T,0,none⟩) u.nt u.ct:=t20'
 have hv21:xv21= .int .i64 na:=t21'
 have hv22:xv22= .pointer (some ⟨T,na,none⟩):=t22'
 have hv23:xv23= .slice xa ma ya:=t23'
 have hv24:xv24= .pointer (some ⟨T,na,none⟩):=t24'
 have hv25:w2.ownsRow 0 51 1 (.slice (some ⟨T,0,none⟩) u.nt u.ct) u.nt (us.set na (.slice xb mb yb)):=t25'
 clear t0' t1' t2' t3' t4' t5' t6' t7' t8' t9' t10' t11' t12' t13' t14' t15' t16' t17' t18' t19' t20' t21' t22' t23' t24' t25'
 clear hap hbd
 subst hv0 hv1 hv2 hv3 hv4 hv5 hv6 hv7 hv8 hv9 hv10 hv11 hv12 hv13 hv14 hv15 hv16 hv17 hv18 hv19 hv20 hv21 hv22 hv23 hv24
 simp only[putAll,Act.put,List.setIfInBounds_toArray,List.set_cons_succ,List.set_cons_zero]
 obtain⟨z,hz2⟩:∃z,w2.cell? ⟨T,nb,none⟩=some z:=by
  rw[hv25.cellAt nb (by omega)]
  exact⟨_,List.getElem?_eq_getElem (by have:=hv25.1;omega)⟩
 have fz2:=hv25.frozenAt nb
 have HR:=xH1 (owns_store hv25 nb (.slice xa ma ya) rfl)
 clear hv25
 go_wp2
 go_ret
 have hT1':Touch [T] W1 (w2.setCell ⟨T,nb,none⟩ (.slice xa ma ya)):=hG.2.set (by simp)
 refine⟨rfl,(hB.trans (HD.out.mono hB.size)).trans (hT1'.below (Nat.le_trans hB.size HD.out.size) (fun q hq=>by simp at hq;omega)),fun p' hp'=> ?_⟩
 obtain rfl:p.thr (swapTs [] p.threads na nb)=p':=by simpa using hp'
 have hg:W1.grownBy (w2.setCell ⟨T,nb,none⟩ (.slice xa ma ya)) (rowOf u.t):=⟨hT1'.os,hT1'.tape,hT1'.output,hT1'.size,fun q hq hne=>hT1'.block q hq (fun hm=>hne (by rw[eT];simp at hm;rw[hm];rfl))⟩
 have hinn:=HO1.out.inner_rd hg
 refine⟨u.thr (some ⟨T,0,none⟩) u.nt u.ct,?_,rdp_threads HO1.out hg HR.out.1 (by rw[swapTs_len];exact HNT.out) (fun i hi=> ?_)⟩
 ·have:=HK.out.grown hg (by rw[eT];intro e;exact hQT (by cases e;rfl))
  rw[eT] at this
  exact this
 ·rw[swapTs_len] at hi
  have hvl:=HO1.out.ot.vlen
  have hnt:=HNT.out
  have e:=swapTs_get undef us na nb i (by omega) (by omega)
  have e2:=swapTs_get [] p.threads na nb i (by omega) (by omega)
  have e3:(us.set na (.slice xb mb yb)).set nb (.slice xa ma ya)=swapTs undef us na nb:=by unfold swapTs;rw[EXA.out,EXB.out]
  rw[e3,e,e2]
  split
  ·exact hinn na (by omega)
  ·split
   ·exact hinn nb (by omega)
   ·exact hinn i hi
theorem swapRes_ok {p:Pg} {a b:Int} (hs:SmallP p) (hp:0<p.threads.length) (h0:0≤a) (h1:a<p.threads.length):∀p',swapRes p a b=some p'→SmallP p'∧0<p'.threads.length:=by
 intro p' h
 unfold swapRes at h
 split at h
 ·next hb=>
  obtain rfl:p.thr (swapTs [] p.threads a.toNat b.toNat)=p':=by simpa using h
  refine⟨hs.thr (by rw[swapTs_len];exact hs.lt) (fun i=> ?_),by show 0<(swapTs [] p.threads a.toNat b.toNat).length;rw[swapTs_len];exact hp⟩
  rw[swapTs_get _ _ _ _ _ (by omega) (by omega)]
  split
  ·exact hs.inn _
  ·split
   ·exact hs.inn _
   ·exact hs.inn _
 ·cases h
theorem implSwapThreads_any (v:PV) (p:Pg) (a b:Int) (w:World) (hr:RdP w v p) (hz:Small v p):
  Calls Tryz.prog 5 #[.agg #[.slice v.s v.ns v.cs,.slice v.g v.ng v.cg,.slice v.b v.nb v.cb,.slice v.r v.nr v.cr,.slice v.t v.nt v.ct],.int .i64 a,.int .i64 b] w fun e w'=>∃(u:PV) (us:List Value),e= .returned (.tuple #[.agg #[.slice u.s u.ns u.cs,.slice u.g u.ng u.cg,.slice u.b u.nb u.cb,.slice u.r u.nr u.cr,.slice u.t u.nt u.ct],.bool (swapThreads p a b).isSome])∧OwnP w' u us ((swapThreads p a b).getD noPg).cells∧(fpP u us).Nodup∧(∀k∈fpP u us,w.heap.size≤k)∧Below w.heap.size w w':=by
 have hsd:=hz.data hr
 have HSD:=xH1 hsd
 have hmf:∀(fn:Fn) (first cap:Array Value) (w:World),(Instr.makeFunc fn first cap).run Tryz.prog w= .ok (.func fn first cap) w:=fun _ _ _ _=>rfl
 obtain⟨W0,hW0⟩:∃W0:World,W0=((((w.alloc (.cells #[.slice v.s v.ns v.cs,.slice v.g v.ng v.cg,.slice v.b v.nb v.cb,.slice v.r v.nr v.cr,.slice v.t v.nt v.ct] 26)).alloc (.cells #[.int .i64 a] 3)).alloc (.cells #[.int .i64 b] 3)).alloc (.cells #[.slice none 0 0,.slice none 0 0,.slice none 0 0,.slice none 0 0,.slice none 0 0] 26)):=⟨_,rfl⟩
 have b0:Below w.heap.size w ((((w.alloc (.cells #[.slice v.s v.ns v.cs,.slice v.g v.ng v.cg,.slice v.b v.nb v.cb,.slice v.r v.nr v.cr,.slice v.t v.nt v.ct] 26)).alloc (.cells #[.int .i64 a] 3)).alloc (.cells #[.int .i64 b] 3)).alloc (.cells #[.slice none 0 0,.slice none 0 0,.slice none 0 0,.slice none 0 0,.slice none 0 0] 26)):=(((xA1).alloc (by simp) _).alloc (by simp;omega) _).alloc (by simp;omega) _
 have k0:Blk ((((w.alloc (.cells #[.slice v.s v.ns v.cs,.slice v.g v.ng v.cg,.slice v.b v.nb v.cb,.slice v.r v.nr v.cr,.slice v.t v.nt v.ct] 26)).alloc (.cells #[.int .i64 a] 3)).alloc (.cells #[.int .i64 b] 3)).alloc (.cells #[.slice none 0 0,.slice none 0 0,.slice none 0 0,.slice none 0 0,.slice none 0 0] 26)) w.heap.size #[.slice v.s v.ns v.cs,.slice v.g v.ng v.cg,.slice v.b v.nb v.cb,.slice v.r v.nr v.cr,.slice v.t v.nt v.ct] 26:=(((Blk.new _ _ _).alloc _).alloc _).alloc _
 have k1:Blk ((((w.alloc (.cells #[.slice v.s v.ns v.cs,.slice v.g v.ng v.cg,.slice v.b v.nb v.cb,.slice v.r v.nr v.cr,.slice v.t v.nt v.ct] 26)).alloc (.cells #[.int .i64 a] 3)).alloc (.cells #[.int .i64 b] 3)).alloc (.cells #[.slice none 0 0,.slice none 0 0,.slice none 0 0,.slice none 0 0,.slice none 0 0] 26)) (w.heap.size+1) #[.int .i64 a] 3:=by simpa using((Blk.new (w.alloc (.cells #[.slice v.s v.ns v.cs,.slice v.g v.ng v.cg,.slice v.b v.nb v.cb,.slice v.r v.nr v.cr,.slice v.t v.nt v.ct] 26)) #[.int .i64 a] 3).alloc (.cells #[.int .i64 b] 3)).alloc (.cells #[.slice none 0 0,.slice none 0 0,.slice none 0 0,.slice none 0 0,.slice none 0 0] 26)
 have k2:Blk ((((w.alloc (.cells #[.slice v.s v.ns v.cs,.slice v.g v.ng v.cg,.slice v.b v.nb v.cb,.slice v.r v.nr v.cr,.slice v.t v.nt v.ct] 26)).alloc (.cells #[.int .i64 a] 3)).alloc (.cells #[.int .i64 b] 3)).alloc (.cells #[.slice none 0 0,.slice none 0 0,.slice none 0 0,.slice none 0 0,.slice none 0 0] 26)) (w.heap.size+1+1) #[.int .i64 b] 3:=by simpa using(Blk.new ((w.alloc (.cells #[.slice v.s v.ns v.cs,.slice v.g v.ng v.cg,.slice v.b v.nb v.cb,.slice v.r v.nr v.cr,.slice v.t v.nt v.ct] 26)).alloc (.cells #[.int .i64 a] 3)) #[.int .i64 b] 3).alloc (.cells #[.slice none 0 0,.slice none 0 0,.slice none 0 0,.slice none 0 0,.slice none 0 0] 26)
 have kR:Blk ((((w.alloc (.cells #[.slice v.s v.ns v.cs,.slice v.g v.ng v.cg,.slice v.b v.nb v.cb,.slice v.r v.nr v.cr,.slice v.t v.nt v.ct] 26)).alloc (.cells #[.int .i64 a] 3)).alloc (.cells #[.int .i64 b] 3)).alloc (.cells #[.slice none 0 0,.slice none 0 0,.slice none 0 0,.slice none 0 0,.slice none 0 0] 26)) (w.heap.size+1+1+1) #[.slice none 0 0,.slice none 0 0,.slice none 0 0,.slice none 0 0,.slice none 0 0] 26:=by simpa using Blk.new (((w.alloc (.cells #[.slice v.s v.ns v.cs,.slice v.g v.ng v.cg,.slice v.b v.nb v.cb,.slice v.r v.nr v.cr,.slice v.t v.nt v.ct] 26)).alloc (.cells #[.int .i64 a] 3)).alloc (.cells #[.int .i64 b] 3)) #[.slice none 0 0,.slice none 0 0,.slice none 0 0,.slice none 0 0,.slice none 0 0] 26
 have HW0:=xH1 hW0
 rw[←hW0] at b0 k0 k1 k2 kR
 clear hW0
 have q0:=k0.cell 0 rfl
 have q1:=k0.cell 1 rfl
 have q2:=k0.cell 2 rfl
 have q3:=k0.cell 3 rfl
 have q4:=k0.cell 4 rfl
 have ca:=k1.cell 0 rfl
 have cb:=k2.cell 0 rfl
 have hW:=kR.lt
 have lt:=xH1 hr.lt
 clear hsd
 go_enter Tryz.func5,Tryz.ntmps5
 go_wp2_with fail
 rw[←HW0.out]
 refine(change_any 16 #[.pointer (some ⟨w.heap.size+1+1,0,none⟩),.pointer (some ⟨w.heap.size+1,0,none⟩)] v p a (swapRes p a b) _ (enters_of Tryz.func16 (by kernel_rfl) rfl) (hr.below b0) hz
  (fun hv h0 h1 H hH=>swapFn_any p a b H _ _ (keepc hH ca) (keepc hH cb) h0 h1 HSD.out.lt) (fun hv h0 h1 p' hp'=>swapRes_ok HSD.out (by omega) h0 h1 p' hp')).mono ?_
 rintro e w1 ⟨u,us,rfl,ou,hnd,hfr,hb⟩
 have kR1:=kR.below hb
 have BE:=b0.trans (hb.mono b0.size)
 have HO:=xH1 ou
 have HFR:=xH1 hfr
 have y0:=kR1.cell 0 rfl
 have x0:=kR1.fz 0
 have y1:=kR1.cell 1 rfl
 have x1:=kR1.fz 1
 have y2:=kR1.cell 2 rfl
 have x2:=kR1.fz 2
 have y3:=kR1.cell 3 rfl
 have x3:=kR1.fz 3
 have y4:=kR1.cell 4 rfl
 have x4:=kR1.fz 4
 clear ou hfr q0 q1 q2 q3 q4 ca cb k0 k1 k2 kR kR1
 go_wp2
 refine bodyPost_ret (v:= .tuple #[.agg #[.slice u.s u.ns u.cs,.slice u.g u.ng u.cg,.slice u.b u.nb u.cb,.slice u.r u.nr u.cr,.slice u.t u.nt u.ct],.bool (swapThreads p a b).isSome]) (by simp[results,Tryz.results5,go_sem,y0,y1,y2,y3,y4,swapThreads]) rfl ⟨u,us,rfl,?_,hnd,fun q hq=>Nat.le_trans b0.size (HFR.out q hq),?_⟩
 ·refine HO.out.touch (S:=[w.heap.size+1+1+1]) ?_ (fun q hq hm=>by have:=HFR.out q hq;simp at hm;omega)
  exact Touch.set (Touch.set (Touch.set (Touch.set (Touch.set (Touch.refl _ _) (by simp)) (by simp)) (by simp)) (by simp)) (by simp)
 ·exact((((BE.setCell (by simp;omega) _).setCell (by simp;omega) _).setCell (by simp;omega) _).setCell (by simp;omega) _).setCell (by simp;omega) _

def isThr (p:Pg) (t:Int):Bool:=progValid p&&(decide (0≤t)&&decide (t<p.threads.length))
theorem isThr_iff {p:Pg} {t:Int}:isThr p t=true↔progValid p=true∧0≤t∧t<p.threads.length:=by
 unfold isThr;simp
theorem change_of {p:Pg} {t:Int} {res:Option Pg} (h:isThr p t=true):changeP p t res=res:=by
 unfold changeP;rw[if_pos (isThr_iff.1 h)]
theorem change_not {p:Pg} {t:Int} {res:Option Pg} (h:isThr p t=false):changeP p t res=none:=by
 unfold changeP
 rw[if_neg (fun h'=>by rw[isThr_iff.2 h'] at h;cases h)]
theorem l11Thread_any (v:PV) (p:Pg) (t:Int) (w:World) (hr:RdP w v p) (hz:Small v p):
  Calls Tryz.prog 17 #[.agg #[.slice v.s v.ns v.cs,.slice v.g v.ng v.cg,.slice v.b v.nb v.cb,.slice v.r v.nr v.cr,.slice v.t v.nt v.ct],.int .i64 t] w fun e w'=>e= .returned (.bool (isThr p t))∧Below w.heap.size w w':=by
 have hs:v.ns≤maxLen∧v.ng≤maxLen∧v.nb≤maxLen∧v.nr≤maxLen:=by
  obtain⟨z1,z2,z3,z4,z5,z6⟩:=hz;unfold maxLen;omega
 have zz:Hid (v.ns≤maxLen∧v.ng≤maxLen∧v.nb≤maxLen∧v.nr≤maxLen):=xH1 hs
 have HZ:=xH1 hz
 have z5:v.nt≤1048576:=hz.lt
 have Z6:=xH1 hz.inn
 have ls:=xH1 hr.ls
 have lg:=xH1 hr.lg
 have lb:=xH1 hr.lb
 have lr:=xH1 hr.lr
 have lt:=xH1 hr.lt
 clear hz
 have B0:Below w.heap.size w (w.alloc (.cells #[.slice v.s v.ns v.cs,.slice v.g v.ng v.cg,.slice v.b v.nb v.cb,.slice v.r v.nr v.cr,.slice v.t v.nt v.ct] 26)):=xA1
 have k0:Blk (w.alloc (.cells #[.slice v.s v.ns v.cs,.slice v.g v.ng v.cg,.slice v.b v.nb v.cb,.slice v.r v.nr v.cr,.slice v.t v.nt v.ct] 26)) w.heap.size #[.slice v.s v.ns v.cs,.slice v.g v.ng v.cg,.slice v.b v.nb v.cb,.slice v.r v.nr v.cr,.slice v.t v.nt v.ct] 26:=Blk.new _ _ _
 have q0:(w.alloc (.cells #[.slice v.s v.ns v.cs,.slice v.g v.ng v.cg,.slice v.b v.nb v.cb,.slice v.r v.nr v.cr,.slice v.t v.nt v.ct] 26)).cell? ⟨w.heap.size,0,none⟩=some (.slice v.s v.ns v.cs):=k0.cell 0 rfl
 have q1:(w.alloc (.cells #[.slice v.s v.ns v.cs,.slice v.g v.ng v.cg,.slice v.b v.nb v.cb,.slice v.r v.nr v.cr,.slice v.t v.nt v.ct] 26)).cell? ⟨w.heap.size,1,none⟩=some (.slice v.g v.ng v.cg):=k0.cell 1 rfl
 have q2:(w.alloc (.cells #[.slice v.s v.ns v.cs,.slice v.g v.ng v.cg,.slice v.b v.nb v.cb,.slice v.r v.nr v.cr,.slice v.t v.nt v.ct] 26)).cell? ⟨w.heap.size,2,none⟩=some (.slice v.b v.nb v.cb):=k0.cell 2 rfl
 have q3:(w.alloc (.cells #[.slice v.s v.ns v.cs,.slice v.g v.ng v.cg,.slice v.b v.nb v.cb,.slice v.r v.nr v.cr,.slice v.t v.nt v.ct] 26)).cell? ⟨w.heap.size,3,none⟩=some (.slice v.r v.nr v.cr):=k0.cell 3 rfl
 have q4:(w.alloc (.cells #[.slice v.s v.ns v.cs,.slice v.g v.ng v.cg,.slice v.b v.nb v.cb,.slice v.r v.nr v.cr,.slice v.t v.nt v.ct] 26)).cell? ⟨w.heap.size,4,none⟩=some (.slice v.t v.nt v.ct):=k0.cell 4 rfl
 clear k0
 rcases Bool.eq_false_or_eq_true (progValid p) with hv|hv
 rotate_left
 ·have HB:Hid (isThr p t=false):=xH1 (by unfold isThr;rw[hv];rfl)
  have HV:=xH1 hv
  clear hv
  go_enter Tryz.func17,Tryz.ntmps17
  go_wp2_with fail
  refine(specProgValid_any v p _ (hr.below B0) HZ.out).mono ?_
  rintro e w1 ⟨rfl,hb⟩
  rw[HV.out]
  replace q4:=keepc hb q4
  replace B0:=B0.trans (hb.mono B0.size)
  clear hb
  go_wp2
  go_ret
  exact⟨ret_bool HB.out.symm,B0⟩
 by_cases h0:0≤t
 rotate_left
 ·have t0:decide (0≤t)=false:=decide_eq_false h0
  have HB:Hid (isThr p t=false):=xH1 (by unfold isThr;rw[t0];simp)
  have HV:=xH1 hv
  clear hv h0
  go_enter Tryz.func17,Tryz.ntmps17
  go_wp2_with fail
  refine(specProgValid_any v p _ (hr.below B0) HZ.out).mono ?_
  rintro e w1 ⟨rfl,hb⟩
  rw[HV.out]
  replace q4:=keepc hb q4
  replace B0:=B0.trans (hb.mono B0.size)
  clear hb
  go_wp2
  go_ret
  exact⟨ret_bool HB.out.symm,B0⟩
 have t0:decide (0≤t)=true:=decide_eq_true h0
 by_cases h1:t<v.nt
 rotate_left
 ·have t1:decide (t<(v.nt:Int))=false:=decide_eq_false h1
  have HB:Hid (isThr p t=false):=xH1 (by unfold isThr;rw[lt.out,t1];simp)
  have HV:=xH1 hv
  clear hv h1
  go_enter Tryz.func17,Tryz.ntmps17
  go_wp2_with fail
  refine(specProgValid_any v p _ (hr.below B0) HZ.out).mono ?_
  rintro e w1 ⟨rfl,hb⟩
  rw[HV.out]
  replace q4:=keepc hb q4
  replace B0:=B0.trans (hb.mono B0.size)
  clear hb
  go_wp2
  go_ret
  exact⟨ret_bool HB.out.symm,B0⟩
 have t1:decide (t<(v.nt:Int))=true:=decide_eq_true h1
 have HB:Hid (isThr p t=true):=xH1 (by unfold isThr;rw[lt.out,t1,t0,hv];rfl)
 have HV:=xH1 hv
 clear hv
 go_enter Tryz.func17,Tryz.ntmps17
 go_wp2_with fail
 refine(specProgValid_any v p _ (hr.below B0) HZ.out).mono ?_
 rintro e w1 ⟨rfl,hb⟩
 rw[HV.out]
 replace q4:=keepc hb q4
 replace B0:=B0.trans (hb.mono B0.size)
 clear hb
 go_wp2
 go_ret
 exact⟨ret_bool HB.out.symm,B0⟩
theorem OwnP.inner_own {w w':World} {u:PV} {us:List Value} {p:Pg} (hO:OwnP w u us p.cells) (hg:w.grownBy w' (rowOf u.t)):
  ∀j,j<p.threads.length→∃a m c,us.getD j undef= .slice a m c∧w'.ownsRow 0 58 3 (.slice a m c) m (opsV (p.threads.getD j [])):=by
 intro j hj
 have hl:p.threads.length=u.nt:=by have:=hO.ot.len;simpa[Pg.cells] using this
 obtain⟨a',m,c',e,ho⟩:=hO.ot.inn j (by omega)
 have er:(p.cells).t.getD j []=opsV (p.threads.getD j []):=getD_len hj
 rw[er] at ho
 refine⟨a',m,c',e,owns_grown ho hg (fun k h1 h2=> ?_)⟩
 exact owns_owns ho hO.ot.out types_ne.2.1 k h1 h2
theorem ownP_threads {w w':World} {u:PV} {us:List Value} {p:Pg} (hO:OwnP w u us p.cells) (hg:w.grownBy w' (rowOf u.t)) {n' c':Nat} {a':Option Addr} {us':List Value} (ho':w'.ownsRow 0 51 1 (.slice a' n' c') n' us')
  {ts':List (List OpD)} (hl:ts'.length=n') (hin:∀i,i<ts'.length→∃a m c,us'.getD i undef= .slice a m c∧w'.ownsRow 0 58 3 (.slice a m c) m (opsV (ts'.getD i []))):
  OwnP w' (u.thr a' n' c') us' (p.thr ts').cells:=by
 have t1:=types_ne.1
 refine⟨owns_grown hO.os hg (owns_owns hO.os hO.ot.out t1),owns_grown hO.og hg (owns_owns hO.og hO.ot.out t1),owns_grown hO.ob hg (owns_owns hO.ob hO.ot.out t1),owns_grown hO.orr hg (owns_owns hO.orr hO.ot.out t1),⟨ho',by simpa[Pg.cells,Pg.thr,PV.thr] using hl,fun i hi=> ?_⟩⟩
 have hi':i<ts'.length:=by rw[hl];exact hi
 have er:(p.thr ts').cells.t.getD i []=opsV (ts'.getD i []):=getD_len hi'
 rw[er]
 exact hin i hi'
theorem fp_thr {B:Nat} {u:PV} {us us':List Value} {a':Option Addr} {n' c':Nat} (hfr:∀k∈fpP u us,B≤k) (ha:∀k,rowOf a'=some k→B≤k) (hin:∀x∈us',∀k,x.ownBlock=some k→B≤k):
  ∀k∈fpP (u.thr a' n' c') us',B≤k:=by
 intro k hk
 unfold fpP fpT at hk hfr
 simp only[PV.thr,List.mem_append,Option.mem_toList,List.mem_filterMap] at hk hfr
 rcases hk with hk|hk|hk|hk|hk|⟨x,hx,hk⟩
 ·exact hfr k (.inl hk)
 ·exact hfr k (.inr (.inl hk))
 ·exact hfr k (.inr (.inr (.inl hk)))
 ·exact hfr k (.inr (.inr (.inr (.inl hk))))
 ·exact ha k hk
 ·exact hin x hx k hk
theorem rd_after {w w':World} {u:PV} {us:List Value} {p:Pg} {R B:Nat} (hO:OwnP w u us p.cells) (hg:Touch [R] w w') (hR:R<B) (hfr:∀k∈fpP u us,B≤k):RdP w' u p:=
 (hO.touch hg (fun k hk hm=>by have:=hfr k hk;simp at hm;omega)).rd
theorem mem_fp_row {u:PV} {us:List Value} {x:Value} (hx:x∈us) {k:Nat} (hk:x.ownBlock=some k):k∈fpP u us:=by
 unfold fpP fpT
 simp only[List.mem_append,Option.mem_toList,List.mem_filterMap]
 exact .inr (.inr (.inr (.inr (.inr ⟨x,hx,hk⟩))))
end Go.Proofs.YtjmpejaifmopnaaGreat
