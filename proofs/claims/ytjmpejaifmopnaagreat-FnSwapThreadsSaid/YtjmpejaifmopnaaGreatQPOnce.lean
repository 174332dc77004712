/- Part of a proof: IOnce IGrp IBar. -/
import Derived.Test.YtjmpejaifmopnaaGreatQPSem
import Derived.Test.YtjmpejaifmopnaaGreatQRk
set_option maxRecDepth 100000
set_option maxHeartbeats 16000000
namespace Go.Proofs.YtjmpejaifmopnaaGreat
open Go.RowKit
theorem implOnceClone_any (x:OnceD) (a:Option Addr) (n c:Nat) (w:World) (hl:x.waits.length=n) (hn:n≤1048576) (hr:Rd w a (ints x.waits)):
  Calls Tryz.prog 63 #[.agg #[.int .i64 x.state,.int .i64 x.owner,.int .i64 x.value,.slice a n c]] w fun e w'=>∃(a':Option Addr) (c':Nat),e= .returned (.agg #[.int .i64 x.state,.int .i64 x.owner,.int .i64 x.value,.slice a' n c'])∧w'.ownsRow w.heap.size 3 1 (.slice a' n c') n (ints x.waits)∧Below w.heap.size w w':=by
 have F:=((Fr.start w).alloc #[.int .i64 x.state,.int .i64 x.owner,.int .i64 x.value,.slice a n c] 96).alloc #[.int .i64 0,.int .i64 0,.int .i64 0,.slice none 0 0] 96
 simp only[World.size_alloc] at F
 have cs:=F.c4 1 rfl
 go_enter Tryz.func63,Tryz.ntmps63
 go_wp2_with fail
 refine(implCloneInts_any a n c x.waits _ hl (by omega) (F.rd hr)).mono ?_
 rintro e w1 ⟨a1,c1,rfl,ho,hb⟩
 replace F:=F.row hb ho
 have cs:=F.c4 2 rfl
 have cr:=F.c4 1 rfl
 clear hb ho
 have F2:=(F.set 2 rfl 3 (.slice a1 n c1)).set4 1 rfl (.int .i64 x.state) (.int .i64 x.owner) (.int .i64 x.value) (.slice a1 n c1)
 go_wp2
 exact bodyPost_ret (v:= .agg #[.int .i64 x.state,.int .i64 x.owner,.int .i64 x.value,.slice a1 n c1]) (by simp[results,Tryz.results63,go_sem,F2.c4 1 rfl]) rfl ⟨a1,c1,rfl,F2.own 0 rfl,F2.bel⟩
theorem implOnceValid_ok (x:OnceD) (a:Option Addr) (n c:Nat) (w:World) (hl:x.waits.length=n) (hr:Rd w a (ints x.waits)) (ok:onceOk x):
  Calls Tryz.prog 52 #[.agg #[.int .i64 x.state,.int .i64 x.owner,.int .i64 x.value,.slice a n c]] w fun e w'=>e= .returned (.bool true)∧Below w.heap.size w w':=by
 obtain⟨st,ow,va,ws⟩:=x
 dsimp only at*
 rcases ok with ⟨h1,h2,h3,h4⟩|⟨h1,h2,h3,h4,h5⟩|⟨h1,h2,h3,h4⟩
 ·dsimp only at h1 h2 h3 h4
  subst h1 h2 h3 h4
  obtain rfl:n=0:=hl.symm
  have F:=(Fr.start w).alloc #[.int .i64 0,.int .i64 0,.int .i64 0,.slice a 0 c] 96
  have cs:=F.c4 0 rfl
  go_enter Tryz.func52,Tryz.ntmps52
  go_wp2
  go_ret
  exact⟨rfl,F.bel⟩
 ·dsimp only at h1 h2 h3 h4 h5
  subst h1 h3
  have h6:n≤6:=by rw[←hl];exact h4.1
  have F:=(Fr.start w).alloc #[.int .i64 1,.int .i64 ow,.int .i64 0,.slice a n c] 96
  have cs:=F.c4 0 rfl
  go_enter Tryz.func52,Tryz.ntmps52
  go_wp2_with fail
  refine(implThread_ok ow _ h2).mono ?_
  rintro e wz ⟨rfl,hw⟩
  obtain rfl:=hw
  go_wp2_with fail
  refine(implDistinct_ok a n c ws _ hl (F.rd hr) h4).mono ?_
  rintro e w1 ⟨rfl,hb⟩
  replace F:=F.call hb
  replace cs:=F.c4 0 rfl
  clear hb
  go_wp2_with fail
  refine(implContains_any a n c ws ow _ hl (by unfold maxLen;omega) (F.rd hr)).mono ?_
  rintro e wz ⟨rfl,hw⟩
  obtain rfl:=hw
  rw[contains_no h5]
  go_wp2
  go_ret
  exact⟨rfl,F.bel⟩
 ·dsimp only at h1 h2 h3 h4
  subst h1 h4
  obtain rfl:n=0:=hl.symm
  have F:=(Fr.start w).alloc #[.int .i64 2,.int .i64 ow,.int .i64 va,.slice a 0 c] 96
  have cs:=F.c4 0 rfl
  go_enter Tryz.func52,Tryz.ntmps52
  go_wp2_with fail
  refine(implThread_ok ow _ h2).mono ?_
  rintro e wz ⟨rfl,hw⟩
  obtain rfl:=hw
  go_wp2_with fail
  refine(implValue_ok va _ h3).mono ?_
  rintro e wz ⟨rfl,hw⟩
  obtain rfl:=hw
  go_wp2
  go_ret
  exact⟨rfl,F.bel⟩
theorem implEnterOnce_ok (x:OnceD) (a:Option Addr) (n c:Nat) (t:Int) (w:World) (hl:x.waits.length=n) (hr:Rd w a (ints x.waits)) (ok:onceOk x) (ht:0≤t∧t<6) (hno:x.state=1→t≠x.owner∧t∉x.waits):
  Calls Tryz.prog 73 #[.agg #[.int .i64 x.state,.int .i64 x.owner,.int .i64 x.value,.slice a n c],.int .i64 t] w fun e w'=>∃(y:OnceD) (s:SlV),y=onceEnter x t∧e= .returned (.tuple #[onceV y s,.int .i64 x.state,.bool true])∧SlN w w' s (ints y.waits) y.waits.length∧Below w.heap.size w w':=by
 obtain⟨st,ow,va,ws⟩:=x
 have OK:=xH1 ok
 have T6:=xH1 ht
 have h6:n≤6:=by
  rw[←hl]
  rcases ok with ⟨-,-,-,h4⟩|⟨-,-,-,h4,-⟩|⟨-,-,-,h4⟩
  ·rw[h4];simp
  ·exact h4.1
  ·rw[h4];simp
 dsimp only at*
 clear ht
 rcases ok with ⟨h1,h2,h3,h4⟩|⟨h1,h2,h3,h4,h5⟩|⟨h1,h2,h3,h4⟩
 ·dsimp only at h1 h2 h3 h4
  subst h1 h2 h3 h4
  obtain rfl:n=0:=hl.symm
  have F:=((Fr.start w).alloc #[.int .i64 0,.int .i64 0,.int .i64 0,.slice a 0 c] 96).alloc #[.int .i64 0,.int .i64 0,.int .i64 0,.slice none 0 0] 96
  simp only[World.size_alloc] at F
  have cs:=F.c4 1 rfl
  go_enter Tryz.func73,Tryz.ntmps73
  go_wp2_with fail
  refine(implOnceValid_ok ⟨0,0,0,[]⟩ a 0 c _ hl (F.rd hr) OK.out).mono ?_
  rintro e w1 ⟨rfl,hb⟩
  replace F:=F.call hb
  replace cs:=F.c4 1 rfl
  clear hb
  go_wp2_with fail
  refine(implThread_ok t _ T6.out).mono ?_
  rintro e wz ⟨rfl,hw⟩
  obtain rfl:=hw
  have cr:=F.c4 0 rfl
  have F2:=F.set4 0 rfl (.int .i64 1) (.int .i64 t) (.int .i64 0) (.slice none 0 0)
  go_wp2
  exact bodyPost_ret (v:= .tuple #[.agg #[.int .i64 1,.int .i64 t,.int .i64 0,.slice none 0 0],.int .i64 0,.bool true]) (by simp[results,Tryz.results73,go_sem,F2.c4 0 rfl]) rfl ⟨_,nilV,rfl,rfl,SlN.nil _ _,F2.bel⟩
 ·dsimp only at h1 h2 h3 h4 h5
  subst h1 h3
  obtain⟨hne,hnw⟩:=hno rfl
  have t0:(ow==t)=false:=by simpa using fun e:ow=t=>hne e.symm
  have F:=((Fr.start w).alloc #[.int .i64 1,.int .i64 ow,.int .i64 0,.slice a n c] 96).alloc #[.int .i64 0,.int .i64 0,.int .i64 0,.slice none 0 0] 96
  simp only[World.size_alloc] at F
  have cs:=F.c4 1 rfl
  go_enter Tryz.func73,Tryz.ntmps73
  go_wp2_with fail
  refine(implOnceValid_ok ⟨1,ow,0,ws⟩ a n c _ hl (F.rd hr) OK.out).mono ?_
  rintro e w1 ⟨rfl,hb⟩
  replace F:=F.call hb
  replace cs:=F.c4 1 rfl
  clear hb
  go_wp2_with fail
  refine(implThread_ok t _ T6.out).mono ?_
  rintro e wz ⟨rfl,hw⟩
  obtain rfl:=hw
  go_wp2_with fail
  refine(implContains_any a n c ws t _ hl (by unfold maxLen;omega) (F.rd hr)).mono ?_
  rintro e wz ⟨rfl,hw⟩
  obtain rfl:=hw
  rw[contains_no hnw]
  go_wp2_with fail
  refine(implOnceClone_any ⟨1,ow,0,ws⟩ a n c _ hl (by omega) (F.rd hr)).mono ?_
  rintro e w1 ⟨a1,c1,rfl,ho,hb⟩
  replace F:=F.row hb ho
  clear hb ho
  replace cs:=F.c4 2 rfl
  have F2:=F.set4 2 rfl (.int .i64 1) (.int .i64 ow) (.int .i64 0) (.slice a1 n c1)
  go_upto_region 11 with fail
  obtain⟨W3,hW,F3⟩:=F2.named
  rw[←hW]
  clear hW F2 cs F
  have cs:=F3.c4 2 rfl
  have F4:=F3.alloc #[.int .i64 t] 3
  go_wp2_with (at_builtin;refine F4.appI 1 rfl _ _ rfl rfl rfl [t] rfl rfl (Rd.of_blk (F4.blk 0 rfl)) (by omega) ?_;intro a4 c4 W4 F5;simp only[List.set_cons_succ,List.set_cons_zero] at F5;rw[←ints_app] at F5)
  refine(implCloneInts_any a4 (n+1) c4 (ws++[t]) _ (by rw[List.length_append,hl];rfl) (by omega) (F5.rdRow 1 rfl)).mono ?_
  rintro e w7 ⟨a5,c5,rfl,ho,hb⟩
  have F7:=F5.row hb ho
  have cr:=F7.c4 3 rfl
  replace cs:=F7.c4 4 rfl
  have F8:=(F7.set 4 rfl 3 (.slice a5 (n+1) c5)).set4 3 rfl (.int .i64 1) (.int .i64 ow) (.int .i64 0) (.slice a5 (n+1) c5)
  clear hb ho
  go_wp2
  exact bodyPost_ret (v:= .tuple #[.agg #[.int .i64 1,.int .i64 ow,.int .i64 0,.slice a5 (n+1) c5],.int .i64 1,.bool true]) (by simp[results,Tryz.results73,go_sem,F8.c4 3 rfl]) rfl ⟨⟨1,ow,0,ws++[t]⟩,⟨a5,n+1,c5⟩,rfl,rfl,by rw[List.length_append,hl];exact F8.sln 0 rfl,F8.bel⟩
 ·dsimp only at h1 h2 h3 h4
  subst h1 h4
  obtain rfl:n=0:=hl.symm
  have F:=((Fr.start w).alloc #[.int .i64 2,.int .i64 ow,.int .i64 va,.slice a 0 c] 96).alloc #[.int .i64 0,.int .i64 0,.int .i64 0,.slice none 0 0] 96
  simp only[World.size_alloc] at F
  have cs:=F.c4 1 rfl
  go_enter Tryz.func73,Tryz.ntmps73
  go_wp2_with fail
  refine(implOnceValid_ok ⟨2,ow,va,[]⟩ a 0 c _ hl (F.rd hr) OK.out).mono ?_
  rintro e w1 ⟨rfl,hb⟩
  replace F:=F.call hb
  replace cs:=F.c4 1 rfl
  clear hb
  go_wp2_with fail
  refine(implThread_ok t _ T6.out).mono ?_
  rintro e wz ⟨rfl,hw⟩
  obtain rfl:=hw
  go_wp2_with fail
  refine(implOnceClone_any ⟨2,ow,va,[]⟩ a 0 c _ hl (by omega) (F.rd hr)).mono ?_
  rintro e w1 ⟨a1,c1,rfl,ho,hb⟩
  replace F:=F.row hb ho
  clear hb ho
  have cr:=F.c4 1 rfl
  have F2:=F.set4 1 rfl (.int .i64 2) (.int .i64 ow) (.int .i64 va) (.slice a1 0 c1)
  go_wp2
  exact bodyPost_ret (v:= .tuple #[.agg #[.int .i64 2,.int .i64 ow,.int .i64 va,.slice a1 0 c1],.int .i64 2,.bool true]) (by simp[results,Tryz.results73,go_sem,F2.c4 1 rfl]) rfl ⟨⟨2,ow,va,[]⟩,⟨a1,0,c1⟩,rfl,rfl,F2.sln 0 rfl,F2.bel⟩
theorem implFinishOnce_ok (ws:List Int) (a:Option Addr) (n c:Nat) (t v:Int) (w:World) (hl:ws.length=n) (hr:Rd w a (ints ws)) (ok:onceOk ⟨1,t,0,ws⟩) (hv:0≤v∧v≤99):
  Calls Tryz.prog 72 #[.agg #[.int .i64 1,.int .i64 t,.int .i64 0,.slice a n c],.int .i64 t,.int .i64 v] w fun e w'=>∃u:SlV,e= .returned (.tuple #[onceV (onceEnd t v) nilV,u.val,.bool true])∧w'.ownsRow w.heap.size 3 1 u.val u.n (ints ws)∧Below w.heap.size w w':=by
 have HV:=xH1 hv
 have h6:n≤6:=by
  rw[←hl]
  rcases ok with ⟨h,-⟩|⟨-,-,-,h4,-⟩|⟨h,-⟩
  ·simp at h
  ·exact h4.1
  ·simp at h
 clear hv
 have F:=((Fr.start w).alloc #[.int .i64 1,.int .i64 t,.int .i64 0,.slice a n c] 96).alloc #[.int .i64 0,.int .i64 0,.int .i64 0,.slice none 0 0] 96
 simp only[World.size_alloc] at F
 have cs:=F.c4 1 rfl
 go_enter Tryz.func72,Tryz.ntmps72
 go_wp2_with fail
 refine(implOnceValid_ok ⟨1,t,0,ws⟩ a n c _ hl (F.rd hr) ok).mono ?_
 rintro e w1 ⟨rfl,hb⟩
 replace F:=F.call hb
 replace cs:=F.c4 1 rfl
 clear hb
 go_wp2_with fail
 refine(implValue_ok v _ HV.out).mono ?_
 rintro e wz ⟨rfl,hw⟩
 obtain rfl:=hw
 go_wp2_with fail
 refine(implCloneInts_any a n c ws _ hl (by omega) (F.rd hr)).mono ?_
 rintro e w1 ⟨a1,c1,rfl,ho,hb⟩
 replace F:=F.row hb ho
 have cr:=F.c4 1 rfl
 clear hb ho
 have F2:=F.set4 1 rfl (.int .i64 2) (.int .i64 t) (.int .i64 v) (.slice none 0 0)
 go_wp2
 exact bodyPost_ret (v:= .tuple #[.agg #[.int .i64 2,.int .i64 t,.int .i64 v,.slice none 0 0],.slice a1 n c1,.bool true]) (by simp[results,Tryz.results72,go_sem,F2.c4 1 rfl]) rfl ⟨⟨a1,n,c1⟩,rfl,F2.own 0 rfl,F2.bel⟩
theorem implCloneInts_z (a:Option Addr) (n c:Nat) (xs:List Int) (w:World) (hl:xs.length=n) (hn:n≤1048576) (hr:Rd w a (ints xs)):
  Calls Tryz.prog 42 #[.slice a n c] w fun e w'=>∃a' c',e= .returned (.slice a' n c')∧w'.ownsRow w.heap.size 3 1 (.slice a' n c') n (ints xs)∧Below w.heap.size w w'∧(n=0→c'=0):=by
 have H1:Hid ((ints xs).length=n*1):=xH1 (by simp[hl])
 clear hl
 go_enter Tryz.func42,Tryz.ntmps42
 go_wp2_with (at_builtin;refine wpList_append_new rfl _ _ 23 rfl Tryz.underlying23 info_int rfl (by decide) rfl (World.ownsRow_nil _ w.heap.size 3 1) rfl H1.out hr (ints_one xs) (by omega) (by decide) xL1 ?_;intro a3 c3 w3 hown3 hb3 h03)
 go_ret
 exact⟨_,_,rfl,hown3,hb3,h03⟩
theorem implGroupValid_ok (x:GrpD) (a:Option Addr) (n c:Nat) (w:World) (hl:x.waits.length=n) (hr:Rd w a (ints x.waits)) (ok:grpOk x):
  Calls Tryz.prog 49 #[.agg #[.int .i64 x.count,.slice a n c]] w fun e w'=>e= .returned (.bool true)∧Below w.heap.size w w':=by
 have h6:n≤6:=by rw[←hl];exact ok.2.1.1
 have OK:=xH1 ok
 have o1:=ok.1.1
 have h0:x.count=0→n=0:=fun h=>by rw[←hl,ok.2.2 h];rfl
 clear ok
 have F:=(Fr.start w).alloc #[.int .i64 x.count,.slice a n c] 86
 have cs:=F.c2 0 rfl
 go_enter Tryz.func49,Tryz.ntmps49
 go_wp2_with fail
 refine(implValue_ok _ _ OK.out.1).mono ?_
 rintro e wz ⟨rfl,hw⟩
 obtain rfl:=hw
 go_wp2_with fail
 refine(implDistinct_ok a n c _ _ hl (F.rd hr) OK.out.2.1).mono ?_
 rintro e w1 ⟨rfl,hb⟩
 replace F:=F.call hb
 replace cs:=F.c2 0 rfl
 clear hb
 by_cases hc:x.count=0
 ·have hd:decide (0<x.count)=false:=decide_eq_false (by omega)
  obtain rfl:=h0 hc
  clear hc
  go_wp2
  go_ret
  exact⟨rfl,F.bel⟩
 ·have hd:decide (0<x.count)=true:=decide_eq_true (by omega)
  clear h0
  go_wp2
  go_ret
  exact⟨rfl,F.bel⟩
theorem implAddGroup_ok (x:GrpD) (a:Option Addr) (n c:Nat) (m:Int) (w:World) (hl:x.waits.length=n) (hr:Rd w a (ints x.waits)) (ok:grpOk x) (hm: -99≤m∧m≤99):
  Calls Tryz.prog 74 #[.agg #[.int .i64 x.count,.slice a n c],.int .i64 m] w fun e w'=>∃(y:GrpD) (s u:SlV) (l:List Int) (b:Bool),grpAdd x m=(if b=true then some (y,l) else none)∧e= .returned (.tuple #[grpV y s,u.val,.bool b])∧SlN w w' s (ints y.waits) y.waits.length∧w'.ownsRow w.heap.size 3 1 u.val u.n (ints l)∧(ints y.waits=[]∨∀q,rowOf s.a=some q→rowOf u.a≠some q)∧Below w.heap.size w w':=by
 have h6:n≤6:=by rw[←hl];exact ok.2.1.1
 have OK:=xH1 ok
 have m1:=hm.1
 have m2:=hm.2
 have o1:=ok.1.1
 have o2:=ok.1.2
 clear ok hm
 have F:=((Fr.start w).alloc #[.int .i64 x.count,.slice a n c] 86).alloc #[.int .i64 0,.slice none 0 0] 86
 simp only[World.size_alloc] at F
 have cs:=F.c2 1 rfl
 go_enter Tryz.func74,Tryz.ntmps74
 go_wp2_with fail
 refine(implGroupValid_ok x a n c _ hl (F.rd hr) OK.out).mono ?_
 rintro e w1 ⟨rfl,hb⟩
 replace F:=F.call hb
 replace cs:=F.c2 1 rfl
 clear hb
 by_cases hv:0≤x.count+m∧x.count+m≤99
 ·have HV:=xH1 hv
  have v1:=hv.1
  have v2:=hv.2
  clear hv
  go_wp2_with fail
  refine(implValue_ok _ _ HV.out).mono ?_
  rintro e wz ⟨rfl,hw⟩
  obtain rfl:=hw
  by_cases h0:x.count+m=0
  ·have HG:Hid (grpAdd x m=some (⟨0,[]⟩,x.waits)):=xH1 (by unfold grpAdd;rw[if_pos HV.out,if_pos h0])
   have t0:(x.count+m==0)=true:=by simpa using h0
   clear h0
   go_wp2_with fail
   refine(implCloneInts_any a n c x.waits _ hl (by omega) (F.rd hr)).mono ?_
   rintro e w1 ⟨a1,c1,rfl,ho,hb⟩
   replace F:=F.row hb ho
   have cr:=F.c2 1 rfl
   clear hb ho
   have F2:=F.set2 1 rfl (.int .i64 0) (.slice none 0 0)
   go_wp2
   exact bodyPost_ret (v:= .tuple #[.agg #[.int .i64 0,.slice none 0 0],.slice a1 n c1,.bool true]) (by simp[results,Tryz.results74,go_sem,F2.c2 1 rfl]) rfl ⟨⟨0,[]⟩,nilV,⟨a1,n,c1⟩,x.waits,true,HG.out,rfl,SlN.nil _ _,F2.own 0 rfl,.inl rfl,F2.bel⟩
  ·have HG:Hid (grpAdd x m=some (⟨x.count+m,x.waits⟩,[])):=xH1 (by unfold grpAdd;rw[if_pos HV.out,if_neg h0])
   have t0:(x.count+m==0)=false:=by simpa using h0
   clear h0
   go_wp2_with fail
   obtain⟨u1,hu,F0⟩:=F.named
   rw[←hu]
   clear hu F cs
   have F:=F0
   clear F0
   apply wp_rk 8 [.k _,.k _,.k _,.k (.int .i64 (x.count+m)),.k _,.k _,.r fun dz uz wz=>∃(az:Option Addr) (cz:Nat),uz= .slice az n cz∧wz.ownsRow u1.heap.size 3 1 (.slice az n cz) n (ints x.waits),.r fun dz uz wz=>uz=(.agg #[(dz.getD 0 undef),(dz.getD 1 undef)]:Value)] ⟨fun _ _ _ _ hb ⟨a,c,e,h⟩=>⟨a,c,e,owns_below h hb⟩,fun _ _ _ _ _ h=>h,trivial⟩ ?s1 ?e1
   case s1=>
    repeat' apply And.intro
    all_goals first|trivial|(intro ρ w1 hG hfr hd;obtain⟨fc,ff⟩:=fcff hfr;have f2:=hfr (.tmp 2) rfl;have f1:=hfr (.tmp 1) rfl;have F1:=F.call hG;have cs:=F1.c2 1 rfl;clear F1)
    exact rk0;exact rk1;exact rk0
    ·obtain⟨d0,d1,-⟩:=hd
     have d0:ρ (.tmp 37)=_:=d0
     have d1:ρ (.tmp 38)=_:=d1
     have hw:IntKind.i64.wrap (x.count+m)=x.count+m:=Go.IntWalk.i64_in _ (by omega)
     exact gvF hG (by go_simp) rfl xN1
    exact rk0;exact rk1
    ·obtain⟨d0,-⟩:=hd
     have d0:ρ (.tmp 41)=_:=d0
     refine gives_call (by go_simp;exact⟨⟨rfl,rfl⟩,rfl⟩) ?_
     refine(implCloneInts_any a n c x.waits _ hl (by omega) ((F.call hG).rd hr)).mono ?_
     rintro e w2 ⟨a1,c1,rfl,ho,hb⟩
     exact⟨_,rfl,hb,⟨a1,c1,rfl,owns_mono ho hG.size⟩,xN1,hG.trans (hb.mono hG.size)⟩
    ·obtain⟨d0,d1,-⟩:=hd
     have d0:ρ (.tmp 39)=_:=d0
     have d1:∃(az:Option Addr) (cz:Nat),(ρ (.tmp 42))= .slice az n cz∧w1.ownsRow u1.heap.size 3 1 (.slice az n cz) n (ints x.waits):=d1
     obtain⟨azz,czz,d1,-⟩:=d1
     refine gives_val (u:= .agg #[.int .i64 (x.count+m),.slice azz n czz]) (w':=w1) (by go_simp) ⟨Below.refl _ _,?_,xN1,hG⟩
     show Value.agg #[.int .i64 (x.count+m),.slice azz n czz]=(.agg #[(ρ (.tmp 39)),(ρ (.tmp 42))]:Value)
     rw[d0,d1]
   intro w2 hG
   refine rk_end ?_
   intro xv6 hv6 xv7 hv7
   replace hv7:xv7=(.agg #[(.int .i64 (x.count+m)),xv6]:Value):=hv7
   obtain⟨a1,c1,rfl,ho⟩:=hv6
   have F3:=F.row hG ho
   have cr:=F3.c2 1 rfl
   have F2:=F3.set2 1 rfl (.int .i64 (x.count+m)) (.slice a1 n c1)
   clear F3 ho
   go_wp2
   exact bodyPost_ret (v:= .tuple #[.agg #[.int .i64 (x.count+m),.slice a1 n c1],.slice none 0 0,.bool true]) (by simp[results,Tryz.results74,go_sem,F2.c2 1 rfl]) rfl ⟨⟨x.count+m,x.waits⟩,⟨a1,n,c1⟩,nilV,[],true,HG.out,rfl,hl▸F2.sln 0 rfl,World.ownsRow_nil _ _ _ _,.inr (fun q _ h=>by cases h),F2.bel⟩
 ·have HG:Hid (grpAdd x m=none):=xH1 (by unfold grpAdd;rw[if_neg hv])
  have hq:isVal (x.count+m)=false:=by
   unfold isVal
   rw[←Bool.decide_and]
   exact decide_eq_false hv
  clear hv
  go_wp2_with fail
  refine(isValue_any (x.count+m) _).mono ?_
  rintro e wz ⟨rfl,hw⟩
  obtain rfl:=hw
  rw[hq]
  have cr:=F.c2 0 rfl
  have F2:=F.set2 0 rfl (.int .i64 0) (.slice none 0 0)
  go_wp2
  exact bodyPost_ret (v:= .tuple #[.agg #[.int .i64 0,.slice none 0 0],.slice none 0 0,.bool false]) (by simp[results,Tryz.results74,go_sem,F2.c2 0 rfl]) rfl ⟨noGrp,nilV,nilV,[],false,HG.out,rfl,SlN.nil _ _,World.ownsRow_nil _ _ _ _,.inl rfl,F2.bel⟩
theorem implWaitGroup_ok (x:GrpD) (a:Option Addr) (n c:Nat) (t:Int) (w:World) (hl:x.waits.length=n) (hr:Rd w a (ints x.waits)) (ok:grpOk x) (ht:0≤t∧t<6) (hno:t∉x.waits):
  Calls Tryz.prog 75 #[.agg #[.int .i64 x.count,.slice a n c],.int .i64 t] w fun e w'=>∃(y:GrpD) (s:SlV),y=(grpWait x t).1∧e= .returned (.tuple #[grpV y s,.bool (grpWait x t).2,.bool true])∧SlN w w' s (ints y.waits) y.waits.length∧Below w.heap.size w w':=by
 have h6:n≤6:=by rw[←hl];exact ok.2.1.1
 have OK:=xH1 ok
 have T6:=xH1 ht
 clear ok ht
 have F:=((Fr.start w).alloc #[.int .i64 x.count,.slice a n c] 86).alloc #[.int .i64 0,.slice none 0 0] 86
 simp only[World.size_alloc] at F
 have cs:=F.c2 1 rfl
 go_enter Tryz.func75,Tryz.ntmps75
 go_wp2_with fail
 refine(implGroupValid_ok x a n c _ hl (F.rd hr) OK.out).mono ?_
 rintro e w1 ⟨rfl,hb⟩
 replace F:=F.call hb
 replace cs:=F.c2 1 rfl
 clear hb
 go_wp2_with fail
 refine(implThread_ok t _ T6.out).mono ?_
 rintro e wz ⟨rfl,hw⟩
 obtain rfl:=hw
 go_wp2_with fail
 refine(implContains_any a n c x.waits t _ hl (by unfold maxLen;omega) (F.rd hr)).mono ?_
 rintro e wz ⟨rfl,hw⟩
 obtain rfl:=hw
 rw[contains_no hno]
 by_cases h0:x.count=0
 ·have HV:Hid (grpWait x t=(x,true)):=xH1 (by unfold grpWait;rw[if_pos h0])
  have h1:x.waits=[]:=OK.out.2.2 h0
  have hx:Hid (x=⟨0,[]⟩):=xH1 (by rw[←h0,←h1])
  have t0:(x.count==0)=true:=by simp[h0]
  clear h0 h1
  have cr:=F.c2 0 rfl
  have F2:=F.set2 0 rfl (.int .i64 0) (.slice none 0 0)
  go_wp2
  exact bodyPost_ret (v:= .tuple #[.agg #[.int .i64 0,.slice none 0 0],.bool true,.bool true]) (by simp[results,Tryz.results75,go_sem,F2.c2 0 rfl]) rfl ⟨⟨0,[]⟩,nilV,by rw[HV.out];exact hx.out.symm,by rw[HV.out];rfl,SlN.nil _ _,F2.bel⟩
 ·have HV:Hid (grpWait x t=(⟨x.count,x.waits++[t]⟩,false)):=xH1 (by unfold grpWait;rw[if_neg h0])
  have t0:(x.count==0)=false:=by simpa using h0
  clear h0
  go_wp2_with fail
  obtain⟨u1,hu,F0⟩:=F.named
  rw[←hu]
  clear hu F cs
  have F:=F0
  clear F0
  by_cases hn0:n=0
  ·subst hn0
   have hw0':x.waits=[]:=List.eq_nil_of_length_eq_zero hl
   have hw0:ints x.waits=[]:=by rw[hw0'];rfl
   apply wp_rk 9 [.k _,.k _,.k _,.k _,.r fun dz uz wz=>∃az:Option Addr,uz= .slice az 0 0∧wz.ownsRow u1.heap.size 3 1 (.slice az 0 0) 0 [],.k _,.r fun dz uz wz=>(∃gz:Nat,uz= .slice (some ⟨gz,0,none⟩) 1 1∧wz.ownsRow u1.heap.size 3 1 (.slice (some ⟨gz,0,none⟩) 1 1) 1 (ints [t])),.r fun dz uz wz=>∃(az:Option Addr) (cz:Nat),uz= .slice az 1 cz∧wz.ownsRow u1.heap.size 3 1 (.slice az 1 cz) 1 (ints [t]),.r fun dz uz wz=>uz=(.agg #[(dz.getD 0 undef),(dz.getD 1 undef)]:Value)] ⟨fun _ _ _ _ hb ⟨a,e,h⟩=>⟨a,e,owns_below h hb⟩,fun _ _ _ _ hb ⟨g,e,h⟩=>⟨g,e,owns_below h hb⟩,fun _ _ _ _ hb ⟨a,c,e,h⟩=>⟨a,c,e,owns_below h hb⟩,fun _ _ _ _ _ h=>h,trivial⟩ ?s2 ?e2
   case s2=>
    repeat' apply And.intro
    all_goals first|trivial|(intro ρ w1 hG hfr hd;obtain⟨fc,ff⟩:=fcff hfr;have f2:=hfr (.tmp 2) rfl;have f1:=hfr (.tmp 1) rfl;have F1:=F.call hG;have cs:=F1.c2 1 rfl;clear F1)
    exact rk0;exact rk1;exact rk0;exact rk1
    ·obtain⟨d0,-⟩:=hd
     have d0:ρ (.tmp 29)=_:=d0
     refine gives_call (by go_simp;exact⟨⟨rfl,rfl⟩,rfl⟩) ?_
     refine(implCloneInts_z a 0 c x.waits _ hl (by omega) ((F.call hG).rd hr)).mono ?_
     rintro e w2 ⟨a1,c1,rfl,ho,hb,hz⟩
     exact⟨_,rfl,hb,by obtain rfl:=hz rfl;exact⟨a1,rfl,owns_mono (hw0▸ho) hG.size⟩,xN1,hG.trans (hb.mono hG.size)⟩
    exact rk0
    ·obtain⟨d0,-⟩:=hd
     have d0:ρ (.tmp 31)=_:=d0
     refine gives_val (u:= .slice (some ⟨w1.heap.size,0,none⟩) 1 1) (w':=w1.alloc (.cells #[.int .i64 t] 3)) (by go_simp) ⟨xA1,⟨_,rfl,owns_mono (owns_of_blk (cs:= #[.int .i64 t]) (m:=1) (Blk.new _ _ _) xL1 rfl (by decide)) hG.size⟩,xN1,hG.alloc hG.size _⟩
    ·obtain⟨d0,d1,-⟩:=hd
     have d0:∃az:Option Addr,(ρ (.tmp 30))= .slice az 0 0∧w1.ownsRow u1.heap.size 3 1 (.slice az 0 0) 0 []:=d0
     have d1:(∃gz:Nat,(ρ (.tmp 32))= .slice (some ⟨gz,0,none⟩) 1 1∧w1.ownsRow u1.heap.size 3 1 (.slice (some ⟨gz,0,none⟩) 1 1) 1 (ints [t])):=d1
     obtain⟨azo,d0,hown⟩:=d0
     obtain⟨gz,d1,hgz⟩:=d1
     refine gives_append_new (m:=1) (news:=ints [t]) _ _ 23 rfl Tryz.underlying23 info_int rfl (by decide) d0 hown d1 rfl (Rd.of_owns hgz) (ints_one _) (by omega) (by decide) hG.size ?_
     intro a' c' w2 hown2 hb hf h0
     exact⟨hb,⟨a',c',rfl,hown2⟩,xN1,hG.trans (hb.mono hG.size)⟩
    ·obtain⟨d0,d1,-⟩:=hd
     have d0:ρ (.tmp 27)=_:=d0
     have d1:∃(az:Option Addr) (cz:Nat),(ρ (.tmp 33))= .slice az 1 cz∧w1.ownsRow u1.heap.size 3 1 (.slice az 1 cz) 1 (ints [t]):=d1
     obtain⟨azz,czz,d1,-⟩:=d1
     refine gives_val (u:= .agg #[.int .i64 x.count,.slice azz 1 czz]) (w':=w1) (by go_simp) ⟨Below.refl _ _,?_,xN1,hG⟩
     show Value.agg #[.int .i64 x.count,.slice azz 1 czz]=(.agg #[(ρ (.tmp 27)),(ρ (.tmp 33))]:Value)
     rw[d0,d1]
   intro w2 hG
   refine rk_end ?_
   intro xv4 hv4 xv6 hv6 xv7 hv7 xv8 hv8
   replace hv8:xv8=(.agg #[(.int .i64 x.count),xv7]:Value):=hv8
   obtain⟨a1,c1,rfl,ho⟩:=hv7
   have F3:=F.row hG ho
   have cr:=F3.c2 1 rfl
   have F2:=F3.set2 1 rfl (.int .i64 x.count) (.slice a1 1 c1)
   clear F3 ho
   go_wp2
   refine bodyPost_ret (v:= .tuple #[.agg #[.int .i64 x.count,.slice a1 1 c1],.bool false,.bool true]) (by simp[results,Tryz.results75,go_sem,F2.c2 1 rfl]) rfl ⟨⟨x.count,x.waits++[t]⟩,⟨a1,1,c1⟩,by rw[HV.out],by rw[HV.out],?_,F2.bel⟩
   rw[hw0']
   exact F2.sln 0 rfl
  ·refine wp_region_steps 9 (by kernel_rfl) (by kernel_rfl) [isV (.pointer (some ⟨w.heap.size,0,none⟩)),isV (.int .i64 x.count),isV (.pointer (some ⟨w.heap.size,1,none⟩)),isV (.slice a n c),fun dz uz wz=>∃(az:Option Addr) (cz:Nat),uz= .slice az n cz∧wz.ownsRow u1.heap.size 3 1 (.slice az n cz) n (ints x.waits),isV (.int .i64 t),fun dz uz wz=>(∃gz:Nat,uz= .slice (some ⟨gz,0,none⟩) 1 1∧wz.ownsRow u1.heap.size 3 1 (.slice (some ⟨gz,0,none⟩) 1 1) 1 (ints [t])),fun dz uz wz=>∃(az:Option Addr) (cz:Nat),uz= .slice az (n+1) cz∧wz.ownsRow u1.heap.size 3 1 (.slice az (n+1) cz) (n+1) (ints x.waits++ints [t]),fun dz uz wz=>uz=(.agg #[(dz.getD 0 undef),(dz.getD 1 undef)]:Value)] (St1 7 (fun wa wb=>Below u1.heap.size wa wb∧KeepsRows 3 1 n wa wb)) (fun _ _=>none) (fun _ w'=>Below u1.heap.size u1 w') (fun _ _=>xB1.drew) (st1_size (fun _ _ h=>h.1.size)) (stab1_of ⟨pS,pS,pS,pS,fun _ _ _ _ hb ⟨a,c,e,h⟩=>⟨a,c,e,owns_below h hb⟩,pS,fun _ _ _ _ hb ⟨g,e,h⟩=>⟨g,e,owns_below h hb⟩,fun _ _ _ _ hb ⟨a,c,e,h⟩=>⟨a,c,e,owns_below h hb⟩,fun _ _ _ _ _ h=>h,trivial⟩ ⟨.inr (pS),.inr (pS),.inr (pS),.inr (pS),.inr (fun _ _ _ _ hT ⟨a,c,e,h⟩=>⟨a,c,e,hT.2 _ _ _ _ _ (by omega) h⟩),.inr (pS),.inr (fun _ _ _ _ hT ⟨g,e,h⟩=>⟨g,e,hT.2 _ _ _ _ _ (by omega) h⟩),.inl rfl,.inr (fun _ _ _ _ _ h=>h),trivial⟩) ?_ ?_
   ·simp only[List.take_succ_cons,List.take_zero]
    refine⟨?_,?_,?_,?_,?_,?_,?_,?_,?_,trivial⟩
    all_goals (intro ρ w1 L hG hny hfr hd;obtain⟨fc,ff⟩:=fcff hfr;have f2:ρ (.tmp 2)= .pointer (some ⟨w.heap.size,0,none⟩):=hfr _ rfl;have f1:ρ (.tmp 1)= .int .i64 t:=hfr _ rfl;have F1:=F.call hG;have cs:=F1.c2 1 rfl;clear F1)
    ·exact gvT hG (by go_simp) rfl xN1
    ·obtain⟨d0,-⟩:=hd
     have d0:ρ (.tmp 26)=_:=d0
     exact gvT hG (by go_simp) rfl xN1
    ·exact gvT hG (by go_simp) rfl xN1
    ·obtain⟨d0,-⟩:=hd
     have d0:ρ (.tmp 28)=_:=d0
     exact gvT hG (by go_simp) rfl xN1
    ·obtain⟨d0,-⟩:=hd
     have d0:ρ (.tmp 29)=_:=d0
     refine gives_call (by go_simp;exact⟨⟨rfl,rfl⟩,rfl⟩) ?_
     refine(implCloneInts_any a n c x.waits _ hl (by omega) ((F.call hG).rd hr)).mono ?_
     rintro e w2 ⟨a1,c1,rfl,ho,hb⟩
     exact⟨_,rfl,st1_below (by decide) (hb),⟨a1,c1,rfl,owns_mono ho hG.size⟩,xN1,hG.trans (hb.mono hG.size)⟩
    ·exact gvT hG (by go_simp) rfl xN1
    ·obtain⟨d0,-⟩:=hd
     have d0:ρ (.tmp 31)=_:=d0
     refine gives_val (u:= .slice (some ⟨w1.heap.size,0,none⟩) 1 1) (w':=w1.alloc (.cells #[.int .i64 t] 3)) (by go_simp) ⟨st1_below (by decide) (xA1),⟨_,rfl,owns_mono (owns_of_blk (cs:= #[.int .i64 t]) (m:=1) (Blk.new _ _ _) xL1 rfl (by decide)) hG.size⟩,xN1,hG.alloc hG.size _⟩
    ·obtain⟨d0,d1,-⟩:=hd
     have d0:∃(az:Option Addr) (cz:Nat),(ρ (.tmp 30))= .slice az n cz∧w1.ownsRow u1.heap.size 3 1 (.slice az n cz) n (ints x.waits):=d0
     have d1:(∃gz:Nat,(ρ (.tmp 32))= .slice (some ⟨gz,0,none⟩) 1 1∧w1.ownsRow u1.heap.size 3 1 (.slice (some ⟨gz,0,none⟩) 1 1) 1 (ints [t])):=d1
     obtain⟨azo,czo,d0,hown⟩:=d0
     obtain⟨gz,d1,hgz⟩:=d1
     refine gives_append_keep (m:=1) (news:=ints [t]) _ _ 23 rfl Tryz.underlying23 info_int rfl (by decide) d0 hown d1 rfl (Rd.of_owns hgz) (ints_one _) (by omega) (by decide) hG.size ?_
     intro a' c' w2 hown2 hgr hkeep
     have hbB:=below_of_grown hgr hG.size (fun q hq=>(owns_row hown q hq).1)
     exact⟨st1_own ⟨hbB,hkeep⟩,⟨a',c',rfl,hown2⟩,xN1,hG.trans hbB⟩
    ·obtain⟨d0,d1,-⟩:=hd
     have d0:ρ (.tmp 27)=_:=d0
     have d1:∃(az:Option Addr) (cz:Nat),(ρ (.tmp 33))= .slice az (n+1) cz∧w1.ownsRow u1.heap.size 3 1 (.slice az (n+1) cz) (n+1) (ints x.waits++ints [t]):=d1
     obtain⟨azz,czz,d1,-⟩:=d1
     refine gives_val (u:= .agg #[.int .i64 x.count,.slice azz (n+1) czz]) (w':=w1) (by go_simp) ⟨st1_below (by decide) xB1,?_,xN1,hG⟩
     show Value.agg #[.int .i64 x.count,.slice azz (n+1) czz]=(.agg #[(ρ (.tmp 27)),(ρ (.tmp 33))]:Value)
     rw[d0,d1]
   intro vs w2 LL hG hlen hall hap hbd
   clear hap hbd
   obtain⟨xv0,xv1,xv2,xv3,xv4,xv5,xv6,xv7,xv8,rfl⟩:=len9 hlen
   clear hlen
   simp only[List.take_succ_cons,List.take_zero,List.drop_succ_cons,List.drop_zero] at hall⊢
   obtain⟨hv0,hv1,hv2,hv3,hv4,hv5,hv6,hv7,hv8,-⟩:=hall
   replace hv4:∃(az:Option Addr) (cz:Nat),xv4= .slice az n cz∧w2.ownsRow u1.heap.size 3 1 (.slice az n cz) n (ints x.waits):=hv4
   replace hv6:(∃gz:Nat,xv6= .slice (some ⟨gz,0,none⟩) 1 1∧w2.ownsRow u1.heap.size 3 1 (.slice (some ⟨gz,0,none⟩) 1 1) 1 (ints [t])):=hv6
   replace hv7:∃(az:Option Addr) (cz:Nat),xv7= .slice az (n+1) cz∧w2.ownsRow u1.heap.size 3 1 (.slice az (n+1) cz) (n+1) (ints x.waits++ints [t]):=hv7
   replace hv8:xv8=(.agg #[xv1,xv7]:Value):=hv8
   obtain rfl:xv0=_:=hv0
   obtain rfl:xv1=_:=hv1
   obtain rfl:xv2=_:=hv2
   obtain rfl:xv3=_:=hv3
   obtain rfl:xv5=_:=hv5
   simp only[putAll,Act.put,List.setIfInBounds_toArray,List.set_cons_succ,List.set_cons_zero]
   obtain⟨a1,c1,rfl,ho⟩:=hv7
   have F3:=F.row hG ho
   have cr:=F3.c2 1 rfl
   have F2:=F3.set2 1 rfl (.int .i64 x.count) (.slice a1 (n+1) c1)
   clear F3 ho
   go_wp2
   refine bodyPost_ret (v:= .tuple #[.agg #[.int .i64 x.count,.slice a1 (n+1) c1],.bool false,.bool true]) (by simp[results,Tryz.results75,go_sem,F2.c2 1 rfl]) rfl ⟨⟨x.count,x.waits++[t]⟩,⟨a1,(n+1),c1⟩,by rw[HV.out],by rw[HV.out],?_,F2.bel⟩
   have hs:=F2.sln 0 rfl
   rw[←ints_app] at hs
   have hle:(x.waits++[t]).length=n+1:=by rw[List.length_append,hl];rfl
   rw[hle]
   exact hs
theorem implBarValid_ok (x:BarD) (a:Option Addr) (n c:Nat) (w:World) (hl:x.waits.length=n) (hr:Rd w a (ints x.waits)) (ok:barOk x):
  Calls Tryz.prog 50 #[.agg #[.int .i64 x.parties,.int .i64 x.round,.slice a n c]] w fun e w'=>e= .returned (.bool true)∧Below w.heap.size w w':=by
 have OK:=xH1 ok
 have p1:=ok.1.1
 have p2:=ok.1.2
 have r1:=ok.2.1.1
 have r2:=ok.2.1.2
 have l1:(n:Int)<x.parties:=by rw[←hl];exact ok.2.2.2
 clear ok
 have F:=(Fr.start w).alloc #[.int .i64 x.parties,.int .i64 x.round,.slice a n c] 89
 have cs:=F.c3 0 rfl
 go_enter Tryz.func50,Tryz.ntmps50
 go_wp2_with fail
 refine(implDistinct_ok a n c _ _ hl (F.rd hr) OK.out.2.2.1).mono ?_
 rintro e w1 ⟨rfl,hb⟩
 replace F:=F.call hb
 replace cs:=F.c3 0 rfl
 clear hb
 go_wp2
 go_ret
 exact⟨rfl,F.bel⟩
theorem implArrive_ok (x:BarD) (a:Option Addr) (n c:Nat) (t:Int) (w:World) (hl:x.waits.length=n) (hr:Rd w a (ints x.waits)) (ok:barOk x) (ht:0≤t∧t<6) (hno:t∉x.waits) (hrd:x.round<9999):
  Calls Tryz.prog 76 #[.agg #[.int .i64 x.parties,.int .i64 x.round,.slice a n c],.int .i64 t] w fun e w'=>∃(y:BarD) (s u:SlV) (l:List Int),barCome x t=(y,l)∧e= .returned (.tuple #[barV y s,u.val,.bool true])∧SlN w w' s (ints y.waits) y.waits.length∧w'.ownsRow w.heap.size 3 1 u.val u.n (ints l)∧(ints y.waits=[]∨u=nilV)∧(l=[]∨y.waits=[])∧Below w.heap.size w w':=by
 have OK:=xH1 ok
 have p1:=ok.1.1
 have p2:=ok.1.2
 have r1:=ok.2.1.1
 have r2:=ok.2.1.2
 have l1:(n:Int)<x.parties:=by rw[←hl];exact ok.2.2.2
 clear ok
 have T6:=xH1 ht
 clear ht
 have F:=((Fr.start w).alloc #[.int .i64 x.parties,.int .i64 x.round,.slice a n c] 89).alloc #[.int .i64 0,.int .i64 0,.slice none 0 0] 89
 simp only[World.size_alloc] at F
 have cs:=F.c3 1 rfl
 go_enter Tryz.func76,Tryz.ntmps76
 go_wp2_with fail
 refine(implBarValid_ok x a n c _ hl (F.rd hr) OK.out).mono ?_
 rintro e w1 ⟨rfl,hb⟩
 replace F:=F.call hb
 replace cs:=F.c3 1 rfl
 clear hb
 go_wp2_with fail
 refine(implThread_ok t _ T6.out).mono ?_
 rintro e wz ⟨rfl,hw⟩
 obtain rfl:=hw
 go_wp2_with fail
 refine(implContains_any a n c x.waits t _ hl (by unfold maxLen;omega) (F.rd hr)).mono ?_
 rintro e wz ⟨rfl,hw⟩
 obtain rfl:=hw
 rw[contains_no hno]
 go_wp2_with fail
 refine(implCloneInts_any a n c x.waits _ hl (by omega) (F.rd hr)).mono ?_
 rintro e w1 ⟨a1,c1,rfl,ho,hb⟩
 replace F:=F.row hb ho
 clear hb ho
 clear cs
 have F4:=F.alloc #[.int .i64 t] 3
 have HLN:Hid ((x.waits++[t]).length=n+1):=xH1 (by rw[List.length_append,hl];rfl)
 by_cases hlt:(x.waits.length:Int)+1<x.parties
 ·have HV:Hid (barCome x t=(⟨x.parties,x.round,x.waits++[t]⟩,[])):=xH1 (by unfold barCome;rw[if_pos hlt])
  rw[hl] at hlt
  have d0:decide ((n:Int)+1<x.parties)=true:=by simpa using hlt
  clear hlt
  go_wp2_with (at_builtin;refine F4.appI 1 rfl _ _ rfl rfl rfl [t] rfl rfl (Rd.of_blk (F4.blk 0 rfl)) (by omega) ?_;intro a4 c4 W4 F5;simp only[List.set_cons_succ,List.set_cons_zero] at F5;rw[←ints_app] at F5;clear F4;have cs:=F5.c3 3 rfl;have cr:=F5.c3 2 rfl)
  have F6:=F5.set3 2 rfl (.int .i64 x.parties) (.int .i64 x.round) (.slice a4 (n+1) c4)
  exact bodyPost_ret (v:= .tuple #[.agg #[.int .i64 x.parties,.int .i64 x.round,.slice a4 (n+1) c4],.slice none 0 0,.bool true]) (by simp[results,Tryz.results76,go_sem,F6.c3 2 rfl]) rfl ⟨⟨x.parties,x.round,x.waits++[t]⟩,⟨a4,n+1,c4⟩,nilV,[],HV.out,rfl,HLN.out▸F6.sln 1 rfl,World.ownsRow_nil _ _ _ _,.inr rfl,.inl rfl,F6.bel⟩
 ·have HV:Hid (barCome x t=(⟨x.parties,x.round+1,[]⟩,x.waits++[t])):=xH1 (by unfold barCome;rw[if_neg hlt])
  rw[hl] at hlt
  have d0:decide ((n:Int)+1<x.parties)=false:=by simpa using hlt
  clear hlt
  go_wp2_with (at_builtin;refine F4.appI 1 rfl _ _ rfl rfl rfl [t] rfl rfl (Rd.of_blk (F4.blk 0 rfl)) (by omega) ?_;intro a4 c4 W4 F5;simp only[List.set_cons_succ,List.set_cons_zero] at F5;rw[←ints_app] at F5;clear F4;have cs:=F5.c3 3 rfl;have cr:=F5.c3 2 rfl)
  have F6:=F5.set3 2 rfl (.int .i64 x.parties) (.int .i64 (x.round+1)) (.slice none 0 0)
  exact bodyPost_ret (v:= .tuple #[.agg #[.int .i64 x.parties,.int .i64 (x.round+1),.slice none 0 0],.slice a4 (n+1) c4,.bool true]) (by simp[results,Tryz.results76,go_sem,F6.c3 2 rfl]) rfl ⟨⟨x.parties,x.round+1,[]⟩,nilV,⟨a4,n+1,c4⟩,x.waits++[t],HV.out,rfl,SlN.nil _ _,F6.own 1 rfl,.inl rfl,.inr rfl,F6.bel⟩
end Go.Proofs.YtjmpejaifmopnaaGreat
