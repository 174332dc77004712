/- Part of a proof: IChan IChan2 IChan3. -/
import Derived.Test.YtjmpejaifmopnaaGreatQPOnce
set_option maxRecDepth 100000
set_option maxHeartbeats 16000000
namespace Go.Proofs.YtjmpejaifmopnaaGreat
open Go.RowKit
theorem implChanClone_fr (x:ChnD) (ai al ag:Option Addr) (ni ci nl cl ng cg:Nat) (w:World) (h1:x.items.length=ni) (h2:x.senders.length=nl) (h3:x.getters.length=ng) (n1:ni≤1048576) (n2:nl≤1048576) (n3:ng≤1048576) (r1:Rd w ai (ints x.items)) (r2:Rd w al (pairs x.senders)) (r3:Rd w ag (ints x.getters)):
  Calls Tryz.prog 64 #[.agg #[.int .i64 x.room,.slice ai ni ci,.slice al nl cl,.slice ag ng cg,.bool x.closed]] w fun e w'=>∃(bi bs bg:Option Addr) (di ds dg:Nat),e= .returned (.agg #[.int .i64 x.room,.slice bi ni di,.slice bs nl ds,.slice bg ng dg,.bool x.closed])∧Fr w w' [.row bg ng dg 3 1 (ints x.getters),.row bs nl ds 148 2 (pairs x.senders),.row bi ni di 3 1 (ints x.items)]:=by
 have HH1:=xH1 h1
 have HH2:=xH1 h2
 have HH3:=xH1 h3
 have F:=((Fr.start w).alloc #[.int .i64 x.room,.slice ai ni ci,.slice al nl cl,.slice ag ng cg,.bool x.closed] 93).alloc #[.int .i64 0,.slice none 0 0,.slice none 0 0,.slice none 0 0,.bool false] 93
 simp only[World.size_alloc] at F
 have cs:=F.c5 1 rfl
 clear h1 h2 h3
 go_enter Tryz.func64,Tryz.ntmps64
 go_wp2_with fail
 refine(implCloneInts_any ai ni ci x.items _ HH1.out (by omega) (F.rd r1)).mono ?_
 rintro e w1 ⟨bi,di,rfl,ho,hb⟩
 replace F:=F.row hb ho
 clear hb ho
 replace cs:=F.c5 2 rfl
 have F2:=F.set 2 rfl 1 (.slice bi ni di)
 go_upto_region 2 with fail
 obtain⟨W3,hW,F3⟩:=F2.named
 rw[←hW]
 clear hW F2 cs F
 have cs:=F3.c5 2 rfl
 go_wp2_with (at_builtin;refine(F3.nil _ 2).appL 0 rfl _ _ rfl rfl rfl x.senders rfl HH2.out (F3.rd r2) (by omega) ?_;intro bs ds W4 F4;simp only[List.set_cons_zero,List.nil_append,Nat.zero_add] at F4;clear cs;have cs:=F4.c5 3 rfl;have F5:=F4.set 3 rfl 2 (.slice bs nl ds))
 refine(implCloneInts_any ag ng cg x.getters _ HH3.out (by omega) (F5.rd r3)).mono ?_
 rintro e w6 ⟨bg,dg,rfl,ho,hb⟩
 have F6:=F5.row hb ho
 have cr:=F6.c5 3 rfl
 replace cs:=F6.c5 4 rfl
 have F7:=(F6.set 4 rfl 3 (.slice bg ng dg)).set5 3 rfl (.int .i64 x.room) (.slice bi ni di) (.slice bs nl ds) (.slice bg ng dg) (.bool x.closed)
 clear hb ho
 go_wp2
 exact bodyPost_ret (v:= .agg #[.int .i64 x.room,.slice bi ni di,.slice bs nl ds,.slice bg ng dg,.bool x.closed]) (by simp[results,Tryz.results64,go_sem,F7.c5 3 rfl]) rfl ⟨bi,bs,bg,di,ds,dg,rfl,F7.sub (by simp)⟩
theorem implThreads_any (x:ChnD) (ai al ag:Option Addr) (ni ci nl cl ng cg:Nat) (w:World) (h2:x.senders.length=nl) (h3:x.getters.length=ng) (n2:nl≤6) (n3:ng≤6) (r2:Rd w al (pairs x.senders)) (r3:Rd w ag (ints x.getters)):
  Calls Tryz.prog 81 #[.agg #[.int .i64 x.room,.slice ai ni ci,.slice al nl cl,.slice ag ng cg,.bool x.closed]] w fun e w'=>∃(a':Option Addr) (c':Nat),e= .returned (.slice a' (nl+ng) c')∧w'.ownsRow w.heap.size 3 1 (.slice a' (nl+ng) c') (nl+ng) (ints (x.senders.map (·.1)++x.getters))∧Below w.heap.size w w':=by
 have HH2:=xH1 h2
 have HH3:=xH1 h3
 have HR:=xH1 r2
 have F:=(Fr.start w).alloc #[.int .i64 x.room,.slice ai ni ci,.slice al nl cl,.slice ag ng cg,.bool x.closed] 93
 have cs:=F.c5 0 rfl
 clear h2 h3 r2
 go_enter Tryz.func81,Tryz.ntmps81
 go_wp2
 clear cs
 go_loopw [9,3] (fun i th wr=>∃(k:Nat) (a3:Option Addr) (c3:Nat),k≤nl∧i= .int .i64 k∧th= .slice a3 k c3∧Fr w wr [.row a3 k c3 3 1 (ints ((x.senders.take k).map (·.1))),.blk w.heap.size #[.int .i64 x.room,.slice ai ni ci,.slice al nl cl,.slice ag ng cg,.bool x.closed] 93]) (fun i _ _=>nl-(intOf i).toNat)
 case atStart=>exact⟨0,none,0,by omega,rfl,rfl,F.nil _ _⟩
 case round=>
  obtain⟨k,a3,c3,hk,rfl,rfl,F1⟩:=hrel
  by_cases hlt:k<nl
  ·obtain⟨b,o,rfl,g'⟩:=(F1.rd HR.out).pair (by have:=HH2.out;omega)
   obtain⟨g1,g2⟩:=g' k (by have:=HH2.out;omega)
   obtain⟨y,hy⟩:∃y,y=x.senders.getD k (0,0):=⟨_,rfl⟩
   rw[←hy] at g1 g2
   have HM:Hid ((x.senders.take (k+1)).map (·.1)=(x.senders.take k).map (·.1)++[y.1]):=xH1 (by rw[hy];exact pair_take_succ _ k (by have:=HH2.out;omega))
   have F2:=F1.alloc #[.int .i64 y.1,.int .i64 y.2] 148
   have cy:=F2.c2 0 rfl
   have F3:=F2.alloc #[.int .i64 y.1] 3
   simp only[World.size_alloc] at F3
   clear g' hy
   go_wp2_with (at_builtin;refine F3.appI 2 rfl _ _ rfl rfl rfl [y.1] rfl rfl (Rd.of_blk (F3.blk 0 rfl)) (by omega) ?_;intro a4 c4 W4 F4)
   go_roundw
   case rel=>exact⟨k+1,a4,c4,by omega,by go_num,rfl,by rw[HM.out,ints_app];exact F4.sub (by simp)⟩
   case measure=>simp[intOf];omega
  ·have hkm:k=nl:=by omega
   subst hkm
   rw[List.take_of_length_le (by have:=HH2.out;omega)] at F1
   have cs:=F1.c5 1 rfl
   go_wp2_with (at_builtin;refine F1.appI 0 rfl _ _ rfl rfl rfl x.getters rfl HH3.out (F1.rd r3) (by omega) ?_;intro a4 c4 W4 F4;simp only[List.set_cons_zero] at F4;rw[←ints_app] at F4)
   go_ret
   exact⟨a4,c4,rfl,F4.own 0 rfl,F4.bel⟩
theorem implChanValid_ok (x:ChnD) (ai al ag:Option Addr) (ni ci nl cl ng cg:Nat) (w:World) (h1:x.items.length=ni) (h2:x.senders.length=nl) (h3:x.getters.length=ng) (r1:Rd w ai (ints x.items)) (r2:Rd w al (pairs x.senders)) (r3:Rd w ag (ints x.getters)) (ok:chnOk x):
  Calls Tryz.prog 51 #[.agg #[.int .i64 x.room,.slice ai ni ci,.slice al nl cl,.slice ag ng cg,.bool x.closed]] w fun e w'=>e= .returned (.bool true)∧Below w.heap.size w w':=by
 have OK:=xH1 ok
 have h6:=ok.2.2.2.2.1.1
 rw[List.length_append,List.length_map,h2,h3] at h6
 have o1:=ok.1.1
 have o2:=ok.1.2
 have o3:(ni:Int)≤x.room:=by rw[←h1];exact ok.2.1
 have HH1:=xH1 h1
 have HH2:=xH1 h2
 have HH3:=xH1 h3
 have HR1:=xH1 r1
 have HR2:=xH1 r2
 have HR3:=xH1 r3
 have F:=(Fr.start w).alloc #[.int .i64 x.room,.slice ai ni ci,.slice al nl cl,.slice ag ng cg,.bool x.closed] 93
 have cs:=F.c5 0 rfl
 clear ok h1 h2 h3 r1 r2 r3
 go_enter Tryz.func51,Tryz.ntmps51
 go_wp2
 clear cs
 go_loopw [26] (fun i wr=>∃k:Nat,k≤ni∧i= .int .i64 k∧Fr w wr [.blk w.heap.size #[.int .i64 x.room,.slice ai ni ci,.slice al nl cl,.slice ag ng cg,.bool x.closed] 93]) (fun i _=>ni-(intOf i).toNat)
 case atStart=>exact⟨0,by omega,rfl,F⟩
 case round=>
  obtain⟨k,hk,rfl,F1⟩:=hrel
  by_cases hlt:k<ni
  ·obtain⟨b,o,rfl,g'⟩:=(F1.rd HR1.out).int (by have:=HH1.out;omega)
   have g1:=g' k (by have:=HH1.out;omega)
   obtain⟨y,hy⟩:∃y,y=x.items.getD k 0:=⟨_,rfl⟩
   rw[←hy] at g1
   have HY:Hid (0≤y∧y≤99):=xH1 (OK.out.2.2.1 y (by rw[hy];exact getD_memp (by have:=HH1.out;omega)))
   clear g' hy
   go_wp2_with fail
   refine(implValue_ok y _ HY.out).mono ?_
   rintro e wz ⟨rfl,hw⟩
   obtain rfl:=hw
   go_wp2
   go_roundw
   case rel=>exact⟨k+1,by omega,by go_num,F1⟩
   case measure=>simp[intOf];omega
  ·have hkm:k=ni:=by omega
   subst hkm
   have cs:=F1.c5 0 rfl
   go_wp2
   clear cs
   go_loopw [37] (fun i wr=>∃j:Nat,j≤nl∧i= .int .i64 j∧Fr w wr [.blk w.heap.size #[.int .i64 x.room,.slice ai k ci,.slice al nl cl,.slice ag ng cg,.bool x.closed] 93]) (fun i _=>nl-(intOf i).toNat)
   case atStart=>exact⟨0,by omega,rfl,F1⟩
   case round=>
    obtain⟨j,hj,rfl,F2⟩:=hrel
    by_cases hjt:j<nl
    ·obtain⟨b,o,rfl,g'⟩:=(F2.rd HR2.out).pair (by have:=HH2.out;omega)
     obtain⟨g1,g2⟩:=g' j (by have:=HH2.out;omega)
     obtain⟨y,hy⟩:∃y,y=x.senders.getD j (0,0):=⟨_,rfl⟩
     rw[←hy] at g1 g2
     have HY:Hid (0≤y.2∧y.2≤99):=xH1 (OK.out.2.2.2.1 y (by rw[hy];exact getD_memp (by have:=HH2.out;omega)))
     have F3:=F2.alloc #[.int .i64 y.1,.int .i64 y.2] 148
     have cy:=F3.c2 0 rfl
     clear g' hy
     go_wp2_with fail
     refine(implValue_ok y.2 _ HY.out).mono ?_
     rintro e wz ⟨rfl,hw⟩
     obtain rfl:=hw
     go_wp2
     go_roundw
     case rel=>exact⟨j+1,by omega,by go_num,F3.sub (by simp)⟩
     case measure=>simp[intOf];omega
    ·have hjm:j=nl:=by omega
     subst hjm
     have cs:=F2.c5 0 rfl
     go_wp2_with fail
     refine(implThreads_any x ai al ag k ci j cl ng cg _ HH2.out HH3.out (by omega) (by omega) (F2.rd HR2.out) (F2.rd HR3.out)).mono ?_
     rintro e w3 ⟨a5,c5,rfl,ho,hb⟩
     have F3:=F2.row hb ho
     clear hb ho
     go_wp2_with fail
     refine(implDistinct_ok a5 _ c5 (x.senders.map (·.1)++x.getters) _ (by rw[List.length_append,List.length_map,HH2.out,HH3.out]) (F3.rdRow 0 rfl) OK.out.2.2.2.2.1).mono ?_
     rintro e w4 ⟨rfl,hb⟩
     have F4:=F3.call hb
     replace cs:=F4.c5 1 rfl
     clear hb
     by_cases hs:j=0
     ·by_cases hg:ng=0
      ·subst hs hg
       go_wp2
       go_ret
       exact⟨rfl,F4.bel⟩
      ·have hgg:=OK.out.2.2.2.2.2.2 (fun h=>hg (by rw[←HH3.out,h];rfl))
       obtain rfl:k=0:=by rw[←HH1.out,hgg.1];rfl
       have hcl:=hgg.2
       have h0:(0:Int)<(ng:Int):=by omega
       have hz:((ng:Int)==0)=false:=by simpa using hg
       rw[hcl] at cs
       subst hs
       clear hgg hcl
       go_wp2
       go_ret
       exact⟨rfl,F4.bel⟩
     ·have hss:=OK.out.2.2.2.2.2.1 (fun h=>hs (by rw[←HH2.out,h];rfl))
      have hk2:(k:Int)=x.room:=by rw[←HH1.out];exact hss.1
      obtain rfl:ng=0:=by rw[←HH3.out,hss.2.1];rfl
      have hcl:=hss.2.2
      have h0:(0:Int)<(j:Int):=by omega
      rw[hcl] at cs
      clear hss hcl hs
      go_wp2
      go_ret
      exact⟨rfl,F4.bel⟩
theorem owns_lit {w W:World} {l:List It} (F:Fr w W l) (k:Nat) {b:Nat} {v:Value} {E:TypeId} (hi:l[k]? =some (.blk b #[v] E)):W.ownsRow w.heap.size E 1 (.slice (some ⟨b,0,none⟩) 1 1) 1 [v]:=
 owns_of_blk (cs:= #[v]) (F.blk k hi) (F.has _ (List.mem_of_getElem? hi)).1 rfl (by decide)
theorem implSendChan_ok (x:ChnD) (ai al ag:Option Addr) (ni ci nl cl ng cg:Nat) (t v:Int) (w:World) (h1:x.items.length=ni) (h2:x.senders.length=nl) (h3:x.getters.length=ng) (r1:Rd w ai (ints x.items)) (r2:Rd w al (pairs x.senders)) (r3:Rd w ag (ints x.getters)) (ok:chnOk x) (ht:0≤t∧t<6) (hv:0≤v∧v≤99) (hns:t∉x.senders.map (·.1)) (hng:t∉x.getters):
  Calls Tryz.prog 77 #[.agg #[.int .i64 x.room,.slice ai ni ci,.slice al nl cl,.slice ag ng cg,.bool x.closed],.int .i64 t,.int .i64 v] w fun e w'=>∃(y:ChnD) (s1 s2 s3 u:SlV) (l:List Int) (sent b:Bool),chnSend x t v=(if b=true then some (y,l,sent) else none)∧e= .returned (.tuple #[chnV y s1 s2 s3,u.val,.bool sent,.bool b])∧SlN w w' s1 (ints y.items) y.items.length∧SlN w w' s2 (pairs y.senders) y.senders.length∧SlN w w' s3 (ints y.getters) y.getters.length∧w'.ownsRow w.heap.size 3 1 u.val u.n (ints l)∧Below w.heap.size w w':=by
 obtain⟨room,its,snd,gts,clo⟩:=x
 dsimp only at*
 have T6:=xH1 ht
 have V9:=xH1 hv
 have HS:=xH1 hns
 have HG:=xH1 hng
 clear ht hv hns hng
 have OK:=xH1 ok
 have h6:=ok.2.2.2.2.1.1
 rw[List.length_append,List.length_map,h2,h3] at h6
 have o1:=ok.1.1
 have o2:=ok.1.2
 have o3:(ni:Int)≤room:=by rw[←h1];exact ok.2.1
 have HH1:=xH1 h1
 have HH2:=xH1 h2
 have HH3:=xH1 h3
 have F:=((Fr.start w).alloc #[.int .i64 room,.slice ai ni ci,.slice al nl cl,.slice ag ng cg,.bool clo] 93).alloc #[.int .i64 0,.slice none 0 0,.slice none 0 0,.slice none 0 0,.bool false] 93
 simp only[World.size_alloc] at F
 have cs:=F.c5 1 rfl
 clear ok h1 h2 h3
 cases clo
 ·go_enter Tryz.func77,Tryz.ntmps77
  go_wp2_with fail
  refine(implChanValid_ok ⟨room,its,snd,gts,false⟩ ai al ag ni ci nl cl ng cg _ HH1.out HH2.out HH3.out (F.rd r1) (F.rd r2) (F.rd r3) OK.out).mono ?_
  rintro e w1 ⟨rfl,hb⟩
  replace F:=F.call hb
  replace cs:=F.c5 1 rfl
  clear hb
  go_wp2_with fail
  refine(implThread_ok t _ T6.out).mono ?_
  rintro e wz ⟨rfl,hw⟩
  obtain rfl:=hw
  go_wp2_with fail
  refine(implThreads_any ⟨room,its,snd,gts,false⟩ ai al ag ni ci nl cl ng cg _ HH2.out HH3.out (by omega) (by omega) (F.rd r2) (F.rd r3)).mono ?_
  rintro e w1 ⟨a3,c3,rfl,ho,hb⟩
  have hr3:=Rd.of_owns ho
  replace F:=F.call hb
  replace cs:=F.c5 1 rfl
  clear hb ho
  go_wp2_with fail
  refine(implContains_any a3 (nl+ng) c3 (snd.map (·.1)++gts) t _ (by rw[List.length_append,List.length_map,HH2.out,HH3.out]) (by unfold maxLen;omega) hr3).mono ?_
  rintro e wz ⟨rfl,hw⟩
  obtain rfl:=hw
  rw[contains_no (by rw[List.mem_append,not_or];exact⟨HS.out,HG.out⟩)]
  clear hr3
  go_wp2_with fail
  refine(implValue_ok v _ V9.out).mono ?_
  rintro e wz ⟨rfl,hw⟩
  obtain rfl:=hw
  go_wp2_with fail
  refine(implChanClone_fr ⟨room,its,snd,gts,false⟩ ai al ag ni ci nl cl ng cg _ HH1.out HH2.out HH3.out (by omega) (by omega) (by omega) (F.rd r1) (F.rd r2) (F.rd r3)).mono ?_
  rintro e w2 ⟨bi,bs,bg,di,ds,dg,rfl,F'⟩
  have F2:=F.join F'
  simp only[List.cons_append,List.nil_append] at F2
  replace cs:=F2.c5 4 rfl
  have F3:=F2.set5 4 rfl (.int .i64 room) (.slice bi ni di) (.slice bs nl ds) (.slice bg ng dg) (.bool false)
  clear F F' F2
  go_upto_region 4 with fail
  obtain⟨W3,hW,F⟩:=F3.named
  rw[←hW]
  clear hW F3 cs
  have cs:=F.c5 4 rfl
  cases gts with
  |cons g gs=>
   have hng:gs.length+1=ng:=HH3.out
   have hn0:(0:Int)<(ng:Int):=by omega
   have HV:Hid (chnSend ⟨room,its,snd,g::gs,false⟩ t v=some (⟨room,its,snd,gs,false⟩,[g],true)):=xH1 rfl
   have hcap:=(owns_cap (F.own 0 rfl)).1
   obtain⟨A,hsl,hA,-⟩:=tail1 (F.rdRow 0 rfl) (by rw[List.length_map];exact hng) hcap
   obtain⟨b,o,rfl,g'⟩:=(F.rdRow 0 rfl).int (by simp)
   have g1:=g' 0 (by simp)
   rw[Nat.add_zero,List.getD_cons_zero] at g1
   have HA:=xH1 hA
   clear g' hA
   go_wp2_with fail
   refine(implCloneInts_any A (ng-1) (dg-1) gs _ (by omega) (by omega) (HA.out _ (F.rdRow 0 rfl))).mono ?_
   rintro e w5 ⟨a6,c6,rfl,ho,hb⟩
   have F6:=F.row hb ho
   have F7:=F6.set 5 rfl 3 (.slice a6 (ng-1) c6)
   replace cs:=F6.c5 5 rfl
   clear ho hb F g1
   go_upto_region 7 with fail
   obtain⟨W7,hW,F8⟩:=F7.named
   rw[←hW]
   clear hW F7 F6 cs
   have F9:=F8.alloc #[.int .i64 g] 3
   have cs:=F8.c5 5 rfl
   have cr:=F9.c5 5 rfl
   have F10:=F9.set5 5 rfl (.int .i64 room) (.slice bi ni di) (.slice bs nl ds) (.slice a6 (ng-1) c6) (.bool false)
   go_wp2
   exact bodyPost_ret (v:= .tuple #[.agg #[.int .i64 room,.slice bi ni di,.slice bs nl ds,.slice a6 (ng-1) c6,.bool false],.slice (some ⟨W7.heap.size,0,none⟩) 1 1,.bool true,.bool true]) (by simp[results,Tryz.results77,go_sem,F10.c5 5 rfl]) rfl ⟨⟨room,its,snd,gs,false⟩,⟨bi,ni,di⟩,⟨bs,nl,ds⟩,⟨a6,ng-1,c6⟩,⟨some ⟨W7.heap.size,0,none⟩,1,1⟩,[g],true,true,HV.out,rfl,by rw[HH1.out];exact F10.sln 4 rfl,by rw[HH2.out];exact F10.sln 3 rfl,by rw[show gs.length=ng-1 by omega];exact F10.sln 1 rfl,owns_lit F10 0 rfl,F10.bel⟩
  |nil=>
   obtain rfl:ng=0:=HH3.out.symm
   by_cases hlt:(its.length:Int)<room
   ·have HV:Hid (chnSend ⟨room,its,snd,[],false⟩ t v=some (⟨room,its++[v],snd,[],false⟩,[],true)):=xH1 (by unfold chnSend;dsimp only;rw[if_neg (by simp),if_pos hlt])
    rw[HH1.out] at hlt
    have F4:=F.alloc #[.int .i64 v] 3
    have HL1:Hid ((its++[v]).length=ni+1):=xH1 (by rw[List.length_append,HH1.out];rfl)
    go_wp2_with (at_builtin;refine F4.appI 3 rfl _ _ rfl rfl rfl [v] rfl rfl (Rd.of_blk (F4.blk 0 rfl)) (by omega) ?_;intro a4 c4 W4 F5;simp only[List.set_cons_succ,List.set_cons_zero] at F5;rw[←ints_app] at F5;clear cs;have cs:=F5.c5 5 rfl;have F6:=F5.set 5 rfl 1 (.slice a4 (ni+1) c4))
    refine(implChanClone_fr ⟨room,its++[v],snd,[],false⟩ a4 bs bg (ni+1) c4 nl ds 0 dg _ HL1.out HH2.out rfl (by omega) (by omega) (by omega) (F6.rdRow 3 rfl) (F6.rdRow 2 rfl) (F6.rdRow 1 rfl)).mono ?_
    rintro e w8 ⟨ei,es,eg,ki,ks,kg,rfl,F'⟩
    have F7:=F6.join F'
    simp only[List.cons_append,List.nil_append] at F7
    have cr:=F7.c5 7 rfl
    have F8:=F7.set5 7 rfl (.int .i64 room) (.slice ei (ni+1) ki) (.slice es nl ks) (.slice eg 0 kg) (.bool false)
    clear F' F6
    go_wp2
    exact bodyPost_ret (v:= .tuple #[.agg #[.int .i64 room,.slice ei (ni+1) ki,.slice es nl ks,.slice eg 0 kg,.bool false],.slice none 0 0,.bool true,.bool true]) (by simp[results,Tryz.results77,go_sem,F8.c5 7 rfl]) rfl ⟨⟨room,its++[v],snd,[],false⟩,⟨ei,ni+1,ki⟩,⟨es,nl,ks⟩,⟨eg,0,kg⟩,nilV,[],true,true,HV.out,rfl,by rw[HL1.out];exact F8.sln 2 rfl,by rw[HH2.out];exact F8.sln 1 rfl,F8.sln 0 rfl,World.ownsRow_nil _ _ _ _,F8.bel⟩
   ·have HV:Hid (chnSend ⟨room,its,snd,[],false⟩ t v=some (⟨room,its,snd++[(t,v)],[],false⟩,[],false)):=xH1 (by unfold chnSend;dsimp only;rw[if_neg (by simp),if_neg hlt])
    rw[HH1.out] at hlt
    have F4:=F.alloc #[.int .i64 t,.int .i64 v] 148
    have HL1:Hid ((snd++[(t,v)]).length=nl+1):=xH1 (by rw[List.length_append,HH2.out];rfl)
    go_wp2_with (at_builtin;refine F4.appL 2 rfl _ _ rfl rfl rfl [(t,v)] rfl rfl (Rd.of_blk (F4.blk 0 rfl)) (by omega) ?_;intro a4 c4 W4 F5;simp only[List.set_cons_succ,List.set_cons_zero] at F5;rw[←pairs_app] at F5;clear cs;have cs:=F5.c5 5 rfl;have F6:=F5.set 5 rfl 2 (.slice a4 (nl+1) c4))
    refine(implChanClone_fr ⟨room,its,snd++[(t,v)],[],false⟩ bi a4 bg ni di (nl+1) c4 0 dg _ HH1.out HL1.out rfl (by omega) (by omega) (by omega) (F6.rdRow 3 rfl) (F6.rdRow 2 rfl) (F6.rdRow 1 rfl)).mono ?_
    rintro e w8 ⟨ei,es,eg,ki,ks,kg,rfl,F'⟩
    have F7:=F6.join F'
    simp only[List.cons_append,List.nil_append] at F7
    have cr:=F7.c5 7 rfl
    have F8:=F7.set5 7 rfl (.int .i64 room) (.slice ei ni ki) (.slice es (nl+1) ks) (.slice eg 0 kg) (.bool false)
    clear F' F6
    go_wp2
    exact bodyPost_ret (v:= .tuple #[.agg #[.int .i64 room,.slice ei ni ki,.slice es (nl+1) ks,.slice eg 0 kg,.bool false],.slice none 0 0,.bool false,.bool true]) (by simp[results,Tryz.results77,go_sem,F8.c5 7 rfl]) rfl ⟨⟨room,its,snd++[(t,v)],[],false⟩,⟨ei,ni,ki⟩,⟨es,nl+1,ks⟩,⟨eg,0,kg⟩,nilV,[],false,true,HV.out,rfl,by rw[HH1.out];exact F8.sln 2 rfl,by rw[HL1.out];exact F8.sln 1 rfl,F8.sln 0 rfl,World.ownsRow_nil _ _ _ _,F8.bel⟩
 ·go_enter Tryz.func77,Tryz.ntmps77
  go_wp2_with fail
  refine(implChanValid_ok ⟨room,its,snd,gts,true⟩ ai al ag ni ci nl cl ng cg _ HH1.out HH2.out HH3.out (F.rd r1) (F.rd r2) (F.rd r3) OK.out).mono ?_
  rintro e w1 ⟨rfl,hb⟩
  replace F:=F.call hb
  replace cs:=F.c5 1 rfl
  clear hb
  go_wp2_with fail
  refine(implThread_ok t _ T6.out).mono ?_
  rintro e wz ⟨rfl,hw⟩
  obtain rfl:=hw
  go_wp2_with fail
  refine(implThreads_any ⟨room,its,snd,gts,true⟩ ai al ag ni ci nl cl ng cg _ HH2.out HH3.out (by omega) (by omega) (F.rd r2) (F.rd r3)).mono ?_
  rintro e w1 ⟨a3,c3,rfl,ho,hb⟩
  have hr3:=Rd.of_owns ho
  replace F:=F.call hb
  replace cs:=F.c5 1 rfl
  clear hb ho
  go_wp2_with fail
  refine(implContains_any a3 (nl+ng) c3 (snd.map (·.1)++gts) t _ (by rw[List.length_append,List.length_map,HH2.out,HH3.out]) (by unfold maxLen;omega) hr3).mono ?_
  rintro e wz ⟨rfl,hw⟩
  obtain rfl:=hw
  rw[contains_no (by rw[List.mem_append,not_or];exact⟨HS.out,HG.out⟩)]
  clear hr3
  have HV:Hid (chnSend ⟨room,its,snd,gts,true⟩ t v=none):=xH1 (by unfold chnSend;rw[if_pos rfl])
  have cr:=F.c5 0 rfl
  have F2:=F.set5 0 rfl (.int .i64 0) (.slice none 0 0) (.slice none 0 0) (.slice none 0 0) (.bool false)
  go_wp2
  exact bodyPost_ret (v:= .tuple #[.agg #[.int .i64 0,.slice none 0 0,.slice none 0 0,.slice none 0 0,.bool false],.slice none 0 0,.bool false,.bool false]) (by simp[results,Tryz.results77,go_sem,F2.c5 0 rfl]) rfl ⟨noChn,nilV,nilV,nilV,nilV,[],false,false,HV.out,rfl,SlN.nil _ _,SlN.nil _ _,SlN.nil _ _,World.ownsRow_nil _ _ _ _,F2.bel⟩
theorem implCloseChan_ok (x:ChnD) (ai al ag:Option Addr) (ni ci nl cl ng cg:Nat) (w:World) (h1:x.items.length=ni) (h2:x.senders.length=nl) (h3:x.getters.length=ng) (r1:Rd w ai (ints x.items)) (r2:Rd w al (pairs x.senders)) (r3:Rd w ag (ints x.getters)) (ok:chnOk x):
  Calls Tryz.prog 79 #[.agg #[.int .i64 x.room,.slice ai ni ci,.slice al nl cl,.slice ag ng cg,.bool x.closed]] w fun e w'=>∃(y:ChnD) (s1 s2 s3 u:SlV) (l:List Int) (b:Bool),chnClose x=(if b=true then some (y,l) else none)∧e= .returned (.tuple #[chnV y s1 s2 s3,u.val,.bool b])∧SlN w w' s1 (ints y.items) y.items.length∧SlN w w' s2 (pairs y.senders) y.senders.length∧SlN w w' s3 (ints y.getters) y.getters.length∧w'.ownsRow w.heap.size 3 1 u.val u.n (ints l)∧Below w.heap.size w w':=by
 obtain⟨room,its,snd,gts,clo⟩:=x
 dsimp only at*
 have OK:=xH1 ok
 have h6:=ok.2.2.2.2.1.1
 rw[List.length_append,List.length_map,h2,h3] at h6
 have o1:=ok.1.1
 have o2:=ok.1.2
 have o3:(ni:Int)≤room:=by rw[←h1];exact ok.2.1
 have HH1:=xH1 h1
 have HH2:=xH1 h2
 have HH3:=xH1 h3
 have F:=((Fr.start w).alloc #[.int .i64 room,.slice ai ni ci,.slice al nl cl,.slice ag ng cg,.bool clo] 93).alloc #[.int .i64 0,.slice none 0 0,.slice none 0 0,.slice none 0 0,.bool false] 93
 simp only[World.size_alloc] at F
 have cs:=F.c5 1 rfl
 clear ok h1 h2 h3
 have X:Hid (chnOk ⟨room,its,snd,gts,clo⟩):=OK
 clear X
 cases clo
 ·go_enter Tryz.func79,Tryz.ntmps79
  go_wp2_with fail
  refine(implChanValid_ok ⟨room,its,snd,gts,false⟩ ai al ag ni ci nl cl ng cg _ HH1.out HH2.out HH3.out (F.rd r1) (F.rd r2) (F.rd r3) OK.out).mono ?_
  rintro e w1 ⟨rfl,hb⟩
  replace F:=F.call hb
  replace cs:=F.c5 1 rfl
  clear hb
  by_cases hs:nl=0
  ·have hsn:snd=[]:=List.eq_nil_of_length_eq_zero (by rw[HH2.out];exact hs)
   have HV:Hid (chnClose ⟨room,its,snd,gts,false⟩=some (⟨room,its,snd,[],true⟩,gts)):=xH1 (by unfold chnClose;rw[if_neg (by simp[hsn])])
   clear hsn
   subst hs
   go_wp2_with fail
   refine(implChanClone_fr ⟨room,its,snd,gts,false⟩ ai al ag ni ci 0 cl ng cg _ HH1.out HH2.out HH3.out (by omega) (by omega) (by omega) (F.rd r1) (F.rd r2) (F.rd r3)).mono ?_
   rintro e w2 ⟨bi,bs,bg,di,ds,dg,rfl,F'⟩
   have F2:=F.join F'
   simp only[List.cons_append,List.nil_append] at F2
   replace cs:=F2.c5 4 rfl
   have F3:=F2.set5 4 rfl (.int .i64 room) (.slice bi ni di) (.slice bs 0 ds) (.slice bg ng dg) (.bool false)
   clear F F' F2
   go_upto_region 4 with fail
   obtain⟨W3,hW,F⟩:=F3.named
   rw[←hW]
   clear hW F3 cs
   have cs:=F.c5 4 rfl
   have cr:=F.c5 3 rfl
   have F5:=((F.set 4 rfl 3 (.slice none 0 0)).set 4 rfl 4 (.bool true)).set5 3 rfl (.int .i64 room) (.slice bi ni di) (.slice bs 0 ds) (.slice none 0 0) (.bool true)
   go_wp2
   exact bodyPost_ret (v:= .tuple #[.agg #[.int .i64 room,.slice bi ni di,.slice bs 0 ds,.slice none 0 0,.bool true],.slice bg ng dg,.bool true]) (by simp[results,Tryz.results79,go_sem,F5.c5 3 rfl]) rfl ⟨⟨room,its,snd,[],true⟩,⟨bi,ni,di⟩,⟨bs,0,ds⟩,nilV,⟨bg,ng,dg⟩,gts,true,HV.out,rfl,by rw[HH1.out];exact F5.sln 2 rfl,by rw[HH2.out];exact F5.sln 1 rfl,SlN.nil _ _,F5.own 0 rfl,F5.bel⟩
  ·have hsn:snd≠[]:=fun h=>hs (by rw[←HH2.out,h];rfl)
   have HV:Hid (chnClose ⟨room,its,snd,gts,false⟩=none):=xH1 (by unfold chnClose;rw[if_pos (.inr hsn)])
   have h0:(0:Int)<(nl:Int):=by omega
   clear hsn hs
   have cr:=F.c5 0 rfl
   have F2:=F.set5 0 rfl (.int .i64 0) (.slice none 0 0) (.slice none 0 0) (.slice none 0 0) (.bool false)
   go_wp2
   exact bodyPost_ret (v:= .tuple #[.agg #[.int .i64 0,.slice none 0 0,.slice none 0 0,.slice none 0 0,.bool false],.slice none 0 0,.bool false]) (by simp[results,Tryz.results79,go_sem,F2.c5 0 rfl]) rfl ⟨noChn,nilV,nilV,nilV,nilV,[],false,HV.out,rfl,SlN.nil _ _,SlN.nil _ _,SlN.nil _ _,World.ownsRow_nil _ _ _ _,F2.bel⟩
 ·go_enter Tryz.func79,Tryz.ntmps79
  go_wp2_with fail
  refine(implChanValid_ok ⟨room,its,snd,gts,true⟩ ai al ag ni ci nl cl ng cg _ HH1.out HH2.out HH3.out (F.rd r1) (F.rd r2) (F.rd r3) OK.out).mono ?_
  rintro e w1 ⟨rfl,hb⟩
  replace F:=F.call hb
  replace cs:=F.c5 1 rfl
  clear hb
  have HV:Hid (chnClose ⟨room,its,snd,gts,true⟩=none):=xH1 (by unfold chnClose;rw[if_pos (.inl rfl)])
  have cr:=F.c5 0 rfl
  have F2:=F.set5 0 rfl (.int .i64 0) (.slice none 0 0) (.slice none 0 0) (.slice none 0 0) (.bool false)
  go_wp2
  exact bodyPost_ret (v:= .tuple #[.agg #[.int .i64 0,.slice none 0 0,.slice none 0 0,.slice none 0 0,.bool false],.slice none 0 0,.bool false]) (by simp[results,Tryz.results79,go_sem,F2.c5 0 rfl]) rfl ⟨noChn,nilV,nilV,nilV,nilV,[],false,HV.out,rfl,SlN.nil _ _,SlN.nil _ _,SlN.nil _ _,World.ownsRow_nil _ _ _ _,F2.bel⟩
theorem implGetChan_ok (x:ChnD) (ai al ag:Option Addr) (ni ci nl cl ng cg:Nat) (t:Int) (w:World) (h1:x.items.length=ni) (h2:x.senders.length=nl) (h3:x.getters.length=ng) (r1:Rd w ai (ints x.items)) (r2:Rd w al (pairs x.senders)) (r3:Rd w ag (ints x.getters)) (ok:chnOk x) (ht:0≤t∧t<6) (hns:t∉x.senders.map (·.1)) (hng:t∉x.getters):
  Calls Tryz.prog 78 #[.agg #[.int .i64 x.room,.slice ai ni ci,.slice al nl cl,.slice ag ng cg,.bool x.closed],.int .i64 t] w fun e w'=>∃(y:ChnD) (s1 s2 s3 u:SlV) (l:List Int) (val how:Int),chnGet x t=(y,val,how,l)∧e= .returned (.tuple #[chnV y s1 s2 s3,.int .i64 val,.int .i64 how,u.val,.bool true])∧SlN w w' s1 (ints y.items) y.items.length∧SlN w w' s2 (pairs y.senders) y.senders.length∧SlN w w' s3 (ints y.getters) y.getters.length∧w'.ownsRow w.heap.size 3 1 u.val u.n (ints l)∧Below w.heap.size w w':=by
 obtain⟨room,its,snd,gts,clo⟩:=x
 dsimp only at*
 have T6:=xH1 ht
 have HS:=xH1 hns
 have HG:=xH1 hng
 clear ht hns hng
 have OK:=xH1 ok
 have h6:=ok.2.2.2.2.1.1
 rw[List.length_append,List.length_map,h2,h3] at h6
 have o1:=ok.1.1
 have o2:=ok.1.2
 have o3:(ni:Int)≤room:=by rw[←h1];exact ok.2.1
 have HH1:=xH1 h1
 have HH2:=xH1 h2
 have HH3:=xH1 h3
 have F:=((Fr.start w).alloc #[.int .i64 room,.slice ai ni ci,.slice al nl cl,.slice ag ng cg,.bool clo] 93).alloc #[.int .i64 0,.slice none 0 0,.slice none 0 0,.slice none 0 0,.bool false] 93
 simp only[World.size_alloc] at F
 have cs:=F.c5 1 rfl
 clear ok h1 h2 h3
 go_enter Tryz.func78,Tryz.ntmps78
 go_wp2_with fail
 refine(implChanValid_ok ⟨room,its,snd,gts,clo⟩ ai al ag ni ci nl cl ng cg _ HH1.out HH2.out HH3.out (F.rd r1) (F.rd r2) (F.rd r3) OK.out).mono ?_
 rintro e w1 ⟨rfl,hb⟩
 replace F:=F.call hb
 replace cs:=F.c5 1 rfl
 clear hb
 go_wp2_with fail
 refine(implThread_ok t _ T6.out).mono ?_
 rintro e wz ⟨rfl,hw⟩
 obtain rfl:=hw
 go_wp2_with fail
 refine(implThreads_any ⟨room,its,snd,gts,clo⟩ ai al ag ni ci nl cl ng cg _ HH2.out HH3.out (by omega) (by omega) (F.rd r2) (F.rd r3)).mono ?_
 rintro e w1 ⟨a3,c3,rfl,ho,hb⟩
 have hr3:=Rd.of_owns ho
 replace F:=F.call hb
 replace cs:=F.c5 1 rfl
 clear hb ho
 go_wp2_with fail
 refine(implContains_any a3 (nl+ng) c3 (snd.map (·.1)++gts) t _ (by rw[List.length_append,List.length_map,HH2.out,HH3.out]) (by unfold maxLen;omega) hr3).mono ?_
 rintro e wz ⟨rfl,hw⟩
 obtain rfl:=hw
 rw[contains_no (by rw[List.mem_append,not_or];exact⟨HS.out,HG.out⟩)]
 clear hr3
 go_wp2_with fail
 refine(implChanClone_fr ⟨room,its,snd,gts,clo⟩ ai al ag ni ci nl cl ng cg _ HH1.out HH2.out HH3.out (by omega) (by omega) (by omega) (F.rd r1) (F.rd r2) (F.rd r3)).mono ?_
 rintro e w2 ⟨bi,bs,bg,di,ds,dg,rfl,F'⟩
 have F2:=F.join F'
 simp only[List.cons_append,List.nil_append] at F2
 replace cs:=F2.c5 4 rfl
 have F3:=F2.set5 4 rfl (.int .i64 room) (.slice bi ni di) (.slice bs nl ds) (.slice bg ng dg) (.bool clo)
 clear F F' F2
 go_upto_region 4 with fail
 obtain⟨W3,hW,F⟩:=F3.named
 rw[←hW]
 clear hW F3 cs
 have cs:=F.c5 4 rfl
 cases snd with
 |cons l ls=>
  have hls:ls.length+1=nl:=HH2.out
  have HLS:Hid (ls.length=nl-1):=xH1 (by omega)
  have hn0:(0:Int)<(nl:Int):=by omega
  obtain⟨y,ys,hys⟩:∃y ys,its++[l.2]=y::ys:=List.exists_cons_of_ne_nil (by simp)
  have HV:Hid (chnGet ⟨room,its,l::ls,gts,clo⟩ t=(⟨room,ys,ls,gts,clo⟩,y,1,[l.1])):=xH1 (by
   cases its with
   |nil=>simp only[List.nil_append,List.cons.injEq] at hys;obtain⟨rfl,rfl⟩:=hys;rfl
   |cons x xs=>simp only[List.cons_append,List.cons.injEq] at hys;obtain⟨rfl,rfl⟩:=hys;rfl)
  have hly:ys.length+1=ni+1:=by have:=congrArg List.length hys;rw[List.length_append,HH1.out] at this;simpa using this.symm
  have HYS:=xH1 hys
  have hcapS:=(owns_cap (F.own 1 rfl)).1
  obtain⟨AS,hslS,hAS,-⟩:=tail2 (F.rdRow 1 rfl) (by show(pairs ls).length+2=nl*2;rw[pairs_len];omega) hcapS
  have HAS:=xH1 hAS
  obtain⟨b,o,rfl,-⟩:=(F.rdRow 1 rfl).pair (by simp)
  have g:=rd_pair0 (F.rdRow 1 rfl)
  clear hys hAS
  go_wp2_with fail
  apply wp_rk 8 [.k _,.k _,.k _,.k _,.k _,.k _,.k _,.r fun dz uz wz=>(∃gz:Nat,uz= .slice (some ⟨gz,0,none⟩) 1 1∧wz.ownsRow W3.heap.size 3 1 (.slice (some ⟨gz,0,none⟩) 1 1) 1 (ints [l.2]))] ⟨fun _ _ _ _ hb ⟨g,e,h⟩=>⟨g,e,owns_below h hb⟩,trivial⟩ ?s1 ?e1
  case s1=>
   repeat' apply And.intro
   all_goals first|trivial|(intro ρ w1 hG hfr hd;obtain⟨fc,ff⟩:=fcff hfr;have f2:=hfr (.tmp 2) rfl;have F1:=F.call hG;have cs:=F1.c5 4 rfl;have g:=rd_pair0 (F1.rdRow 1 rfl);clear F1)
   exact rk0;exact rk1;exact rk0;exact rk1;exact rk1;exact rk1;exact rk1
   ·obtain⟨d0,-⟩:=hd
    have d0:ρ (.tmp 38)=_:=d0
    refine gives_val (u:= .slice (some ⟨w1.heap.size,0,none⟩) 1 1) (w':=w1.alloc (.cells #[.int .i64 l.2] 3)) (by go_simp) ⟨xA1,⟨_,rfl,owns_mono (owns_of_blk (cs:= #[.int .i64 l.2]) (m:=1) (Blk.new _ _ _) xL1 rfl (by decide)) hG.size⟩,xN1,hG.alloc hG.size _⟩
  intro w2 hG
  refine rk_end ?_
  intro xv7 hv7
  obtain⟨gz,rfl,ho⟩:=hv7
  have F4:=F.row hG ho
  clear cs g hG ho F
  have cs:=F4.c5 5 rfl
  go_upto_region 7 with (at_builtin;refine F4.appI 3 rfl _ _ rfl rfl rfl [l.2] rfl rfl (F4.rdRow 0 rfl) (by omega) ?_;intro bj dj W5 F5;simp only[List.set_cons_succ,List.set_cons_zero] at F5;rw[←ints_app,HYS.out] at F5;clear cs F4;have cs:=F5.c5 5 rfl;have g:=rd_pair0 (F5.rdRow 2 rfl);have F6:=F5.set 5 rfl 1 (.slice bj (ni+1) dj))
  obtain⟨W7,hW,F7⟩:=F6.named
  rw[←hW]
  clear hW F5 F6 cs g
  have cs:=F7.c5 5 rfl
  have g:=rd_pair0 (F7.rdRow 2 rfl)
  have F8:=F7.alloc #[.int .i64 l.1] 3
  have cs8:=F8.c5 6 rfl
  have F9:=F8.set 6 rfl 2 (.slice AS (nl-1) (ds-1))
  clear F7
  go_upto_region 9 with fail
  obtain⟨W9,hW,F⟩:=F9.named
  rw[←hW]
  clear hW F9 cs g cs8
  have cs:=F.c5 6 rfl
  have hcapI:=(owns_cap (F.own 4 rfl)).1
  obtain⟨AI,hslI,hAI,-⟩:=tail1 (F.rdRow 4 rfl) (by rw[List.length_map];exact hly) hcapI
  obtain⟨bI,oI,rfl,g'⟩:=(F.rdRow 4 rfl).int (by simp)
  have gI:=g' 0 (by simp)
  rw[Nat.add_zero,List.getD_cons_zero] at gI
  have HAI:=xH1 hAI
  have F6:=F.set 6 rfl 1 (.slice AI ni (dj-1))
  clear g' hAI
  go_wp2_with fail
  refine(implChanClone_fr ⟨room,ys,ls,gts,clo⟩ AI AS bg ni (dj-1) (nl-1) (ds-1) ng dg _ (by show ys.length=ni;omega) HLS.out HH3.out (by omega) (by omega) (by omega) (HAI.out _ (F6.rdRow 4 rfl)) (HAS.out _ (F6.rdRow 3 rfl)) (F6.rdRow 2 rfl)).mono ?_
  rintro e w8 ⟨ei,es,eg,ki,ks,kg,rfl,F'⟩
  have F7:=F6.join F'
  simp only[List.cons_append,List.nil_append] at F7
  have cr:=F7.c5 8 rfl
  have F8:=F7.set5 8 rfl (.int .i64 room) (.slice ei ni ki) (.slice es (nl-1) ks) (.slice eg ng kg) (.bool clo)
  clear F' F6 F
  go_wp2
  exact bodyPost_ret (v:= .tuple #[.agg #[.int .i64 room,.slice ei ni ki,.slice es (nl-1) ks,.slice eg ng kg,.bool clo],.int .i64 y,.int .i64 1,.slice (some ⟨W7.heap.size,0,none⟩) 1 1,.bool true]) (by simp[results,Tryz.results78,go_sem,F8.c5 8 rfl]) rfl ⟨⟨room,ys,ls,gts,clo⟩,⟨ei,ni,ki⟩,⟨es,(nl-1),ks⟩,⟨eg,ng,kg⟩,(⟨some ⟨W7.heap.size,0,none⟩,1,1⟩:SlV),[l.1],y,1,HV.out,rfl,by rw[show ys.length=ni by omega];exact F8.sln 2 rfl,by rw[HLS.out];exact F8.sln 1 rfl,by rw[HH3.out];exact F8.sln 0 rfl,owns_lit F8 3 rfl,F8.bel⟩
 |nil=>
  obtain rfl:nl=0:=HH2.out.symm
  cases its with
  |cons y ys=>
   have hly:ys.length+1=ni:=HH1.out
   have hi0:(0:Int)<(ni:Int):=by omega
   have HLS:Hid (([]:List (Int×Int)).length=0):=xH1 rfl
   have HV:Hid (chnGet ⟨room,y::ys,[],gts,clo⟩ t=(⟨room,ys,[],gts,clo⟩,y,1,[])):=xH1 rfl
   have hcapI:=(owns_cap (F.own 2 rfl)).1
   obtain⟨AI,hslI,hAI,-⟩:=tail1 (F.rdRow 2 rfl) (by rw[List.length_map];exact hly) hcapI
   obtain⟨bI,oI,rfl,g'⟩:=(F.rdRow 2 rfl).int (by simp)
   have gI:=g' 0 (by simp)
   rw[Nat.add_zero,List.getD_cons_zero] at gI
   have HAI:=xH1 hAI
   have F6:=F.set 4 rfl 1 (.slice AI (ni-1) (di-1))
   clear g' hAI
   go_wp2_with fail
   refine(implChanClone_fr ⟨room,ys,[],gts,clo⟩ AI bs bg (ni-1) (di-1) 0 ds ng dg _ (by show ys.length=ni-1;omega) HLS.out HH3.out (by omega) (by omega) (by omega) (HAI.out _ (F6.rdRow 2 rfl)) (F6.rdRow 1 rfl) (F6.rdRow 0 rfl)).mono ?_
   rintro e w8 ⟨ei,es,eg,ki,ks,kg,rfl,F'⟩
   have F7:=F6.join F'
   simp only[List.cons_append,List.nil_append] at F7
   have cr:=F7.c5 6 rfl
   have F8:=F7.set5 6 rfl (.int .i64 room) (.slice ei (ni-1) ki) (.slice es 0 ks) (.slice eg ng kg) (.bool clo)
   clear F' F6 F
   go_wp2
   exact bodyPost_ret (v:= .tuple #[.agg #[.int .i64 room,.slice ei (ni-1) ki,.slice es 0 ks,.slice eg ng kg,.bool clo],.int .i64 y,.int .i64 1,.slice none 0 0,.bool true]) (by simp[results,Tryz.results78,go_sem,F8.c5 6 rfl]) rfl ⟨⟨room,ys,[],gts,clo⟩,⟨ei,ni-1,ki⟩,⟨es,0,ks⟩,⟨eg,ng,kg⟩,nilV,[],y,1,HV.out,rfl,by rw[show ys.length=ni-1 by omega];exact F8.sln 2 rfl,by rw[HLS.out];exact F8.sln 1 rfl,by rw[HH3.out];exact F8.sln 0 rfl,World.ownsRow_nil _ _ _ _,F8.bel⟩
  |nil=>
   obtain rfl:ni=0:=HH1.out.symm
   cases clo
   ·have HV:Hid (chnGet ⟨room,[],[],gts,false⟩ t=(⟨room,[],[],gts++[t],false⟩,0,0,[])):=xH1 rfl
    have HL1:Hid ((gts++[t]).length=ng+1):=xH1 (by rw[List.length_append,HH3.out];rfl)
    have F4:=F.alloc #[.int .i64 t] 3
    go_wp2_with (at_builtin;refine F4.appI 1 rfl _ _ rfl rfl rfl [t] rfl rfl (Rd.of_blk (F4.blk 0 rfl)) (by omega) ?_;intro a4 c4 W4 F5;simp only[List.set_cons_succ,List.set_cons_zero] at F5;rw[←ints_app] at F5;clear cs;have cs:=F5.c5 5 rfl;have F6:=F5.set 5 rfl 3 (.slice a4 (ng+1) c4))
    refine(implChanClone_fr ⟨room,[],[],gts++[t],false⟩ bi bs a4 0 di 0 ds (ng+1) c4 _ rfl rfl HL1.out (by omega) (by omega) (by omega) (F6.rdRow 3 rfl) (F6.rdRow 2 rfl) (F6.rdRow 1 rfl)).mono ?_
    rintro e w8 ⟨ei,es,eg,ki,ks,kg,rfl,F'⟩
    have F7:=F6.join F'
    simp only[List.cons_append,List.nil_append] at F7
    have cr:=F7.c5 7 rfl
    have F8:=F7.set5 7 rfl (.int .i64 room) (.slice ei 0 ki) (.slice es 0 ks) (.slice eg (ng+1) kg) (.bool false)
    clear F' F6
    go_wp2
    exact bodyPost_ret (v:= .tuple #[.agg #[.int .i64 room,.slice ei 0 ki,.slice es 0 ks,.slice eg (ng+1) kg,.bool false],.int .i64 0,.int .i64 0,.slice none 0 0,.bool true]) (by simp[results,Tryz.results78,go_sem,F8.c5 7 rfl]) rfl ⟨⟨room,[],[],gts++[t],false⟩,⟨ei,0,ki⟩,⟨es,0,ks⟩,⟨eg,ng+1,kg⟩,nilV,[],0,0,HV.out,rfl,F8.sln 2 rfl,F8.sln 1 rfl,by rw[HL1.out];exact F8.sln 0 rfl,World.ownsRow_nil _ _ _ _,F8.bel⟩
   ·have HV:Hid (chnGet ⟨room,[],[],gts,true⟩ t=(⟨room,[],[],gts,true⟩,0,2,[])):=xH1 rfl
    have cr:=F.c5 3 rfl
    have F8:=F.set5 3 rfl (.int .i64 room) (.slice bi 0 di) (.slice bs 0 ds) (.slice bg ng dg) (.bool true)
    go_wp2
    exact bodyPost_ret (v:= .tuple #[.agg #[.int .i64 room,.slice bi 0 di,.slice bs 0 ds,.slice bg ng dg,.bool true],.int .i64 0,.int .i64 2,.slice none 0 0,.bool true]) (by simp[results,Tryz.results78,go_sem,F8.c5 3 rfl]) rfl ⟨⟨room,[],[],gts,true⟩,⟨bi,0,di⟩,⟨bs,0,ds⟩,⟨bg,ng,dg⟩,nilV,[],0,2,HV.out,rfl,F8.sln 2 rfl,F8.sln 1 rfl,by rw[HH3.out];exact F8.sln 0 rfl,World.ownsRow_nil _ _ _ _,F8.bel⟩
end Go.Proofs.YtjmpejaifmopnaaGreat
