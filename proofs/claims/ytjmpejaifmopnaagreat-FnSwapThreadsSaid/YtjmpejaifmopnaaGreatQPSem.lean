/- Part of a proof: IThr ISem ISem2. -/
import Derived.Test.YtjmpejaifmopnaaGreatQPFr
import Derived.Test.YtjmpejaifmopnaaGreatQMaps
import Derived.StillTailTactics
set_option maxRecDepth 100000
set_option maxHeartbeats 16000000
namespace Go.Proofs.YtjmpejaifmopnaaGreat
open Go.RowKit
theorem implThread_ok (t:Int) (w:World) (h:0≤t∧t<6):Calls Tryz.prog 82 #[.int .i64 t] w fun e w'=>e= .returned (.bool true)∧w'=w:=by
 have d1:decide (0≤t)=true:=decide_eq_true h.1
 have d2:decide (t<6)=true:=decide_eq_true h.2
 go_enter Tryz.func82,Tryz.ntmps82
 go_wp2
 go_ret
 exact⟨rfl,rfl⟩
theorem implValue_ok (t:Int) (w:World) (h:0≤t∧t≤99):Calls Tryz.prog 47 #[.int .i64 t] w fun e w'=>e= .returned (.bool true)∧w'=w:=
 (isValue_any t w).mono fun e w' ⟨h1,h2⟩=>⟨by rw[h1];simp[isVal,h.1,h.2],h2⟩
theorem mget_map_none (l:List Int) (v:Value) (t:Int) (h:t∉l):mget (l.map fun x=>(x,v)) t=none:=by
 rw[mget_none];simpa using h
theorem mput_new:∀(L:List (Int×Value)) (k:Int) (v:Value),k∉L.map Prod.fst→mput L k v=L++[(k,v)]
 |[],_,_,_=>rfl
 |(a,u)::r,k,v,h=>by
  simp only[List.map_cons,List.mem_cons,not_or] at h
  simp only[mput,h.1,if_false,List.cons_append,mput_new r k v h.2]
theorem zero_bool' (w:World):(zeroValue 4).run Tryz.prog w= .ok (.bool false) w:=by kernel_rfl
theorem take_succ_getD (l:List Int) (k:Nat) (hk:k<l.length):l.take (k+1)=l.take k++[l.getD k 0]:=by
 rw[List.take_add_one,List.getElem?_eq_getElem hk];simp[List.getD,hk]
theorem nodup_take_not {l:List Int} (h:l.Nodup) {k:Nat} (hk:k<l.length):l.getD k 0∉l.take k:=by
 intro hm
 obtain⟨j,hj,e⟩:=List.getElem_of_mem hm
 simp only[List.length_take] at hj
 have:=nodup_getD h (i:=k) (k:=j) hk (by omega)
 apply this
 rw[←e]
 simp[List.getD,show j<l.length by omega]
theorem implDistinct_ok (a:Option Addr) (n c:Nat) (l:List Int) (w:World) (hl:l.length=n) (hr:Rd w a (ints l)) (h6:thr6 l):
  Calls Tryz.prog 80 #[.slice a n c] w fun e w'=>e= .returned (.bool true)∧Below w.heap.size w w':=by
 have hn:n≤6:=by rw[←hl];exact h6.1
 have HL:=xH1 hl
 have H6:=xH1 h6
 clear hl h6
 have hmm:= @run_makeMap Tryz.prog
 go_enter Tryz.func80,Tryz.ntmps80
 go_wp2
 go_loopw [9] (fun i wr=>∃k:Nat,k≤n∧i= .int .i64 k∧MapI wr w.heap.size ((l.take k).map fun x=>(x,.bool true))∧Below w.heap.size w wr) (fun i _=>n-(intOf i).toNat)
 case atStart=>exact⟨0,by omega,rfl,MapI.made w,xA1⟩
 case round=>
  obtain⟨k,hk,rfl,hmap,hb⟩:=hrel
  by_cases hlt:k<n
  ·obtain⟨b,o,rfl,hc⟩:=(hr.below hb).int (by have:=HL.out;omega)
   have g1:=hc k (by have:=HL.out;omega)
   obtain⟨x,hx⟩:∃x,x=l.getD k 0:=⟨_,rfl⟩
   rw[←hx] at g1
   have hnot:x∉l.take k:=by rw[hx];exact nodup_take_not H6.out.2.2 (by rw[HL.out];exact hlt)
   have hth:0≤x∧x<6:=H6.out.2.1 x (by rw[hx];exact getD_memp (by rw[HL.out];exact hlt))
   have htk:l.take (k+1)=l.take k++[x]:=by rw[hx];exact take_succ_getD l k (by rw[HL.out];exact hlt)
   have HT:=xH1 htk
   have HN:=xH1 hnot
   have HTH:=xH1 hth
   clear hc hx htk hnot hth
   go_wp2_with fail
   refine(implThread_ok x _ HTH.out).mono ?_
   rintro e w' ⟨rfl,rfl⟩
   have hlk:=run_lookup_mapI (P:=Tryz.prog) Tryz.underlying160 Tryz.underlying3 zero_bool' hmap x
   rw[mget_map_none _ _ _ HN.out] at hlk
   replace hlk:(Instr.lookup 160 (.map (some w.heap.size)) (.int .i64 x) false).run Tryz.prog w'= .ok (.bool false) w':=hlk
   go_wp2_with (at_mapUpdate;refine wpList_update_mapI rfl _ _ _ rfl Tryz.underlying160 Tryz.underlying3 rfl hmap rfl rfl ?_;intro w5 hm5 hg5 hs5)
   go_roundw
   case rel=>
    refine⟨k+1,by omega,by go_num,?_,hb.trans (below_of_grown hg5 hb.size (fun q hq=>by cases hq;exact Nat.le_refl _))⟩
    rw[HT.out,List.map_append]
    rw[mput_new _ _ _ (by rw[List.map_map,show(Prod.fst∘fun x:Int=>(x,Value.bool true))=id from rfl,List.map_id];exact HN.out)] at hm5
    exact hm5
   case measure=>simp[intOf];omega
  ·have hkm:k=n:=by omega
   subst hkm
   go_wp2
   go_ret
   exact⟨rfl,hb⟩
theorem implIndex_any (a:Option Addr) (n c:Nat) (l:List Int) (t:Int) (w:World) (hl:l.length=n) (hn:n≤maxLen) (hr:Rd w a (ints l)):
  Calls Tryz.prog 92 #[.slice a n c,.int .i64 t] w fun e w'=>e= .returned (.int .i64 (findI l t))∧w'=w:=by
 unfold maxLen at hn
 have HL:=xH1 hl
 clear hl
 go_enter Tryz.func92,Tryz.ntmps92
 go_wp2
 go_loopw [8] (fun i wr=>∃k:Nat,k≤n∧i= .int .i64 k∧Hid (∀j,j<k→l.getD j 0≠t)∧wr=w) (fun i _=>n-(intOf i).toNat)
 case atStart=>exact⟨0,by omega,rfl,xH1 (by omega),rfl⟩
 case round=>
  obtain⟨k,hk,rfl,hall,rfl⟩:=hrel
  by_cases hlt:k<n
  ·obtain⟨b,o,rfl,hc⟩:=hr.int (by have:=HL.out;omega)
   have g:=hc k (by have:=HL.out;omega)
   obtain⟨x,hx⟩:∃x,x=l.getD k 0:=⟨_,rfl⟩
   rw[←hx] at g
   have HX:=xH1 hx
   clear hc hx
   by_cases e:x=t
   ·have t1:(t==x)=true:=by simpa using e.symm
    have HF:Hid (findI l t=k):=xH1 (findI_at (by have:=HL.out;omega) (by rw[←HX.out];exact e) (fun j hj=>hall.out j hj))
    clear e
    go_wp2
    go_ret
    exact⟨ret_i64' HF.out.symm,rfl⟩
   ·have t1:(t==x)=false:=by simpa using fun h:t=x=>e h.symm
    have HE:=xH1 e
    clear e
    go_wp2
    go_roundw
    case rel=>exact⟨k+1,by omega,by go_num,xH1 (fun j hj=>by
      rcases Nat.lt_or_ge j k with h|h
      ·exact hall.out j h
      ·have:j=k:=by omega
       subst this
       rw[←HX.out];exact HE.out),trivial⟩
    case measure=>simp[intOf];omega
  ·have hkm:k=n:=by omega
   subst hkm
   have HF:Hid (findI l t= -1):=xH1 (findI_no (fun j hj=>hall.out j (by have:=HL.out;omega)))
   go_wp2
   go_ret
   exact⟨ret_i64' HF.out.symm,rfl⟩
theorem implContains_any (a:Option Addr) (n c:Nat) (l:List Int) (t:Int) (w:World) (hl:l.length=n) (hn:n≤maxLen) (hr:Rd w a (ints l)):
  Calls Tryz.prog 65 #[.slice a n c,.int .i64 t] w fun e w'=>e= .returned (.bool (decide (0≤findI l t)))∧w'=w:=by
 go_enter Tryz.func65,Tryz.ntmps65
 go_wp2_with fail
 refine(implIndex_any a n c l t w hl hn hr).mono ?_
 rintro e w' ⟨rfl,rfl⟩
 go_wp2
 go_ret
 exact⟨rfl,rfl⟩
theorem contains_no {l:List Int} {t:Int} (h:t∉l):decide (0≤findI l t)=false:=by rw[findI_not h];rfl
theorem contains_yes {l:List Int} {t:Int} (h:t∈l):decide (0≤findI l t)=true:=decide_eq_true (findI_mem h).1
theorem implSemClone_any (x:SemD) (a:Option Addr) (n c:Nat) (w:World) (hl:x.queue.length=n) (hn:n≤1048576) (hr:Rd w a (pairs x.queue)):
  Calls Tryz.prog 62 #[.agg #[.int .i64 x.free,.int .i64 x.limit,.slice a n c]] w fun e w'=>∃(a':Option Addr) (c':Nat),e= .returned (.agg #[.int .i64 x.free,.int .i64 x.limit,.slice a' n c'])∧w'.ownsRow w.heap.size 146 2 (.slice a' n c') n (pairs x.queue)∧Below w.heap.size w w':=by
 have HL:=xH1 hl
 have F:=((Fr.start w).alloc #[.int .i64 x.free,.int .i64 x.limit,.slice a n c] 83).alloc #[.int .i64 0,.int .i64 0,.slice none 0 0] 83
 simp only[World.size_alloc] at F
 have q0:=F.cell 1 0 rfl rfl
 have q1:=F.cell 1 1 rfl rfl
 have q2:=F.cell 1 2 rfl rfl
 have HR:=xH1 hr
 clear hl hr
 go_enter Tryz.func62,Tryz.ntmps62
 go_wp2_with (at_builtin;refine(F.nil _ 2).appW 0 rfl _ _ rfl rfl rfl x.queue rfl HL.out (F.rd HR.out) (by omega) ?_;intro a1 c1 W1 F1;clear F q0 q1 q2;simp only[List.set_cons_zero,List.nil_append,Nat.zero_add] at F1;have q:=F1.c3 2 rfl;have r:=F1.c3 1 rfl)
 have F2:=(F1.set 2 rfl 2 (.slice a1 n c1)).set3 1 rfl (.int .i64 x.free) (.int .i64 x.limit) (.slice a1 n c1)
 exact bodyPost_ret (v:= .agg #[.int .i64 x.free,.int .i64 x.limit,.slice a1 n c1]) (by simp[results,Tryz.results62,go_sem,F2.c3 1 rfl]) rfl ⟨a1,c1,rfl,F2.own 0 rfl,F2.bel⟩
theorem quiet_ends {w w6:World} (hw6:∃p:Regrown,w6=Go.Sort.grow (redrawn w p.d) p.os):Below w.heap.size w w6:=by
 obtain⟨p,rfl⟩:=hw6
 exact below_regrown _ _ _
theorem pair_take_succ (l:List (Int×Int)) (k:Nat) (hk:k<l.length):(l.take (k+1)).map (·.1)=(l.take k).map (·.1)++[(l.getD k (0,0)).1]:=by
 rw[List.take_add_one,List.getElem?_eq_getElem hk,List.map_append];simp[List.getD,hk]
theorem implSemValid_ok (x:SemD) (a:Option Addr) (n c:Nat) (w:World) (hl:x.queue.length=n) (hr:Rd w a (pairs x.queue)) (ok:semOk x):
  Calls Tryz.prog 48 #[.agg #[.int .i64 x.free,.int .i64 x.limit,.slice a n c]] w fun e w'=>e= .returned (.bool true)∧Below w.heap.size w w':=by
 obtain⟨f,lim,q⟩:=x
 obtain⟨⟨l1,l2⟩,⟨f1,f2⟩,hc,ht,hf⟩:=ok
 dsimp only at*
 have hn:n≤6:=by rw[←hl];simpa using ht.1
 have HL:=xH1 hl
 have HC:=xH1 hc
 have HT:=xH1 ht
 have HF:=xH1 hf
 have HR:=xH1 hr
 have F:=(Fr.start w).alloc #[.int .i64 f,.int .i64 lim,.slice a n c] 83
 have cs:=F.c3 0 rfl
 clear hl hc ht hf hr
 go_enter Tryz.func48,Tryz.ntmps48
 go_wp2
 clear cs
 go_loopw [35,3] (fun i th wr=>∃(k:Nat) (a3:Option Addr) (c3:Nat),k≤n∧i= .int .i64 k∧th= .slice a3 k c3∧Fr w wr [.row a3 k c3 3 1 (ints ((q.take k).map (·.1))),.blk w.heap.size #[.int .i64 f,.int .i64 lim,.slice a n c] 83]) (fun i _ _=>n-(intOf i).toNat)
 case atStart=>exact⟨0,none,0,by omega,rfl,rfl,F.nil _ _⟩
 case round=>
  obtain⟨k,a3,c3,hk,rfl,rfl,F1⟩:=hrel
  by_cases hlt:k<n
  ·obtain⟨b,o,rfl,g'⟩:=(F1.rd HR.out).pair (by have:=HL.out;omega)
   obtain⟨g1,g2⟩:=g' k (by have:=HL.out;omega)
   obtain⟨y,hy⟩:∃y,y=q.getD k (0,0):=⟨_,rfl⟩
   rw[←hy] at g1 g2
   have hm:=HC.out y (by rw[hy];exact getD_memp (by have:=HL.out;omega))
   have HM:Hid ((q.take (k+1)).map (·.1)=(q.take k).map (·.1)++[y.1]):=xH1 (by rw[hy];exact pair_take_succ q k (by have:=HL.out;omega))
   have hm1:=hm.1
   have hm2:=hm.2
   have F2:=F1.alloc #[.int .i64 y.1,.int .i64 y.2] 146
   have cy:=F2.c2 0 rfl
   have cs:=F2.c3 2 rfl
   have F3:=F2.alloc #[.int .i64 y.1] 3
   simp only[World.size_alloc] at F3
   clear g' hy hm
   go_wp2_with (at_builtin;refine F3.appI 2 rfl _ _ rfl rfl rfl [y.1] rfl rfl (Rd.of_blk (F3.blk 0 rfl)) (by omega) ?_;intro a4 c4 W4 F4)
   go_roundw
   case rel=>exact⟨k+1,a4,c4,by omega,by go_num,rfl,by rw[HM.out,ints_app];exact F4.sub (by simp)⟩
   case measure=>simp[intOf];omega
  ·have hkm:k=n:=by omega
   subst hkm
   rw[List.take_of_length_le (by have:=HL.out;omega)] at F1
   have cs:=F1.c3 1 rfl
   go_wp2_with fail
   have hcl:=fun d os=>Calls.regrown_of (implDistinct_ok a3 k c3 _ (Sort.grow (redrawn wr d) os) (by rw[List.length_map];exact HL.out) ((F1.rdRow 0 rfl).below (below_regrown _ d os)) HT.out)
   have HCL:=xH1 hcl
   clear hcl
   by_cases hn0:k=0
   ·subst hn0
    have rc:=fun d os=>cell_regrown cs.2.2.2.2.1 d os
    clear cs
    refine wp_region_quiet_below (by kernel_rfl) (by kernel_rfl) ?_
    repeat (go_big_quiet_step (with_reducible exact HCL.out _ _))
    refine wpQuiet_nil ?_
    intro w6 hw6
    have hb:=F1.bel.trans ((quiet_ends hw6).mono F1.bel.size)
    clear hw6
    go_wp2
    go_ret
    exact⟨rfl,hb⟩
   ·obtain⟨b,o,rfl,g'⟩:=(F1.rd HR.out).pair (by have:=HL.out;omega)
    have g2:=(g' 0 (by have:=HL.out;omega)).2
    obtain⟨y,u,hy⟩:∃y u,q=y::u:=List.exists_cons_of_length_pos (by have:=HL.out;omega)
    have hlt:=HF.out y u hy
    rw[hy,show((y::u).getD 0 (0,0)).2=y.2 from rfl,Nat.zero_mul,Nat.add_zero] at g2
    have hz:((k:Int)==0)=false:=by simpa using hn0
    have hk0:(0:Int)<(k:Int):=by omega
    have rc:=fun d os=>cell_regrown cs.2.2.2.2.1 d os
    have rc0:=fun d os=>cell_regrown cs.1 d os
    have rg:=fun d os=>cell_regrown g2 d os
    clear cs g' hy
    refine wp_region_quiet_below (by kernel_rfl) (by kernel_rfl) ?_
    repeat (go_big_quiet_step (with_reducible exact HCL.out _ _))
    refine wpQuiet_nil ?_
    intro w6 hw6
    have hb:=F1.bel.trans ((quiet_ends hw6).mono F1.bel.size)
    clear hw6
    go_wp2
    go_ret
    exact⟨rfl,hb⟩
theorem indexWay_no (g:Nat) (lb:Array Value) (a:Option Addr) (n c:Nat) (l:List (Int×Int)) (w:World) (eg:∀args w,(callFunc g args).run Tryz.prog w= .ok (.enter g args) w)
  (hl:l.length=n) (hn:n≤maxLen) (hr:Rd w a (pairs l)) (hp:∀x∈l,∀w',Below w.heap.size w w'→Calls Tryz.prog g (#[.agg #[.int .i64 x.1,.int .i64 x.2]]++lb) w' fun e w2=>e= .returned (.bool false)∧Below w'.heap.size w' w2):
  Calls Tryz.prog 100 #[.slice a n c,.func (.func g) #[] lb] w fun e w'=>e= .returned (.int .i64 (-1))∧Below w.heap.size w w':=by
 unfold maxLen at hn
 have HL:=xH1 hl
 have HP:=xH1 hp
 clear hl hp
 go_enter Tryz.func100,Tryz.ntmps100
 go_wp2
 go_loopw [8] (fun i wr=>∃k:Nat,k≤n∧i= .int .i64 k∧Below w.heap.size w wr) (fun i _=>n-(intOf i).toNat)
 case atStart=>exact⟨0,by omega,rfl,Below.refl _ _⟩
 case round=>
  obtain⟨k,hk,rfl,hb⟩:=hrel
  by_cases hlt:k<n
  ·obtain⟨b,o,rfl,hc⟩:=(hr.below hb).pair (by have:=HL.out;omega)
   obtain⟨g1,g2⟩:=hc k (by have:=HL.out;omega)
   obtain⟨x,hx⟩:∃x,x=l.getD k (0,0):=⟨_,rfl⟩
   rw[←hx] at g1 g2
   have HX:Hid (x∈l):=xH1 (by rw[hx];exact getD_memp (by have:=HL.out;omega))
   have HB:=xH1 hb
   clear hc hx hb
   go_wp2_with (go_at_fn g;refine(HP.out x HX.out _ HB.out).mono ?_;rintro e w2 ⟨rfl,hb2⟩)
   go_roundw
   case rel=>exact⟨k+1,by omega,by go_num,HB.out.trans (hb2.mono HB.out.size)⟩
   case measure=>simp[intOf];omega
  ·have hkm:k=n:=by omega
   subst hkm
   go_wp2
   go_ret
   exact⟨rfl,hb⟩
theorem findFn_no (y:Int×Int) (t:Int) (b:Nat) (w:World) (h:w.cell? ⟨b,0,none⟩=some (.int .i64 t)) (hne:y.1≠t):
  Calls Tryz.prog 101 (#[.agg #[.int .i64 y.1,.int .i64 y.2]]++ #[.pointer (some ⟨b,0,none⟩)]) w fun e w2=>e= .returned (.bool false)∧Below w.heap.size w w2:=by
 have t0:(y.1==t)=false:=by simpa using hne
 have F:=(Fr.start w).alloc #[.int .i64 y.1,.int .i64 y.2] 146
 have cy:=F.c2 0 rfl
 have ct:=keepc F.bel h
 clear hne
 go_enter Tryz.func101,Tryz.ntmps101
 go_wp2
 go_ret
 exact⟨rfl,F.bel⟩
theorem implFind_no (x:SemD) (a:Option Addr) (n c:Nat) (t:Int) (w:World) (hl:x.queue.length=n) (hn:n≤6) (hr:Rd w a (pairs x.queue)) (hno:t∉x.queue.map (·.1)):
  Calls Tryz.prog 93 #[.agg #[.int .i64 x.free,.int .i64 x.limit,.slice a n c],.int .i64 t] w fun e w'=>e= .returned (.int .i64 (-1))∧Below w.heap.size w w':=by
 have hmf:∀(fn:Fn) (first cap:Array Value) (w:World),(Instr.makeFunc fn first cap).run Tryz.prog w= .ok (.func fn first cap) w:=fun _ _ _ _=>rfl
 have F:=((Fr.start w).alloc #[.int .i64 x.free,.int .i64 x.limit,.slice a n c] 83).alloc #[.int .i64 t] 3
 simp only[World.size_alloc] at F
 have cs:=F.c3 1 rfl
 have ct:=F.cell 0 0 rfl rfl
 have HN:=xH1 hno
 clear hno
 go_enter Tryz.func93,Tryz.ntmps93
 go_wp2_with fail
 refine(indexWay_no 101 #[.pointer (some ⟨w.heap.size+1,0,none⟩)] a n c x.queue _ (enters_of Tryz.func101 (by kernel_rfl) rfl) hl (by unfold maxLen;omega) (F.rd hr) (fun y hy w' hb=>findFn_no y t _ w' (keepc hb ct) (fun e=>HN.out (List.mem_map.2 ⟨y,hy,e⟩)))).mono ?_
 rintro e w1 ⟨rfl,hb⟩
 have F1:=F.call hb
 go_wp2
 go_ret
 exact⟨rfl,F1.bel⟩
theorem implAcquire_ok (x:SemD) (a:Option Addr) (n c:Nat) (t m:Int) (w:World) (hl:x.queue.length=n) (hr:Rd w a (pairs x.queue)) (ok:semOk x) (ht:0≤t∧t<6) (hm:1≤m∧m≤x.limit) (hno:t∉x.queue.map (·.1)):
  Calls Tryz.prog 69 #[.agg #[.int .i64 x.free,.int .i64 x.limit,.slice a n c],.int .i64 t,.int .i64 m] w fun e w'=>∃(y:SemD) (s:SlV),y=(semAcq x t m).1∧e= .returned (.tuple #[semV y s,.bool (semAcq x t m).2,.bool true])∧SlN w w' s (pairs y.queue) y.queue.length∧Below w.heap.size w w':=by
 have h6:n≤6:=by rw[←hl];simpa using ok.2.2.2.1.1
 have HL:=xH1 hl
 have HR:=xH1 hr
 have HOK:=xH1 ok
 have HT:=xH1 ht
 have HN:=xH1 hno
 have f1:=ok.2.1.1
 have f2:=ok.2.1.2
 have f3:=ok.1.2
 have hm1:=hm.1
 have hm2:=hm.2
 have F:=((Fr.start w).alloc #[.int .i64 x.free,.int .i64 x.limit,.slice a n c] 83).alloc #[.int .i64 0,.int .i64 0,.slice none 0 0] 83
 simp only[World.size_alloc] at F
 have cs:=F.c3 1 rfl
 clear hl hr ok ht hno hm
 go_enter Tryz.func69,Tryz.ntmps69
 go_wp2_with fail
 refine(implSemValid_ok x a n c _ HL.out (F.rd HR.out) HOK.out).mono ?_
 rintro e w1 ⟨rfl,hb⟩
 replace F:=F.call hb
 replace cs:=F.c3 1 rfl
 clear hb
 go_wp2_with fail
 refine(implThread_ok t _ HT.out).mono ?_
 rintro e w3 ⟨rfl,hw⟩
 obtain rfl:=hw
 go_wp2_with fail
 refine(implFind_no x a n c t _ HL.out h6 (F.rd HR.out) HN.out).mono ?_
 rintro e w1 ⟨rfl,hb⟩
 replace F:=F.call hb
 replace cs:=F.c3 1 rfl
 clear hb
 go_wp2_with fail
 refine(implSemClone_any x a n c _ HL.out (by omega) (F.rd HR.out)).mono ?_
 rintro e w2 ⟨a2,c2,rfl,ho,hb⟩
 have F2:=F.row hb ho
 have F3:=F2.set3 2 rfl (.int .i64 x.free) (.int .i64 x.limit) (.slice a2 n c2)
 replace cs:=F2.c3 2 rfl
 clear F hb ho
 go_upto_region 4 with fail
 obtain⟨W3,hW,F4⟩:=F3.named
 rw[←hW]
 clear hW F3 F2 cs
 have F3:=F4
 have cs:=F3.c3 2 rfl
 have cr:=F3.c3 1 rfl
 by_cases hif:x.queue=[]∧m≤x.free
 ·have hn0:n=0:=by rw[←HL.out,hif.1];rfl
  have hmf:=hif.2
  have HV:Hid (semAcq x t m=(⟨x.free-m,x.limit,x.queue⟩,true)):=xH1 (by unfold semAcq;rw[if_pos hif])
  clear hif
  subst hn0
  have F5:=(F3.set 2 rfl 0 (.int .i64 (x.free-m))).set3 1 rfl (.int .i64 (x.free-m)) (.int .i64 x.limit) (.slice a2 0 c2)
  go_wp2
  exact bodyPost_ret (v:= .tuple #[.agg #[.int .i64 (x.free-m),.int .i64 x.limit,.slice a2 0 c2],.bool true,.bool true]) (by simp[results,Tryz.results69,go_sem,F5.c3 1 rfl]) rfl ⟨⟨x.free-m,x.limit,x.queue⟩,⟨a2,0,c2⟩,by rw[HV.out],by rw[HV.out],HL.out▸F5.sln 0 rfl,F5.bel⟩
 ·have HV:Hid (semAcq x t m=(⟨x.free,x.limit,x.queue++[(t,m)]⟩,false)):=xH1 (by unfold semAcq;rw[if_neg hif])
  have hq0:n=0→decide (m≤x.free)=false:=fun h0=>decide_eq_false (fun hm=>hif ⟨List.eq_nil_of_length_eq_zero (by rw[HL.out];exact h0),hm⟩)
  clear hif
  have F4:=F3.alloc #[.int .i64 t,.int .i64 m] 146
  by_cases hn0:n=0
  ·have t1:=hq0 hn0
   subst hn0
   clear hq0
   go_wp2_with (at_builtin;refine F4.appW 1 rfl _ _ rfl rfl rfl [(t,m)] rfl rfl (Rd.of_blk (F4.blk 0 rfl)) (by omega) ?_;intro a4 c4 W4 F5;simp only[List.set_cons_succ,List.set_cons_zero] at F5;rw[←pairs_app] at F5;clear cs cr;have cs:=F5.c3 3 rfl;have F6:=F5.set 3 rfl 2 (.slice a4 (0+1) c4))
   refine(implSemClone_any ⟨x.free,x.limit,x.queue++[(t,m)]⟩ a4 (0+1) c4 _ (by rw[List.length_append,HL.out];rfl) (by omega) (F6.rdRow 1 rfl)).mono ?_
   rintro e w7 ⟨a5,c5,rfl,ho,hb⟩
   have F7:=F6.row hb ho
   have cr:=F7.c3 3 rfl
   have F8:=F7.set3 3 rfl (.int .i64 x.free) (.int .i64 x.limit) (.slice a5 (0+1) c5)
   clear hb ho
   go_wp2
   exact bodyPost_ret (v:= .tuple #[.agg #[.int .i64 x.free,.int .i64 x.limit,.slice a5 (0+1) c5],.bool false,.bool true]) (by simp[results,Tryz.results69,go_sem,F8.c3 3 rfl]) rfl ⟨⟨x.free,x.limit,x.queue++[(t,m)]⟩,⟨a5,(0+1),c5⟩,by rw[HV.out],by rw[HV.out],by rw[List.length_append,HL.out];exact F8.sln 0 rfl,F8.bel⟩
  ·have t0:((n:Int)==0)=false:=by simpa using hn0
   clear hq0
   go_wp2_with (at_builtin;refine F4.appW 1 rfl _ _ rfl rfl rfl [(t,m)] rfl rfl (Rd.of_blk (F4.blk 0 rfl)) (by omega) ?_;intro a4 c4 W4 F5;simp only[List.set_cons_succ,List.set_cons_zero] at F5;rw[←pairs_app] at F5;clear cs cr;have cs:=F5.c3 3 rfl;have F6:=F5.set 3 rfl 2 (.slice a4 (n+1) c4))
   refine(implSemClone_any ⟨x.free,x.limit,x.queue++[(t,m)]⟩ a4 (n+1) c4 _ (by rw[List.length_append,HL.out];rfl) (by omega) (F6.rdRow 1 rfl)).mono ?_
   rintro e w7 ⟨a5,c5,rfl,ho,hb⟩
   have F7:=F6.row hb ho
   have cr:=F7.c3 3 rfl
   have F8:=F7.set3 3 rfl (.int .i64 x.free) (.int .i64 x.limit) (.slice a5 (n+1) c5)
   clear hb ho
   go_wp2
   exact bodyPost_ret (v:= .tuple #[.agg #[.int .i64 x.free,.int .i64 x.limit,.slice a5 (n+1) c5],.bool false,.bool true]) (by simp[results,Tryz.results69,go_sem,F8.c3 3 rfl]) rfl ⟨⟨x.free,x.limit,x.queue++[(t,m)]⟩,⟨a5,(n+1),c5⟩,by rw[HV.out],by rw[HV.out],by rw[List.length_append,HL.out];exact F8.sln 0 rfl,F8.bel⟩
theorem tailW {a:Option Addr} {n c:Nat} {y:Int×Int} {q:List (Int×Int)} {w0:World} (h0:Rd w0 a (pairs (y::q))) (hl:q.length+1=n) (hc:n≤c):
  ∃A:Option Addr,(∀W:World,(Instr.slice 81 (.slice a n c) (some (.int .i64 1)) none none).run Tryz.prog W= .ok (.slice A (n-1) (c-1)) W)∧∀W:World,Rd W a (pairs (y::q))→Rd W A (pairs q):=by
 rcases h0 with h0|⟨b,o,rfl,h0⟩
 ·cases h0
 refine⟨some (if c=1 then (⟨b,o,none⟩:Addr) else ⟨b,o+2,none⟩),fun W=> ?_,fun W h=> ?_⟩
 ·have u1:(1:Int)≤(n:Int):=by omega
  have u2:(n:Int)≤(c:Int):=by omega
  have u3:(1:Int)≤(c:Int):=by omega
  go_simp
  split<;>rfl
 ·by_cases h1:c=1
  ·have:q=[]:=List.eq_nil_of_length_eq_zero (by omega)
   subst this
   exact .inl rfl
  ·rw[if_neg h1]
   exact rd_tail (h:=pair y) h rfl
theorem rd_pair0 {W:World} {b o:Nat} {y:Int×Int} {q:List (Int×Int)} (h:Rd W (some ⟨b,o,none⟩) (pairs (y::q))):W.cell? ⟨b,o,none⟩=some (.int .i64 y.1)∧W.cell? ⟨b,o+1,none⟩=some (.int .i64 y.2):=by
 obtain⟨b',o',e,g⟩:=h.pair (by simp)
 cases e
 simpa using g 0 (by simp)
theorem implHand_ok (w0:World) (l:List It) (b n c:Nat) (f lim:Int) (a:Option Addr) (q:List (Int×Int)) (w:World) (F:Fr w0 w (.blk b #[.int .i64 f,.int .i64 lim,.slice a n c] 83:: .row a n c 146 2 (pairs q)::l)) (hl:q.length=n) (hn:n≤6) (hf:0≤f∧f≤9) (hc:∀y∈q,1≤y.2∧y.2≤9):
  Calls Tryz.prog 94 #[.pointer (some ⟨b,0,none⟩)] w fun e w'=>∃(a' u:Option Addr) (n' c' m d:Nat),e= .returned (.slice u m d)∧(serve f q).2.1.length=m∧(serve f q).2.2.length=n'∧Fr w0 w' (.row a' n' c' 146 2 (pairs (serve f q).2.2):: .row u m d 3 1 (ints (serve f q).2.1):: .blk b #[.int .i64 (serve f q).1,.int .i64 lim,.slice a' n' c'] 83:: .row a n c 146 2 (pairs q)::l):=by
 have HL:=xH1 hl
 have HC:=xH1 hc
 have hcap:=(owns_cap (F.own 1 rfl)).1
 clear hl hc
 go_enter Tryz.func94,Tryz.ntmps94
 go_wp2
 go_loopw [3] (fun th wr=>∃(A u:Option Addr) (nk ck m d:Nat) (fk:Int) (g qk:List _),th= .slice u m d∧g.length=m∧qk.length=nk∧nk≤ck∧m+nk=n∧(0≤fk∧fk≤9)∧Hid (serve f q=((serve fk qk).1,g++(serve fk qk).2.1,(serve fk qk).2.2))∧Hid (∀y∈qk,1≤y.2∧y.2≤9)∧Hid (∀W,Rd W a (pairs q)→Rd W A (pairs qk))∧
  Fr w0 wr (.row u m d 3 1 (ints g):: .blk b #[.int .i64 fk,.int .i64 lim,.slice A nk ck] 83:: .row a n c 146 2 (pairs q)::l)) (fun th _=>6-(match th with| .slice _ m _=>m|_=>0))
 case atStart=>exact⟨a,none,n,c,0,0,f,[],q,rfl,rfl,HL.out,hcap,by omega,hf,xH1 (by simp),xH1 HC.out,xH1 (fun _ h=>h),F.nil _ _⟩
 case round=>
  obtain⟨A,u,nk,ck,m,d,fk,g0,qk,rfl,hg,hqk,hcap,hmn,hfk,HS,HC,HA,F⟩:=hrel
  have HG:=xH1 hg
  have HQ:=xH1 hqk
  clear hg hqk
  have cs:=F.c3 1 rfl
  go_wp2
  rcases qk with _|⟨y,qk⟩
  ·obtain rfl:nk=0:=HQ.out.symm
   have hx:Hid (serve fk []=(fk,[],[])):=xH1 rfl
   go_quiet (fail)
   replace F:=F.drewN nq
   replace cs:=F.c3 1 rfl
   go_wp2_with (at_builtin;refine(F.nil _ 2).appW 0 rfl _ _ rfl rfl rfl [] rfl HQ.out (HA.out _ (F.rdRow 2 rfl)) (by omega) ?_;intro a4 c4 W4 F5;simp only[List.set_cons_zero,List.nil_append,Nat.zero_add] at F5;clear cs;have cs:=F5.c3 2 rfl;have F6:=F5.set 2 rfl 2 (.slice a4 0 c4))
   go_ret
   exact⟨a4,u,0,c4,m,d,rfl,by rw[HS.out,hx.out,List.append_nil];exact HG.out,by rw[HS.out,hx.out];exact HQ.out,by rw[HS.out,hx.out,List.append_nil];exact F6⟩
  ·have hnk:0<nk:=by have:=HQ.out;simp only[List.length_cons] at this;omega
   have hnk0:(0:Int)<(nk:Int):=by omega
   have hy:=HC.out y (by simp)
   have hy1:=hy.1
   have hy2:=hy.2
   clear hy
   obtain⟨bA,oA,rfl,-⟩:=(HA.out _ (F.rdRow 2 rfl)).pair (by simp)
   have g:=rd_pair0 (HA.out _ (F.rdRow 2 rfl))
   by_cases hle:y.2≤fk
   ·have HX:Hid (serve fk (y::qk)=((serve (fk-y.2) qk).1,y.1::(serve (fk-y.2) qk).2.1,(serve (fk-y.2) qk).2.2)):=xH1 (by rw[serve,if_pos hle])
    obtain⟨A',hsl,hA'⟩:=tailW (HA.out _ (F.rdRow 2 rfl)) (by have:=HQ.out;simpa using this) hcap
    have dle:decide (y.2≤fk)=true:=decide_eq_true hle
    have HA':=xH1 hA'
    clear hA'
    go_quiet (fail)
    obtain⟨wq,hwq,F1⟩:=(F.drewN nq).named
    rw[←hwq]
    clear hwq cs F g
    have cs:=F1.c3 1 rfl
    have g:=rd_pair0 (HA.out _ (F1.rdRow 2 rfl))
    have e0:=hfk.1
    have e1:=hfk.2
    go_wp2
    go_still_tail 12,(by kernel_rfl)
    have F2:=(F1.set 1 rfl 0 (.int .i64 (fk-y.2))).drew
    go_upto_region 4 with fail
    obtain⟨w4,hw,F3⟩:=F2.named
    rw[←hw]
    clear hw cs g F1 F2
    have F4:=F3.alloc #[.int .i64 y.1] 3
    have cs:=F3.c3 1 rfl
    have g:=rd_pair0 (HA.out _ (F3.rdRow 2 rfl))
    go_wp2_with (at_builtin;refine F4.appI 1 rfl _ _ rfl rfl rfl [y.1] rfl rfl (Rd.of_blk (F4.blk 0 rfl)) (by omega) ?_;intro a4 c4 W4 F5;simp only[List.set_cons_succ,List.set_cons_zero] at F5;clear cs g;have cs:=F5.c3 2 rfl;have F6:=F5.set 2 rfl 2 (.slice A' (nk-1) (ck-1)))
    go_roundw
    case rel=>exact⟨A',a4,nk-1,ck-1,m+1,c4,fk-y.2,g0++[y.1],qk,rfl,by rw[List.length_append,HG.out];rfl,by have:=HQ.out;simp only[List.length_cons] at this;omega,by omega,by omega,by omega,xH1 (by rw[HS.out,HX.out];simp),xH1 (fun z hz=>HC.out z (by simp[hz])),xH1 (fun W h=>HA'.out W (HA.out W h)),by rw[ints_app];exact F6.sub (.cons _ (.refl _))⟩
    case measure=>show 6-(m+1)<6-m;omega
   ·have hx:Hid (serve fk (y::qk)=(fk,[],y::qk)):=xH1 (by rw[serve,if_neg hle])
    have dle:decide (y.2≤fk)=false:=decide_eq_false hle
    go_quiet (fail)
    obtain⟨wq,hwq,F1⟩:=(F.drewN nq).named
    rw[←hwq]
    clear hwq cs F
    have F:=F1
    have cs:=F.c3 1 rfl
    go_wp2_with (at_builtin;refine(F.nil _ 2).appW 0 rfl _ _ rfl rfl rfl (y::qk) rfl HQ.out (HA.out _ (F.rdRow 2 rfl)) (by omega) ?_;intro a4 c4 W4 F5;simp only[List.set_cons_zero,List.nil_append,Nat.zero_add] at F5;clear cs;have cs:=F5.c3 2 rfl;have F6:=F5.set 2 rfl 2 (.slice a4 nk c4))
    go_ret
    exact⟨a4,u,nk,c4,m,d,rfl,by rw[HS.out,hx.out,List.append_nil];exact HG.out,by rw[HS.out,hx.out];exact HQ.out,by rw[HS.out,hx.out,List.append_nil];exact F6⟩
theorem implRelease_ok (x:SemD) (a:Option Addr) (n c:Nat) (m:Int) (w:World) (hl:x.queue.length=n) (hr:Rd w a (pairs x.queue)) (ok:semOk x) (hm:1≤m∧m≤9):
  Calls Tryz.prog 71 #[.agg #[.int .i64 x.free,.int .i64 x.limit,.slice a n c],.int .i64 m] w fun e w'=>∃(y:SemD) (s u:SlV) (l:List Int) (b:Bool),semRel x m=(if b=true then some (y,l) else none)∧e= .returned (.tuple #[semV y s,u.val,.bool b])∧SlN w w' s (pairs y.queue) y.queue.length∧w'.ownsRow w.heap.size 3 1 u.val u.n (ints l)∧(pairs y.queue=[]∨∀q,rowOf s.a=some q→rowOf u.a≠some q)∧Below w.heap.size w w':=by
 have h6:n≤6:=by rw[←hl];simpa using ok.2.2.2.1.1
 have HL:=xH1 hl
 have HR:=xH1 hr
 have HOK:=xH1 ok
 have f1:=ok.2.1.1
 have f2:=ok.2.1.2
 have f3:=ok.1.2
 have hm1:=hm.1
 have hm2:=hm.2
 have F:=((Fr.start w).alloc #[.int .i64 x.free,.int .i64 x.limit,.slice a n c] 83).alloc #[.int .i64 0,.int .i64 0,.slice none 0 0] 83
 simp only[World.size_alloc] at F
 have cs:=F.c3 1 rfl
 clear hl hr ok hm
 go_enter Tryz.func71,Tryz.ntmps71
 go_wp2_with fail
 refine(implSemValid_ok x a n c _ HL.out (F.rd HR.out) HOK.out).mono ?_
 rintro e w1 ⟨rfl,hb⟩
 replace F:=F.call hb
 replace cs:=F.c3 1 rfl
 clear hb
 by_cases hif:m≤x.limit-x.free
 ·have HV:Hid (semRel x m=some (⟨(serve (x.free+m) x.queue).1,x.limit,(serve (x.free+m) x.queue).2.2⟩,(serve (x.free+m) x.queue).2.1)):=xH1 (by unfold semRel;rw[if_pos hif])
  go_wp2_with fail
  refine(implSemClone_any x a n c _ HL.out (by omega) (F.rd HR.out)).mono ?_
  rintro e w2 ⟨a2,c2,rfl,ho,hb⟩
  have F2:=F.row hb ho
  replace cs:=F2.c3 2 rfl
  have F3:=((F2.set3 2 rfl (.int .i64 x.free) (.int .i64 x.limit) (.slice a2 n c2)).set 2 rfl 0 (.int .i64 (x.free+m))).pull 2 rfl
  clear F hb ho
  go_wp2_with fail
  refine(implHand_ok w _ w.heap.size n c2 (x.free+m) x.limit a2 x.queue _ (F3.perm (.cons _ (.refl _))) HL.out h6 (by omega) (fun y hy=>by have h1:=(HOK.out.2.2.1 y hy);omega)).mono ?_
  rintro e w4 ⟨a',u,n',c',k,d,rfl,hk,hn',F4⟩
  have HK:=xH1 hk
  have HN:=xH1 hn'
  obtain⟨fr,hfr⟩:∃fr,fr=(serve (x.free+m) x.queue).1:=⟨_,rfl⟩
  rw[←hfr] at F4 HV
  clear hfr hk hn' cs F2 F3
  have cs:=F4.c3 2 rfl
  have cr:=F4.c3 4 rfl
  have F5:=F4.set3 4 rfl (.int .i64 fr) (.int .i64 x.limit) (.slice a' n' c')
  go_wp2
  refine bodyPost_ret (v:= .tuple #[.agg #[.int .i64 fr,.int .i64 x.limit,.slice a' n' c'],.slice u k d,.bool true]) (by simp[results,Tryz.results71,go_sem,F5.c3 4 rfl]) rfl ⟨_,⟨a',n',c'⟩,⟨u,k,d⟩,_,true,HV.out,rfl,?_,F5.own 1 rfl,.inr fun q h1 h2=>F5.apart 0 1 rfl rfl (by decide) q (by simp[It.foot,h1]) (by simp[It.foot,h2]),F5.bel⟩
  exact HN.out▸F5.sln 0 rfl
 ·have HV:Hid (semRel x m=none):=xH1 (by unfold semRel;rw[if_neg hif])
  have F5:=F.set3 0 rfl (.int .i64 0) (.int .i64 0) (.slice none 0 0)
  have cr:=F.c3 0 rfl
  go_wp2
  exact bodyPost_ret (v:= .tuple #[.agg #[.int .i64 0,.int .i64 0,.slice none 0 0],.slice none 0 0,.bool false]) (by simp[results,Tryz.results71,go_sem,F5.c3 0 rfl]) rfl ⟨noSem,nilV,nilV,[],false,HV.out,rfl,SlN.nil _ _,World.ownsRow_nil _ _ _ _,.inl rfl,F5.bel⟩
end Go.Proofs.YtjmpejaifmopnaaGreat
