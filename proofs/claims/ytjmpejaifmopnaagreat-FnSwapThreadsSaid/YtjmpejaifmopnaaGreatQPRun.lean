/- Part of a proof: IOver IRun. -/
import Derived.Test.YtjmpejaifmopnaaGreatQPTally
import Derived.Test.YtjmpejaifmopnaaGreatQIWalk
set_option maxRecDepth 100000
set_option maxHeartbeats 16000000
namespace Go.Proofs.YtjmpejaifmopnaaGreat
open Go.RowKit
def overB (s:StD):Bool:=decide (s.fault=0)&&s.status.all (fun x=>decide (x=3))
theorem implNot3_any (x:Int) (w:World):
  Calls Tryz.prog 84 #[.int .i64 x] w fun e w'=>e= .returned (.bool (x !=3))∧w'=w:=by
 go_enter Tryz.func84,Tryz.ntmps84
 go_wp2
 go_ret
 exact⟨rfl,rfl⟩
theorem implIdx3_any (a:Option Addr) (n c:Nat) (l:List Int) (w:World) (hl:l.length=n) (hn:n≤8) (hr:Rd w a (ints l)):
  Calls Tryz.prog 25 #[.slice a n c,.func (.func 84) #[] #[]] w fun e w'=>w'=w∧((e= .returned (.int .i64 (-1))∧∀j,j<n→l.getD j 0=3)∨∃k:Nat,e= .returned (.int .i64 k)∧k<n∧l.getD k 0≠3):=by
 have HL:=xH1 hl
 clear hl
 go_enter Tryz.func25,Tryz.ntmps25
 go_wp2
 go_loopw [8] (fun i wr=>∃k:Nat,k≤n∧i= .int .i64 k∧Hid (∀j,j<k→l.getD j 0=3)∧wr=w) (fun i _=>n-(intOf i).toNat)
 case atStart=>exact⟨0,by omega,rfl,xH1 (by omega),rfl⟩
 case round=>
  obtain⟨k,hk,rfl,hall,rfl⟩:=hrel
  by_cases hlt:k<n
  ·obtain⟨b,o,rfl,hcc⟩:=hr.int (by have:=HL.out;omega)
   have g:=hcc k (by have:=HL.out;omega)
   obtain⟨x,hx⟩:∃x,x=l.getD k 0:=⟨_,rfl⟩
   rw[←hx] at g
   have HX:=xH1 hx
   clear hcc hx
   go_wp2_with fail
   refine(implNot3_any x _).mono ?_
   rintro e wz ⟨rfl,hw⟩
   obtain rfl:=hw
   by_cases e:x=3
   ·have t1:(x !=3)=false:=by simpa using e
    rw[t1]
    have HE:=xH1 e
    clear e t1
    go_wp2
    go_roundw
    case rel=>exact⟨k+1,by omega,by go_num,xH1 (fun j hj=>by
      rcases Nat.lt_or_ge j k with h|h
      ·exact hall.out j h
      ·have:j=k:=by omega
       subst this
       rw[←HX.out];exact HE.out),trivial⟩
    case measure=>simp[intOf];omega
   ·have t1:(x !=3)=true:=by simpa using e
    rw[t1]
    have HE:=xH1 e
    clear e t1
    go_wp2
    go_ret
    exact⟨rfl,.inr ⟨k,rfl,hlt,by rw[←HX.out];exact HE.out⟩⟩
  ·have hkm:k=n:=by omega
   subst hkm
   go_wp2
   go_ret
   exact⟨rfl,.inl ⟨rfl,hall.out⟩⟩
theorem implHas3_any (a:Option Addr) (n c:Nat) (l:List Int) (w:World) (hl:l.length=n) (hn:n≤8) (hr:Rd w a (ints l)):
  Calls Tryz.prog 44 #[.slice a n c,.func (.func 84) #[] #[]] w fun e w'=>w'=w∧e= .returned (.bool (!l.all (fun x=>decide (x=3)))):=by
 have HL:=xH1 hl
 clear hl
 go_enter Tryz.func44,Tryz.ntmps44
 go_wp2_with fail
 refine(implIdx3_any a n c l w HL.out hn hr).mono ?_
 rintro e wz ⟨hw,h⟩
 obtain rfl:=hw
 rcases h with ⟨rfl,hall⟩|⟨k,rfl,hk,hne⟩
 ·have t1:l.all (fun x=>decide (x=3))=true:=by
   rw[List.all_eq_true]
   intro x hx
   obtain⟨j,hj,rfl⟩:=List.mem_iff_getElem.1 hx
   have:=hall j (by have:=HL.out;omega)
   rw[List.getD_eq_getElem?_getD,List.getElem?_eq_getElem hj] at this
   simpa using this
  have T1:=xH1 t1
  clear t1 hall
  go_wp2
  go_ret
  exact⟨rfl,by rw[T1.out];rfl⟩
 ·have t1:l.all (fun x=>decide (x=3))=false:=by
   rw[List.all_eq_false]
   have hj:k<l.length:=by have:=HL.out;omega
   rw[List.getD_eq_getElem?_getD,List.getElem?_eq_getElem hj] at hne
   exact⟨_,List.getElem_mem hj,by simpa using hne⟩
  have T1:=xH1 t1
  have k0:(0:Int)≤(k:Int):=by omega
  clear t1 hne
  go_wp2
  go_ret
  exact⟨rfl,by rw[T1.out];rfl⟩
theorem implAllDone_ok (v:StV) (L:StL) (s:StD) (w:World) (hr:StR w v L s) (hn:s.status.length≤8):
  Calls Tryz.prog 54 #[.agg #[.slice v.pl.a v.pl.n v.pl.c,.slice v.st.a v.st.n v.st.c,.slice v.se.a v.se.n v.se.c,.slice v.on.a v.on.n v.on.c,.slice v.gr.a v.gr.n v.gr.c,.slice v.ba.a v.ba.n v.ba.c,.slice v.ch.a v.ch.n v.ch.c,.slice v.sa.a v.sa.n v.sa.c,.int .i64 v.fl]] w fun e w'=>e= .returned (.bool (s.status.all (fun x=>decide (x=3))))∧Below w.heap.size w w':=by
 have HS:=xH1 hr
 clear hr
 have F:=(Fr.start w).alloc (svC v) 38
 have cs:=F.c9 0 rfl
 have HB:=xH1 F.bel
 go_enter Tryz.func54,Tryz.ntmps54
 go_wp2_with fail
 refine(implHas3_any v.st.a v.st.n v.st.c s.status _ HS.out.st.len.symm (by rw[HS.out.st.len];exact hn) (HS.out.st.rd.below HB.out)).mono ?_
 rintro e wz ⟨hw,rfl⟩
 obtain rfl:=hw
 clear F cs
 go_wp2
 go_ret
 exact⟨by simp,HB.out⟩
theorem implIsOver_ok (u:PV) (p:Pg) (v:StV) (L:StL) (s:StD) (w:World) (hp:RdP w u p) (hr:StR w v L s) (hf:Fits p s):
  Calls Tryz.prog 31 #[.agg #[.slice u.s u.ns u.cs,.slice u.g u.ng u.cg,.slice u.b u.nb u.cb,.slice u.r u.nr u.cr,.slice u.t u.nt u.ct],.agg #[.slice v.pl.a v.pl.n v.pl.c,.slice v.st.a v.st.n v.st.c,.slice v.se.a v.se.n v.se.c,.slice v.on.a v.on.n v.on.c,.slice v.gr.a v.gr.n v.gr.c,.slice v.ba.a v.ba.n v.ba.c,.slice v.ch.a v.ch.n v.ch.c,.slice v.sa.a v.sa.n v.sa.c,.int .i64 v.fl]] w fun e w'=>e= .returned (.bool (overB s))∧Below w.heap.size w w':=by
 have HS:=xH1 hr
 have HP:=xH1 hp
 have HF:=xH1 hf
 have N8:Hid (s.status.length≤8):=xH1 (by have h1:=hf.nst;have h2:=(valid_small hf.prog).2.2.2.2.1;omega)
 have HFL:Hid (v.fl=s.fault):=xH1 hr.fl
 clear hr hp hf
 have F:=((Fr.start w).alloc (pvC u) 26).alloc (svC v) 38
 simp only[World.size_alloc] at F
 have cs:=F.c9 0 rfl
 have cp:=F.c5 1 rfl
 go_enter Tryz.func31,Tryz.ntmps31
 go_wp2_with fail
 refine(implStateFits_ok u p v L s _ (HP.out.below F.bel) (HS.out.below F.bel) HF.out).mono ?_
 rintro e w1 ⟨rfl,hb⟩
 replace F:=F.call hb
 replace cs:=F.c9 0 rfl
 replace cp:=F.c5 1 rfl
 clear hb
 by_cases h0:v.fl=0
 ·have t1:((v.fl:Int)==0)=true:=by simpa using h0
  have H0:=xH1 h0
  clear h0
  go_wp2_with fail
  refine(implAllDone_ok v L s _ (HS.out.below F.bel) N8.out).mono ?_
  rintro e w2 ⟨rfl,hb⟩
  have HB:=xH1 (F.call hb).bel
  clear F hb cs cp
  go_wp2
  go_ret
  exact⟨by unfold overB;rw[←HFL.out,H0.out];simp,HB.out⟩
 ·have t1:((v.fl:Int)==0)=false:=by simpa using h0
  have H0:=xH1 h0
  have HB:=xH1 F.bel
  clear h0 F
  go_wp2
  go_ret
  exact⟨by unfold overB;rw[←HFL.out,decide_eq_false H0.out];rfl,HB.out⟩
def firstGt (x:Int):List Int→Option Int
 |[]=>none
 |t::l=>if x<t then some t else firstGt x l
def nextT (l tr:List Int):Int:=if tr.length=0 then l.getD 0 0 else (firstGt (tr.getD (tr.length-1) 0) l).getD (l.getD 0 0)
def chTurns (s:StD) (tr:List Int):Option Int:=if (readyOf s).length=0∨100≤tr.length then none else some (nextT (readyOf s) tr)
theorem firstGt_mem {x:Int}:∀{l:List Int} {t:Int},firstGt x l=some t→t∈l
 |[],_,h=>by cases h
 |y::l,t,h=>by
  unfold firstGt at h
  split at h
  ·obtain rfl:=Option.some.inj h;simp
  ·exact List.mem_cons_of_mem _ (firstGt_mem h)
theorem firstGt_no {x:Int}:∀{l:List Int},(∀j,j<l.length→l.getD j 0≤x)→firstGt x l=none
 |[],_=>rfl
 |y::l,h=>by
  have h0:y≤x:=h 0 (by simp)
  unfold firstGt
  rw[if_neg (by omega)]
  exact firstGt_no fun j hj=>h (j+1) (by simpa using hj)
theorem firstGt_at {x:Int}:∀{l:List Int} {k:Nat},k<l.length→x<l.getD k 0→(∀j,j<k→l.getD j 0≤x)→firstGt x l=some (l.getD k 0)
 |[],_,h,_,_=>by cases h
 |y::l,0,_,h,_=>by unfold firstGt;exact if_pos h
 |y::l,k+1,hk,h,hall=>by
  have h0:y≤x:=hall 0 (by omega)
  unfold firstGt
  rw[if_neg (by omega)]
  exact firstGt_at (by simpa using hk) h fun j hj=>hall (j+1) (by omega)
theorem head_mem {l:List Int} (h:l.length≠0):l.getD 0 0∈l:=by
 cases l with
 |nil=>exact absurd rfl h
 |cons a l=>simp
theorem chTurns_mem:∀s tr t,chTurns s tr=some t→t∈readyOf s:=fun s tr t h=>by
 unfold chTurns at h
 split at h
 ·cases h
 ·next hn=>
  obtain rfl:=Option.some.inj h
  have h0:=head_mem (l:=readyOf s) fun e=>hn (.inl e)
  unfold nextT
  split
  ·exact h0
  ·cases e:firstGt (tr.getD (tr.length-1) 0) (readyOf s) with
   |none=>exact h0
   |some t=>exact firstGt_mem e
theorem chTurns_100:∀s tr,100≤tr.length→chTurns s tr=none:=fun _ _ h=>if_pos (.inr h)
theorem implGt_any (x y:Int) (B:Nat) (w:World) (hc:w.cell? ⟨B,0,none⟩=some (.int .i64 y)):
  Calls Tryz.prog 26 (#[.int .i64 x]++ #[.pointer (some ⟨B,0,none⟩)]) w fun e w'=>e= .returned (.bool (decide (y<x)))∧w'=w:=by
 show Calls Tryz.prog 26 #[.int .i64 x,.pointer (some ⟨B,0,none⟩)] w _
 go_enter Tryz.func26,Tryz.ntmps26
 go_wp2
 go_ret
 exact⟨rfl,rfl⟩
theorem implIdxGt_any (a:Option Addr) (n c:Nat) (l:List Int) (y:Int) (B:Nat) (w:World) (hl:l.length=n) (hn:n≤8) (hr:Rd w a (ints l)) (hc:w.cell? ⟨B,0,none⟩=some (.int .i64 y)):
  Calls Tryz.prog 25 #[.slice a n c,.func (.func 26) #[] #[.pointer (some ⟨B,0,none⟩)]] w fun e w'=>w'=w∧((e= .returned (.int .i64 (-1))∧∀j,j<n→l.getD j 0≤y)∨∃k:Nat,e= .returned (.int .i64 k)∧k<n∧y<l.getD k 0∧∀j,j<k→l.getD j 0≤y):=by
 have HL:=xH1 hl
 have HC:=xH1 hc
 clear hl hc
 go_enter Tryz.func25,Tryz.ntmps25
 go_wp2
 go_loopw [8] (fun i wr=>∃k:Nat,k≤n∧i= .int .i64 k∧Hid (∀j,j<k→l.getD j 0≤y)∧wr=w) (fun i _=>n-(intOf i).toNat)
 case atStart=>exact⟨0,by omega,rfl,xH1 (by omega),rfl⟩
 case round=>
  obtain⟨k,hk,rfl,hall,rfl⟩:=hrel
  by_cases hlt:k<n
  ·obtain⟨b,o,rfl,hcc⟩:=hr.int (by have:=HL.out;omega)
   have g:=hcc k (by have:=HL.out;omega)
   obtain⟨x,hx⟩:∃x,x=l.getD k 0:=⟨_,rfl⟩
   rw[←hx] at g
   have HX:=xH1 hx
   clear hcc hx
   go_wp2_with fail
   refine(implGt_any x y B _ HC.out).mono ?_
   rintro e wz ⟨rfl,hw⟩
   obtain rfl:=hw
   by_cases e:y<x
   ·rw[decide_eq_true e]
    have HE:=xH1 e
    clear e
    go_wp2
    go_ret
    exact⟨rfl,.inr ⟨k,rfl,hlt,by rw[←HX.out];exact HE.out,hall.out⟩⟩
   ·rw[decide_eq_false e]
    have HE:=xH1 e
    clear e
    go_wp2
    go_roundw
    case rel=>exact⟨k+1,by omega,by go_num,xH1 (fun j hj=>by
      rcases Nat.lt_or_ge j k with h|h
      ·exact hall.out j h
      ·have:j=k:=by omega
       subst this
       rw[←HX.out];have:=HE.out;omega),trivial⟩
    case measure=>simp[intOf];omega
  ·have hkm:k=n:=by omega
   subst hkm
   go_wp2
   go_ret
   exact⟨rfl,.inl ⟨rfl,hall.out⟩⟩
theorem runturns_chooses (w:World) (p:Pg):Chooses w 24 #[] p chTurns (fun _=>True):=by
 intro v L s a b n c m d tr W hb hs hr hl h100 _ hrd hm hm8 hrl
 show Calls Tryz.prog 24 #[.agg #[.slice v.pl.a v.pl.n v.pl.c,.slice v.st.a v.st.n v.st.c,.slice v.se.a v.se.n v.se.c,.slice v.on.a v.on.n v.on.c,.slice v.gr.a v.gr.n v.gr.c,.slice v.ba.a v.ba.n v.ba.c,.slice v.ch.a v.ch.n v.ch.c,.slice v.sa.a v.sa.n v.sa.c,.int .i64 v.fl,.slice a n c],.slice b m d] W _
 obtain⟨l,el⟩:∃l,l=readyOf s:=⟨_,rfl⟩
 unfold chTurns
 rw[←el] at hm hrl⊢
 have HL:=xH1 hl
 have HM:=xH1 hm
 have HRD:=xH1 hrd
 have HRL:=xH1 hrl
 clear hb hs hr hl hrd hm hrl el
 have F:=(Fr.start W).alloc (rC v a n c) 40
 have cr:=F.c10 0 rfl
 have HB:=xH1 F.bel
 go_enter Tryz.func24,Tryz.ntmps24
 by_cases h0:m=0
 ·subst h0
  rw[if_pos (.inl HM.out)]
  clear F
  go_wp2
  exact bodyPost_ret (v:= .tuple #[.int .i64 0,.bool false]) (by simp[results,Tryz.results24,go_sem]) rfl ⟨rfl,HB.out⟩
 by_cases h1:n=100
 ·subst h1
  rw[if_pos (.inr (by rw[HL.out];omega))]
  clear F
  go_wp2
  exact bodyPost_ret (v:= .tuple #[.int .i64 0,.bool false]) (by simp[results,Tryz.results24,go_sem]) rfl ⟨rfl,HB.out⟩
 rw[if_neg (by have:=HM.out;have:=HL.out;omega)]
 have t1:((m:Int)==0)=false:=by simpa using h0
 have t2:((n:Int)==100)=false:=by simp;omega
 unfold nextT
 by_cases h2:n=0
 ·subst h2
  rw[if_pos HL.out]
  obtain⟨b1,o1,rfl,g'⟩:=(HRL.out.below HB.out).int (by have:=HM.out;omega)
  have g:World.cell? _ ⟨b1,o1,none⟩=some (.int .i64 (l.getD 0 0)):=g' 0 (by have:=HM.out;omega)
  clear F g'
  have m0:((0:Int)<(m:Int)):=by omega
  go_wp2
  exact bodyPost_ret (v:= .tuple #[.int .i64 (l.getD 0 0),.bool true]) (by simp[results,Tryz.results24,go_sem]) rfl ⟨rfl,HB.out⟩
 rw[if_neg (by have:=HL.out;omega)]
 obtain⟨b1,o1,rfl,g'⟩:=(HRD.out.below HB.out).int (by have:=HL.out;omega)
 have g:=g' (tr.length-1) (by have:=HL.out;omega)
 rw[HL.out] at g⊢
 obtain⟨y,hy⟩:∃y,y=tr.getD (n-1) 0:=⟨_,rfl⟩
 rw[←hy] at g⊢
 obtain⟨n',rfl⟩:∃n',n=n'+1:=⟨n-1,by omega⟩
 rw[show n'+1-1=n' from rfl] at g
 have F2:=F.alloc #[.int .i64 y] 3
 simp only[World.size_alloc] at F2
 have HB2:=xH1 F2.bel
 have HC2:=xH1 (F2.c1 0 rfl).1
 rw[show((n'+1:Nat):Int)=(n':Int)+1 by simp] at t2
 clear F g' hy F2
 go_wp2_with fail
 refine(implIdxGt_any b m d l y _ _ HM.out hm8 (HRL.out.below HB2.out) HC2.out).mono ?_
 rintro e wz ⟨hw,h⟩
 obtain rfl:=hw
 obtain⟨b2,o2,rfl,g2⟩:=(HRL.out.below HB2.out).int (by have:=HM.out;omega)
 rcases h with ⟨rfl,hall⟩|⟨k,rfl,hk,hgt,hall⟩
 ·have g3:World.cell? _ ⟨b2,o2,none⟩=some (.int .i64 (l.getD 0 0)):=g2 0 (by have:=HM.out;omega)
  have HFG:=xH1 (firstGt_no (x:=y) fun j hj=>hall j (by have:=HM.out;omega))
  have m0:((0:Int)<(m:Int)):=by omega
  clear hall g2
  go_wp2
  exact bodyPost_ret (v:= .tuple #[.int .i64 (l.getD 0 0),.bool true]) (by simp[results,Tryz.results24,go_sem]) rfl ⟨by rw[HFG.out];rfl,HB2.out⟩
 ·have g3:=g2 k (by have:=HM.out;omega)
  have HFG:=xH1 (firstGt_at (x:=y) (by have:=HM.out;omega) hgt hall)
  clear hall g2 hgt
  go_wp2
  exact bodyPost_ret (v:= .tuple #[.int .i64 (l.getD k 0),.bool true]) (by simp[results,Tryz.results24,go_sem]) rfl ⟨by rw[HFG.out];rfl,HB2.out⟩
theorem implRunTurns_ok (u:PV) (p:Pg) (w:World) (hp:RdP w u p) (hv:progValid p=true):
  Calls Tryz.prog 8 #[.agg #[.slice u.s u.ns u.cs,.slice u.g u.ng u.cg,.slice u.b u.nb u.cb,.slice u.r u.nr u.cr,.slice u.t u.nt u.ct]] w fun e w'=>Below w.heap.size w w'∧∃(s:StD) (tr:List Int) (v:StV) (L:StL) (a:Option Addr) (c:Nat),walkD p chTurns 101 (startOf p) []=some (s,tr)∧e= .returned (.tuple #[.agg #[.slice v.pl.a v.pl.n v.pl.c,.slice v.st.a v.st.n v.st.c,.slice v.se.a v.se.n v.se.c,.slice v.on.a v.on.n v.on.c,.slice v.gr.a v.gr.n v.gr.c,.slice v.ba.a v.ba.n v.ba.c,.slice v.ch.a v.ch.n v.ch.c,.slice v.sa.a v.sa.n v.sa.c,.int .i64 v.fl,.slice a tr.length c],.bool true])∧RunO w.heap.size w' v L a c s tr∧Run p s:=by
 have HP:=xH1 hp
 have HV:=xH1 hv
 clear hp hv
 have F:=((Fr.start w).alloc (pvC u) 26).alloc z10 40
 simp only[World.size_alloc] at F
 have cp:=F.c5 1 rfl
 go_enter Tryz.func8,Tryz.ntmps8
 go_wp2_with fail
 refine(implWalk_ok u p _ 24 #[] chTurns (HP.out.below F.bel) HV.out (fun _ _=>rfl) (fun _=>True) trivial (fun _ _ _ _ _=>trivial) (runturns_chooses _ p) (fun s tr _=>chTurns_100 s tr)).mono ?_
 rintro e w1 ⟨hb,⟨hn,-⟩|⟨s,tr,v,L,a,c,hwk,rfl,ho,hr⟩⟩
 ·obtain⟨r,hr⟩:=walkD_some (p:=p) chTurns_mem chTurns_100 101 (startOf p) [] rfl (by simp)
  rw[hn] at hr
  cases hr
 have HWK:=xH1 hwk
 have HR:=xH1 hr
 have HN:=xH1 (NewB.lower ho.nw F.bel.size)
 have G:=Sf.gainR F hb ho.tr ho.st ho.nw
 clear hb hwk ho hr F cp
 have cz:=G.fr.c10 1 rfl
 have G2:=G.set10 1 rfl (.slice v.pl.a v.pl.n v.pl.c) (.slice v.st.a v.st.n v.st.c) (.slice v.se.a v.se.n v.se.c) (.slice v.on.a v.on.n v.on.c) (.slice v.gr.a v.gr.n v.gr.c) (.slice v.ba.a v.ba.n v.ba.c) (.slice v.ch.a v.ch.n v.ch.c) (.slice v.sa.a v.sa.n v.sa.c) (.int .i64 v.fl) (.slice a tr.length c)
 go_wp2
 exact bodyPost_ret (v:= .tuple #[.agg #[.slice v.pl.a v.pl.n v.pl.c,.slice v.st.a v.st.n v.st.c,.slice v.se.a v.se.n v.se.c,.slice v.on.a v.on.n v.on.c,.slice v.gr.a v.gr.n v.gr.c,.slice v.ba.a v.ba.n v.ba.c,.slice v.ch.a v.ch.n v.ch.c,.slice v.sa.a v.sa.n v.sa.c,.int .i64 v.fl,.slice a tr.length c],.bool true]) (by simp[results,Tryz.results8,go_sem,G2.fr.c10 1 rfl]) rfl ⟨G2.bel,s,tr,v,L,a,c,HWK.out,rfl,⟨G2.st.sub fun q hq=>xQ1 (.inl hq),HN.out,G2.fr.own 0 rfl⟩,HR.out⟩
end Go.Proofs.YtjmpejaifmopnaaGreat
