/- Part of a proof: SwapTr WkIntB SwapK. -/
import Derived.Test.YtjmpejaifmopnaaGreatQBaseA
set_option maxRecDepth 100000
set_option maxHeartbeats 16000000
namespace Go.Proofs.YtjmpejaifmopnaaGreat
open Go.RowKit
def swp (a b t:Int):Int:=if t=a then b else if t=b then a else t
def swpTo (a b:Int) (zs:List Int) (k:Nat):List Value:=ints ((zs.take k).map (swp a b))
theorem swpTo_succ (a b:Int) (zs:List Int) (k:Nat) (hk:k<zs.length) {v:Int} (hv:swp a b (zs.getD k 0)=v):
  swpTo a b zs k++[.int .i64 v]=swpTo a b zs (k+1):=by
 unfold swpTo
 rw[take_succ_int zs k hk,←hv];simp[ints]
theorem swpTo_all (a b:Int) (zs:List Int) (n:Nat) (h:zs.length=n):swpTo a b zs n=ints (zs.map (swp a b)):=by
 unfold swpTo
 rw[List.take_of_length_le (by omega)]
theorem swp_a {a b x:Int} (h:(x==a)=true):swp a b x=b:=by simp at h;simp[swp,h]
theorem swp_b {a b x:Int} (_:(x==a)=false) (h':(x==b)=true):swp a b x=a:=by simp at h';simp[swp,h']
theorem swp_c {a b x:Int} (h:(x==a)=false) (h':(x==b)=false):swp a b x=x:=by simp at h h';simp[swp,h,h']
theorem implSwap_any (n c:Nat) (ad:Option Addr) (xs:List Int) (a b:Int) (w:World) (hl:xs.length=n) (hn:n≤1099511627776) (h1:Rd w ad (ints xs)):
  Calls Tryz.prog 10 #[.slice ad n c,.int .i64 a,.int .i64 b] w fun e w'=>∃a' c',e= .returned (.slice a' n c')∧
   w'.ownsRow w.heap.size 3 1 (.slice a' n c') n (ints (xs.map (swp a b)))∧Below w.heap.size w w':=by
 have HL:=xH1 hl
 clear hl
 go_enter Tryz.func10,Tryz.ntmps10
 go_wp2
 go_loopw [7,9,12] (fun v _ i wr=>∃(k:Nat) (a':Option Addr) (c':Nat),k≤n∧i= .int .i64 k∧v= .slice a' k c'∧wr.ownsRow w.heap.size 3 1 (.slice a' k c') k (swpTo a b xs k)∧Below w.heap.size w wr) (fun _ _ i _=>n-(intOf i).toNat)
 case atStart=>exact⟨0,_,_,by omega,rfl,rfl,World.ownsRow_nil _ _ _ _,Below.refl _ _⟩
 case round=>
  obtain⟨k,a',c',hk,rfl,rfl,hown,hb⟩:=hrel
  by_cases hlt:k<n
  ·have hL:=HL.out
   obtain⟨b1,o1,rfl,g1'⟩:=(h1.below hb).int (by omega)
   have g1:=g1' k (by omega)
   obtain⟨x,hx⟩:∃x,x=xs.getD k 0:=⟨_,rfl⟩
   rw[←hx] at g1
   have HX:=xH1 hx
   have hS:=hb.size
   clear g1' hx hL
   go_wp2_with (at_builtin;refine wpList_append_sl rfl _ _ 23 rfl Tryz.underlying23 info_int rfl (by decide) rfl hown rfl rfl rfl (by simp[Value.oneCell']) (by omega) (by decide) hS ?_;intro a1 c1 w1 hown1 hgr1)
   all_goals
    go_wp2
    go_roundw
    case measure=>simp[intOf];omega
    case rel=>
     have hv:=HX.out
     rw[swpTo_succ a b xs k (by have:=HL.out;omega) (by rw[←hv];first|exact swp_a ‹_› |exact swp_b ‹_› ‹_› |exact swp_c ‹_› ‹_›)] at hown1
     exact⟨k+1,_,_,by omega,by go_num,rfl,hown1,hb.trans (below_of_grown hgr1 hS (fun j hj=>(owns_row hown j hj).1))⟩
  ·have hkn:k=n:=by omega
   subst hkn
   go_wp2
   go_ret
   exact⟨_,_,rfl,by rw[←swpTo_all a b xs k HL.out];exact hown,hb⟩
theorem ext_getD_w {α:Type} (d:α) {xs ys:List α} (hl:xs.length=ys.length) (h:∀j,j<xs.length→xs.getD j d=ys.getD j d):xs=ys:=by
 refine List.ext_getElem hl fun j h1 h2=> ?_
 have:=h j h1
 simpa[List.getD,h1,h2] using this
theorem wkIntsB_n (a1 a2:Option Addr) (n c1 c2:Nat) (xs ys:List Int) (w:World) (hn:n≤1099511627776) (hl:xs.length=n) (hl2:ys.length=n) (h1:Rd w a1 (ints xs)) (h2:Rd w a2 (ints ys)):
  Calls Tryz.prog 12 #[.slice a1 n c1,.slice a2 n c2] w fun e w'=>e= .returned (.bool (decide (xs=ys)))∧∃n,w'=w.drewN n:=by
 have HL:=xH1 hl
 have HL2:=xH1 hl2
 clear hl hl2
 go_enter Tryz.func12,Tryz.ntmps12
 go_wp2
 go_loopw [5] (fun i wr=>∃k:Nat,k≤n∧i= .int .i64 k∧Hid (∀j,j<k→xs.getD j 0=ys.getD j 0)∧∃d,wr=w.drewN d) (fun i _=>n-(intOf i).toNat)
 case atStart=>exact⟨0,by omega,rfl,xH1 (by omega),0,rfl⟩
 case round=>
  obtain⟨k,hk,rfl,hall,d,rfl⟩:=hrel
  by_cases hlt:k<n
  ·obtain⟨b1,o1,rfl,g1'⟩:=h1.int (by have:=HL.out;omega)
   obtain⟨b2,o2,rfl,g2'⟩:=h2.int (by have:=HL2.out;omega)
   have g1a:=g1' k (by have:=HL.out;omega)
   have g2a:=g2' k (by have:=HL2.out;omega)
   obtain⟨x,hx⟩:∃x,x=xs.getD k 0:=⟨_,rfl⟩
   obtain⟨y,hy⟩:∃y,y=ys.getD k 0:=⟨_,rfl⟩
   rw[←hx] at g1a
   rw[←hy] at g2a
   have HX:=xH1 hx
   have HY:=xH1 hy
   clear g1' g2' hx hy
   go_wp2
   go_quiet (fail)
   go_wp2
   ·go_ret
    refine⟨?_,d+nq,World.drewN_drewN _ _ _⟩
    have hne:(x !=y)=true:=by assumption
    refine ret_bool (decide_eq_false ?_).symm
    intro e
    rw[HX.out,HY.out,e] at hne
    simp at hne
   ·have hne:(x !=y)=false:=by assumption
    have he:x=y:=by simpa using hne
    refine⟨⟨k+1,by omega,by go_num,xH1 ?_,d+nq,rfl⟩,by simp[intOf];omega⟩
    intro j hj
    by_cases hjk:j=k
    ·rw[hjk,←HX.out,←HY.out,he]
    ·exact hall.out j (by omega)
  ·have hkm:k=n:=by omega
   subst hkm
   go_wp2
   go_ret
   exact⟨ret_bool (decide_eq_true (ext_getD_w 0 (by rw[HL.out,HL2.out]) (fun j hj=>hall.out j (by rw[HL.out] at hj;exact hj)))).symm,d,rfl⟩
theorem wkInts_eq (a1 a2:Option Addr) (n c1 c2:Nat) (xs ys:List Int) (w:World) (hn:n≤1099511627776) (hl:xs.length=n) (he:xs=ys) (h1:Rd w a1 (ints xs)) (h2:Rd w a2 (ints ys)):
  Calls Tryz.prog 12 #[.slice a1 n c1,.slice a2 n c2] w fun e w'=>e= .returned (.bool true)∧Below w.heap.size w w':=by
 subst he
 refine(wkIntsB_n a1 a2 n c1 c2 xs xs w hn hl hl h1 h2).mono ?_
 rintro e w' ⟨rfl,d,rfl⟩
 exact⟨ret_bool (decide_eq_true rfl),below_drewN' _ _⟩
end Go.Proofs.YtjmpejaifmopnaaGreat
