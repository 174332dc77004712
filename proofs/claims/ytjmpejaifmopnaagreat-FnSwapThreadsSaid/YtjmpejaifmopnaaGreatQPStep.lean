/- Part of a proof: IReady IFault IStep. -/
import Derived.Test.YtjmpejaifmopnaaGreatQPDel
import Derived.Test.YtjmpejaifmopnaaGreatQPMachK
import Derived.StillTailTactics
set_option maxRecDepth 100000
set_option maxHeartbeats 16000000
namespace Go.Proofs.YtjmpejaifmopnaaGreat
open Go.RowKit
theorem implReady_ok (v:StV) (L:StL) (s:StD) (w:World) (hr:StR w v L s) (hn:s.status.length≤8):
  Calls Tryz.prog 40 #[.agg #[.slice v.pl.a v.pl.n v.pl.c,.slice v.st.a v.st.n v.st.c,.slice v.se.a v.se.n v.se.c,.slice v.on.a v.on.n v.on.c,.slice v.gr.a v.gr.n v.gr.c,.slice v.ba.a v.ba.n v.ba.c,.slice v.ch.a v.ch.n v.ch.c,.slice v.sa.a v.sa.n v.sa.c,.int .i64 v.fl]] w fun e w'=>∃a c,e= .returned (.slice a (readyOf s).length c)∧w'.ownsRow w.heap.size 3 1 (.slice a (readyOf s).length c) (readyOf s).length (ints (readyOf s))∧Below w.heap.size w w':=by
 have HS:=xH1 hr
 have n8:v.st.n≤8:=by rw[hr.st.len];exact hn
 have HFL:=xH1 hr.fl
 clear hr hn
 have F:=(Fr.start w).alloc (svC v) 38
 have cs:=F.c9 0 rfl
 by_cases hf:v.fl=0
 ·have HRD:Hid (readyOf s=rdyTo s v.st.n):=xH1 (by rw[ready_eq,if_pos (by rw[←HFL.out];exact hf),HS.out.st.len])
  have tf:(v.fl !=0)=false:=by simpa using hf
  clear hf
  go_enter Tryz.func40,Tryz.ntmps40
  go_wp2
  clear cs tf
  replace F:=F.nil 3 1
  go_loopw [12,3] (fun i z wr=>∃(k:Nat) (a:Option Addr) (l c:Nat),k≤v.st.n∧i= .int .i64 k∧z= .slice a l c∧l=(rdyTo s k).length∧Fr w wr [.row a l c 3 1 (ints (rdyTo s k)),.blk w.heap.size (svC v) 38]) (fun i _ _=>v.st.n-(intOf i).toNat)
  case atStart=>exact⟨0,none,0,0,by omega,rfl,rfl,rfl,F⟩
  case round=>
   clear F
   obtain⟨k,a,l,c,hk,rfl,rfl,hl,F⟩:=hrel
   by_cases hlt:k<v.st.n
   ·have hl8:l≤8:=by have:=rdyTo_len s k;omega
    obtain⟨bs,os,es,gs⟩:=(F.rd HS.out.st.rd).int (by have:=HS.out.st.len;omega)
    replace gs:=gs k (by have:=HS.out.st.len;omega)
    obtain⟨y,hy⟩:∃y,y=s.status.getD k 0:=⟨_,rfl⟩
    rw[←hy] at gs
    have HY:=xH1 hy
    have HLN:=xH1 hl
    clear hy hl
    go_upto_region 7 with fail
    clear es gs
    by_cases hq:y=0∨y=2
    ·rcases hq with rfl|rfl
     ·have HE:Hid (rdyTo s (k+1)=rdyTo s k++[(k:Int)]):=xH1 (by rw[rdyTo_succ,if_pos (by rw[←HY.out];simp)])
      have rd:Rd (World.alloc wr (.cells #[.int .i64 k] 3)) (some ⟨wr.heap.size,0,none⟩) (ints [(k:Int)]):=Rd.of_blk (Blk.new _ _ _)
      have F2:=F.alloc #[.int .i64 k] 3
      go_wp2_with (at_builtin;refine F2.appI 1 rfl _ _ rfl rfl rfl [(k:Int)] rfl rfl rd (by omega) ?_;intro a4 c4 W4 F5)
      go_roundw
      case rel=>exact⟨k+1,a4,l+1,c4,by omega,by go_num,rfl,by rw[HE.out,List.length_append,←HLN.out];rfl,by rw[HE.out,ints_app];exact F5.sub (.cons _ (.refl _))⟩
      case measure=>simp[intOf];omega
     ·have HE:Hid (rdyTo s (k+1)=rdyTo s k++[(k:Int)]):=xH1 (by rw[rdyTo_succ,if_pos (by rw[←HY.out];simp)])
      have rd:Rd (World.alloc wr (.cells #[.int .i64 k] 3)) (some ⟨wr.heap.size,0,none⟩) (ints [(k:Int)]):=Rd.of_blk (Blk.new _ _ _)
      have F2:=F.alloc #[.int .i64 k] 3
      go_wp2_with (at_builtin;refine F2.appI 1 rfl _ _ rfl rfl rfl [(k:Int)] rfl rfl rd (by omega) ?_;intro a4 c4 W4 F5)
      go_roundw
      case rel=>exact⟨k+1,a4,l+1,c4,by omega,by go_num,rfl,by rw[HE.out,List.length_append,←HLN.out];rfl,by rw[HE.out,ints_app];exact F5.sub (.cons _ (.refl _))⟩
      case measure=>simp[intOf];omega
    ·have HE:Hid (rdyTo s (k+1)=rdyTo s k):=xH1 (by rw[rdyTo_succ,if_neg (by rw[←HY.out];exact hq)])
     have t0:(y==0)=false:=by simp;exact fun h=>hq (.inl h)
     have t2:(y==2)=false:=by simp;exact fun h=>hq (.inr h)
     clear hq
     go_wp2
     go_roundw
     case rel=>exact⟨k+1,a,l,c,by omega,by go_num,rfl,by rw[HE.out];exact HLN.out,by rw[HE.out];exact F⟩
     case measure=>simp[intOf];omega
   ·obtain rfl:k=v.st.n:=by omega
    go_wp2
    exact bodyPost_ret (v:= .slice a l c) (by simp[results,Tryz.results40,go_sem]) rfl ⟨a,c,by rw[HRD.out,←hl],by rw[HRD.out,←hl];exact F.own 0 rfl,F.bel⟩
 ·have HRD:Hid (readyOf s=[]):=xH1 (by rw[ready_eq,if_neg (by rw[←HFL.out];exact hf)])
  have tf:(v.fl !=0)=true:=by simpa using hf
  clear hf
  go_enter Tryz.func40,Tryz.ntmps40
  go_wp2
  exact bodyPost_ret (v:= .slice none 0 0) (by simp[results,Tryz.results40,go_sem]) rfl ⟨none,0,by rw[HRD.out];rfl,by rw[HRD.out];exact World.ownsRow_nil _ _ _ _,F.bel⟩
theorem implFault_ok (C:Nat) (f:Int) (v:StV) (L:StL) (s:StD) (w:World) (hc:Blk w C (svC v) 38) (hr:StR w v L s) (hz:SmS s):
  Calls Tryz.prog 66 (#[.int .i64 f]++ #[.pointer (some ⟨C,0,none⟩)]) w fun e w'=>∃(v':StV) (L':StL),e= .returned (.tuple #[v'.val,.bool true])∧StO [] w.heap.size w' v' L' (faultIt s f)∧NewB w.heap.size L'∧Below w.heap.size w w':=by
 have HS:=xH1 hr
 have HZ:=xH1 hz
 clear hr hz
 have F:=(Fr.start w).alloc #[.slice none 0 0,.slice none 0 0,.slice none 0 0,.slice none 0 0,.slice none 0 0,.slice none 0 0,.slice none 0 0,.slice none 0 0,.int .i64 0] 38
 obtain⟨w1,hw,F⟩:=F.named
 have cs:=(hc.below F.bel).cell
 have c0:=cs 0 rfl
 have c1:=cs 1 rfl
 have c2:=cs 2 rfl
 have c3:=cs 3 rfl
 have c4:=cs 4 rfl
 have c5:=cs 5 rfl
 have c6:=cs 6 rfl
 have c7:=cs 7 rfl
 have c8:=cs 8 rfl
 clear cs
 go_enter Tryz.func66,Tryz.ntmps66
 go_upto_region 1 with fail
 rw[←hw]
 clear hw
 go_wp2_with fail
 refine(implState_clone v L s _ (HS.out.below F.bel) HZ.out).mono ?_
 rintro e w2 ⟨v',L',rfl,ho,hn,hb⟩
 have HN:=NewB.lower hn F.bel.size
 have h:=Sf.gain F ho hn hb
 clear ho hn hb F c0 c1 c2 c3 c4 c5 c6 c7 c8
 have h2:=h.alloc (svC v') 38
 go_upto_region 2 with fail
 obtain⟨w3,hw,h3⟩:=h2.named
 rw[←hw]
 clear hw h2 h
 have co:=h3.c9 0 rfl
 have h4:=h3.set 0 rfl 8 (.int .i64 f)
 go_upto_region 3 with fail
 obtain⟨w4,hw,h5⟩:=h4.named
 rw[←hw]
 clear hw h4 co h3
 have co:=h5.fr.c9 (v8:= .int .i64 f) 0 rfl
 have cz:=h5.fr.c9 1 rfl
 have h6:=h5.set9 1 rfl (.slice v'.pl.a v'.pl.n v'.pl.c) (.slice v'.st.a v'.st.n v'.st.c) (.slice v'.se.a v'.se.n v'.se.c) (.slice v'.on.a v'.on.n v'.on.c) (.slice v'.gr.a v'.gr.n v'.gr.c) (.slice v'.ba.a v'.ba.n v'.ba.c) (.slice v'.ch.a v'.ch.n v'.ch.c) (.slice v'.sa.a v'.sa.n v'.sa.c) (.int .i64 f)
 go_wp2
 exact bodyPost_ret (v:= .tuple #[.agg #[.slice v'.pl.a v'.pl.n v'.pl.c,.slice v'.st.a v'.st.n v'.st.c,.slice v'.se.a v'.se.n v'.se.c,.slice v'.on.a v'.on.n v'.on.c,.slice v'.gr.a v'.gr.n v'.gr.c,.slice v'.ba.a v'.ba.n v'.ba.c,.slice v'.ch.a v'.ch.n v'.ch.c,.slice v'.sa.a v'.sa.n v'.sa.c,.int .i64 f],.bool true]) (by simp[results,Tryz.results66,go_sem,h6.fr.c9 (v8:= .int .i64 f) 1 rfl]) rfl ⟨{v' with fl:=f},L',rfl,(h6.st.fault f).sub (by simp),HN,h6.bel⟩
abbrev mC (u:PV) (v:StV) (b:Bool):Array Value:= #[.slice u.s u.ns u.cs,.slice u.g u.ng u.cg,.slice u.b u.nb u.cb,.slice u.r u.nr u.cr,.slice u.t u.nt u.ct,.slice v.pl.a v.pl.n v.pl.c,.slice v.st.a v.st.n v.st.c,.slice v.se.a v.se.n v.se.c,.slice v.on.a v.on.n v.on.c,.slice v.gr.a v.gr.n v.gr.c,.slice v.ba.a v.ba.n v.ba.c,.slice v.ch.a v.ch.n v.ch.c,.slice v.sa.a v.sa.n v.sa.c,.int .i64 v.fl,.bool b]
theorem implGoOn_ok (w0 w:World) (l:List It) (M:Nat) (u:PV) (p:Pg) (v:StV) (L:StL) (s:StD) (bb:Bool) (a:Option Addr) (n c:Nat) (ts:List Int) (h:Sf w0 w (.blk M (mC u v bb) 120::l) v L s) (hp:RdP w0 u p) (hz:Small u p) (hw:SlR v.blks w ⟨a,n,c⟩ (ints ts) ts.length) (hl:ts.length≤8) (hn:0<s.places.length∧s.places.length≤8∧s.places.length=s.status.length) (ht:∀t∈ts,0≤t∧t<p.threads.length∧t<s.places.length) (hpl:∀i,0≤s.places.getD i 0∧s.places.getD i 0≤8):
  Calls Tryz.prog 68 #[.pointer (some ⟨M,0,none⟩),.slice a n c] w fun e w'=>e= .returned (.tuple #[])∧Sf w0 w' (.blk M (mC u v bb) 120::l) v L (goAll p s ts)∧Touch v.blks w w':=by
 have HLN:Hid (n=ts.length):=xH1 hw.len
 have n8:n≤8:=by have:=HLN.out;omega
 have HW:=xH1 hw
 have HP:=xH1 hp
 have HZ:=xH1 hz
 have HT:=xH1 ht
 have HPL:=xH1 hpl
 have HN:=xH1 hn
 obtain⟨gp,ep,-,-⟩:=owns_at h.st.pl (by rw[h.st.npl];exact hn.1)
 obtain⟨gs,es,-,-⟩:=owns_at h.st.st (by rw[h.st.nst,←hn.2.2];exact hn.1)
 have EP:=xH1 ep
 have ES:=xH1 es
 have NPL:Hid (v.pl.n=s.places.length):=xH1 h.st.npl
 have NST:Hid (v.st.n=s.status.length):=xH1 h.st.nst
 clear hw hp hz hl hn ht hpl ep es
 go_enter Tryz.func68,Tryz.ntmps68
 go_wp2
 go_loopw [8] (fun i wr=>∃k:Nat,k≤n∧i= .int .i64 k∧Sf w0 wr (.blk M (mC u v bb) 120::l) v L (goAll p s (ts.take k))∧Touch v.blks w wr) (fun i _=>n-(intOf i).toNat)
 case atStart=>exact⟨0,by omega,rfl,h,Touch.refl _ _⟩
 case round=>
  clear h
  obtain⟨k,hk,rfl,h1,hT⟩:=hrel
  by_cases hlt:k<n
  ·have hkl:k<ts.length:=by have:=HLN.out;omega
   obtain⟨b,o,rfl,g'⟩:=((HW.out.touch hT (fun _ hb=>hb)).rd).int (by omega)
   have g1:=g' k hkl
   obtain⟨t,et⟩:∃t,t=ts.getD k 0:=⟨_,rfl⟩
   rw[←et] at g1
   have HTK:Hid (ts.take (k+1)=ts.take k++[t]):=xH1 (by rw[et];exact take_succ_getD ts k hkl)
   obtain⟨t0,t1,t2⟩:=HT.out t (by rw[et];exact getD_memp hkl)
   obtain⟨S1,hS1⟩:∃S1,S1=goAll p s (ts.take k):=⟨_,rfl⟩
   have e1:S1.places.length=s.places.length:=by rw[hS1];exact goAll_np _ _
   have e2:S1.status.length=s.status.length:=by rw[hS1];exact goAll_nst _ _
   have hbd:=goAll_bound (p:=p) (ts.take k) s t.toNat
   rw[←hS1,List.length_take] at hbd
   have hs0:=HPL.out t.toNat
   rw[←hS1] at h1
   have HS1:=xH1 hS1
   have tp:t.toNat<S1.places.length:=by omega
   have ts':t.toNat<S1.status.length:=by have:=HN.out;omega
   obtain⟨pl,epl⟩:∃pl,pl=S1.places.getD t.toNat 0:=⟨_,rfl⟩
   have q0:=h1.plAt EP.out t tp
   rw[←epl] at q0 hbd
   have b0:0≤pl:=by omega
   have b1:pl≤16:=by omega
   have tn:t<(v.pl.n:Int):=by rw[NPL.out];omega
   have tm:t<(v.st.n:Int):=by rw[NST.out];have:=HN.out;omega
   have m5:wr.cell? ⟨M,5,none⟩=some (.slice v.pl.a v.pl.n v.pl.c):=h1.fr.cell 0 5 rfl rfl
   rw[EP.out] at m5
   have HTP:=xH1 tp
   have HTS:=xH1 ts'
   have HEP:=xH1 epl
   have HB:=xH1 hT
   obtain⟨bt,ot,etr,hth⟩:=HP.out.thr (by omega)
   obtain⟨a2,x2,ct,-⟩:=hth t.toNat (by omega)
   obtain⟨m,em⟩:∃m,m=(p.threads.getD t.toNat []).length:=⟨_,rfl⟩
   rw[←em] at ct
   have hnt:t<(u.nt:Int):=by rw[←HP.out.lt];omega
   have HM:=xH1 em
   have ETR:=xH1 etr
   have hT1:Touch v.blks wr (wr.setCell ⟨gp,t.toNat,none⟩ (.int .i64 (pl+1))):=(Touch.refl _ _).set (StV.mem_pl (by rw[EP.out];rfl))
   clear g' et hS1 hbd hs0 tp ts' epl hT em etr hth hkl e1 e2
   go_upto_region 4 with fail
   obtain⟨W2,hW,h2⟩:=(h1.setPl EP.out t (pl+1)).named
   rw[←hW] at hT1⊢
   have HT1:=xH1 (HB.out.trans hT1)
   clear hW h1 m5 q0 hT1 g1
   have m6:W2.cell? ⟨M,6,none⟩=some (.slice v.st.a v.st.n v.st.c):=h2.fr.cell 0 6 rfl rfl
   rw[ES.out] at m6
   have q1:=h2.stAt ES.out t HTS.out
   have hT2:Touch v.blks W2 (W2.setCell ⟨gs,t.toNat,none⟩ (.int .i64 0)):=(Touch.refl _ _).set (StV.mem_st (by rw[ES.out];rfl))
   go_upto_region 5 with fail
   obtain⟨W3,hW,h3⟩:=(h2.setSt ES.out t 0).named
   rw[←hW] at hT2⊢
   have HT2:=xH1 (HT1.out.trans hT2)
   clear hW h2 m6 q1 hT2
   have m5:W3.cell? ⟨M,5,none⟩=some (.slice v.pl.a v.pl.n v.pl.c):=h3.fr.cell 0 5 rfl rfl
   rw[EP.out] at m5
   have m4:W3.cell? ⟨M,4,none⟩=some (.slice u.t u.nt u.ct):=h3.fr.cell 0 4 rfl rfl
   rw[ETR.out] at m4
   have q0:=(h3.plAt EP.out t (by show t.toNat<(S1.places.set t.toNat (pl+1)).length;rw[List.length_set];exact HTP.out)).1
   rw[show(setStat {S1 with places:=S1.places.set t.toNat (pl+1)} t 0).places.getD t.toNat 0=pl+1 by show(S1.places.set t.toNat (pl+1)).getD t.toNat 0=pl+1;rw[getD_set,if_pos ⟨rfl,HTP.out⟩]] at q0
   replace ct:=keepc h3.bel ct
   have HV:∀y,(if y=3 then pl+1=m else pl+1≠m)→(y=3∨y=0)→setStat {S1 with places:=S1.places.set t.toNat (pl+1)} t y=goAll p s (ts.take (k+1)):=by
    intro y hy hy'
    rw[HTK.out,←goAll_snoc,←HS1.out]
    unfold goOn setStat rest
    rw[←HEP.out,show(opsOf p t).length=m from HM.out.symm]
    rcases hy' with rfl|rfl
    ·rw[if_pos rfl] at hy;rw[if_pos hy]
    ·rw[if_neg (by decide)] at hy;rw[if_neg hy]
   have HVH:=xH1 HV
   clear HV
   by_cases hx:pl+1=(m:Int)
   ·have d0:(pl+1==(m:Int))=true:=by simpa using hx
    have HX:=xH1 hx
    clear hx
    go_quiet (fail)
    obtain⟨W4,hW,h4⟩:=(h3.drewN nq).named
    have hd:Touch v.blks W3 (W3.drewN nq):=Touch.of_below (below_drewN' _ _)
    rw[←hW] at hd⊢
    have HT3:=xH1 (HT2.out.trans hd)
    clear hW h3 m5 m4 q0 hd ct
    have m6:W4.cell? ⟨M,6,none⟩=some (.slice v.st.a v.st.n v.st.c):=h4.fr.cell 0 6 rfl rfl
    rw[ES.out] at m6
    have q1:=h4.stAt ES.out t (by show t.toNat<(S1.status.set t.toNat 0).length;rw[List.length_set];exact HTS.out)
    have h5:=h4.setSt ES.out t 3
    rw[show setStat (setStat {S1 with places:=S1.places.set t.toNat (pl+1)} t 0) t 3=setStat {S1 with places:=S1.places.set t.toNat (pl+1)} t 3 by unfold setStat;dsimp only;rw[List.set_set],HVH.out 3 (by rw[if_pos rfl];exact HX.out) (.inl rfl)] at h5
    have hT5:Touch v.blks W4 (W4.setCell ⟨gs,t.toNat,none⟩ (.int .i64 3)):=(Touch.refl _ _).set (StV.mem_st (by rw[ES.out];rfl))
    go_wp2
    go_roundw
    case rel=>exact⟨k+1,by omega,by go_num,h5,HT3.out.trans hT5⟩
    case measure=>simp[intOf];omega
   ·have d0:(pl+1==(m:Int))=false:=by simpa using hx
    have h4:=h3
    rw[HVH.out 0 (by rw[if_neg (by decide)];exact hx) (.inr rfl)] at h4
    clear hx
    go_quiet (fail)
    go_wp2
    go_roundw
    case rel=>exact⟨k+1,by omega,by go_num,h4.drewN nq,HT2.out.trans (Touch.of_below (below_drewN' _ _))⟩
    case measure=>simp[intOf];omega
  ·have hkn:k=n:=by omega
   have e:ts.take k=ts:=List.take_of_length_le (by have:=HLN.out;omega)
   rw[e] at h1
   subst hkn
   clear e
   go_wp2
   exact bodyPost_end (v:= .tuple #[]) (by simp[results,Tryz.results68,go_sem]) rfl ⟨rfl,h1,hT⟩
theorem implSay_ok (w0 w:World) (l:List It) (M:Nat) (u:PV) (v:StV) (L:StL) (s:StD) (bb:Bool) (x:Int) (h:Sf w0 w (.blk M (mC u v bb) 120::l) v L s) (hs:s.said.length<64):
  Calls Tryz.prog 67 #[.pointer (some ⟨M,0,none⟩),.int .i64 x] w fun e w'=>e= .returned (.tuple #[])∧∃r:SlV,Sf w0 w' (.blk M (mC u {v with sa:=r} bb) 120::l) {v with sa:=r} L (sayIt s x):=by
 have hsa:v.sa.n<64:=by rw[h.st.nsa];exact hs
 have m12:w.cell? ⟨M,12,none⟩=some (.slice v.sa.a v.sa.n v.sa.c):=h.fr.cell 0 12 rfl rfl
 have h1:=h.alloc #[.int .i64 x] 3
 clear hs h
 go_enter Tryz.func67,Tryz.ntmps67
 go_wp2_with (at_builtin;refine wpList_append_hn rfl _ _ 23 rfl Tryz.underlying23 info_int rfl (by decide) rfl h1.st.sa rfl rfl (Rd.of_blk (h1.fr.blk 0 rfl)) (ints_one [x]) (by omega) (by decide) h1.fr.bel.size ?_;intro a' c' W' ho' hg hn';have hT:Touch v.blks _ W':=Touch.of_grown hg fun k hk=>StV.mem_sa hk;have h2:=h1.upd hT (h1.st.say (s8:=⟨a',v.sa.n+1,c'⟩) hg hn' (ps:=s.said++[x]) (by show v.sa.n+1=_;rw[List.length_append,h1.st.nsa];rfl) (by rw[ints_app];exact ho'));clear m12;have m12:W'.cell? ⟨M,12,none⟩=some (.slice v.sa.a v.sa.n v.sa.c):=h2.fr.cell 1 12 rfl rfl;have z12:=h2.fr.fz 1 12 rfl;have h3:=(h2.set 1 rfl 12 (.slice a' (v.sa.n+1) c')).sub (l':= .blk M (mC u {v with sa:=⟨a',v.sa.n+1,c'⟩} bb) 120::l) (.cons _ (.refl _)))
 exact bodyPost_end (v:= .tuple #[]) (by simp[results,Tryz.results67,go_sem]) rfl ⟨rfl,⟨a',v.sa.n+1,c'⟩,h3⟩
theorem implEither_ok (w0 w:World) (l:List It) (M:Nat) (u:PV) (p:Pg) (v:StV) (L:StL) (s:StD) (bb:Bool) (t:Int) (b:Bool) (h:Sf w0 w (.blk M (mC u v bb) 120::l) v L s) (hp:RdP w0 u p) (hz:Small u p) (hn:0<s.places.length∧s.places.length≤8∧s.places.length=s.status.length) (ht:0≤t∧t<p.threads.length∧t<s.places.length) (hpl:∀i,0≤s.places.getD i 0∧s.places.getD i 0≤8):
  Calls Tryz.prog 70 #[.pointer (some ⟨M,0,none⟩),.int .i64 t,.bool b] w fun e w'=>e= .returned (.tuple #[])∧Sf w0 w' (.blk M (mC u v bb) 120::l) v L (either p s t b):=by
 cases b
 ·obtain⟨gs,es,-,-⟩:=owns_at h.st.st (by rw[h.st.nst,←hn.2.2];exact hn.1)
  have m6:w.cell? ⟨M,6,none⟩=some (.slice v.st.a v.st.n v.st.c):=h.fr.cell 0 6 rfl rfl
  rw[es] at m6
  have q1:=h.stAt es t (by omega)
  have tm:t<(v.st.n:Int):=by rw[h.st.nst];omega
  have t0:=ht.1
  have h1:=h.setSt es t 1
  clear hpl hn ht h hp hz es
  go_enter Tryz.func70,Tryz.ntmps70
  go_wp2
  exact bodyPost_end (v:= .tuple #[]) (by simp[results,Tryz.results70,go_sem]) rfl ⟨rfl,h1⟩
 ·have h1:=h.alloc #[.int .i64 t] 3
  have hw:SlR v.blks (w.alloc (.cells #[.int .i64 t] 3)) ⟨some ⟨w.heap.size,0,none⟩,1,1⟩ (ints [t]) [t].length:=⟨rfl,Rd.of_blk (h1.fr.blk 0 rfl),.inr (fun b hb hm=>by have h2:=(h.st.from b hm).2;simp only[rowOf,Option.some.injEq] at hb;omega),Nat.le_refl _⟩
  go_enter Tryz.func70,Tryz.ntmps70
  go_wp2_with fail
  refine(implGoOn_ok w0 _ _ M u p v L s bb _ 1 1 [t] (h1.pull 1 rfl) hp hz hw (by simp) hn (fun z hz'=>by obtain rfl:=xS1 hz';exact ht) hpl).mono ?_
  rintro e w2 ⟨rfl,h2,-⟩
  go_wp2
  exact bodyPost_end (v:= .tuple #[]) (by simp[results,Tryz.results70,go_sem]) rfl ⟨rfl,h2.sub (by simp)⟩
end Go.Proofs.YtjmpejaifmopnaaGreat
