/- Part of a proof: IRepl. -/
import Derived.Test.YtjmpejaifmopnaaGreatQSym2
import Derived.Test.YtjmpejaifmopnaaGreatQPRun
set_option maxRecDepth 100000
set_option maxHeartbeats 16000000
namespace Go.Proofs.YtjmpejaifmopnaaGreat
open Go.RowKit
theorem replay_chooses (T:List Int) (B N c0:Nat) (a0:Option Addr) (w:World) (p:Pg) (hb:w.cell? ⟨B,0,none⟩=some (.slice a0 N c0)) (hT:Rd w a0 (ints T)) (hl0:T.length=N) (hN:N≤100):Chooses w 27 #[.pointer (some ⟨B,0,none⟩)] p (chTrace T) (fun tr=>tr.length≤N):=by
 intro v L s a b n c m d tr W hbw hs hr hl h100 hJ hrd hm hm8 hrl
 show Calls Tryz.prog 27 #[.agg #[.slice v.pl.a v.pl.n v.pl.c,.slice v.st.a v.st.n v.st.c,.slice v.se.a v.se.n v.se.c,.slice v.on.a v.on.n v.on.c,.slice v.gr.a v.gr.n v.gr.c,.slice v.ba.a v.ba.n v.ba.c,.slice v.ch.a v.ch.n v.ch.c,.slice v.sa.a v.sa.n v.sa.c,.int .i64 v.fl,.slice a n c],.slice b m d,.pointer (some ⟨B,0,none⟩)] W _
 have F:=(Fr.start W).alloc (rC v a n c) 40
 have cr:=F.c10 0 rfl
 have HB:=xH1 F.bel
 have hc:=keepc HB.out (keepc hbw hb)
 have HT:=xH1 ((hT.below hbw).below HB.out)
 have HL:=xH1 hl
 have HL0:=xH1 hl0
 clear hs hr hrd hm hrl hm8 hb hT hbw hl hl0 F
 replace hJ:tr.length≤N:=hJ
 go_enter Tryz.func27,Tryz.ntmps27
 by_cases hn:n=N
 ·have t1:((n:Int)==(N:Int))=true:=by simp;omega
  have HN:=xH1 hn
  clear hn
  go_wp2
  exact bodyPost_ret (v:= .tuple #[.int .i64 0,.bool false]) (by simp[results,Tryz.results27,go_sem]) rfl ⟨by unfold chTrace;rw[if_pos (by rw[HL.out,HL0.out,HN.out])];rfl,HB.out⟩
 ·have t1:((n:Int)==(N:Int))=false:=by simp;omega
  have hlt:n<N:=by have:=HL.out;omega
  obtain⟨b1,o1,rfl,g'⟩:=HT.out.int (by have:=HL0.out;omega)
  have g:World.cell? _ ⟨b1,o1+n,none⟩=some (.int .i64 (T.getD n 0)):=g' n (by have:=HL0.out;omega)
  have l0:(0:Int)≤(n:Int):=by omega
  have l1:(n:Int)<(N:Int):=by omega
  obtain⟨x,hx⟩:∃x,x=T.getD n 0:=⟨_,rfl⟩
  rw[←hx] at g
  have HX:=xH1 hx
  have HN:=xH1 hn
  clear hx g' hn
  go_wp2
  exact bodyPost_ret (v:= .tuple #[.int .i64 x,.bool true]) (by simp[results,Tryz.results27,go_sem]) rfl ⟨by unfold chTrace;rw[HL.out,HL0.out,if_neg HN.out,HX.out];rfl,HB.out⟩
theorem implReplay_ok (u:PV) (p:Pg) (a0:Option Addr) (N c0:Nat) (T:List Int) (w:World) (hp:RdP w u p) (hv:progValid p=true) (hT:Rd w a0 (ints T)) (hl:T.length=N) (hN:N≤100):
  Calls Tryz.prog 9 #[.agg #[.slice u.s u.ns u.cs,.slice u.g u.ng u.cg,.slice u.b u.nb u.cb,.slice u.r u.nr u.cr,.slice u.t u.nt u.ct],.slice a0 N c0] w fun e w'=>Below w.heap.size w w'∧((walkD p (chTrace T) 101 (startOf p) []=none∧e= .returned (.tuple #[.agg #[.slice none 0 0,.slice none 0 0,.slice none 0 0,.slice none 0 0,.slice none 0 0,.slice none 0 0,.slice none 0 0,.slice none 0 0,.int .i64 0,.slice none 0 0],.bool false]))∨∃(s:StD) (tr:List Int) (v:StV) (L:StL) (a:Option Addr) (c:Nat),walkD p (chTrace T) 101 (startOf p) []=some (s,tr)∧e= .returned (.tuple #[.agg #[.slice v.pl.a v.pl.n v.pl.c,.slice v.st.a v.st.n v.st.c,.slice v.se.a v.se.n v.se.c,.slice v.on.a v.on.n v.on.c,.slice v.gr.a v.gr.n v.gr.c,.slice v.ba.a v.ba.n v.ba.c,.slice v.ch.a v.ch.n v.ch.c,.slice v.sa.a v.sa.n v.sa.c,.int .i64 v.fl,.slice a tr.length c],.bool true])∧RunO w.heap.size w' v L a c s tr∧Run p s):=by
 have HP:=xH1 hp
 have HV:=xH1 hv
 have F:=(((Fr.start w).alloc (pvC u) 26).alloc #[.slice a0 N c0] 23).alloc z10 40
 simp only[World.size_alloc] at F
 have HT:=xH1 (hT.below F.bel)
 have hgt:¬((100:Int)<(N:Int)):=by omega
 have HL:=xH1 hl
 have cp:=F.c5 2 rfl
 have ct:=F.cell 1 0 rfl rfl
 clear hp hv hT hl
 go_enter Tryz.func9,Tryz.ntmps9
 go_wp2_with fail
 refine(implWalk_ok u p _ 27 #[.pointer (some ⟨w.heap.size+1,0,none⟩)] (chTrace T) (HP.out.below F.bel) HV.out (fun _ _=>rfl) (fun tr=>tr.length≤N) (Nat.zero_le _) (fun s tr t h1 h2=> ?_) (replay_chooses T _ N c0 a0 _ p ct HT.out HL.out hN) (fun s tr h1 h2=>if_pos (by have:=HL.out;replace h1:tr.length≤N:=h1;omega))).mono ?_
 ·replace h1:tr.length≤N:=h1
  show(tr++[t]).length≤N
  have:=HL.out
  unfold chTrace at h2
  split at h2
  ·cases h2
  ·rw[List.length_append];show tr.length+1≤N;omega
 rintro e w1 ⟨hb,⟨hn,rfl⟩|⟨s,tr,v,L,a,c,hwk,rfl,ho,hr⟩⟩
 ·have HN:=xH1 hn
  replace F:=F.call hb
  clear hb hn cp ct
  have cz:=F.c10 0 rfl
  have F2:=F.set10 0 rfl (.slice none 0 0) (.slice none 0 0) (.slice none 0 0) (.slice none 0 0) (.slice none 0 0) (.slice none 0 0) (.slice none 0 0) (.slice none 0 0) (.int .i64 0) (.slice none 0 0)
  go_wp2
  exact bodyPost_ret (v:= .tuple #[.agg #[.slice none 0 0,.slice none 0 0,.slice none 0 0,.slice none 0 0,.slice none 0 0,.slice none 0 0,.slice none 0 0,.slice none 0 0,.int .i64 0,.slice none 0 0],.bool false]) (by simp[results,Tryz.results9,go_sem,F2.c10 0 rfl]) rfl ⟨F2.bel,.inl ⟨HN.out,rfl⟩⟩
 have HWK:=xH1 hwk
 have HR:=xH1 hr
 have HN:=xH1 (NewB.lower ho.nw F.bel.size)
 have G:=Sf.gainR F hb ho.tr ho.st ho.nw
 clear hb hwk ho hr F cp ct
 have cz:=G.fr.c10 1 rfl
 have G2:=G.set10 1 rfl (.slice v.pl.a v.pl.n v.pl.c) (.slice v.st.a v.st.n v.st.c) (.slice v.se.a v.se.n v.se.c) (.slice v.on.a v.on.n v.on.c) (.slice v.gr.a v.gr.n v.gr.c) (.slice v.ba.a v.ba.n v.ba.c) (.slice v.ch.a v.ch.n v.ch.c) (.slice v.sa.a v.sa.n v.sa.c) (.int .i64 v.fl) (.slice a tr.length c)
 go_wp2
 exact bodyPost_ret (v:= .tuple #[.agg #[.slice v.pl.a v.pl.n v.pl.c,.slice v.st.a v.st.n v.st.c,.slice v.se.a v.se.n v.se.c,.slice v.on.a v.on.n v.on.c,.slice v.gr.a v.gr.n v.gr.c,.slice v.ba.a v.ba.n v.ba.c,.slice v.ch.a v.ch.n v.ch.c,.slice v.sa.a v.sa.n v.sa.c,.int .i64 v.fl,.slice a tr.length c],.bool true]) (by simp[results,Tryz.results9,go_sem,G2.fr.c10 1 rfl]) rfl ⟨G2.bel,.inr ⟨s,tr,v,L,a,c,HWK.out,rfl,⟨G2.st.sub fun q hq=>xQ1 (.inl hq),HN.out,G2.fr.own 0 rfl⟩,HR.out⟩⟩
end Go.Proofs.YtjmpejaifmopnaaGreat
