/- Part of a proof: FnSwap41. -/
import Derived.Lib.QuietBelow
import Derived.BigQuiet
import Derived.IntWalk
import Derived.Test.YtjmpejaifmopnaaGreatQDrawSwap
import Derived.Test.YtjmpejaifmopnaaGreatQSwapSpec
import Derived.Test.YtjmpejaifmopnaaGreatQSym3
import Derived.Test.YtjmpejaifmopnaaGreatQRepR
import Derived.Test.YtjmpejaifmopnaaGreatQEFnSwap41
set_option maxRecDepth 100000
set_option maxHeartbeats 16000000
namespace Go.Proofs.YtjmpejaifmopnaaGreat
open Go.RowKit Go.Sort
theorem eqlStr (E:ByteArray) (w:World):(binOp .eql 9 (.string E) (.string E)).run Tryz.prog w= .ok (.bool true) w:=by
 simp[go_sem]
theorem guardStr (E:ByteArray) (w:World) (x y:Operand):(eqGuard .eql 9 x y (.string E) (.string E)).run Tryz.prog w= .ok () w:=by
 simp[go_sem]
theorem wkInts_eq2 (a1 a2:Option Addr) (n m c1 c2:Nat) (xs:List Int) (w:World) (hnm:n=m) (hn:m≤1099511627776) (hl:xs.length=m) (h1:Rd w a1 (ints xs)) (h2:Rd w a2 (ints xs)):
  Calls Tryz.prog 12 #[.slice a1 n c1,.slice a2 m c2] w fun e w'=>e= .returned (.bool true)∧Below w.heap.size w w':=by
 subst hnm
 exact wkInts_eq a1 a2 n c1 c2 xs xs w hn hl rfl h1 h2
theorem sym_run {q:Pg} {ch:StD→List Int→Option Int} {r:StD×List Int} (h:walkD q ch 101 (startOf q) []=some r) (hv:progValid q=true):Run q r.1:=by
 have key:∀(n:Nat) (s:StD) (tr:List Int),Run q s→walkD q ch n s tr=some r→Run q r.1:=by
  intro n
  induction n with
  |zero=>intro s tr _ h;cases h
  |succ n ih=>
   intro s tr hr h
   unfold walkD at h
   split at h
   ·obtain rfl:=Option.some.inj h
    exact hr
   ·split at h
    ·next hin=>exact ih _ _ (hr.step (hr.fits.turn hin)) h
    ·cases h
 exact key 101 _ _ (Run.start hv) h
theorem walk_len {p:Pg} {s:StD} {tr:List Int} (h:walkD p chTurns 101 (startOf p) []=some (s,tr)):tr.length≤100:=by
 have key:∀(n:Nat) (s:StD) (tr:List Int) (r:StD×List Int),walkD p chTurns n s tr=some r→tr.length≤100→r.2.length≤100:=by
  intro n
  induction n with
  |zero=>intro s tr r h;cases h
  |succ n ih=>
   intro s tr r h hl
   unfold walkD at h
   split at h
   ·obtain rfl:=Option.some.inj h
    exact hl
   ·next t e=>
    split at h
    ·refine ih _ _ _ h ?_
     have:tr.length<100:=Nat.lt_of_not_le fun h1=>by rw[chTurns_100 s tr h1] at e;cases e
     rw[List.length_append];show tr.length+1≤100;omega
    ·cases h
 exact key 101 _ _ _ h (by simp)
theorem fnSwapThreadsLaw (a:Option Addr) (n c:Nat) (bs:List Int) (w:World) (hl:bs.length=n) (h1:Rd w a (bytesV bs)) (hmx:n≤maxLen) (hcap:n≤c) (hby:∀b∈bs,0≤b∧b≤255):
  Calls Tryz.prog 3 #[.slice a n c] w fun e w'=>e= .returned (.bool true)∧Below w.heap.size w w':=by
 unfold maxLen at hmx
 have HL:=xH1 hl
 have HBY:=xH1 hby
 clear hl hby
 by_cases hn:n≤1048576
 ·have hC:=xH1 (Code13.mk HL.out h1 hcap HBY.out hn)
  clear HL HBY h1
  go_enter Tryz.func3,Tryz.ntmps3
  go_wp2_with fail
  refine(drawSwapThreads_any a n c bs w hC.out).mono ?_
  rintro e w1 ⟨v,vs,p,x,y,rfl,hxy,o1,hb⟩
  have HB:=xH1 hb
  have HR:=xH1 o1.own.rd
  have HF:=xH1 o1.few
  have HZ:=xH1 (o1.small (by omega))
  have HO:=xH1 o1.own
  clear hb o1 hC
  have bb:Below w1.heap.size w1 (w1.alloc (.cells #[.slice v.s v.ns v.cs,.slice v.g v.ng v.cg,.slice v.b v.nb v.cb,.slice v.r v.nr v.cr,.slice v.t v.nt v.ct] 26)):=xA1
  have kp:Blk (w1.alloc (.cells #[.slice v.s v.ns v.cs,.slice v.g v.ng v.cg,.slice v.b v.nb v.cb,.slice v.r v.nr v.cr,.slice v.t v.nt v.ct] 26)) w1.heap.size #[.slice v.s v.ns v.cs,.slice v.g v.ng v.cg,.slice v.b v.nb v.cb,.slice v.r v.nr v.cr,.slice v.t v.nt v.ct] 26:=Blk.new _ _ _
  replace HR:=xH1 (HR.out.below bb)
  replace HO:=xH1 (HO.out.below bb)
  replace HB:=xH1 (HB.out.trans (bb.mono HB.out.size))
  clear bb
  have ckp0:=kp.cell 0 rfl
  have ckp1:=kp.cell 1 rfl
  have ckp2:=kp.cell 2 rfl
  have ckp3:=kp.cell 3 rfl
  have ckp4:=kp.cell 4 rfl
  go_wp2_with fail
  refine(implSwapThreads_any v p x y _ HR.out HZ.out).mono ?_
  rintro e w2 ⟨u,us,rfl,o2,nd2,fr2,hb⟩
  have HU:=xH1 o2.rd
  have HOU:=xH1 o2
  clear o2 nd2 fr2
  replace HR:=xH1 (HR.out.below hb)
  replace HO:=xH1 (HO.out.below hb)
  replace kp:=kp.below hb
  replace HB:=xH1 (HB.out.trans (hb.mono HB.out.size))
  clear hb
  clear ckp0 ckp1 ckp2 ckp3 ckp4
  have bb:Below w2.heap.size w2 (w2.alloc (.cells #[.slice u.s u.ns u.cs,.slice u.g u.ng u.cg,.slice u.b u.nb u.cb,.slice u.r u.nr u.cr,.slice u.t u.nt u.ct] 26)):=xA1
  have ku:Blk (w2.alloc (.cells #[.slice u.s u.ns u.cs,.slice u.g u.ng u.cg,.slice u.b u.nb u.cb,.slice u.r u.nr u.cr,.slice u.t u.nt u.ct] 26)) w2.heap.size #[.slice u.s u.ns u.cs,.slice u.g u.ng u.cg,.slice u.b u.nb u.cb,.slice u.r u.nr u.cr,.slice u.t u.nt u.ct] 26:=Blk.new _ _ _
  replace HR:=xH1 (HR.out.below bb)
  replace HO:=xH1 (HO.out.below bb)
  replace HU:=xH1 (HU.out.below bb)
  replace HOU:=xH1 (HOU.out.below bb)
  replace kp:=kp.below bb
  replace HB:=xH1 (HB.out.trans (bb.mono HB.out.size))
  clear bb
  have ckp0:=kp.cell 0 rfl
  have ckp1:=kp.cell 1 rfl
  have ckp2:=kp.cell 2 rfl
  have ckp3:=kp.cell 3 rfl
  have ckp4:=kp.cell 4 rfl
  have cku0:=ku.cell 0 rfl
  have cku1:=ku.cell 1 rfl
  have cku2:=ku.cell 2 rfl
  have cku3:=ku.cell 3 rfl
  have cku4:=ku.cell 4 rfl
  go_wp2_with fail
  refine(specSwapThreads_any v p x y _ HR.out HZ.out).mono ?_
  rintro e w3 ⟨t,rfl,r3,hb⟩
  have HT:=xH1 r3
  clear r3
  replace HR:=xH1 (HR.out.below hb)
  replace HO:=xH1 (HO.out.below hb)
  replace HU:=xH1 (HU.out.below hb)
  replace HOU:=xH1 (HOU.out.below hb)
  replace kp:=kp.below hb
  replace ku:=ku.below hb
  replace HB:=xH1 (HB.out.trans (hb.mono HB.out.size))
  clear hb
  clear ckp0 ckp1 ckp2 ckp3 ckp4 cku0 cku1 cku2 cku3 cku4
  have bb:Below w3.heap.size w3 (w3.alloc (.cells #[.slice t.s t.ns t.cs,.slice t.g t.ng t.cg,.slice t.b t.nb t.cb,.slice t.r t.nr t.cr,.slice t.t t.nt t.ct] 26)):=xA1
  have kt:Blk (w3.alloc (.cells #[.slice t.s t.ns t.cs,.slice t.g t.ng t.cg,.slice t.b t.nb t.cb,.slice t.r t.nr t.cr,.slice t.t t.nt t.ct] 26)) w3.heap.size #[.slice t.s t.ns t.cs,.slice t.g t.ng t.cg,.slice t.b t.nb t.cb,.slice t.r t.nr t.cr,.slice t.t t.nt t.ct] 26:=Blk.new _ _ _
  replace HR:=xH1 (HR.out.below bb)
  replace HO:=xH1 (HO.out.below bb)
  replace HU:=xH1 (HU.out.below bb)
  replace HOU:=xH1 (HOU.out.below bb)
  replace HT:=xH1 (HT.out.below bb)
  replace kp:=kp.below bb
  replace ku:=ku.below bb
  replace HB:=xH1 (HB.out.trans (bb.mono HB.out.size))
  clear bb
  cases hq:swapThreads p x y with
  |none=>
   rw[hq] at HU HOU HT
   simp only[Option.isSome_none,Option.getD_none] at HU HOU HT⊢
   clear hq
   have HZU:=xH1 ((few_noPg 10).small' HU.out (by omega))
   have t1:decide (noPg=noPg)=true:=by simp
   have ckp0:=kp.cell 0 rfl
   have ckp1:=kp.cell 1 rfl
   have ckp2:=kp.cell 2 rfl
   have ckp3:=kp.cell 3 rfl
   have ckp4:=kp.cell 4 rfl
   have cku0:=ku.cell 0 rfl
   have cku1:=ku.cell 1 rfl
   have cku2:=ku.cell 2 rfl
   have cku3:=ku.cell 3 rfl
   have cku4:=ku.cell 4 rfl
   have ckt0:=kt.cell 0 rfl
   have ckt1:=kt.cell 1 rfl
   have ckt2:=kt.cell 2 rfl
   have ckt3:=kt.cell 3 rfl
   have ckt4:=kt.cell 4 rfl
   go_wp2_with fail
   refine(implProgSame_any u t noPg noPg _ HU.out HT.out HZU.out).mono ?_
   rintro e w4 ⟨rfl,hb⟩
   replace HR:=xH1 (HR.out.below hb)
   replace HO:=xH1 (HO.out.below hb)
   replace HU:=xH1 (HU.out.below hb)
   replace HOU:=xH1 (HOU.out.below hb)
   replace HT:=xH1 (HT.out.below hb)
   replace kp:=kp.below hb
   replace ku:=ku.below hb
   replace kt:=kt.below hb
   replace HB:=xH1 (HB.out.trans (hb.mono HB.out.size))
   clear hb
   clear ckp0 ckp1 ckp2 ckp3 ckp4 cku0 cku1 cku2 cku3 cku4 ckt0 ckt1 ckt2 ckt3 ckt4
   have ckp0:=kp.cell 0 rfl
   have ckp1:=kp.cell 1 rfl
   have ckp2:=kp.cell 2 rfl
   have ckp3:=kp.cell 3 rfl
   have ckp4:=kp.cell 4 rfl
   have cku0:=ku.cell 0 rfl
   have cku1:=ku.cell 1 rfl
   have cku2:=ku.cell 2 rfl
   have cku3:=ku.cell 3 rfl
   have cku4:=ku.cell 4 rfl
   have ckt0:=kt.cell 0 rfl
   have ckt1:=kt.cell 1 rfl
   have ckt2:=kt.cell 2 rfl
   have ckt3:=kt.cell 3 rfl
   have ckt4:=kt.cell 4 rfl
   go_wp2_with fail
   refine(implProgSame_any u t noPg noPg _ HU.out HT.out HZU.out).mono ?_
   rintro e w5 ⟨rfl,hb⟩
   replace HR:=xH1 (HR.out.below hb)
   replace HO:=xH1 (HO.out.below hb)
   replace HU:=xH1 (HU.out.below hb)
   replace HOU:=xH1 (HOU.out.below hb)
   replace HT:=xH1 (HT.out.below hb)
   replace kp:=kp.below hb
   replace ku:=ku.below hb
   replace kt:=kt.below hb
   replace HB:=xH1 (HB.out.trans (hb.mono HB.out.size))
   clear hb
   clear ckp0 ckp1 ckp2 ckp3 ckp4 cku0 cku1 cku2 cku3 cku4 ckt0 ckt1 ckt2 ckt3 ckt4
   go_wp2
   go_ret
   exact⟨rfl,HB.out⟩
  |some q=>
   rw[hq] at HU HOU HT
   simp only[Option.isSome_some,Option.getD_some] at HU HOU HT⊢
   obtain⟨hvp,hvq,hbk,a',b',rfl,rfl,ha,hb',eq⟩:=swap_some hq
   have HV:=xH1 hvp
   have HVQ:=xH1 hvq
   have HBK:=xH1 hbk
   have HA:=xH1 (And.intro ha hb')
   have HEQ:=xH1 eq
   have HZU:=xH1 (valid_Small hvq HU.out)
   have t1:decide (q=q)=true:=by simp
   clear hq hvp hvq hbk ha hb' eq hxy
   have ckp0:=kp.cell 0 rfl
   have ckp1:=kp.cell 1 rfl
   have ckp2:=kp.cell 2 rfl
   have ckp3:=kp.cell 3 rfl
   have ckp4:=kp.cell 4 rfl
   have cku0:=ku.cell 0 rfl
   have cku1:=ku.cell 1 rfl
   have cku2:=ku.cell 2 rfl
   have cku3:=ku.cell 3 rfl
   have cku4:=ku.cell 4 rfl
   have ckt0:=kt.cell 0 rfl
   have ckt1:=kt.cell 1 rfl
   have ckt2:=kt.cell 2 rfl
   have ckt3:=kt.cell 3 rfl
   have ckt4:=kt.cell 4 rfl
   go_wp2_with fail
   refine(implProgSame_any u t q q _ HU.out HT.out HZU.out).mono ?_
   rintro e w4 ⟨rfl,hb⟩
   rw[decide_eq_true (rfl:q=q)]
   replace HR:=xH1 (HR.out.below hb)
   replace HO:=xH1 (HO.out.below hb)
   replace HU:=xH1 (HU.out.below hb)
   replace HOU:=xH1 (HOU.out.below hb)
   replace HT:=xH1 (HT.out.below hb)
   replace kp:=kp.below hb
   replace ku:=ku.below hb
   replace kt:=kt.below hb
   replace HB:=xH1 (HB.out.trans (hb.mono HB.out.size))
   clear hb
   clear ckp0 ckp1 ckp2 ckp3 ckp4 cku0 cku1 cku2 cku3 cku4 ckt0 ckt1 ckt2 ckt3 ckt4
   clear t1
   clear HT
   clear HOU
   clear HO
   clear kt
   have ckp0:=kp.cell 0 rfl
   have ckp1:=kp.cell 1 rfl
   have ckp2:=kp.cell 2 rfl
   have ckp3:=kp.cell 3 rfl
   have ckp4:=kp.cell 4 rfl
   have cku0:=ku.cell 0 rfl
   have cku1:=ku.cell 1 rfl
   have cku2:=ku.cell 2 rfl
   have cku3:=ku.cell 3 rfl
   have cku4:=ku.cell 4 rfl
   go_wp2_with fail
   refine(implRunTurns_ok v p _ HR.out HV.out).mono ?_
   rintro e w6 ⟨hb,s,tr,sv,L,ar,cr,hwk,rfl,ho,hrun⟩
   have HSR:=xH1 ho.st.rd
   have HTR:=xH1 (Rd.of_owns ho.tr)
   have HWK:=xH1 hwk
   have hsym:=sym_walk (a:=a') (b:=b') 101 (startOf p) [] (Run.start HV.out) (sym_start HA.out.1 HA.out.2).2 hwk
   rw[←(sym_start HA.out.1 HA.out.2).1,←HEQ.out,List.map_nil] at hsym
   have HSYM:=xH1 hsym
   have hlen:tr.length≤100:=walk_len hwk
   clear ho hwk hrun hsym
   replace HR:=xH1 (HR.out.below hb)
   replace HU:=xH1 (HU.out.below hb)
   replace kp:=kp.below hb
   replace ku:=ku.below hb
   replace HB:=xH1 (HB.out.trans (hb.mono HB.out.size))
   clear hb
   clear ckp0 ckp1 ckp2 ckp3 ckp4 cku0 cku1 cku2 cku3 cku4
   have bb:Below w6.heap.size w6 (w6.alloc (.cells #[.slice sv.pl.a sv.pl.n sv.pl.c,.slice sv.st.a sv.st.n sv.st.c,.slice sv.se.a sv.se.n sv.se.c,.slice sv.on.a sv.on.n sv.on.c,.slice sv.gr.a sv.gr.n sv.gr.c,.slice sv.ba.a sv.ba.n sv.ba.c,.slice sv.ch.a sv.ch.n sv.ch.c,.slice sv.sa.a sv.sa.n sv.sa.c,.int .i64 sv.fl,.slice ar tr.length cr] 40)):=xA1
   have kr:Blk (w6.alloc (.cells #[.slice sv.pl.a sv.pl.n sv.pl.c,.slice sv.st.a sv.st.n sv.st.c,.slice sv.se.a sv.se.n sv.se.c,.slice sv.on.a sv.on.n sv.on.c,.slice sv.gr.a sv.gr.n sv.gr.c,.slice sv.ba.a sv.ba.n sv.ba.c,.slice sv.ch.a sv.ch.n sv.ch.c,.slice sv.sa.a sv.sa.n sv.sa.c,.int .i64 sv.fl,.slice ar tr.length cr] 40)) w6.heap.size #[.slice sv.pl.a sv.pl.n sv.pl.c,.slice sv.st.a sv.st.n sv.st.c,.slice sv.se.a sv.se.n sv.se.c,.slice sv.on.a sv.on.n sv.on.c,.slice sv.gr.a sv.gr.n sv.gr.c,.slice sv.ba.a sv.ba.n sv.ba.c,.slice sv.ch.a sv.ch.n sv.ch.c,.slice sv.sa.a sv.sa.n sv.sa.c,.int .i64 sv.fl,.slice ar tr.length cr] 40:=Blk.new _ _ _
   replace HR:=xH1 (HR.out.below bb)
   replace HU:=xH1 (HU.out.below bb)
   replace HSR:=xH1 (HSR.out.below bb)
   replace HTR:=xH1 (HTR.out.below bb)
   replace kp:=kp.below bb
   replace ku:=ku.below bb
   replace HB:=xH1 (HB.out.trans (bb.mono HB.out.size))
   clear bb
   go_wp2_with fail
   obtain⟨W,hnm⟩:∃x,x=(w6.alloc (.cells #[.slice sv.pl.a sv.pl.n sv.pl.c,.slice sv.st.a sv.st.n sv.st.c,.slice sv.se.a sv.se.n sv.se.c,.slice sv.on.a sv.on.n sv.on.c,.slice sv.gr.a sv.gr.n sv.gr.c,.slice sv.ba.a sv.ba.n sv.ba.c,.slice sv.ch.a sv.ch.n sv.ch.c,.slice sv.sa.a sv.sa.n sv.sa.c,.int .i64 sv.fl,.slice ar tr.length cr] 40)):=⟨_,rfl⟩
   rw[←hnm] at HR HU HSR HTR kp ku kr HB⊢
   obtain⟨R,hR⟩:∃R,R=w6.heap.size:=⟨_,rfl⟩
   rw[←hR] at kr⊢
   have HLT:Hid (tr.length=tr.length):=xH1 rfl
   obtain⟨N,hN⟩:∃N,N=tr.length:=⟨_,rfl⟩
   have HN:=xH1 hN
   rw[←hN] at kr hlen⊢
   clear hnm hR HLT
   have HNL:Hid ((tr.map (tau a' b')).length=N):=xH1 (by rw[List.length_map];exact hN.symm)
   clear hN
   refine wp_region_inv 13 (rpI W (.agg #[.slice u.s u.ns u.cs,.slice u.g u.ng u.cg,.slice u.b u.nb u.cb,.slice u.r u.nr u.cr,.slice u.t u.nt u.ct]) (.pointer (some ⟨R,9,none⟩)) (.slice ar N cr) (.int .i64 a') (.int .i64 b') N (tr.map (tau a' b')) (fun z=>walkD q (chTrace (tr.map (tau a' b'))) 101 (startOf q) []=some (z.d,z.tr))) rpI.cong (fun σ=>rpI.start σ) ?_ ?_
   ·refine⟨?_,?_,?_,?_,?_,?_,?_,?_,?_,?_,?_,?_,?_,trivial⟩<;>intro ρ w9 L9 hI hw hny ho
    ·have c:=ku.below hI.bel
     have y0:=c.cell 0 rfl
     have y1:=c.cell 1 rfl
     have y2:=c.cell 2 rfl
     have y3:=c.cell 3 rfl
     have y4:=c.cell 4 rfl
     have d:ρ (.tmp 6)=_:=ho (.tmp 6) rfl
     exact gives_val (by go_simp<;>rfl) (hI.val 0 _ (.inl ⟨rfl,rfl⟩))
    ·have d:ρ (.tmp 10)=_:=ho (.tmp 10) rfl
     exact gives_val (by go_simp<;>rfl) (hI.val 1 _ (.inr (.inl ⟨rfl,rfl⟩)))
    ·have y9:=(kr.below hI.bel).cell 9 rfl
     have d:ρ (.tmp 67)=_:=hI.k1 (hw 1 (by decide))
     exact gives_val (by go_simp<;>rfl) (hI.val 2 _ (.inr (.inr (.inl ⟨rfl,rfl⟩))))
    ·have d:ρ (.tmp 4)=_:=ho (.tmp 4) rfl
     exact gives_val (by go_simp<;>rfl) (hI.val 3 _ (.inr (.inr (.inr (.inl ⟨rfl,rfl⟩)))))
    ·have d:ρ (.tmp 5)=_:=ho (.tmp 5) rfl
     exact gives_val (by go_simp<;>rfl) (hI.val 4 _ (.inr (.inr (.inr (.inr (.inl ⟨rfl,rfl⟩))))))
    ·have d2:ρ (.tmp 68)=_:=hI.k2 (hw 2 (by decide))
     have d3:ρ (.tmp 69)=_:=hI.k3 (hw 3 (by decide))
     have d4:ρ (.tmp 70)=_:=hI.k4 (hw 4 (by decide))
     have df:ρ (.func 10)=_:=ho (.func 10) rfl
     exact gives_call (by go_simp<;>rfl) ((implSwap_any N cr ar tr a' b' w9 HN.out.symm (by omega) (HTR.out.below hI.bel)).mono fun e w' h=>by
      obtain⟨a5,c5,rfl,o5,hb⟩:=h
      exact⟨_,rfl,hI.sw (hny 6 _ rfl rfl) a5 c5 w' (Rd.of_owns o5) hb⟩)
    ·obtain⟨a6,c6,d5,hd,hk⟩:=hI.rp (hw 5 (by decide)) (hny 6 _ rfl rfl)
     replace d5:ρ (.tmp 71)=_:=d5
     have d0:ρ (.tmp 66)=_:=hI.k0 (hw 0 (by decide))
     have df:ρ (.func 9)=_:=ho (.func 9) rfl
     exact gives_call (by go_simp<;>rfl) ((implReplay_ok u q a6 N c6 (tr.map (tau a' b')) w9 (HU.out.below hI.bel) HVQ.out hd HNL.out hlen).mono fun e w' h=>by
      obtain⟨hb,⟨hn,-⟩|⟨s9,tr9,v9,L9',a9,c9,hwk,rfl,ho,-⟩⟩:=h
      ·rw[HSYM.out.1] at hn;cases hn
      ·exact⟨_,rfl,hk ⟨v9,L9',s9,a9,c9,tr9⟩ w' hwk hb ho⟩)
    ·obtain⟨z,d,hk⟩:=hI.mv (hw 6 (by decide))
     replace d:ρ (.tmp 72)=_:=d
     exact gives_val (by go_simp<;>rfl) hk
    ·obtain⟨z,d,hk,-⟩:=hI.ex (hw 7 (by decide))
     replace d:ρ (.tmp 65)= .tuple #[.agg z.cs,.bool true]:=d
     exact gives_val (by go_simp<;>rfl) hk
    ·obtain⟨z,d,-,hk⟩:=hI.ex (hw 7 (by decide))
     replace d:ρ (.tmp 65)= .tuple #[.agg z.cs,.bool true]:=d
     exact gives_val (by go_simp<;>rfl) hk
    ·exact gives_val (by go_simp<;>rfl) (hI.al (hny 10 _ rfl rfl) (hny 11 _ rfl rfl))
    ·obtain⟨z,g,d5,d7,kb,hk⟩:=hI.st (hw 8 (by decide)) (hw 10 (by decide)) (hny 11 _ rfl rfl)
     replace d5:ρ (.tmp 73)=_:=d5
     replace d7:ρ (.tmp 12)=_:=d7
     refine gives_skip (w':=w9.setRow g z.cs) ?_ (hk _)
     simp[execOp,d5,d7,Instr.storeAt,Instr.sureAddr,run_storeVar_row (P:=Tryz.prog) w9 g 40 40 z10 z.cs kb (show(Tryz.prog.info? 40).map (·.size)=some 10 by kernel_rfl) rfl (by simp[Value.oneCell'])]
    ·have d:ρ (.tmp 74)=_:=hI.k9 (hw 9 (by decide))
     exact gives_val (by go_simp<;>rfl) (hI.val 12 _ (.inr (.inr (.inr (.inr (.inr ⟨rfl,rfl⟩))))))
   intro vs9 w7 hlen9 hI
   obtain⟨x0,x1,x2,x3,x4,x5,x6,x7,x8,x9,x10,x11,x12,rfl⟩:∃x0 x1 x2 x3 x4 x5 x6 x7 x8 x9 x10 x11 x12,vs9=[x0,x1,x2,x3,x4,x5,x6,x7,x8,x9,x10,x11,x12]:=by
    match vs9,hlen9 with
    |[x0,x1,x2,x3,x4,x5,x6,x7,x8,x9,x10,x11,x12],_=>exact⟨_,_,_,_,_,_,_,_,_,_,_,_,_,rfl⟩
   have hb:=hI.bel
   obtain⟨-,-,-,-,-,-,-,k12,-,-,-,z,bx,z6,-,-,z10',-,-,z13⟩:=hI
   have hG:=(z6 rfl).2
   rw[HSYM.out.1] at hG
   obtain⟨e1,e2⟩:=Prod.mk.inj (Option.some.inj hG)
   obtain⟨g,e10,rfl⟩:=z10' rfl
   obtain rfl:x10= .pointer (some ⟨g,0,none⟩):=e10
   obtain rfl:x12= .bool true:=k12 rfl
   have hS:=z13 rfl
   obtain⟨ys,yL,yd,ya,yc,ytr⟩:=z
   dsimp only at e1 e2 hS
   subst e1
   have HY:=xH1 hS.rd
   have ky:Blk w7 g #[.slice ys.pl.a ys.pl.n ys.pl.c,.slice ys.st.a ys.st.n ys.st.c,.slice ys.se.a ys.se.n ys.se.c,.slice ys.on.a ys.on.n ys.on.c,.slice ys.gr.a ys.gr.n ys.gr.c,.slice ys.ba.a ys.ba.n ys.ba.c,.slice ys.ch.a ys.ch.n ys.ch.c,.slice ys.sa.a ys.sa.n ys.sa.c,.int .i64 ys.fl,.slice ya ytr.length yc] 40:=hS.fr.blk 1 rfl
   clear hS z13 z10' z6 hG k12 hlen9 e2 HTR HNL
   refine rk_end ?_
   replace HR:=xH1 (HR.out.below hb)
   replace HU:=xH1 (HU.out.below hb)
   replace HSR:=xH1 (HSR.out.below hb)
   replace kp:=kp.below hb
   replace ku:=ku.below hb
   replace kr:=kr.below hb
   replace HB:=xH1 (HB.out.trans (hb.mono HB.out.size))
   clear hb
   have ckp0:=kp.cell 0 rfl
   have ckp1:=kp.cell 1 rfl
   have ckp2:=kp.cell 2 rfl
   have ckp3:=kp.cell 3 rfl
   have ckp4:=kp.cell 4 rfl
   have cku0:=ku.cell 0 rfl
   have cku1:=ku.cell 1 rfl
   have cku2:=ku.cell 2 rfl
   have cku3:=ku.cell 3 rfl
   have cku4:=ku.cell 4 rfl
   have ckr0:=kr.cell 0 rfl
   have ckr1:=kr.cell 1 rfl
   have ckr2:=kr.cell 2 rfl
   have ckr3:=kr.cell 3 rfl
   have ckr4:=kr.cell 4 rfl
   have ckr5:=kr.cell 5 rfl
   have ckr6:=kr.cell 6 rfl
   have ckr7:=kr.cell 7 rfl
   have ckr8:=kr.cell 8 rfl
   have ckr9:=kr.cell 9 rfl
   have cky0:=ky.cell 0 rfl
   have cky1:=ky.cell 1 rfl
   have cky2:=ky.cell 2 rfl
   have cky3:=ky.cell 3 rfl
   have cky4:=ky.cell 4 rfl
   have cky5:=ky.cell 5 rfl
   have cky6:=ky.cell 6 rfl
   have cky7:=ky.cell 7 rfl
   have cky8:=ky.cell 8 rfl
   have cky9:=ky.cell 9 rfl
   go_wp2_with fail
   refine(implSwapThreads_any u q a' b' _ HU.out HZU.out).mono ?_
   rintro e w8 ⟨z,zs,rfl,o8,nd8,fr8,hb⟩
   rw[HBK.out] at o8⊢
   simp only[Option.isSome_some,Option.getD_some] at o8⊢
   have HB8:=xH1 o8.rd
   clear o8 nd8 fr8
   replace HR:=xH1 (HR.out.below hb)
   replace HU:=xH1 (HU.out.below hb)
   replace HSR:=xH1 (HSR.out.below hb)
   replace HY:=xH1 (HY.out.below hb)
   replace kp:=kp.below hb
   replace ku:=ku.below hb
   replace kr:=kr.below hb
   replace ky:=ky.below hb
   replace HB:=xH1 (HB.out.trans (hb.mono HB.out.size))
   clear hb
   clear ckp0 ckp1 ckp2 ckp3 ckp4 cku0 cku1 cku2 cku3 cku4 ckr0 ckr1 ckr2 ckr3 ckr4 ckr5 ckr6 ckr7 ckr8 ckr9 cky0 cky1 cky2 cky3 cky4 cky5 cky6 cky7 cky8 cky9
   have bb:Below w8.heap.size w8 (w8.alloc (.cells #[.slice z.s z.ns z.cs,.slice z.g z.ng z.cg,.slice z.b z.nb z.cb,.slice z.r z.nr z.cr,.slice z.t z.nt z.ct] 26)):=xA1
   have kb:Blk (w8.alloc (.cells #[.slice z.s z.ns z.cs,.slice z.g z.ng z.cg,.slice z.b z.nb z.cb,.slice z.r z.nr z.cr,.slice z.t z.nt z.ct] 26)) w8.heap.size #[.slice z.s z.ns z.cs,.slice z.g z.ng z.cg,.slice z.b z.nb z.cb,.slice z.r z.nr z.cr,.slice z.t z.nt z.ct] 26:=Blk.new _ _ _
   replace HR:=xH1 (HR.out.below bb)
   replace HU:=xH1 (HU.out.below bb)
   replace HSR:=xH1 (HSR.out.below bb)
   replace HY:=xH1 (HY.out.below bb)
   replace HB8:=xH1 (HB8.out.below bb)
   replace kp:=kp.below bb
   replace ku:=ku.below bb
   replace kr:=kr.below bb
   replace ky:=ky.below bb
   replace HB:=xH1 (HB.out.trans (bb.mono HB.out.size))
   clear bb
   have ckp0:=kp.cell 0 rfl
   have ckp1:=kp.cell 1 rfl
   have ckp2:=kp.cell 2 rfl
   have ckp3:=kp.cell 3 rfl
   have ckp4:=kp.cell 4 rfl
   have cku0:=ku.cell 0 rfl
   have cku1:=ku.cell 1 rfl
   have cku2:=ku.cell 2 rfl
   have cku3:=ku.cell 3 rfl
   have cku4:=ku.cell 4 rfl
   have ckr0:=kr.cell 0 rfl
   have ckr1:=kr.cell 1 rfl
   have ckr2:=kr.cell 2 rfl
   have ckr3:=kr.cell 3 rfl
   have ckr4:=kr.cell 4 rfl
   have ckr5:=kr.cell 5 rfl
   have ckr6:=kr.cell 6 rfl
   have ckr7:=kr.cell 7 rfl
   have ckr8:=kr.cell 8 rfl
   have ckr9:=kr.cell 9 rfl
   have cky0:=ky.cell 0 rfl
   have cky1:=ky.cell 1 rfl
   have cky2:=ky.cell 2 rfl
   have cky3:=ky.cell 3 rfl
   have cky4:=ky.cell 4 rfl
   have cky5:=ky.cell 5 rfl
   have cky6:=ky.cell 6 rfl
   have cky7:=ky.cell 7 rfl
   have cky8:=ky.cell 8 rfl
   have cky9:=ky.cell 9 rfl
   have ckb0:=kb.cell 0 rfl
   have ckb1:=kb.cell 1 rfl
   have ckb2:=kb.cell 2 rfl
   have ckb3:=kb.cell 3 rfl
   have ckb4:=kb.cell 4 rfl
   go_wp2_with fail
   clear ckp0 ckp1 ckp2 ckp3 ckp4 cku0 cku1 cku2 cku3 cku4 ckr0 ckr1 ckr2 ckr3 ckr4 ckr5 ckr6 ckr7 ckr8 ckr9 cky0 cky1 cky2 cky3 cky4 cky5 cky6 cky7 cky8 cky9 ckb0 ckb1 ckb2 ckb3 ckb4
   obtain⟨w9,hnm⟩:∃x,x=(w8.alloc (.cells #[.slice z.s z.ns z.cs,.slice z.g z.ng z.cg,.slice z.b z.nb z.cb,.slice z.r z.nr z.cr,.slice z.t z.nt z.ct] 26)):=⟨_,rfl⟩
   rw[←hnm] at HR HU HSR HY HB8 kp ku kr ky kb HB⊢
   clear hnm
   have TW:=xH1 HSYM.out.2.1
   have RN:=xH1 HSYM.out.2.2.1
   have RNY:Hid (Run q (symS a' b' s)):=xH1 (by have h:=sym_run HSYM.out.1 HVQ.out;exact h)
   have ES:=xH1 (endS_sym TW.out)
   obtain⟨E,hE⟩:∃E,E=endS s:=⟨_,rfl⟩
   have HE:=xH1 hE
   clear hE
   have cV:Hid (∀d os,Calls Tryz.prog 11 #[.agg #[.slice u.s u.ns u.cs,.slice u.g u.ng u.cg,.slice u.b u.nb u.cb,.slice u.r u.nr u.cr,.slice u.t u.nt u.ct]] (grow (redrawn w9 d) os) fun e w''=>e= .returned (.bool true)∧∃p:Regrown,w''=grow (redrawn w9 p.d) p.os):=xH1 (fun d os=>Calls.regrown_of (by have:=implProgValid_any u q (grow (redrawn w9 d) os) (HU.out.below (below_regrown _ _ _)) HZU.out;rw[HVQ.out] at this;exact this))
   have cW:Hid (∀d os,Calls Tryz.prog 12 #[.slice ys.sa.a ys.sa.n ys.sa.c,.slice sv.sa.a sv.sa.n sv.sa.c] (grow (redrawn w9 d) os) fun e w''=>e= .returned (.bool true)∧∃p:Regrown,w''=grow (redrawn w9 p.d) p.os):=xH1 (fun d os=>Calls.regrown_of (by have h1:=(HY.out.below (below_regrown w9 d os)).sa;have h2:=(HSR.out.below (below_regrown w9 d os)).sa;exact wkInts_eq2 _ _ _ _ _ _ s.said _ (by rw[h1.len,h2.len];rfl) (by have:=RN.out.fits.nsa;rw[h2.len];omega) h2.len.symm h1.rd h2.rd))
   have cX:Hid (∀d os,Calls Tryz.prog 13 #[.agg #[.slice u.s u.ns u.cs,.slice u.g u.ng u.cg,.slice u.b u.nb u.cb,.slice u.r u.nr u.cr,.slice u.t u.nt u.ct],.agg #[.slice ys.pl.a ys.pl.n ys.pl.c,.slice ys.st.a ys.st.n ys.st.c,.slice ys.se.a ys.se.n ys.se.c,.slice ys.on.a ys.on.n ys.on.c,.slice ys.gr.a ys.gr.n ys.gr.c,.slice ys.ba.a ys.ba.n ys.ba.c,.slice ys.ch.a ys.ch.n ys.ch.c,.slice ys.sa.a ys.sa.n ys.sa.c,.int .i64 ys.fl]] (grow (redrawn w9 d) os) fun e w''=>e= .returned (.string E)∧∃p:Regrown,w''=grow (redrawn w9 p.d) p.os):=xH1 (fun d os=>Calls.regrown_of (by have h:=implEndOf_ok u q ys yL _ (grow (redrawn w9 d) os) (HU.out.below (below_regrown _ _ _)) (HY.out.below (below_regrown _ _ _)) RNY.out.fits;rw[ES.out,←HE.out] at h;exact h))
   have cP:Hid (∀d os,Calls Tryz.prog 13 #[.agg #[.slice v.s v.ns v.cs,.slice v.g v.ng v.cg,.slice v.b v.nb v.cb,.slice v.r v.nr v.cr,.slice v.t v.nt v.ct],.agg #[.slice sv.pl.a sv.pl.n sv.pl.c,.slice sv.st.a sv.st.n sv.st.c,.slice sv.se.a sv.se.n sv.se.c,.slice sv.on.a sv.on.n sv.on.c,.slice sv.gr.a sv.gr.n sv.gr.c,.slice sv.ba.a sv.ba.n sv.ba.c,.slice sv.ch.a sv.ch.n sv.ch.c,.slice sv.sa.a sv.sa.n sv.sa.c,.int .i64 sv.fl]] (grow (redrawn w9 d) os) fun e w''=>e= .returned (.string E)∧∃p:Regrown,w''=grow (redrawn w9 p.d) p.os):=xH1 (fun d os=>Calls.regrown_of (by have h:=implEndOf_ok v p sv L s (grow (redrawn w9 d) os) (HR.out.below (below_regrown _ _ _)) (HSR.out.below (below_regrown _ _ _)) RN.out.fits;rw[←HE.out] at h;exact h))
   have cB:Hid (∀d os,Calls Tryz.prog 7 #[.agg #[.slice z.s z.ns z.cs,.slice z.g z.ng z.cg,.slice z.b z.nb z.cb,.slice z.r z.nr z.cr,.slice z.t z.nt z.ct],.agg #[.slice v.s v.ns v.cs,.slice v.g v.ng v.cg,.slice v.b v.nb v.cb,.slice v.r v.nr v.cr,.slice v.t v.nt v.ct]] (grow (redrawn w9 d) os) fun e w''=>e= .returned (.bool true)∧∃p:Regrown,w''=grow (redrawn w9 p.d) p.os):=xH1 (fun d os=>Calls.regrown_of (by have h:=implProgSame_any z v p p (grow (redrawn w9 d) os) (HB8.out.below (below_regrown _ _ _)) (HR.out.below (below_regrown _ _ _)) (valid_Small HV.out HB8.out);rw[decide_eq_true (rfl:p=p)] at h;exact h))
   have ckp0:=kp.cell 0 rfl
   have ckp1:=kp.cell 1 rfl
   have ckp2:=kp.cell 2 rfl
   have ckp3:=kp.cell 3 rfl
   have ckp4:=kp.cell 4 rfl
   have cku0:=ku.cell 0 rfl
   have cku1:=ku.cell 1 rfl
   have cku2:=ku.cell 2 rfl
   have cku3:=ku.cell 3 rfl
   have cku4:=ku.cell 4 rfl
   have ckr0:=kr.cell 0 rfl
   have ckr1:=kr.cell 1 rfl
   have ckr2:=kr.cell 2 rfl
   have ckr3:=kr.cell 3 rfl
   have ckr4:=kr.cell 4 rfl
   have ckr5:=kr.cell 5 rfl
   have ckr6:=kr.cell 6 rfl
   have ckr7:=kr.cell 7 rfl
   have ckr8:=kr.cell 8 rfl
   have ckr9:=kr.cell 9 rfl
   have cky0:=ky.cell 0 rfl
   have cky1:=ky.cell 1 rfl
   have cky2:=ky.cell 2 rfl
   have cky3:=ky.cell 3 rfl
   have cky4:=ky.cell 4 rfl
   have cky5:=ky.cell 5 rfl
   have cky6:=ky.cell 6 rfl
   have cky7:=ky.cell 7 rfl
   have cky8:=ky.cell 8 rfl
   have cky9:=ky.cell 9 rfl
   have ckb0:=kb.cell 0 rfl
   have ckb1:=kb.cell 1 rfl
   have ckb2:=kb.cell 2 rfl
   have ckb3:=kb.cell 3 rfl
   have ckb4:=kb.cell 4 rfl
   have rckp0:=cell_regrown ckp0
   have rckp1:=cell_regrown ckp1
   have rckp2:=cell_regrown ckp2
   have rckp3:=cell_regrown ckp3
   have rckp4:=cell_regrown ckp4
   have rcku0:=cell_regrown cku0
   have rcku1:=cell_regrown cku1
   have rcku2:=cell_regrown cku2
   have rcku3:=cell_regrown cku3
   have rcku4:=cell_regrown cku4
   have rckr0:=cell_regrown ckr0
   have rckr1:=cell_regrown ckr1
   have rckr2:=cell_regrown ckr2
   have rckr3:=cell_regrown ckr3
   have rckr4:=cell_regrown ckr4
   have rckr5:=cell_regrown ckr5
   have rckr6:=cell_regrown ckr6
   have rckr7:=cell_regrown ckr7
   have rckr8:=cell_regrown ckr8
   have rckr9:=cell_regrown ckr9
   have rcky0:=cell_regrown cky0
   have rcky1:=cell_regrown cky1
   have rcky2:=cell_regrown cky2
   have rcky3:=cell_regrown cky3
   have rcky4:=cell_regrown cky4
   have rcky5:=cell_regrown cky5
   have rcky6:=cell_regrown cky6
   have rcky7:=cell_regrown cky7
   have rcky8:=cell_regrown cky8
   have rcky9:=cell_regrown cky9
   have rckb0:=cell_regrown ckb0
   have rckb1:=cell_regrown ckb1
   have rckb2:=cell_regrown ckb2
   have rckb3:=cell_regrown ckb3
   have rckb4:=cell_regrown ckb4
   have te:=eqlStr E
   have tg:=guardStr E
   skip
   refine wp_region_quiet_below (by kernel_rfl) (by kernel_rfl) ?_
   repeat (go_big_quiet_step (first|(with_reducible exact cV.out _ _)|(with_reducible exact cW.out _ _)|(with_reducible exact cX.out _ _)|(with_reducible exact cP.out _ _)|(with_reducible exact cB.out _ _)))
   refine wpQuiet_nil ?_
   intro w6 hw6
   have hbq:Below w9.heap.size w9 w6:=by
    obtain⟨pq,rfl⟩:=hw6
    exact below_regrown _ _ _
   clear hw6
   have HB6:=xH1 (HB.out.trans (hbq.mono HB.out.size))
   go_wp2
   go_ret
   exact⟨rfl,HB6.out⟩
 ·go_enter Tryz.func3,Tryz.ntmps3
  go_wp2
  go_ret
  exact⟨rfl,Below.refl _ _⟩
end Go.Proofs.YtjmpejaifmopnaaGreat
