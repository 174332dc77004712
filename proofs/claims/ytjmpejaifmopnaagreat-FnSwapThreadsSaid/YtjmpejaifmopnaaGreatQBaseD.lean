/- Part of a proof: BaseD. -/
import Derived.Deep.Cut
import Derived.Lib.SliceRun
import Derived.ArgAppend
import Derived.Deep.RegionLaw
import Derived.Test.YtjmpejaifmopnaaGreatQBaseC
set_option maxRecDepth 100000
set_option maxHeartbeats 16000000
namespace Go.Proofs.YtjmpejaifmopnaaGreat
open Go.RowKit
theorem grown_of_below {w w':World} (hb:Below w.heap.size w w') (row:Option Nat):w.grownBy w' row:=
 grown_new (grown_trans (row:=row) ⟨rfl,rfl,rfl,Nat.le_refl _,fun _ _ _=>rfl⟩ ⟨rfl,rfl,rfl,Nat.le_refl _,fun _ _ _=>rfl⟩) (row':=none) ⟨hb.os,hb.tape,hb.output,hb.size,fun k hk _=>hb.block k hk⟩ (fun i e=>by cases e)
theorem OwnP.drawn {w w':World} {v:PV} {vs:List Value} {C:Cells} {R:Nat} (h:OwnP w v vs C) (hg:w.grownBy w' (some R)) (hR:R∉fpP v vs):OwnP w' v vs C:=
 h.keep fun k hk hl=>hg.block k hl (fun e=>by cases e;exact hR hk)
theorem num_new (R:Nat) (a:Option Addr) (n c:Nat) (bs:List Int) (p:Int) (m:Nat) (xs:List Int) (w:World) (h:Rdr w R a n c bs p) (hp:p≤1099511627776) (hl:xs.length=m) (hm:1≤m) (hm2:m≤1000) (g:Nat) (hg:g=w.heap.size) (cs:Array Value) (hcs:cs=(ints xs).toArray):
  Calls Tryz.prog 36 #[.pointer (some ⟨R,0,none⟩),.slice (some ⟨g,0,none⟩) m m] (w.alloc (.cells cs 3)) fun e w'=>
   ∃v:Int,e= .returned (.int .i64 v)∧v∈xs∧Rdr w' R a n c bs (p+1)∧w.grownBy w' (some R)∧w.heap.size≤w'.heap.size:=by
 subst hg hcs
 have hb:Below w.heap.size w (w.alloc (.cells (ints xs).toArray 3)):=xA1
 refine(num_any R a n c bs p w.heap.size m m xs _ (h.below hb) hp hl hm hm2 (by simpa using Rd.of_blk (Blk.new w (ints xs).toArray 3)) (by have:=h.lt;omega)).mono ?_
 rintro e w' ⟨v,rfl,hv,hr,hg,hs⟩
 exact⟨v,rfl,hv,hr,grown_trans (grown_of_below hb _) hg,Nat.le_trans hb.size hg.size⟩
theorem l6Op_any (R:Nat) (a:Option Addr) (n c:Nat) (bs:List Int) (pos:Int) (v:PV) (vs:List Value) (p:Pg) (w:World) (h:Rdr w R a n c bs pos) (hp:pos≤1099511627000) (hO:OwnP w v vs p.cells) (hR:R∉fpP v vs) (hz:Small v p):
  Calls Tryz.prog 59 #[.pointer (some ⟨R,0,none⟩),.agg #[.slice v.s v.ns v.cs,.slice v.g v.ng v.cg,.slice v.b v.nb v.cb,.slice v.r v.nr v.cr,.slice v.t v.nt v.ct]] w fun e w'=>∃(o:OpD) (pos':Int),e= .returned (.agg #[.int .i64 o.kind,.int .i64 o.on,.int .i64 o.arg])∧(1≤o.kind∧o.kind≤10∧0≤o.on∧o.on≤3∧-99≤o.arg∧o.arg≤99)∧Rdr w' R a n c bs pos'∧pos'≤pos+4∧w.grownBy w' (some R):=by
 have hzz:v.ns≤maxLen∧v.ng≤maxLen∧v.nb≤maxLen∧v.nr≤maxLen:=by
  obtain⟨z1,z2,z3,z4,z5,z6⟩:=hz;unfold maxLen;omega
 have HZZ:=xH1 hzz
 have HOO:=xH1 hO
 have HRR:=xH1 hR
 have hRw:=h.lt
 obtain⟨W0,hW0⟩:∃W0:World,W0=(w.alloc (.cells #[.slice v.s v.ns v.cs,.slice v.g v.ng v.cg,.slice v.b v.nb v.cb,.slice v.r v.nr v.cr,.slice v.t v.nt v.ct] 26)).alloc (.cells #[.int .i64 0,.int .i64 0,.int .i64 0] 58):=⟨_,rfl⟩
 have b0:Below w.heap.size w W0:=by rw[hW0];exact(xA1).alloc (by simp) _
 have kP:Blk W0 w.heap.size #[.slice v.s v.ns v.cs,.slice v.g v.ng v.cg,.slice v.b v.nb v.cb,.slice v.r v.nr v.cr,.slice v.t v.nt v.ct] 26:=by rw[hW0];exact(Blk.new _ _ _).alloc _
 have kZ:Blk W0 (w.heap.size+1) #[.int .i64 0,.int .i64 0,.int .i64 0] 58:=by rw[hW0];simpa using Blk.new (w.alloc (.cells #[.slice v.s v.ns v.cs,.slice v.g v.ng v.cg,.slice v.b v.nb v.cb,.slice v.r v.nr v.cr,.slice v.t v.nt v.ct] 26)) #[.int .i64 0,.int .i64 0,.int .i64 0] 58
 have hs0:W0.heap.size=w.heap.size+1+1:=by rw[hW0];simp
 have h0:=h.below b0
 have HB0:=xH1 b0
 clear hzz hO hR hz b0 h
 go_enter Tryz.func59,Tryz.ntmps59
 go_wp2_with fail
 rw[←hW0]
 refine(num_new R a n c bs pos 13 [1,2,3,4,5,6,7,8,9,10,1,2,3] W0 h0 (by omega) rfl (by omega) (by omega) _ (by omega) _ rfl).mono ?_
 rintro e w1 ⟨K,rfl,hK,h1,g1,s1⟩
 have hP1:=HOO.out.below HB0.out
 have hP2:=hP1.drawn g1 HRR.out
 have kP1:=kP.grown g1 (by simp;omega)
 have kZ1:=kZ.grown g1 (by simp;omega)
 have G1:=grown_trans (grown_of_below HB0.out (some R)) g1
 have HG1:=xH1 G1
 have HP2:=xH1 hP2
 clear hP1 hP2 kP kZ h0 g1 G1 hW0
 go_wp2_with fail
 refine(pick_some R a n c bs (pos+1) 3 w1 h1 (by omega) (by omega)).mono ?_
 rintro e w2 ⟨y,rfl,hy,h2,g2,hs2⟩
 have s2:=hs2.out
 have hP3:=HP2.out.drawn g2 HRR.out
 have kP2:=kP1.grown g2 (by simp;omega)
 have kZ2:=kZ1.grown g2 (by simp;omega)
 have HG2:=xH1 (grown_trans HG1.out g2)
 have HP3:=xH1 hP3
 have HK:Hid ((K=1∨K=4∨K=8)∨(K=2∨K=3)∨K=5∨K=6∨K=7∨K=9∨K=10):=xH1 (by simp only[List.mem_cons,List.not_mem_nil,or_false] at hK;omega)
 have HKB:Hid (1≤K∧K≤10):=xH1 (by have:=HK.out;omega)
 have hO1:w1.heap.size=w2.heap.size:=s2.symm
 obtain⟨W,hW⟩:∃W:World,W=w2.alloc (.cells #[.int .i64 K,.int .i64 (y:Int),.int .i64 0] 58):=⟨_,rfl⟩
 have bo:Below w2.heap.size w2 W:=by rw[hW];exact xA1
 have KO:Blk W w1.heap.size #[.int .i64 K,.int .i64 (y:Int),.int .i64 0] 58:=by rw[hW,hO1];exact Blk.new _ _ _
 have KP:=kP2.below bo
 have KZ:=kZ2.below bo
 have OW:=HP3.out.below bo
 have GG:=grown_trans HG2.out (grown_of_below bo _)
 have RD:=h2.below bo
 clear hP3 kP1 kZ1 h1 g2 hK bo h2 kP2 kZ2 hO1
 go_upto_region 2 with fail
 rw[←hW]
 clear hW
 have hps:pos+1+1≤pos+3:=by omega
 rcases HK.out with h|h|h
 all_goals clear HK
 focus
  rcases h with rfl|rfl|rfl
  all_goals
   have e0:=KP.cell 0 rfl
   have e1:=KP.cell 1 rfl
   have e2:=KP.cell 2 rfl
   have e3:=KP.cell 3 rfl
   have e4:=KP.cell 4 rfl
   have c0:=KO.cell 0 rfl
   have c1:=KO.cell 1 rfl
   have c2:=KO.cell 2 rfl
   go_wp2_with fail
   refine(num_new R a n c bs _ 4 [7,1,2,99] _ RD (by omega) rfl (by omega) (by omega) _ (by first|omega|simp) _ rfl).mono ?_
   rintro e w3 ⟨A,rfl,hA,h3,g3,s3⟩
   have HAB:Hid (-99≤A∧A≤99):=xH1 (by simp only[List.mem_cons,List.not_mem_nil,or_false] at hA;omega)
   replace KO:=KO.grown g3 (by simp;omega)
   replace KP:=KP.grown g3 (by simp;omega)
   replace KZ:=KZ.grown g3 (by simp;omega)
   replace OW:=OW.drawn g3 HRR.out
   replace GG:=grown_trans GG g3
   have RD2:=h3
   clear RD hA g3 h3
   have RD:=RD2
   clear RD2
   obtain⟨K,HKB,KO⟩:∃K:Int,Hid (1≤K∧K≤10)∧Blk w3 w1.heap.size #[.int .i64 K,.int .i64 (y:Int),.int .i64 0] 58:=⟨_,HKB,KO⟩
   have fo:=KO.fz 2
   have co:=KO.cell 2 rfl
   have gs:=grown_set w3 w1.heap.size 2 (.int .i64 A)
   have KO2:Blk (w3.setCell ⟨w1.heap.size,2,none⟩ (.int .i64 A)) w1.heap.size #[.int .i64 K,.int .i64 (y:Int),.int .i64 A] 58:=by simpa using KO.set 2 (.int .i64 A)
   replace KP:=KP.other ⟨w1.heap.size,2,none⟩ (.int .i64 A) (by simp;omega)
   replace KZ:=KZ.other ⟨w1.heap.size,2,none⟩ (.int .i64 A) (by simp;omega)
   replace OW:OwnP (w3.setCell ⟨w1.heap.size,2,none⟩ (.int .i64 A)) v vs p.cells:=OW.keep (fun k hk hl=>gs.block k hl (fun e=>by cases e;have:=HOO.out.lt _ hk;omega))
   replace GG:=grown_new GG gs (fun i e=>by cases e;omega)
   replace RD:=RD.gr gs (fun i e=>by cases e;omega)
   clear KO gs
   have KO:=KO2
   clear KO2 c0 c1 c2 e0 e1 e2 e3 e4
   have e0:=KP.cell 0 rfl
   have e1:=KP.cell 1 rfl
   have e2:=KP.cell 2 rfl
   have e3:=KP.cell 3 rfl
   have e4:=KP.cell 4 rfl
   have c0:=KO.cell 0 rfl
   have c1:=KO.cell 1 rfl
   have c2:=KO.cell 2 rfl
   go_wp2_with fail
   refine(specOpValid_any v p ⟨_,(y:Int),A⟩ _ OW.rd HZZ.out).mono ?_
   rintro e w5 ⟨rfl,b5⟩
   replace KP:=KP.below b5
   replace KO:=KO.below b5
   replace KZ:=KZ.below b5
   replace OW:=OW.below b5
   replace GG:=grown_trans GG (grown_of_below b5 _)
   replace RD:=RD.below b5
   generalize hov:opValid p _=ov
   obtain⟨K,A,HKB,HAB,hov',KO⟩:∃K A:Int,Hid (1≤K∧K≤10)∧Hid (-99≤A∧A≤99)∧opValid p ⟨K,(y:Int),A⟩=ov∧Blk w5 w1.heap.size #[.int .i64 K,.int .i64 (y:Int),.int .i64 A] 58:=⟨_,_,HKB,HAB,hov,KO⟩
   obtain⟨ps,hq,RD⟩:∃q,q≤pos+3∧Rdr w5 R a n c bs q:=⟨_,by omega,RD⟩
   clear b5 e0 e1 e2 e3 e4 c0 c1 c2
   clear fo co s3
 rotate_left 3
 focus
  rcases h with rfl|rfl
  all_goals
   have e0:=KP.cell 0 rfl
   have e1:=KP.cell 1 rfl
   have e2:=KP.cell 2 rfl
   have e3:=KP.cell 3 rfl
   have e4:=KP.cell 4 rfl
   have c0:=KO.cell 0 rfl
   have c1:=KO.cell 1 rfl
   have c2:=KO.cell 2 rfl
   go_wp2_with fail
   refine(num_new R a n c bs _ 3 [1,1,2] _ RD (by omega) rfl (by omega) (by omega) _ (by first|omega|simp) _ rfl).mono ?_
   rintro e w3 ⟨A,rfl,hA,h3,g3,s3⟩
   have HAB:Hid (-99≤A∧A≤99):=xH1 (by simp only[List.mem_cons,List.not_mem_nil,or_false] at hA;omega)
   replace KO:=KO.grown g3 (by simp;omega)
   replace KP:=KP.grown g3 (by simp;omega)
   replace KZ:=KZ.grown g3 (by simp;omega)
   replace OW:=OW.drawn g3 HRR.out
   replace GG:=grown_trans GG g3
   have RD2:=h3
   clear RD hA g3 h3
   have RD:=RD2
   clear RD2
   obtain⟨K,HKB,KO⟩:∃K:Int,Hid (1≤K∧K≤10)∧Blk w3 w1.heap.size #[.int .i64 K,.int .i64 (y:Int),.int .i64 0] 58:=⟨_,HKB,KO⟩
   have fo:=KO.fz 2
   have co:=KO.cell 2 rfl
   have gs:=grown_set w3 w1.heap.size 2 (.int .i64 A)
   have KO2:Blk (w3.setCell ⟨w1.heap.size,2,none⟩ (.int .i64 A)) w1.heap.size #[.int .i64 K,.int .i64 (y:Int),.int .i64 A] 58:=by simpa using KO.set 2 (.int .i64 A)
   replace KP:=KP.other ⟨w1.heap.size,2,none⟩ (.int .i64 A) (by simp;omega)
   replace KZ:=KZ.other ⟨w1.heap.size,2,none⟩ (.int .i64 A) (by simp;omega)
   replace OW:OwnP (w3.setCell ⟨w1.heap.size,2,none⟩ (.int .i64 A)) v vs p.cells:=OW.keep (fun k hk hl=>gs.block k hl (fun e=>by cases e;have:=HOO.out.lt _ hk;omega))
   replace GG:=grown_new GG gs (fun i e=>by cases e;omega)
   replace RD:=RD.gr gs (fun i e=>by cases e;omega)
   clear KO gs
   have KO:=KO2
   clear KO2 c0 c1 c2 e0 e1 e2 e3 e4
   have e0:=KP.cell 0 rfl
   have e1:=KP.cell 1 rfl
   have e2:=KP.cell 2 rfl
   have e3:=KP.cell 3 rfl
   have e4:=KP.cell 4 rfl
   have c0:=KO.cell 0 rfl
   have c1:=KO.cell 1 rfl
   have c2:=KO.cell 2 rfl
   go_wp2_with fail
   refine(specOpValid_any v p ⟨_,(y:Int),A⟩ _ OW.rd HZZ.out).mono ?_
   rintro e w5 ⟨rfl,b5⟩
   replace KP:=KP.below b5
   replace KO:=KO.below b5
   replace KZ:=KZ.below b5
   replace OW:=OW.below b5
   replace GG:=grown_trans GG (grown_of_below b5 _)
   replace RD:=RD.below b5
   generalize hov:opValid p _=ov
   obtain⟨K,A,HKB,HAB,hov',KO⟩:∃K A:Int,Hid (1≤K∧K≤10)∧Hid (-99≤A∧A≤99)∧opValid p ⟨K,(y:Int),A⟩=ov∧Blk w5 w1.heap.size #[.int .i64 K,.int .i64 (y:Int),.int .i64 A] 58:=⟨_,_,HKB,HAB,hov,KO⟩
   obtain⟨ps,hq,RD⟩:∃q,q≤pos+3∧Rdr w5 R a n c bs q:=⟨_,by omega,RD⟩
   clear b5 e0 e1 e2 e3 e4 c0 c1 c2
   clear fo co s3
 rotate_left 2
 rcases h with rfl|h
 focus
  have e0:=KP.cell 0 rfl
  have e1:=KP.cell 1 rfl
  have e2:=KP.cell 2 rfl
  have e3:=KP.cell 3 rfl
  have e4:=KP.cell 4 rfl
  have c0:=KO.cell 0 rfl
  have c1:=KO.cell 1 rfl
  have c2:=KO.cell 2 rfl
  go_wp2_with fail
  refine(num_new R a n c bs _ 3 [-1,1,-2] _ RD (by omega) rfl (by omega) (by omega) _ (by first|omega|simp) _ rfl).mono ?_
  rintro e w3 ⟨A,rfl,hA,h3,g3,s3⟩
  have HAB:Hid (-99≤A∧A≤99):=xH1 (by simp only[List.mem_cons,List.not_mem_nil,or_false] at hA;omega)
  replace KO:=KO.grown g3 (by simp;omega)
  replace KP:=KP.grown g3 (by simp;omega)
  replace KZ:=KZ.grown g3 (by simp;omega)
  replace OW:=OW.drawn g3 HRR.out
  replace GG:=grown_trans GG g3
  have RD2:=h3
  clear RD hA g3 h3
  have RD:=RD2
  clear RD2
  obtain⟨K,HKB,KO⟩:∃K:Int,Hid (1≤K∧K≤10)∧Blk w3 w1.heap.size #[.int .i64 K,.int .i64 (y:Int),.int .i64 0] 58:=⟨_,HKB,KO⟩
  have fo:=KO.fz 2
  have co:=KO.cell 2 rfl
  have gs:=grown_set w3 w1.heap.size 2 (.int .i64 A)
  have KO2:Blk (w3.setCell ⟨w1.heap.size,2,none⟩ (.int .i64 A)) w1.heap.size #[.int .i64 K,.int .i64 (y:Int),.int .i64 A] 58:=by simpa using KO.set 2 (.int .i64 A)
  replace KP:=KP.other ⟨w1.heap.size,2,none⟩ (.int .i64 A) (by simp;omega)
  replace KZ:=KZ.other ⟨w1.heap.size,2,none⟩ (.int .i64 A) (by simp;omega)
  replace OW:OwnP (w3.setCell ⟨w1.heap.size,2,none⟩ (.int .i64 A)) v vs p.cells:=OW.keep (fun k hk hl=>gs.block k hl (fun e=>by cases e;have:=HOO.out.lt _ hk;omega))
  replace GG:=grown_new GG gs (fun i e=>by cases e;omega)
  replace RD:=RD.gr gs (fun i e=>by cases e;omega)
  clear KO gs
  have KO:=KO2
  clear KO2 c0 c1 c2 e0 e1 e2 e3 e4
  have e0:=KP.cell 0 rfl
  have e1:=KP.cell 1 rfl
  have e2:=KP.cell 2 rfl
  have e3:=KP.cell 3 rfl
  have e4:=KP.cell 4 rfl
  have c0:=KO.cell 0 rfl
  have c1:=KO.cell 1 rfl
  have c2:=KO.cell 2 rfl
  go_wp2_with fail
  refine(specOpValid_any v p ⟨_,(y:Int),A⟩ _ OW.rd HZZ.out).mono ?_
  rintro e w5 ⟨rfl,b5⟩
  replace KP:=KP.below b5
  replace KO:=KO.below b5
  replace KZ:=KZ.below b5
  replace OW:=OW.below b5
  replace GG:=grown_trans GG (grown_of_below b5 _)
  replace RD:=RD.below b5
  generalize hov:opValid p _=ov
  obtain⟨K,A,HKB,HAB,hov',KO⟩:∃K A:Int,Hid (1≤K∧K≤10)∧Hid (-99≤A∧A≤99)∧opValid p ⟨K,(y:Int),A⟩=ov∧Blk w5 w1.heap.size #[.int .i64 K,.int .i64 (y:Int),.int .i64 A] 58:=⟨_,_,HKB,HAB,hov,KO⟩
  obtain⟨ps,hq,RD⟩:∃q,q≤pos+3∧Rdr w5 R a n c bs q:=⟨_,by omega,RD⟩
  clear b5 e0 e1 e2 e3 e4 c0 c1 c2
  clear fo co s3
 rotate_left
 focus
  rcases h with rfl|rfl|rfl|rfl
  all_goals
   have HAB:Hid (-99≤(0:Int)∧(0:Int)≤99):=xH1 (by omega)
   have e0:=KP.cell 0 rfl
   have e1:=KP.cell 1 rfl
   have e2:=KP.cell 2 rfl
   have e3:=KP.cell 3 rfl
   have e4:=KP.cell 4 rfl
   have c0:=KO.cell 0 rfl
   have c1:=KO.cell 1 rfl
   have c2:=KO.cell 2 rfl
   go_wp2_with fail
   refine(specOpValid_any v p ⟨_,(y:Int),0⟩ _ OW.rd HZZ.out).mono ?_
   rintro e w5 ⟨rfl,b5⟩
   replace KP:=KP.below b5
   replace KO:=KO.below b5
   replace KZ:=KZ.below b5
   replace OW:=OW.below b5
   replace GG:=grown_trans GG (grown_of_below b5 _)
   replace RD:=RD.below b5
   generalize hov:opValid p _=ov
   obtain⟨K,A,HKB,HAB,hov',KO⟩:∃K A:Int,Hid (1≤K∧K≤10)∧Hid (-99≤A∧A≤99)∧opValid p ⟨K,(y:Int),A⟩=ov∧Blk w5 w1.heap.size #[.int .i64 K,.int .i64 (y:Int),.int .i64 A] 58:=⟨_,_,HKB,HAB,hov,KO⟩
   obtain⟨ps,hq,RD⟩:∃q,q≤pos+3∧Rdr w5 R a n c bs q:=⟨_,by omega,RD⟩
   clear b5 e0 e1 e2 e3 e4 c0 c1 c2
 all_goals
  have HD:w.heap.size+1≠w1.heap.size∧w.heap.size≠w1.heap.size:=by omega
  cases ov with
  |true=>
   have HV:=xH1 hov'
   have e0:=KP.cell 0 rfl
   have e1:=KP.cell 1 rfl
   have e2:=KP.cell 2 rfl
   have e3:=KP.cell 3 rfl
   have e4:=KP.cell 4 rfl
   have c0:=KO.cell 0 rfl
   have c1:=KO.cell 1 rfl
   have c2:=KO.cell 2 rfl
   go_wp2_with fail
   refine(specOpValid_any v p ⟨K,(y:Int),A⟩ _ OW.rd HZZ.out).mono ?_
   rintro e w6 ⟨rfl,b5⟩
   replace KP:=KP.below b5
   replace KO:=KO.below b5
   replace KZ:=KZ.below b5
   replace OW:=OW.below b5
   replace GG:=grown_trans GG (grown_of_below b5 _)
   replace RD:=RD.below b5
   clear b5
   rw[HV.out]
   clear e0 e1 e2 e3 e4 c0 c1 c2
   have e0:=KP.cell 0 rfl
   have e1:=KP.cell 1 rfl
   have e2:=KP.cell 2 rfl
   have e3:=KP.cell 3 rfl
   have e4:=KP.cell 4 rfl
   have c0:=KO.cell 0 rfl
   have c1:=KO.cell 1 rfl
   have c2:=KO.cell 2 rfl
   have z0:=KZ.cell 0 rfl
   have fz0:=KZ.fz 0
   have z1:=KZ.cell 1 rfl
   have fz1:=KZ.fz 1
   have z2:=KZ.cell 2 rfl
   have fz2:=KZ.fz 2
   have RDX:=xH1 RD
   have GGX:=xH1 GG
   clear KP KO KZ OW GG RD
   have hz3:w6.grownBy (((w6.setCell ⟨w.heap.size+1,0,none⟩ (.int .i64 K)).setCell ⟨w.heap.size+1,1,none⟩ (.int .i64 (y:Int))).setCell ⟨w.heap.size+1,2,none⟩ (.int .i64 A)) (some (w.heap.size+1)):=grown_trans (grown_trans (grown_set _ _ _ _) (grown_set _ _ _ _)) (grown_set _ _ _ _)
   have HZ3:=xH1 hz3
   clear hz3
   go_wp2
   refine bodyPost_ret (v:= .agg #[.int .i64 K,.int .i64 (y:Int),.int .i64 A]) (by simp[results,Tryz.results59,go_sem,z0,z1,z2]) rfl ⟨⟨K,(y:Int),A⟩,_,rfl,⟨HKB.out.1,HKB.out.2,by show(0:Int)≤(y:Int);omega,by show(y:Int)≤3;omega,HAB.out.1,HAB.out.2⟩,RDX.out.gr HZ3.out (fun i e=>by cases e;omega),by omega,grown_new GGX.out HZ3.out (fun i e=>by cases e;omega)⟩
  |false=>
   have e0:=KP.cell 0 rfl
   have e1:=KP.cell 1 rfl
   have e2:=KP.cell 2 rfl
   have e3:=KP.cell 3 rfl
   have e4:=KP.cell 4 rfl
   have c0:=KO.cell 0 rfl
   have c1:=KO.cell 1 rfl
   have c2:=KO.cell 2 rfl
   have fo:=KO.fz 1
   have co:=KO.cell 1 rfl
   have gs:=grown_set w5 w1.heap.size 1 (.int .i64 0)
   have KO2:Blk (w5.setCell ⟨w1.heap.size,1,none⟩ (.int .i64 0)) w1.heap.size #[.int .i64 K,.int .i64 0,.int .i64 A] 58:=by simpa using KO.set 1 (.int .i64 0)
   replace KP:=KP.other ⟨w1.heap.size,1,none⟩ (.int .i64 0) (by simp;omega)
   replace KZ:=KZ.other ⟨w1.heap.size,1,none⟩ (.int .i64 0) (by simp;omega)
   replace OW:OwnP (w5.setCell ⟨w1.heap.size,1,none⟩ (.int .i64 0)) v vs p.cells:=OW.keep (fun k hk hl=>gs.block k hl (fun e=>by cases e;have:=HOO.out.lt _ hk;omega))
   replace GG:=grown_new GG gs (fun i e=>by cases e;omega)
   replace RD:=RD.gr gs (fun i e=>by cases e;omega)
   clear KO gs
   have KO:=KO2
   clear KO2 c0 c1 c2 e0 e1 e2 e3 e4
   have e0:=KP.cell 0 rfl
   have e1:=KP.cell 1 rfl
   have e2:=KP.cell 2 rfl
   have e3:=KP.cell 3 rfl
   have e4:=KP.cell 4 rfl
   have c0:=KO.cell 0 rfl
   have c1:=KO.cell 1 rfl
   have c2:=KO.cell 2 rfl
   go_wp2_with fail
   refine(specOpValid_any v p ⟨K,0,A⟩ _ OW.rd HZZ.out).mono ?_
   rintro e w6 ⟨rfl,b5⟩
   replace KP:=KP.below b5
   replace KO:=KO.below b5
   replace KZ:=KZ.below b5
   replace OW:=OW.below b5
   replace GG:=grown_trans GG (grown_of_below b5 _)
   replace RD:=RD.below b5
   clear b5
   cases hv:opValid p ⟨K,0,A⟩ with
   |true=>
    clear hv
    clear e0 e1 e2 e3 e4 c0 c1 c2
    have e0:=KP.cell 0 rfl
    have e1:=KP.cell 1 rfl
    have e2:=KP.cell 2 rfl
    have e3:=KP.cell 3 rfl
    have e4:=KP.cell 4 rfl
    have c0:=KO.cell 0 rfl
    have c1:=KO.cell 1 rfl
    have c2:=KO.cell 2 rfl
    have z0:=KZ.cell 0 rfl
    have fz0:=KZ.fz 0
    have z1:=KZ.cell 1 rfl
    have fz1:=KZ.fz 1
    have z2:=KZ.cell 2 rfl
    have fz2:=KZ.fz 2
    have RDX:=xH1 RD
    have GGX:=xH1 GG
    clear KP KO KZ OW GG RD
    have hz3:w6.grownBy (((w6.setCell ⟨w.heap.size+1,0,none⟩ (.int .i64 K)).setCell ⟨w.heap.size+1,1,none⟩ (.int .i64 0)).setCell ⟨w.heap.size+1,2,none⟩ (.int .i64 A)) (some (w.heap.size+1)):=grown_trans (grown_trans (grown_set _ _ _ _) (grown_set _ _ _ _)) (grown_set _ _ _ _)
    have HZ3:=xH1 hz3
    clear hz3
    go_wp2
    refine bodyPost_ret (v:= .agg #[.int .i64 K,.int .i64 0,.int .i64 A]) (by simp[results,Tryz.results59,go_sem,z0,z1,z2]) rfl ⟨⟨K,0,A⟩,_,rfl,⟨HKB.out.1,HKB.out.2,by simp,by simp,HAB.out.1,HAB.out.2⟩,RDX.out.gr HZ3.out (fun i e=>by cases e;omega),by omega,grown_new GGX.out HZ3.out (fun i e=>by cases e;omega)⟩
   |false=>
    clear hv
    go_wp2_with fail
    refine(pick_some R a n c bs _ 9 _ RD (by omega) (by omega)).mono ?_
    rintro e w7 ⟨x,rfl,hx,h7,g7,hs7⟩
    replace KZ:=KZ.grown g7 (by simp;omega)
    replace GG:=grown_trans GG g7
    have RD2:=h7
    clear RD g7 h7
    have RD:=RD2
    clear RD2 e0 e1 e2 e3 e4 c0 c1 c2
    have z0:=KZ.cell 0 rfl
    have fz0:=KZ.fz 0
    have z1:=KZ.cell 1 rfl
    have fz1:=KZ.fz 1
    have z2:=KZ.cell 2 rfl
    have fz2:=KZ.fz 2
    have RDX:=xH1 RD
    have GGX:=xH1 GG
    clear KP KO KZ OW GG RD
    have hz3:w7.grownBy (((w7.setCell ⟨w.heap.size+1,0,none⟩ (.int .i64 1)).setCell ⟨w.heap.size+1,1,none⟩ (.int .i64 0)).setCell ⟨w.heap.size+1,2,none⟩ (.int .i64 (x:Int))) (some (w.heap.size+1)):=grown_trans (grown_trans (grown_set _ _ _ _) (grown_set _ _ _ _)) (grown_set _ _ _ _)
    have HZ3:=xH1 hz3
    clear hz3
    go_wp2
    refine bodyPost_ret (v:= .agg #[.int .i64 1,.int .i64 0,.int .i64 (x:Int)]) (by simp[results,Tryz.results59,go_sem,z0,z1,z2]) rfl ⟨⟨1,0,(x:Int)⟩,_,rfl,⟨by simp,by simp,by simp,by simp,by show(-99:Int)≤x;omega,by show(x:Int)≤99;omega⟩,RDX.out.gr HZ3.out (fun i e=>by cases e;omega),by omega,grown_new GGX.out HZ3.out (fun i e=>by cases e;omega)⟩
theorem owns_of_blk {w:World} {g B:Nat} {cs:Array Value} {e:TypeId} (h:Blk w g cs e) (hB:B≤g) {sz m:Nat} (hm:cs.size=m*sz) (hle:m≤maxLen):w.ownsRow B e sz (.slice (some ⟨g,0,none⟩) m m) m cs.toList:=
 ⟨by simpa using hm,.inr ⟨g,m,cs,rfl,hB,h,Nat.le_refl _,hle,hm,by rw[←hm,←Array.length_toList,List.take_length]⟩⟩
theorem CopyAt.four {w:World} {B G:Nat} {a0 a1 a2 a3:Option Addr} {n0 n1 n2 n3 c0 c1 c2 c3:Nat} {l0 l1 l2 l3:List Int}
  (h:Blk w G #[.slice a0 n0 c0,.slice a1 n1 c1,.slice a2 n2 c2,.slice a3 n3 c3,.slice none 0 0] 26)
  (o0:w.ownsRow B 3 1 (.slice a0 n0 c0) n0 (ints l0)) (o1:w.ownsRow B 3 1 (.slice a1 n1 c1) n1 (ints l1)) (o2:w.ownsRow B 3 1 (.slice a2 n2 c2) n2 (ints l2)) (o3:w.ownsRow B 3 1 (.slice a3 n3 c3) n3 (ints l3)):
  CopyAt w B G ⟨a0,n0,c0,a1,n1,c1,a2,n2,c2,a3,n3,c3,none,0,0⟩ [] ⟨l0,l1,l2,l3,[]⟩ 0:=
 ⟨h,o0,o1,o2,o3,⟨by simp,.inl ⟨rfl,rfl⟩⟩,Inner.nil w,by simp[fpV],by simp[fpV]⟩
theorem CopyAt.drawn {w w':World} {B G R:Nat} {v:PV} {vs:List Value} {p:Pg} {k:Nat} (h:CopyAt w B G v vs p k) (hg:w.grownBy w' (some R)) (hR:R<B) (hG:R≠G):CopyAt w' B G v vs p k:=by
 have far:∀{e:TypeId} {sz n' c':Nat} {a':Option Addr} {xs:List Value},w.ownsRow B e sz (.slice a' n' c') n' xs→∀q,rowOf a'=some q→some R=some q→False:=by
  intro e sz n' c' a' xs ho q hq e'
  cases e'
  have:=(owns_row (cs:=xs) ho R hq).1
  omega
 exact⟨h.blk.grown hg (by simpa using hG),owns_grown h.os hg (far h.os),owns_grown h.og hg (far h.og),owns_grown h.ob hg (far h.ob),owns_grown h.orr hg (far h.orr),owns_grown h.ot hg (far h.ot),h.inn.grown hg (fun q hq hm=>by cases hq;have:=h.lo _ hm;omega),h.nd,h.lo⟩
def over (o:Nat) (us cs:List Value):List Value:=cs.take o++us++cs.drop (o+us.length)
theorem over_cons (o:Nat) (u:Value) (us cs:List Value) (h:o+us.length+1≤cs.length):over (o+1) us (cs.set o u)=over o (u::us) cs:=by
 unfold over
 have e1:(cs.set o u).take (o+1)=cs.take o++[u]:=by
  rw[List.take_add_one,List.take_set_of_le (Nat.le_refl o)]
  simp[show o<cs.length by omega]
 have e2:(cs.set o u).drop (o+1+us.length)=cs.drop (o+(us.length+1)):=by
  rw[List.drop_set_of_lt (by omega)]
  congr 1;omega
 rw[e1,e2]
 simp
theorem owns_setCells {B:Nat} {e:TypeId} {sz n c g:Nat}:∀(us:List Value) (o:Nat) (w:World) (cs:List Value),w.ownsRow B e sz (.slice (some ⟨g,0,none⟩) n c) n cs→o+us.length≤cs.length→
  (w.setCells g o us).ownsRow B e sz (.slice (some ⟨g,0,none⟩) n c) n (over o us cs)∧w.grownBy (w.setCells g o us) (some g)
 |[],o,w,cs,h,_=>by
  have:over o [] cs=cs:=by simp[over]
  rw[this]
  exact⟨h,World.grownBy.refl _ _⟩
 |u::us,o,w,cs,h,hl=>by
  simp only[List.length_cons] at hl
  have h1:=owns_store h o u rfl
  have h2:=owns_setCells us (o+1) (w.setCell ⟨g,o,none⟩ u) (cs.set o u) h1.1 (by simp;omega)
  rw[over_cons o u us cs (by omega)] at h2
  exact⟨h2.1,grown_trans h1.2 h2.2⟩
theorem owns_full {w:World} {B:Nat} {e:TypeId} {sz n c g:Nat} {cs:List Value} (h:w.ownsRow B e sz (.slice (some ⟨g,0,none⟩) n c) n cs):
  ∃cur:List Value,w.ownsRow B e sz (.slice (some ⟨g,0,none⟩) c c) c cur∧cur.take (n*sz)=cs∧n≤c∧c≤maxLen∧cur.length=c*sz:=by
 obtain⟨hl,⟨h',_⟩|⟨g',cap',cur,h',hb,hg,h1,h2,h3,h4⟩⟩:=h
 ·cases h'
 ·cases h'
  refine⟨cur.toList,⟨by simpa using h3,.inr ⟨g,c,cur,rfl,hb,hg,Nat.le_refl _,h2,h3,?_⟩⟩,h4,h1,h2,by simpa using h3⟩
  rw[List.take_of_length_le (by simp;omega)]
theorem owns_cut {w:World} {B:Nat} {e:TypeId} {sz m c g:Nat} {cur:List Value} (h:w.ownsRow B e sz (.slice (some ⟨g,0,none⟩) c c) c cur) (hm:m≤c):
  w.ownsRow B e sz (.slice (some ⟨g,0,none⟩) m c) m (cur.take (m*sz)):=by
 obtain⟨hl,⟨h',_⟩|⟨g',cap',cc,h',hb,hg,h1,h2,h3,h4⟩⟩:=h
 ·cases h'
 ·cases h'
  have hmc:m*sz≤c*sz:=Nat.mul_le_mul_right sz hm
  have e1:cc.toList=cur:=by rw[←h4,List.take_of_length_le (by simp;omega)]
  refine⟨by rw[List.length_take];omega,.inr ⟨g,c,cc,rfl,hb,hg,hm,h2,h3,by rw[e1]⟩⟩
def KeepsRows (e:TypeId) (size n:Nat) (w w':World):Prop:=∀(B':Nat) (az:Option Addr) (k cz:Nat) (ys:List Value),k≤n→w.ownsRow B' e size (.slice az k cz) k ys→w'.ownsRow B' e size (.slice az k cz) k ys
theorem keeps_of_none {e:TypeId} {size n:Nat} {w w':World} (h:w.grownBy w' none):KeepsRows e size n w w':=fun _ _ _ _ _ _ ho=>owns_grown ho h (fun _ _ h2=>by cases h2)
theorem owns_cells {w:World} {B:Nat} {e:TypeId} {sz n c g:Nat} {cs:List Value} (h:w.ownsRow B e sz (.slice (some ⟨g,0,none⟩) n c) n cs):∃cur:Array Value,w.heap[g]? =some (.cells cur e)∧cur.size=c*sz:=by
 rcases h.2 with ⟨h',_⟩|⟨g',cap',cur,h',hb,hg,h1,h2,h3,h4⟩
 ·cases h'
 ·cases h'
  exact⟨cur,hg,h3⟩
theorem keeps_room {w:World} {B:Nat} {e:TypeId} {sz n c g:Nat} {cs news:List Value} (h:w.ownsRow B e sz (.slice (some ⟨g,0,none⟩) n c) n cs) (hl:n*sz+news.length≤c*sz):KeepsRows e sz n w (w.setCells g (n*sz) news):=by
 intro B' az k cz ys hk ho
 obtain⟨cur,hf,-,-,-,hcl⟩:=owns_full h
 have hg:=(owns_setCells news (n*sz) w cur hf (by omega)).2
 by_cases hb:rowOf az=some g
 ·rcases ho.2 with ⟨h',h0⟩|⟨g',cap',cur',h',hb',hg',h1,h2,h3,h4⟩
  ·cases h';cases hb
  ·simp only[Value.slice.injEq,true_and] at h'
   obtain⟨rfl,rfl⟩:=h'
   obtain rfl:g'=g:=by simpa[rowOf] using hb
   obtain⟨cz',e1,e2⟩:=owns_cells h
   rw[hg'] at e1
   have e3:cur'=cz':=by simpa using e1
   rw[←e3,h3] at e2
   obtain⟨cur2,hf2,ht2,-,-,hcl2⟩:=owns_full ho
   have R:=owns_setCells news (n*sz) w cur2 hf2 (by omega)
   have R2:=owns_cut R.1 h1
   have hks:k*sz≤n*sz:=Nat.mul_le_mul_right sz hk
   have e5:(over (n*sz) news cur2).take (k*sz)=ys:=by
    unfold over
    rw[List.append_assoc,List.take_append_of_le_length (by rw[List.length_take];omega),List.take_take,Nat.min_eq_left hks,ht2]
   rw[e5] at R2
   exact R2
 ·exact owns_grown ho hg (fun q h1 h2=>hb (h1.trans h2.symm))
theorem run_append_keep {P:Program} {w:World} (t ty:TypeId) {B:Nat} {e:TypeId} {z:Value} {size bytes:Nat} (ht:P.underlying t=some (.slice e)) (hinfo:(P.info? e).map (fun i=>(i.zero,i.size,i.bytes))=some (some z,size,bytes))
  (hzs:z.cells.size=size) (hsz:0<size) {a:Option Addr} {n c:Nat} {xs:List Value} (hown:w.ownsRow B e size (.slice a n c) n xs)
  {a2:Option Addr} {m c2:Nat} {news:List Value} (hl:news.length=m*size) (hsrc:Rd w a2 news) (h1:∀u∈news,u.oneCell'=true) (hbytes:(n+m)*bytes≤140737488355328) (hby:0<bytes) (hbase:B≤w.heap.size):
  ∃a' c' w',(Builtin.append_ #[t,t] ty #[.slice a n c,.slice a2 m c2]).run P w= .ok (.slice a' (n+m) c') w'∧w'.ownsRow B e size (.slice a' (n+m) c') (n+m) (xs++news)∧w.grownBy w' (rowOf a)∧KeepsRows e size n w w':=by
 obtain⟨i,hi,hz0,hz1,hz2⟩:=info_parts hinfo
 have h63:n+m≤maxLen:=by
  have:=Nat.le_trans (Nat.le_mul_of_pos_right (n+m) hby) hbytes
  simp only[maxLen];omega
 cases a2 with
 |none=>
  have hn0:news=[]:=by
   rcases hsrc with h|⟨b,o,e',_⟩
   ·exact h
   ·cases e'
  subst hn0
  have hm:m=0:=by
   simp only[List.length_nil] at hl
   rcases Nat.mul_eq_zero.1 hl.symm with h|h
   ·exact h
   ·omega
  subst hm
  refine⟨a,c,w,run_append_owned_none' (P:=P) (w:=w) B t ty e i size ht hi _ n xs hown c2,by simpa using hown,World.grownBy.refl _ _,keeps_of_none (World.grownBy.refl _ _)⟩
 |some ad=>
  have hnews:∀j u,news[j]? =some u→w.cell? (ad.add j)=some u:=by
   intro j u hj
   have hjl:j<news.length:=(List.getElem?_eq_some_iff.1 hj).1
   obtain⟨b,o',e',hc⟩:=hsrc.at (by omega)
   cases e'
   rw[Addr.add_lit,hc j hjl]
   rw[List.getD_eq_getElem?_getD,hj];rfl
  have grew:∀v' w',(Builtin.append_ #[t,t] ty #[.slice a n c,.slice (some ad) m c2]).run P w= .ok v' w'→w'.ownsRow w.heap.size e size v' (n+m) (xs++news)→w.grownBy w' none→∃a' c' w',(Builtin.append_ #[t,t] ty #[.slice a n c,.slice (some ad) m c2]).run P w= .ok (.slice a' (n+m) c') w'∧w'.ownsRow B e size (.slice a' (n+m) c') (n+m) (xs++news)∧w.grownBy w' (rowOf a)∧KeepsRows e size n w w':=by
   intro v' w' hrun r1 r2
   obtain⟨a',c',rfl⟩:=owns_slice r1
   exact⟨a',c',w',hrun,owns_mono r1 hbase,⟨r2.os,r2.tape,r2.output,r2.size,fun k hk _=>r2.block k hk (by simp)⟩,keeps_of_none r2⟩
  rcases hown.2 with ⟨h',h0⟩|⟨g,cap,cur,h',hb,hg,hnc,hcm,hcs,htake⟩
  ·simp only[Value.slice.injEq] at h'
   obtain⟨rfl,rfl,rfl⟩:=h'
   obtain⟨v',w',hrun,r1,r2,_⟩:=run_append_own (P:=P) w w.heap.size t ty e i z size bytes ht hi hz0 hz1 hz2 hzs hsz (.slice none 0 0) 0 xs (by have:=hown.1;simp only[Nat.zero_mul] at this;rw[List.eq_nil_of_length_eq_zero this];exact World.ownsRow_nil w _ e size) ad m c2 news hl hnews h1 h63 hbytes xL1
   exact grew v' w' hrun r1 r2
  ·simp only[Value.slice.injEq,true_and] at h'
   obtain⟨rfl,rfl⟩:=h'
   by_cases hroom:n+m≤c
   ·obtain⟨curL,hfull,htk,-,-,hcl⟩:=owns_full hown
    have hmul:n*size+news.length≤c*size:=by
     rw[hl,←Nat.add_mul];exact Nat.mul_le_mul_right size hroom
    have hrun:=run_append_room_cells (P:=P) (w:=w) t ty e i ht hi g 0 n c ad m c2 news (by rw[hz1];exact hl) hnews h1 hroom
     (fun j hj=>by rw[hz1,Nat.zero_add,hfull.cellAt _ (by omega),List.getElem?_eq_getElem (by omega)];rfl) (fun j _=>hfull.frozenAt _)
    rw[hz1,Nat.zero_add] at hrun
    have R:=owns_setCells news (n*size) w curL hfull (by omega)
    have R2:=owns_cut R.1 hroom
    have e5:(over (n*size) news curL).take ((n+m)*size)=xs++news:=by
     unfold over
     have hx:xs.length=n*size:=hown.1
     rw[htk,Nat.add_mul,←hl,←hx,←List.length_append,List.take_left' rfl]
    rw[e5] at R2
    exact⟨_,_,_,hrun,R2,R.2,keeps_room hown hmul⟩
   ·obtain⟨v',w',hrun,r1,r2⟩:=run_append_arg_grows (P:=P) w t ty e i z size bytes ht hi hz0 hz1 hz2 hzs hsz ⟨g,0,none⟩ n c xs hown.1 (fun j u hj=>by
     have hjl:j<xs.length:=(List.getElem?_eq_some_iff.1 hj).1
     rw[Addr.add_lit,Nat.zero_add,hown.cellAt j (by have:=hown.1;omega)];exact hj) ad m c2 news hl hnews (by omega) h63 hbytes
    exact grew v' w' hrun r1 r2
theorem gives_append_keep {P:Program} {o:Oper} {ρ:Operand→Value} {w:World} {post:Value→World→Prop} (s x:Operand) (t:TypeId)
  (ho:o.op= .call {callee:= .builtin .append,args:= #[s,x],argTypes:= #[t,t]}) {B:Nat} {e:TypeId} {z:Value} {size bytes:Nat} (ht:P.underlying t=some (.slice e)) (hinfo:(P.info? e).map (fun i=>(i.zero,i.size,i.bytes))=some (some z,size,bytes))
  (hzs:z.cells.size=size) (hsz:0<size) {a:Option Addr} {n c:Nat} {xs:List Value} (hs:ρ s= .slice a n c) (hown:w.ownsRow B e size (.slice a n c) n xs)
  {a2:Option Addr} {m c2:Nat} {news:List Value} (hx:ρ x= .slice a2 m c2) (hl:news.length=m*size) (hsrc:Rd w a2 news) (h1:∀u∈news,u.oneCell'=true) (hbytes:(n+m)*bytes≤140737488355328) (hby:0<bytes) (hbase:B≤w.heap.size)
  (h:∀a' c' w',w'.ownsRow B e size (.slice a' (n+m) c') (n+m) (xs++news)→w.grownBy w' (rowOf a)→KeepsRows e size n w w'→post (.slice a' (n+m) c') w'):gives P o ρ w post:=by
 obtain⟨a',c',w',hr,h2,h3,h4⟩:=run_append_keep (P:=P) (c2:=c2) t o.type ht hinfo hzs hsz hown hl hsrc h1 hbytes hby hbase
 refine gives_val (u:= .slice a' (n+m) c') (w':=w') ?_ (h a' c' w' h2 h3 h4)
 unfold execOp
 simp only[ho,resolve,invoke,builtin,Sem.run_bind,Sem.run_pure,Result.andThen_ok,List.map_toArray,List.map_cons,List.map_nil,hs,hx,hr]
structure Few (p:Pg) (k:Nat):Prop where
 s:p.sems.length≤k
 g:p.groups.length≤k
 b:p.barriers.length≤k
 r:p.rooms.length≤k
 t:p.threads.length≤k
 i:∀t∈p.threads,t.length≤8
theorem Few.mono {p:Pg} {k m:Nat} (h:Few p k) (hm:k≤m):Few p m:=⟨Nat.le_trans h.s hm,Nat.le_trans h.g hm,Nat.le_trans h.b hm,Nat.le_trans h.r hm,Nat.le_trans h.t hm,h.i⟩
theorem ShortP.few {p:Pg} {k:Nat} (h:ShortP p k) (hk:k≤9):Few p 9:=⟨by have:=h.s;omega,by have:=h.g;omega,by have:=h.b;omega,by have:=h.r;omega,by have:=h.t;omega,h.i⟩
theorem few_zero:Few zeroPg 9:=⟨by simp[zeroPg],by simp[zeroPg],by simp[zeroPg],by simp[zeroPg],by simp[zeroPg],by simp[zeroPg]⟩
theorem few_parse (s:ByteArray):Few ((parseProg s).getD zeroPg) 9:=by
 unfold parseProg
 split
 ·split
  ·exact(linesTo_small _ _).few (Nat.min_le_right _ _)
  ·exact few_zero
 ·exact few_zero
theorem Few.small' {w:World} {v:PV} {p:Pg} {k:Nat} (h:RdP w v p) (hf:Few p k) (hk:k≤1000):Small v p:=by
 refine⟨by have:=h.ls;have:=hf.s;omega,by have:=h.lg;have:=hf.g;omega,by have:=h.lb;have:=hf.b;omega,by have:=h.lr;have:=hf.r;omega,by have:=h.lt;have:=hf.t;omega,fun i=> ?_⟩
 rw[List.getD_eq_getElem?_getD]
 cases hi:p.threads[i]? with
 |none=>simp
 |some t=>
  have:=hf.i t (List.mem_of_getElem? hi)
  simp only[Option.getD_some]
  omega
theorem Few.small {w:World} {v:PV} {vs:List Value} {p:Pg} {k:Nat} (hf:Few p k) (h:OwnP w v vs p.cells) (hk:k≤1000):Small v p:=Few.small' h.rd hf hk
theorem Few.addS {p:Pg} {k:Nat} (h:Few p k) (y:Int):Few {p with sems:=p.sems++[y]} (k+1):=⟨by have:=h.s;simp;omega,by have:=h.g;show p.groups.length≤_;omega,by have:=h.b;show p.barriers.length≤_;omega,by have:=h.r;show p.rooms.length≤_;omega,by have:=h.t;show p.threads.length≤_;omega,h.i⟩
theorem Few.addR {p:Pg} {k:Nat} (h:Few p k) (y:Int):Few {p with rooms:=p.rooms++[y]} (k+1):=⟨by have:=h.s;show p.sems.length≤_;omega,by have:=h.g;show p.groups.length≤_;omega,by have:=h.b;show p.barriers.length≤_;omega,by have:=h.r;simp;omega,by have:=h.t;show p.threads.length≤_;omega,h.i⟩
theorem Few.addT {p:Pg} {k:Nat} (h:Few p k) (t:List OpD) (ht:t.length≤8):Few {p with threads:=p.threads++[t]} (k+1):=⟨by have:=h.s;show p.sems.length≤_;omega,by have:=h.g;show p.groups.length≤_;omega,by have:=h.b;show p.barriers.length≤_;omega,by have:=h.r;show p.rooms.length≤_;omega,by have:=h.t;simp;omega,fun u hu=>by
 rcases xP1 hu with hu|hu
 ·exact h.i u hu
 ·obtain rfl:=xS1 hu;exact ht⟩
theorem Few.noT {p:Pg} {k:Nat} (h:Few p k):Few {p with threads:=[]} (k+1):=⟨by have:=h.s;show p.sems.length≤_;omega,by have:=h.g;show p.groups.length≤_;omega,by have:=h.b;show p.barriers.length≤_;omega,by have:=h.r;show p.rooms.length≤_;omega,by simp,by simp⟩
theorem owns_base {w:World} {B B':Nat} {e:TypeId} {sz n c:Nat} {a:Option Addr} {cs:List Value} (h:w.ownsRow B' e sz (.slice a n c) n cs) (hB:∀k,rowOf a=some k→B≤k):w.ownsRow B e sz (.slice a n c) n cs:=by
 refine⟨h.1,?_⟩
 rcases h.2 with h'|⟨g,cap,cur,h',hb,rest⟩
 ·exact .inl h'
 ·refine .inr ⟨g,cap,cur,h',?_,rest⟩
  simp only[Value.slice.injEq,true_and] at h'
  exact hB g (by rw[h'.1];rfl)
theorem CopyAt.of_own {w:World} {B G:Nat} {v:PV} {vs:List Value} {p:Pg} (hb:Blk w G #[.slice v.s v.ns v.cs,.slice v.g v.ng v.cg,.slice v.b v.nb v.cb,.slice v.r v.nr v.cr,.slice v.t v.nt v.ct] 26) (h:OwnP w v vs p.cells) (hf:∀k∈fpP v vs,B≤k) (hn:(fpV vs).Nodup):CopyAt w B G v vs p p.threads.length:=by
 refine⟨hb,owns_base h.os fun k hk=>hf k (by unfold fpP;simp[hk]),owns_base h.og fun k hk=>hf k (by unfold fpP;simp[hk]),owns_base h.ob fun k hk=>hf k (by unfold fpP;simp[hk]),owns_base h.orr fun k hk=>hf k (by unfold fpP;simp[hk]),owns_base h.ot.out fun k hk=>hf k (by unfold fpP fpT;simp[hk]),?_,hn,fun q hq=>hf q (by unfold fpP;rw[fpT_eq];simp[hq])⟩
 rw[List.take_length]
 exact h.ot.inner
theorem run_append_apart {P:Program} {w:World} (t ty:TypeId) {B:Nat} {e:TypeId} {z:Value} {size bytes:Nat} (ht:P.underlying t=some (.slice e)) (hinfo:(P.info? e).map (fun i=>(i.zero,i.size,i.bytes))=some (some z,size,bytes))
  (hzs:z.cells.size=size) (hsz:0<size) {a:Option Addr} {n c:Nat} {xs:List Value} (hown:w.ownsRow B e size (.slice a n c) n xs) (hz:n=0→c=0)
  {a2:Option Addr} {m c2:Nat} {news:List Value} (hl:news.length=m*size) (hsrc:Rd w a2 news) (h1:∀u∈news,u.oneCell'=true) (hbytes:(n+m)*bytes≤140737488355328) (hby:0<bytes) (hbase:B≤w.heap.size):
  ∃a' c' w',(Builtin.append_ #[t,t] ty #[.slice a n c,.slice a2 m c2]).run P w= .ok (.slice a' (n+m) c') w'∧w'.ownsRow B e size (.slice a' (n+m) c') (n+m) (xs++news)∧w.grownBy w' (slBk n (.slice a n c)):=by
 by_cases hn:n=0
 ·subst hn
  obtain rfl:=hz rfl
  obtain rfl:xs=[]:=List.eq_nil_of_length_eq_zero (by have:=hown.1;simpa using this)
  obtain⟨a',c',w',hr,h2,h3,h4,h5⟩:=run_append_new (P:=P) (c2:=c2) t ty ht hinfo hzs hsz hown hl hsrc h1 (by simpa using hbytes) hby hbase
  rw[Nat.zero_add]
  refine⟨a',c',w',hr,by simpa using h2,grown_below h3⟩
 ·obtain⟨a',c',w',hr,h2,h3,_⟩:=run_append_keep (P:=P) (c2:=c2) t ty ht hinfo hzs hsz hown hl hsrc h1 hbytes hby hbase
  exact⟨a',c',w',hr,h2,by rw[slBk,if_neg hn,ownBlock_slice];exact h3⟩
theorem wp_append_apart {P:Program} {wr:World} {o:Oper} {ac:Act} {K:Act→World→Prop} {Q:Exit→Act→World→Prop} (s x:Operand) (t:TypeId)
  (ho:o.op= .call {callee:= .builtin .append,args:= #[s,x],argTypes:= #[t,t]})
  {B:Nat} {e:TypeId} {z:Value} {size bytes:Nat} (ht:P.underlying t=some (.slice e)) (hinfo:(P.info? e).map (fun i=>(i.zero,i.size,i.bytes))=some (some z,size,bytes))
  (hzs:z.cells.size=size) (hsz:0<size)
  {a:Option Addr} {n c:Nat} {xs:List Value} (hs:ac.eval s= .slice a n c) (hown:wr.ownsRow B e size (.slice a n c) n xs) (hz:n=0→c=0)
  {a2:Option Addr} {m c2:Nat} {news:List Value} (hx:ac.eval x= .slice a2 m c2) (hl:news.length=m*size) (hsrc:Rd wr a2 news) (h1:∀u∈news,u.oneCell'=true)
  (hbytes:(n+m)*bytes≤140737488355328) (hby:0<bytes) (hbase:B≤wr.heap.size)
  (h:∀a' c' w',w'.ownsRow B e size (.slice a' (n+m) c') (n+m) (xs++news)→wr.grownBy w' (slBk n (.slice a n c))→K (ac.put o.dst (.slice a' (n+m) c')) w'):o.wp P ac wr K Q:=by
 obtain⟨a',c',w',hr,h2,h3⟩:=run_append_apart (P:=P) (c2:=c2) t o.type ht hinfo hzs hsz hown hz hl hsrc h1 hbytes hby hbase
 unfold Oper.wp execOp
 simp only[ho,resolve,invoke,builtin,Sem.run_bind,Sem.run_pure,Result.andThen_ok,List.map_toArray,List.map_cons,List.map_nil,hs,hx,hr]
 exact h a' c' w' h2 h3
theorem step_append_apart {P:Program} {wr:World} {ops:Array Oper} {o:Oper} {ac:Act} {K:Act→World→Prop} {Q:Exit→Act→World→Prop} {E:Prop} (hgd:o.guard=none) (s x:Operand) (t:TypeId)
  (ho:o.op= .call {callee:= .builtin .append,args:= #[s,x],argTypes:= #[t,t]})
  {B:Nat} {e:TypeId} {z:Value} {size bytes:Nat} (ht:P.underlying t=some (.slice e)) (hinfo:(P.info? e).map (fun i=>(i.zero,i.size,i.bytes))=some (some z,size,bytes))
  (hzs:z.cells.size=size) (hsz:0<size)
  {a:Option Addr} {n c:Nat} {xs:List Value} (hs:ac.eval s= .slice a n c) (hown:wr.ownsRow B e size (.slice a n c) n xs) (hz:n=0→c=0)
  {a2:Option Addr} {m c2:Nat} {news:List Value} (hx:ac.eval x= .slice a2 m c2) (hl:news.length=m*size) (hsrc:Rd wr a2 news) (h1:∀u∈news,u.oneCell'=true)
  (hbytes:(n+m)*bytes≤140737488355328) (hby:0<bytes) (hbase:B≤wr.heap.size)
  (h:∀a' c' w',w'.ownsRow B e size (.slice a' (n+m) c') (n+m) (xs++news)→wr.grownBy w' (slBk n (.slice a n c))→K (ac.put o.dst (.slice a' (n+m) c')) w'):
  if Region.wanted o (yielded ops ac.tmps)=true then Oper.wp P o ac wr K Q else E:=by
 have hw:Region.wanted o (yielded ops ac.tmps)=true:=by simp[Region.wanted,hgd]
 rw[if_pos hw]
 exact wp_append_apart s x t ho ht hinfo hzs hsz hs hown hz hx hl hsrc h1 hbytes hby hbase h
theorem num_blk (R:Nat) (a:Option Addr) (n c:Nat) (bs:List Int) (p:Int) (m:Nat) (xs:List Int) (W:World) (h:Rdr W R a n c bs p) (hp:p≤1099511627776) (hl:xs.length=m) (hm:1≤m) (hm2:m≤1000) (g:Nat) (cs:Array Value) (hb:Blk W g cs 3) (hcs:cs=(ints xs).toArray) (hg:g≠R):
  Calls Tryz.prog 36 #[.pointer (some ⟨R,0,none⟩),.slice (some ⟨g,0,none⟩) m m] W fun e w'=>
   ∃v:Int,e= .returned (.int .i64 v)∧v∈xs∧Rdr w' R a n c bs (p+1)∧W.grownBy w' (some R):=by
 subst hcs
 refine(num_any R a n c bs p g m m xs W h hp hl hm hm2 (by simpa using Rd.of_blk hb) hg).mono ?_
 rintro e w' ⟨v,rfl,hv,hr,hg,hs⟩
 exact⟨v,rfl,hv,hr,hg⟩
theorem far_zero {w:World} {B B':Nat} {e e':TypeId} {sz sz' n c:Nat} {a a':Option Addr} {cs cs':List Value} (h:w.ownsRow B e sz (.slice a n c) n cs) (hn:n≠0) (hsz:0<sz) (h':w.ownsRow B' e' sz' (.slice a' 0 0) 0 cs'):∀q,rowOf a=some q→rowOf a'=some q→False:=by
 intro q h1 h2
 obtain⟨g,rfl,-,-⟩:=owns_at h (by omega)
 obtain rfl:g=q:=by simpa[rowOf] using h1
 obtain⟨cur,e1,e2⟩:=owns_cells h
 have hc:=(owns_cap h).1
 rcases h'.2 with ⟨h0,_⟩|⟨g',cap',cur',h0,hb,hg,h3,h4,h5,h6⟩
 ·simp only[Value.slice.injEq] at h0
  rw[h0.1] at h2;cases h2
 ·simp only[Value.slice.injEq,true_and] at h0
  obtain⟨rfl,rfl⟩:=h0
  obtain rfl:g'=g:=by simpa[rowOf] using h2
  rw[e1] at hg
  have e3:cur=cur':=by simpa using congrArg (fun x=>match x with|some (Obj.cells c _ _)=>c|_=> #[]) hg
  rw[e3,h5,Nat.zero_mul] at e2
  have:=Nat.mul_pos (show 0<c by omega) hsz
  omega
theorem far_sl {w:World} {B B':Nat} {n c n' c':Nat} {a a':Option Addr} {cs cs':List Value} (h:w.ownsRow B 3 1 (.slice a n c) n cs) (h':w.ownsRow B' 3 1 (.slice a' n' c') n' cs') (hz:n'=0→c'=0)
  (hf:∀k,slBk n (.slice a n c)=some k→slBk n' (.slice a' n' c')≠some k):∀q,rowOf a'=some q→slBk n (.slice a n c)=some q→False:=by
 intro q h1 h2
 have hn:n≠0:=fun e=>by rw[slBk,if_pos e] at h2;cases h2
 by_cases h0:n'=0
 ·subst h0
  obtain rfl:=hz rfl
  rw[slBk,if_neg hn,ownBlock_slice] at h2
  exact far_zero h hn (by decide) h' q h2 h1
 ·exact hf q h2 (by rw[slBk,if_neg h0,ownBlock_slice];exact h1)
theorem slBk_row {n c:Nat} {a:Option Addr} {q:Nat} (h:slBk n (.slice a n c)=some q):rowOf a=some q:=by
 by_cases hn:n=0
 ·rw[slBk,if_pos hn] at h;cases h
 ·rw[slBk,if_neg hn,ownBlock_slice] at h;exact h
theorem CopyAt.pushS {w w':World} {B G:Nat} {v:PV} {vs:List Value} {p:Pg} {k:Nat} (h:CopyAt w B G v vs p k) (f:Four v) {a:Option Addr} {n c:Nat} {l:List Int} (ho:w'.ownsRow B 3 1 (.slice a n c) n (ints l)) (hg:w.grownBy w' (slBk v.ns (.slice v.s v.ns v.cs))):
  CopyAt (w'.setCell ⟨G,0,none⟩ (.slice a n c)) B G {v with s:=a,ns:=n,cs:=c} vs {p with sems:=l} k:=by
 obtain⟨t1,t2,t3,t4,t5,t6⟩:=types_ne
 have b1:=h.blk.grown hg (fun e=>blk_owns h.blk h.os t3 (slBk_row e))
 have s1:=owns_grown h.og hg (far_sl h.os h.og f.zg f.sg)
 have s2:=owns_grown h.ob hg (far_sl h.os h.ob f.zb f.sb)
 have s3:=owns_grown h.orr hg (far_sl h.os h.orr f.zr f.sr)
 have s4:=owns_grown h.ot hg (fun q h1 h2=>owns_owns h.os h.ot t1 q (slBk_row h2) h1)
 have i1:=h.inn.grown hg (fun q h2=>h.inn.not_row h.os (fun e=>t6 e.symm) q (slBk_row h2))
 have g2:=grown_set w' G 0 (.slice a n c)
 have far:∀{e:TypeId} {sz n' c' B':Nat} {a':Option Addr} {xs:List Value},w'.ownsRow B' e sz (.slice a' n' c') n' xs→26≠e→∀q,rowOf a'=some q→some G=some q→False:=by
  intro e sz n' c' B' a' xs ho' hne q hq e'
  cases e'
  exact blk_owns b1 ho' hne hq
 exact⟨by simpa using b1.set 0 (.slice a n c),owns_grown ho g2 (far ho t3),owns_grown s1 g2 (far s1 t3),owns_grown s2 g2 (far s2 t3),owns_grown s3 g2 (far s3 t3),owns_grown s4 g2 (far s4 t4),i1.grown g2 (fun q hq=>by cases hq;exact i1.not_blk b1 (fun e=>t5 e.symm)),h.nd,h.lo⟩
theorem CopyAt.pushR {w w':World} {B G:Nat} {v:PV} {vs:List Value} {p:Pg} {k:Nat} (h:CopyAt w B G v vs p k) (f:Four v) {a:Option Addr} {n c:Nat} {l:List Int} (ho:w'.ownsRow B 3 1 (.slice a n c) n (ints l)) (hg:w.grownBy w' (slBk v.nr (.slice v.r v.nr v.cr))):
  CopyAt (w'.setCell ⟨G,3,none⟩ (.slice a n c)) B G {v with r:=a,nr:=n,cr:=c} vs {p with rooms:=l} k:=by
 obtain⟨t1,t2,t3,t4,t5,t6⟩:=types_ne
 have b1:=h.blk.grown hg (fun e=>blk_owns h.blk h.orr t3 (slBk_row e))
 have s1:=owns_grown h.og hg (far_sl h.orr h.og f.zg (fun k e1 e2=>f.gr k e2 e1))
 have s2:=owns_grown h.ob hg (far_sl h.orr h.ob f.zb (fun k e1 e2=>f.br k e2 e1))
 have s3:=owns_grown h.os hg (far_sl h.orr h.os f.zs (fun k e1 e2=>f.sr k e2 e1))
 have s4:=owns_grown h.ot hg (fun q h1 h2=>owns_owns h.orr h.ot t1 q (slBk_row h2) h1)
 have i1:=h.inn.grown hg (fun q h2=>h.inn.not_row h.orr (fun e=>t6 e.symm) q (slBk_row h2))
 have g2:=grown_set w' G 3 (.slice a n c)
 have far:∀{e:TypeId} {sz n' c' B':Nat} {a':Option Addr} {xs:List Value},w'.ownsRow B' e sz (.slice a' n' c') n' xs→26≠e→∀q,rowOf a'=some q→some G=some q→False:=by
  intro e sz n' c' B' a' xs ho' hne q hq e'
  cases e'
  exact blk_owns b1 ho' hne hq
 exact⟨by simpa using b1.set 3 (.slice a n c),owns_grown s3 g2 (far s3 t3),owns_grown s1 g2 (far s1 t3),owns_grown s2 g2 (far s2 t3),owns_grown ho g2 (far ho t3),owns_grown s4 g2 (far s4 t4),i1.grown g2 (fun q hq=>by cases hq;exact i1.not_blk b1 (fun e=>t5 e.symm)),h.nd,h.lo⟩
theorem CopyAt.noThr {w:World} {B G:Nat} {v:PV} {vs:List Value} {p:Pg} {k:Nat} (h:CopyAt w B G v vs p k) (hB:B≤w.heap.size):
  CopyAt ((w.alloc (.cells #[] 51)).setCell ⟨G,4,none⟩ (.slice (some ⟨w.heap.size,0,none⟩) 0 0)) B G (v.thr (some ⟨w.heap.size,0,none⟩) 0 0) [] {p with threads:=[]} 0:=by
 obtain⟨t1,t2,t3,t4,t5,t6⟩:=types_ne
 have hb:Below w.heap.size w (w.alloc (.cells #[] 51)):=xA1
 have h1:=h.below hb
 have ho:=owns_mono (owns_empty w 51 1) hB
 have g2:=grown_set (w.alloc (.cells #[] 51)) G 4 (.slice (some ⟨w.heap.size,0,none⟩) 0 0)
 have far:∀{e:TypeId} {sz n' c' B':Nat} {a':Option Addr} {xs:List Value},(w.alloc (.cells #[] 51)).ownsRow B' e sz (.slice a' n' c') n' xs→26≠e→∀q,rowOf a'=some q→some G=some q→False:=by
  intro e sz n' c' B' a' xs ho' hne q hq e'
  cases e'
  exact blk_owns h1.blk ho' hne hq
 exact⟨by simpa[PV.thr] using h1.blk.set 4 (.slice (some ⟨w.heap.size,0,none⟩) 0 0),owns_grown h1.os g2 (far h1.os t3),owns_grown h1.og g2 (far h1.og t3),owns_grown h1.ob g2 (far h1.ob t3),owns_grown h1.orr g2 (far h1.orr t3),owns_grown ho g2 (far ho t4),Inner.nil _,by simp[fpV],by simp[fpV]⟩
theorem l6Draw_any (R:Nat) (a:Option Addr) (n c:Nat) (bs:List Int) (pos:Int) (w:World) (h:Rdr w R a n c bs pos) (hp:pos≤1099511600000):
  Calls Tryz.prog 35 #[.pointer (some ⟨R,0,none⟩)] w fun e w'=>∃(v:PV) (vs:List Value) (p:Pg) (pos':Int),e= .returned (.agg #[.slice v.s v.ns v.cs,.slice v.g v.ng v.cg,.slice v.b v.nb v.cb,.slice v.r v.nr v.cr,.slice v.t v.nt v.ct])∧OwnP w' v vs p.cells∧(∀q∈fpP v vs,w.heap.size≤q)∧Few p 9∧Rdr w' R a n c bs pos'∧pos'≤pos+100∧w.grownBy w' (some R):=by
 have hRw:=h.lt
 have bR:Below w.heap.size w (w.alloc (.cells #[.slice none 0 0,.slice none 0 0,.slice none 0 0,.slice none 0 0,.slice none 0 0] 26)):=xA1
 have kR:Blk (w.alloc (.cells #[.slice none 0 0,.slice none 0 0,.slice none 0 0,.slice none 0 0,.slice none 0 0] 26)) w.heap.size #[.slice none 0 0,.slice none 0 0,.slice none 0 0,.slice none 0 0,.slice none 0 0] 26:=Blk.new _ _ _
 have h0:=h.below bR
 have G0:=grown_of_below bR (some R)
 clear bR h
 go_enter Tryz.func35,Tryz.ntmps35
 go_wp2_with fail
 refine(pick_some R a n c bs pos 2 _ h0 (by omega) (by omega)).mono ?_
 rintro e w1 ⟨x,rfl,hx,h1,g1,hs1⟩
 have s1:=g1.size
 have s1':w.heap.size+1≤w1.heap.size:=by simpa using s1
 have kR1:=kR.grown g1 (by simp;omega)
 have HG1:=xH1 (grown_trans G0 g1)
 clear kR g1 G0 h0 s1 hs1
 by_cases hx0:x=0
 ·have t0:((x:Int)==0)=true:=by rw[hx0];rfl
  clear hx0
  go_wp2_with fail
  refine(l6Samples_any _).mono ?_
  rintro e w2 ⟨g,l,rfl,hl,hl8,hxs,hgw,b2⟩
  have h2:=h1.below b2
  have kR2:=kR1.below b2
  have HG2:=xH1 (grown_trans HG1.out (grown_of_below b2 _))
  have s2:=b2.size
  have hcs:∀j:Nat,j<8→∃y:ByteArray,w2.cell? ⟨g,j,none⟩=some (.string y)∧y.size≤4294967296:=fun j hj=>by
   obtain⟨y,h1,h2⟩:=hxs j hj
   exact⟨y,hl.cell j h1,h2⟩
  have HCS:=xH1 hcs
  clear h1 kR1 b2 hl hl8 hxs hcs
  go_wp2_with fail
  refine(of_any R a n c bs _ g 8 8 _ h2 (by omega) (by omega) (by omega) HCS.out (by omega)).mono ?_
  rintro e w3 ⟨y,rfl,hy,h3,g3,hs3⟩
  have s3:=g3.size
  have kR3:=kR2.grown g3 (by simp;omega)
  have HG3:=xH1 (grown_trans HG2.out g3)
  clear h2 kR2 g3 hs3
  go_wp2_with fail
  refine(specParseProg_any y _ hy).mono ?_
  rintro e w4 ⟨v,vs,rfl,o4,f4,z4,b4⟩
  have HH4:=xH1 (h3.below b4)
  have s4:=b4.size
  have kR4:=kR3.below b4
  have HG4:=xH1 (grown_trans HG3.out (grown_of_below b4 _))
  have bK:Below w4.heap.size w4 (w4.alloc (.cells #[.slice v.s v.ns v.cs,.slice v.g v.ng v.cg,.slice v.b v.nb v.cb,.slice v.r v.nr v.cr,.slice v.t v.nt v.ct] 26)):=xA1
  have kP5:Blk (w4.alloc (.cells #[.slice v.s v.ns v.cs,.slice v.g v.ng v.cg,.slice v.b v.nb v.cb,.slice v.r v.nr v.cr,.slice v.t v.nt v.ct] 26)) w4.heap.size #[.slice v.s v.ns v.cs,.slice v.g v.ng v.cg,.slice v.b v.nb v.cb,.slice v.r v.nr v.cr,.slice v.t v.nt v.ct] 26:=Blk.new _ _ _
  have kR5:=kR4.alloc (.cells #[.slice v.s v.ns v.cs,.slice v.g v.ng v.cg,.slice v.b v.nb v.cb,.slice v.r v.nr v.cr,.slice v.t v.nt v.ct] 26)
  have e0:=kP5.cell 0 rfl
  have e1:=kP5.cell 1 rfl
  have e2:=kP5.cell 2 rfl
  have e3:=kP5.cell 3 rfl
  have e4:=kP5.cell 4 rfl
  have y0:=kR5.cell 0 rfl
  have x0:=kR5.fz 0
  have y1:=kR5.cell 1 rfl
  have x1:=kR5.fz 1
  have y2:=kR5.cell 2 rfl
  have x2:=kR5.fz 2
  have y3:=kR5.cell 3 rfl
  have x3:=kR5.fz 3
  have y4:=kR5.cell 4 rfl
  have x4:=kR5.fz 4
  have HO:=xH1 o4
  have HZ:=xH1 z4
  have HF:=xH1 f4
  have HBK:=xH1 bK
  clear h3 kR3 kR4 kR5 kP5 b4 o4 z4 f4 bK
  have hz5:(w4.alloc (.cells #[.slice v.s v.ns v.cs,.slice v.g v.ng v.cg,.slice v.b v.nb v.cb,.slice v.r v.nr v.cr,.slice v.t v.nt v.ct] 26)).grownBy (((((((w4.alloc (.cells #[.slice v.s v.ns v.cs,.slice v.g v.ng v.cg,.slice v.b v.nb v.cb,.slice v.r v.nr v.cr,.slice v.t v.nt v.ct] 26)).setCell ⟨w.heap.size,0,none⟩ (.slice v.s v.ns v.cs)).setCell ⟨w.heap.size,1,none⟩ (.slice v.g v.ng v.cg)).setCell ⟨w.heap.size,2,none⟩ (.slice v.b v.nb v.cb)).setCell ⟨w.heap.size,3,none⟩ (.slice v.r v.nr v.cr)).setCell ⟨w.heap.size,4,none⟩ (.slice v.t v.nt v.ct))) (some w.heap.size):=grown_trans (grown_trans (grown_trans (grown_trans (grown_set _ _ _ _) (grown_set _ _ _ _)) (grown_set _ _ _ _)) (grown_set _ _ _ _)) (grown_set _ _ _ _)
  have HZ5:=xH1 hz5
  clear hz5
  go_wp2
  refine bodyPost_ret (v:= .agg #[.slice v.s v.ns v.cs,.slice v.g v.ng v.cg,.slice v.b v.nb v.cb,.slice v.r v.nr v.cr,.slice v.t v.nt v.ct]) (by simp[results,Tryz.results35,go_sem,y0,y1,y2,y3,y4]) rfl ⟨v,vs,_,pos+1+1,rfl,(HO.out.below HBK.out).keep (fun k hk hl=>HZ5.out.block k hl (fun e=>by cases e;have:=HF.out _ hk;omega)),fun q hq=>by have:=HF.out q hq;omega,few_parse y,(HH4.out.below HBK.out).gr HZ5.out (fun i e=>by cases e;omega),by omega,grown_new (grown_trans HG4.out (grown_of_below HBK.out _)) HZ5.out (fun i e=>by cases e;omega)⟩
 ·have t0:((x:Int)==0)=false:=by simp;omega
  clear hx0
  go_wp2_with fail
  refine(num_new R a n c bs (pos+1) 3 [1,2,3] w1 h1 (by omega) rfl (by omega) (by omega) _ (by simp) _ rfl).mono ?_
  rintro e w2 ⟨A0,rfl,hA0,h2,g2,s2⟩
  have kR2:=kR1.grown g2 (by simp;omega)
  have HG2:=xH1 (grown_trans HG1.out g2)
  have b2:Below w2.heap.size w2 (w2.alloc (.cells #[.int .i64 A0,.int .i64 1] 3)):=xA1
  have o2:=owns_of_blk (B:=w1.heap.size) (Blk.new w2 #[.int .i64 A0,.int .i64 1] 3) (by omega) (sz:=1) (m:=2) rfl (by decide)
  have kR3:=kR2.below b2
  have h3:=h2.below b2
  have HG3:=xH1 (grown_trans HG2.out (grown_of_below b2 _))
  clear h1 kR1 g2 b2 kR2 h2
  go_wp2_with fail
  refine(num_new R a n c bs (pos+1+1) 3 [1,2,0] _ h3 (by omega) rfl (by omega) (by omega) _ (by simp) _ rfl).mono ?_
  rintro e w3 ⟨A1,rfl,hA1,h4,g4,s4⟩
  have kR4:=kR3.grown g4 (by simp;omega)
  have HG4:=xH1 (grown_trans HG3.out g4)
  have o2':=owns_grown ((owns_below o2 xB1)) g4 (fun k e1 e2=>by cases e2;have:=owns_row o2 _ e1;omega)
  have s4':w2.heap.size+1≤w3.heap.size:=by simpa using s4
  have b3:Below w3.heap.size w3 (w3.alloc (.cells #[.int .i64 A1] 3)):=xA1
  have o3:=owns_of_blk (B:=w1.heap.size) (Blk.new w3 #[.int .i64 A1] 3) (by omega) (sz:=1) (m:=1) rfl (by decide)
  obtain⟨W3,hW3⟩:∃W3,W3=w3.alloc (.cells #[.int .i64 A1] 3):=⟨_,rfl⟩
  have hsz3:W3.heap.size=w3.heap.size+1:=by rw[hW3];simp
  rw[←hW3] at b3 o3
  have o2b:=owns_below o2' b3
  have kR5:=kR4.below b3
  have h5:=h4.below b3
  have HG5:=xH1 (grown_trans HG4.out (grown_of_below b3 _))
  have b4:Below W3.heap.size W3 (W3.alloc (.cells #[.int .i64 2] 3)):=xA1
  have o4:=owns_of_blk (B:=w1.heap.size) (Blk.new W3 #[.int .i64 2] 3) (by omega) (sz:=1) (m:=1) rfl (by decide)
  have o2c:=owns_below o2b b4
  have o3c:=owns_below o3 b4
  have kR6:=kR5.below b4
  have h6:=h5.below b4
  have HG6:=xH1 (grown_trans HG5.out (grown_of_below b4 _))
  clear h4 h5 kR3 kR4 kR5 b3 b4 o2 o2' o2b o3 g4 h3
  go_wp2_with fail
  rw[←hW3]
  refine(num_new R a n c bs (pos+1+1+1) 3 [1,0,2] _ h6 (by omega) rfl (by omega) (by omega) _ (by simp;omega) _ rfl).mono ?_
  rintro e w4 ⟨A2,rfl,hA2,h7,g7,s7⟩
  have s7':w3.heap.size+2≤w4.heap.size:=by have:=s7;simp at this;omega
  have kR7:=kR6.grown g7 (by simp;omega)
  have HG7:=xH1 (grown_trans HG6.out g7)
  have o2d:=owns_grown o2c g7 (fun k e1 e2=>by cases e2;have:=owns_row o2c _ e1;omega)
  have o3d:=owns_grown o3c g7 (fun k e1 e2=>by cases e2;have:=owns_row o3c _ e1;omega)
  have o4d:=owns_grown o4 g7 (fun k e1 e2=>by cases e2;have:=owns_row o4 _ e1;omega)
  clear kR6 h6 g7 o2c o3c o4 hW3
  obtain⟨W4,hW4⟩:∃W4,W4=w4.alloc (.cells #[.int .i64 A2] 3):=⟨_,rfl⟩
  have hsz4:W4.heap.size=w4.heap.size+1:=by rw[hW4];simp
  have b5:Below w4.heap.size w4 W4:=by rw[hW4];exact xA1
  have o5:=owns_of_blk (B:=w1.heap.size) (Blk.new w4 #[.int .i64 A2] 3) (by omega) (sz:=1) (m:=1) rfl (by decide)
  rw[←hW4] at o5
  obtain⟨W5,hW5⟩:∃W5,W5=W4.alloc (.cells #[.slice (some ⟨w2.heap.size,0,none⟩) 2 2,.slice (some ⟨w3.heap.size,0,none⟩) 1 1,.slice (some ⟨w3.heap.size+1,0,none⟩) 1 1,.slice (some ⟨w4.heap.size,0,none⟩) 1 1,.slice none 0 0] 26):=⟨_,rfl⟩
  have b6:Below W4.heap.size W4 W5:=by rw[hW5];exact xA1
  have kB:Blk W5 (w4.heap.size+1) #[.slice (some ⟨w2.heap.size,0,none⟩) 2 2,.slice (some ⟨w3.heap.size,0,none⟩) 1 1,.slice (some ⟨w3.heap.size+1,0,none⟩) 1 1,.slice (some ⟨w4.heap.size,0,none⟩) 1 1,.slice none 0 0] 26:=by rw[hW5,←hsz4];exact Blk.new _ _ _
  rw[hsz3] at o4d
  have HC:Hid (CopyAt W5 w1.heap.size (w4.heap.size+1) ⟨some ⟨w2.heap.size,0,none⟩,2,2,some ⟨w3.heap.size,0,none⟩,1,1,some ⟨w3.heap.size+1,0,none⟩,1,1,some ⟨w4.heap.size,0,none⟩,1,1,none,0,0⟩ [] ⟨[A0,1],[A1],[2],[A2],[]⟩ 0):=xH1 (CopyAt.four kB (owns_below (owns_below o2d b5) b6) (owns_below (owns_below o3d b5) b6) (owns_below (owns_below o4d b5) b6) (owns_below o5 b6))
  have kR8:=(kR7.below b5).below b6
  have h8:=(h7.below b5).below b6
  have HG8:=xH1 (grown_trans (grown_trans HG7.out (grown_of_below b5 _)) (grown_of_below b6 _))
  have s8:=b6.size
  clear h7 kR7 b5 b6 o2d o3d o4d o5 kB
  go_wp2_with fail
  rw[←hW4,←hW5]
  refine(pick_some R a n c bs (pos+1+1+1+1) 2 _ h8 (by omega) (by omega)).mono ?_
  rintro e w5 ⟨z,rfl,hz,h9,g9,hs9⟩
  have s9:=g9.size
  have b5s:W5.heap.size=w4.heap.size+2:=by rw[hW5,hW4];simp
  have HC9:=xH1 (HC.out.drawn g9 (by omega) (by omega))
  have kR9:=kR8.grown g9 (by simp;omega)
  have HG9:=xH1 (grown_trans HG8.out g9)
  clear h8 kR8 g9 hs9 hW4 hW5 HC
  have hzl:2+z≤3:=by omega
  go_wp2_with fail
  go_loopw [6] (fun vi wr=>∃(j:Nat) (v:PV) (vs:List Value) (p:Pg) (pos':Int),vi= .int .i64 j∧p.threads.length+j≤3∧pos'≤pos+5+17*p.threads.length∧Hid (CopyAt wr w1.heap.size (w4.heap.size+1) v vs p p.threads.length)∧Hid (ShortP p p.threads.length)∧Hid (Rdr wr R a n c bs pos')∧Hid (Blk wr w.heap.size #[.slice none 0 0,.slice none 0 0,.slice none 0 0,.slice none 0 0,.slice none 0 0] 26)∧Hid (w.grownBy wr (some R))∧w4.heap.size+2≤wr.heap.size) (fun vi _=>(intOf vi).toNat)
  case atStart=>exact⟨2+z,_,_,⟨[A0,1],[A1],[2],[A2],[]⟩,pos+1+1+1+1+1,by go_num,by simp;omega,by simp;omega,HC9,xH1 ⟨by simp,by simp,by simp,by simp,by simp,by simp⟩,xH1 h9,xH1 kR9,HG9,by have:=b5s;omega⟩
  case round=>
   obtain⟨wo,rfl⟩:∃x,x=wr:=⟨_,rfl⟩
   obtain⟨j,v,vs,p,pos',rfl,hj3,hpos,HC,HS,HD,HR,HG,hS⟩:=hrel
   by_cases hj:0<j
   ·have t38:decide ((0:Int)<(j:Int))=true:=decide_eq_true (by omega)
    have bE:Below wo.heap.size wo (wo.alloc (.cells #[] 58)):=xA1
    have oE:=owns_empty wo 58 3
    have HDE:=xH1 (HD.out.below bE)
    have HGE:=xH1 (grown_of_below bE (some R))
    clear bE
    go_wp2_with fail
    refine(num_new R a n c bs pos' 5 [2,3,1,4,0] _ HDE.out (by omega) rfl (by omega) (by omega) _ (by simp) _ rfl).mono ?_
    rintro e w6 ⟨Q,rfl,hQ,h10,g10,s10⟩
    have s10':wo.heap.size+1≤w6.heap.size:=by simpa using s10
    have oE2:=owns_grown oE g10 (fun k e1 e2=>by cases e2;have:=owns_row oE _ e1;omega)
    have HW10:=xH1 (grown_trans HGE.out g10)
    have HD10:=xH1 h10
    obtain⟨q,rfl,hq4⟩:∃q:Nat,Q=(q:Int)∧q≤4:=by
     simp only[List.mem_cons,List.not_mem_nil,or_false] at hQ
     rcases hQ with rfl|rfl|rfl|rfl|rfl
     ·exact⟨2,rfl,by omega⟩
     ·exact⟨3,rfl,by omega⟩
     ·exact⟨1,rfl,by omega⟩
     ·exact⟨4,rfl,by omega⟩
     ·exact⟨0,rfl,by omega⟩
    clear hQ h10 g10 oE
    go_wp2_with fail
    go_loopw [7,8] (fun v7 v8 wi=>∃(u:Nat) (l:List OpD) (an:Option Addr) (cn:Nat) (pos2:Int),v7= .slice an l.length cn∧v8= .int .i64 u∧l.length+u≤4∧pos2≤pos'+1+4*l.length∧wi.ownsRow wo.heap.size 58 3 (.slice an l.length cn) l.length (opsV l)∧Hid (wo.grownBy wi (some R))∧Hid (Rdr wi R a n c bs pos2)∧wo.heap.size+1≤wi.heap.size) (fun _ v8 _=>(intOf v8).toNat)
    case atStart=>exact⟨q,[],_,_,pos'+1,rfl,rfl,by simp;omega,by simp,oE2,HW10,HD10,s10'⟩
    case round=>
     obtain⟨wi,rfl⟩:∃x,x=wr:=⟨_,rfl⟩
     obtain⟨u,l,an,cn,pos2,rfl,rfl,hlu,hpos2,hown,HWi,HDi,hSi⟩:=hrel
     have HCi:=xH1 (HC.out.drawn HWi.out (by omega) (by omega))
     by_cases hu:0<u
     ·have e0:=HCi.out.blk.cell 0 rfl
      have e1:=HCi.out.blk.cell 1 rfl
      have e2:=HCi.out.blk.cell 2 rfl
      have e3:=HCi.out.blk.cell 3 rfl
      have e4:=HCi.out.blk.cell 4 rfl
      go_wp2_with fail
      refine(l6Op_any R a n c bs pos2 v vs p _ HDi.out (by omega) (HCi.out.own rfl) (fun hm=>by have:=HCi.out.fresh _ hm;omega) (HCi.out.small HS.out (by omega))).mono ?_
      rintro e w7 ⟨o,pos3,rfl,hob,h11,hp3,g11⟩
      have s11:=g11.size
      have hown7:=owns_grown hown g11 (fun k e1 e2=>by cases e2;have:=owns_row hown _ e1;omega)
      have HW12:=xH1 (grown_trans HWi.out g11)
      have HD12:=xH1 h11
      have hB7:wo.heap.size≤w7.heap.size:=by omega
      have ONE:Hid (∀u∈opv o,u.oneCell'=true):=xH1 (by intro u hu;simp only[opv,List.mem_cons,List.not_mem_nil,or_false] at hu;rcases hu with rfl|rfl|rfl<;>rfl)
      obtain⟨u',rfl⟩:∃u',u=u'+1:=⟨u-1,by omega⟩
      clear e0 e1 e2 e3 e4 hown h11 g11 HCi HDi HWi
      go_wp2_with (at_builtin;refine wpList_append_sl (m:=1) (cm:=1) (news:=opv o) rfl (.tmp 49) (.tmp 53) 51 rfl Tryz.underlying51 info_op rfl (by decide) rfl hown7 rfl (by rw[opv_len]) rfl ONE.out (by omega) (by decide) hB7 ?_;intro a5 c5 w8 hown8 hgr8;have HOWN:=xH1 hown7;clear hown7)
      go_roundw
      case rel=>
       have s8:=hgr8.size
       have hrow:∀k,rowOf an=some k→wo.heap.size≤k:=fun k hk=>(owns_row HOWN.out k hk).1
       refine⟨u',l++[o],a5,c5,pos3,by simp,by go_num,by simp;omega,by simp;omega,by simpa[opsV] using hown8,xH1 (grown_new HW12.out hgr8 (fun q hq=>hrow q hq)),xH1 (HD12.out.gr hgr8 (fun q hq=>by have:=hrow q hq;omega)),by omega⟩
      case measure=>simp[intOf]
     ·obtain rfl:u=0:=by omega
      have e4:=HCi.out.blk.cell 4 rfl
      have hot:=HCi.out.ot
      have hSi2:w1.heap.size≤wi.heap.size:=by omega
      have HO:=xH1 (owns_mono hown (B':=0) (Nat.zero_le _))
      have HF:Hid (∀q,rowOf an=some q→w1.heap.size≤q∧q∉fpV vs):=xH1 (fun q hq=>by
       have h1:=(owns_row hown q hq).1
       exact⟨by omega,fun hm=>by have h2:=HC.out.inn.lt q hm;omega⟩)
      have HRi:=xH1 (HR.out.grown HWi.out (by simp;omega))
      have HGi:=xH1 (grown_trans HG.out HWi.out)
      have hnt:v.nt≤9:=by
       have h1:=HC.out.ot.1
       have h2:=HC.out.inn.len
       simp only[List.length_map,List.take_length] at h2
       omega
      obtain⟨j',rfl⟩:∃j',j=j'+1:=⟨j-1,by omega⟩
      clear hown
      go_wp2_with (at_builtin;refine wpList_append_sl (news:=[.slice an l.length cn]) rfl (.tmp 56) (.tmp 58) 24 rfl Tryz.underlying24 info_ops rfl (by decide) rfl hot rfl rfl rfl (by simp[Value.oneCell']) (by omega) (by decide) hSi2 ?_;intro a6 c6 w8 hown8 hgr8;have hy4:=(HCi.out.blk.grown hgr8 (blk_owns HCi.out.blk hot types_ne.2.2.2.1)).fz 4;have hx4:=(HCi.out.blk.grown hgr8 (blk_owns HCi.out.blk hot types_ne.2.2.2.1)).cell 4 rfl)
      go_roundw
      case rel=>
       have s8:=hgr8.size
       have hrow:∀k,rowOf v.t=some k→w1.heap.size≤k:=fun k hk=>(owns_row hot k hk).1
       have gs:=grown_set w8 (w4.heap.size+1) 4 (.slice a6 (v.nt+1) c6)
       refine⟨j',v.thr a6 (v.nt+1) c6,vs++[.slice an l.length cn],{p with threads:=p.threads++[l]},pos2,by go_num,by simp;omega,by simp;omega,xH1 (HCi.out.more HO.out HF.out hown8 hgr8),xH1 ⟨HS.out.s,HS.out.g,HS.out.b,HS.out.r,by simp,fun t ht=> ?_⟩,xH1 ((HDi.out.gr hgr8 (fun q hq=>by have:=hrow q hq;omega)).gr gs (fun i e=>by cases e;omega)),xH1 ((HRi.out.grown hgr8 (fun e=>by have:=hrow _ e;omega)).other _ _ (by simp;omega)),xH1 (grown_new (grown_new HGi.out hgr8 (fun q hq=>by have:=hrow q hq;omega)) gs (fun i e=>by cases e;omega)),by simp;omega⟩
       rcases xP1 ht with ht|ht
       ·exact HS.out.i t ht
       ·obtain rfl:=xS1 ht;omega
      case measure=>simp[intOf]
   ·have hj0:j=0:=by omega
    subst hj0
    have e0:=HC.out.blk.cell 0 rfl
    have e1:=HC.out.blk.cell 1 rfl
    have e2:=HC.out.blk.cell 2 rfl
    have e3:=HC.out.blk.cell 3 rfl
    have e4:=HC.out.blk.cell 4 rfl
    have y0:=HR.out.cell 0 rfl
    have x0:=HR.out.fz 0
    have y1:=HR.out.cell 1 rfl
    have x1:=HR.out.fz 1
    have y2:=HR.out.cell 2 rfl
    have x2:=HR.out.fz 2
    have y3:=HR.out.cell 3 rfl
    have x3:=HR.out.fz 3
    have y4:=HR.out.cell 4 rfl
    have x4:=HR.out.fz 4
    have hz5:wo.grownBy (((((wo.setCell ⟨w.heap.size,0,none⟩ (.slice v.s v.ns v.cs)).setCell ⟨w.heap.size,1,none⟩ (.slice v.g v.ng v.cg)).setCell ⟨w.heap.size,2,none⟩ (.slice v.b v.nb v.cb)).setCell ⟨w.heap.size,3,none⟩ (.slice v.r v.nr v.cr)).setCell ⟨w.heap.size,4,none⟩ (.slice v.t v.nt v.ct)) (some w.heap.size):=grown_trans (grown_trans (grown_trans (grown_trans (grown_set _ _ _ _) (grown_set _ _ _ _)) (grown_set _ _ _ _)) (grown_set _ _ _ _)) (grown_set _ _ _ _)
    have HZ5:=xH1 hz5
    clear hz5
    go_wp2
    refine bodyPost_ret (v:= .agg #[.slice v.s v.ns v.cs,.slice v.g v.ng v.cg,.slice v.b v.nb v.cb,.slice v.r v.nr v.cr,.slice v.t v.nt v.ct]) (by simp[results,Tryz.results35,go_sem,y0,y1,y2,y3,y4]) rfl ⟨v,vs,p,pos',rfl,(HC.out.own rfl).keep (fun k hk hl=>HZ5.out.block k hl (fun e=>by cases e;have:=HC.out.fresh _ hk;omega)),fun q hq=>by have:=HC.out.fresh q hq;omega,HS.out.few (by omega),HD.out.gr HZ5.out (fun i e=>by cases e;omega),by omega,grown_new HG.out HZ5.out (fun i e=>by cases e;omega)⟩
theorem l6Copy_any (v:PV) (p:Pg) (w:World) (hr:RdP w v p) (hz:Small v p):
  Calls Tryz.prog 18 #[.agg #[.slice v.s v.ns v.cs,.slice v.g v.ng v.cg,.slice v.b v.nb v.cb,.slice v.r v.nr v.cr,.slice v.t v.nt v.ct]] w fun e w'=>∃(u:PV) (us:List Value),e= .returned (.agg #[.slice u.s u.ns u.cs,.slice u.g u.ng u.cg,.slice u.b u.nb u.cb,.slice u.r u.nr u.cr,.slice u.t u.nt u.ct])∧OwnP w' u us p.cells∧(fpV us).Nodup∧(∀k∈fpP u us,w.heap.size≤k)∧Four u∧Below w.heap.size w w':=by
 have hs:v.ns≤maxLen∧v.ng≤maxLen∧v.nb≤maxLen∧v.nr≤maxLen:=by
  obtain⟨z1,z2,z3,z4,z5,z6⟩:=hz;unfold maxLen;omega
 have zz:Hid (v.ns≤maxLen∧v.ng≤maxLen∧v.nb≤maxLen∧v.nr≤maxLen):=xH1 hs
 have HZ:=xH1 hz
 have z5:v.nt≤1048576:=hz.lt
 have Z6:=xH1 hz.inn
 have ls:=xH1 hr.ls
 have lg:=xH1 hr.lg
 have lb:=xH1 hr.lb
 have lr:=xH1 hr.lr
 have lt:=xH1 hr.lt
 clear hz
 have B0:Below w.heap.size w (w.alloc (.cells #[.slice v.s v.ns v.cs,.slice v.g v.ng v.cg,.slice v.b v.nb v.cb,.slice v.r v.nr v.cr,.slice v.t v.nt v.ct] 26)):=xA1
 have k0:Blk (w.alloc (.cells #[.slice v.s v.ns v.cs,.slice v.g v.ng v.cg,.slice v.b v.nb v.cb,.slice v.r v.nr v.cr,.slice v.t v.nt v.ct] 26)) w.heap.size #[.slice v.s v.ns v.cs,.slice v.g v.ng v.cg,.slice v.b v.nb v.cb,.slice v.r v.nr v.cr,.slice v.t v.nt v.ct] 26:=Blk.new _ _ _
 have q0:(w.alloc (.cells #[.slice v.s v.ns v.cs,.slice v.g v.ng v.cg,.slice v.b v.nb v.cb,.slice v.r v.nr v.cr,.slice v.t v.nt v.ct] 26)).cell? ⟨w.heap.size,0,none⟩=some (.slice v.s v.ns v.cs):=k0.cell 0 rfl
 have q1:(w.alloc (.cells #[.slice v.s v.ns v.cs,.slice v.g v.ng v.cg,.slice v.b v.nb v.cb,.slice v.r v.nr v.cr,.slice v.t v.nt v.ct] 26)).cell? ⟨w.heap.size,1,none⟩=some (.slice v.g v.ng v.cg):=k0.cell 1 rfl
 have q2:(w.alloc (.cells #[.slice v.s v.ns v.cs,.slice v.g v.ng v.cg,.slice v.b v.nb v.cb,.slice v.r v.nr v.cr,.slice v.t v.nt v.ct] 26)).cell? ⟨w.heap.size,2,none⟩=some (.slice v.b v.nb v.cb):=k0.cell 2 rfl
 have q3:(w.alloc (.cells #[.slice v.s v.ns v.cs,.slice v.g v.ng v.cg,.slice v.b v.nb v.cb,.slice v.r v.nr v.cr,.slice v.t v.nt v.ct] 26)).cell? ⟨w.heap.size,3,none⟩=some (.slice v.r v.nr v.cr):=k0.cell 3 rfl
 have q4:(w.alloc (.cells #[.slice v.s v.ns v.cs,.slice v.g v.ng v.cg,.slice v.b v.nb v.cb,.slice v.r v.nr v.cr,.slice v.t v.nt v.ct] 26)).cell? ⟨w.heap.size,4,none⟩=some (.slice v.t v.nt v.ct):=k0.cell 4 rfl
 clear k0
 have zs:v.ns≤1048576:=HZ.out.ls
 have zg:v.ng≤1048576:=HZ.out.lg
 have zb:v.nb≤1048576:=HZ.out.lb
 have zr:v.nr≤1048576:=HZ.out.lr
 have Hs:Hid ((ints p.sems).length=v.ns*1):=xH1 (by simp[ls.out])
 have Hg:Hid ((ints p.groups).length=v.ng*1):=xH1 (by simp[lg.out])
 have Hb:Hid ((ints p.barriers).length=v.nb*1):=xH1 (by simp[lb.out])
 have Hr:Hid ((ints p.rooms).length=v.nr*1):=xH1 (by simp[lr.out])
 go_enter Tryz.func18,Tryz.ntmps18
 go_wp2
 obtain⟨W0,hW0⟩:∃W0:World,W0=(w.alloc (.cells #[.slice v.s v.ns v.cs,.slice v.g v.ng v.cg,.slice v.b v.nb v.cb,.slice v.r v.nr v.cr,.slice v.t v.nt v.ct] 26)):=⟨_,rfl⟩
 have hw0s:W0.heap.size=w.heap.size+1:=by rw[hW0];simp
 have HW0:=xH1 hw0s
 clear hw0s
 rw[←hW0] at B0 q0 q1 q2 q3 q4⊢
 clear hW0
 obtain⟨W1,hW1⟩:∃W1:World,W1=W0.alloc (.cells #[.slice none 0 0,.slice none 0 0,.slice none 0 0,.slice none 0 0,.slice none 0 0] 26):=⟨_,rfl⟩
 have b1:Below W0.heap.size W0 (W0.alloc (.cells #[.slice none 0 0,.slice none 0 0,.slice none 0 0,.slice none 0 0,.slice none 0 0] 26)):=xA1
 have kR:Blk (W0.alloc (.cells #[.slice none 0 0,.slice none 0 0,.slice none 0 0,.slice none 0 0,.slice none 0 0] 26)) (w.heap.size+1) #[.slice none 0 0,.slice none 0 0,.slice none 0 0,.slice none 0 0,.slice none 0 0] 26:=by rw[←HW0.out];exact Blk.new _ _ _
 rw[←hW1] at b1 kR⊢
 have hr1:=kR.lt
 clear hW1
 replace q0:=keepc b1 q0
 replace q1:=keepc b1 q1
 replace q2:=keepc b1 q2
 replace q3:=keepc b1 q3
 replace q4:=keepc b1 q4
 replace B0:=B0.trans (b1.mono B0.size)
 clear b1
 refine wp_region_fresh 18 (by kernel_rfl) (by kernel_rfl) [fun dz uz wz=>∃gz:Nat,uz= .slice (some ⟨gz,0,none⟩) 0 0∧wz.ownsRow W1.heap.size 3 1 (.slice (some ⟨gz,0,none⟩) 0 0) 0 [],fun dz uz wz=>uz= .pointer (some ⟨w.heap.size,0,none⟩),fun dz uz wz=>uz= .slice v.s v.ns v.cs,fun dz uz wz=>∃(az:Option Addr) (cz:Nat),uz= .slice az v.ns cz∧wz.ownsRow W1.heap.size 3 1 (.slice az v.ns cz) v.ns (ints p.sems)∧(v.ns=0→cz=0),fun dz uz wz=>∃gz:Nat,uz= .slice (some ⟨gz,0,none⟩) 0 0∧wz.ownsRow W1.heap.size 3 1 (.slice (some ⟨gz,0,none⟩) 0 0) 0 [],fun dz uz wz=>uz= .pointer (some ⟨w.heap.size,1,none⟩),fun dz uz wz=>uz= .slice v.g v.ng v.cg,fun dz uz wz=>∃(az:Option Addr) (cz:Nat),uz= .slice az v.ng cz∧wz.ownsRow W1.heap.size 3 1 (.slice az v.ng cz) v.ng (ints p.groups)∧(v.ng=0→cz=0),fun dz uz wz=>∃gz:Nat,uz= .slice (some ⟨gz,0,none⟩) 0 0∧wz.ownsRow W1.heap.size 3 1 (.slice (some ⟨gz,0,none⟩) 0 0) 0 [],fun dz uz wz=>uz= .pointer (some ⟨w.heap.size,2,none⟩),fun dz uz wz=>uz= .slice v.b v.nb v.cb,fun dz uz wz=>∃(az:Option Addr) (cz:Nat),uz= .slice az v.nb cz∧wz.ownsRow W1.heap.size 3 1 (.slice az v.nb cz) v.nb (ints p.barriers)∧(v.nb=0→cz=0),fun dz uz wz=>∃gz:Nat,uz= .slice (some ⟨gz,0,none⟩) 0 0∧wz.ownsRow W1.heap.size 3 1 (.slice (some ⟨gz,0,none⟩) 0 0) 0 [],fun dz uz wz=>uz= .pointer (some ⟨w.heap.size,3,none⟩),fun dz uz wz=>uz= .slice v.r v.nr v.cr,fun dz uz wz=>∃(az:Option Addr) (cz:Nat),uz= .slice az v.nr cz∧wz.ownsRow W1.heap.size 3 1 (.slice az v.nr cz) v.nr (ints p.rooms)∧(v.nr=0→cz=0),fun dz uz wz=>uz=Value.agg #[(dz.getD 0 undef),(dz.getD 1 undef),(dz.getD 2 undef),(dz.getD 3 undef),.slice none 0 0],fun dz uz wz=>∃gz:Nat,uz= .pointer (some ⟨gz,0,none⟩)∧Blk wz gz #[.slice none 0 0,.slice none 0 0,.slice none 0 0,.slice none 0 0,.slice none 0 0] 26∧W1.heap.size≤gz] (fun i=>match i with|3=>slBk v.ns|7=>slBk v.ng|11=>slBk v.nb|15=>slBk v.nr|17=>ptBk|_=>fun _=>none) (fun w'=>Below W1.heap.size W1 w') xB1.drew (stab_of ⟨fun _ _ _ _ hb ⟨g,e,h⟩=>⟨g,e,owns_below h hb⟩,fun _ _ _ _ _ h=>h,fun _ _ _ _ _ h=>h,fun _ _ _ _ hb ⟨a,c,e,h,h0⟩=>⟨a,c,e,owns_below h hb,h0⟩,fun _ _ _ _ hb ⟨g,e,h⟩=>⟨g,e,owns_below h hb⟩,fun _ _ _ _ _ h=>h,fun _ _ _ _ _ h=>h,fun _ _ _ _ hb ⟨a,c,e,h,h0⟩=>⟨a,c,e,owns_below h hb,h0⟩,fun _ _ _ _ hb ⟨g,e,h⟩=>⟨g,e,owns_below h hb⟩,fun _ _ _ _ _ h=>h,fun _ _ _ _ _ h=>h,fun _ _ _ _ hb ⟨a,c,e,h,h0⟩=>⟨a,c,e,owns_below h hb,h0⟩,fun _ _ _ _ hb ⟨g,e,h⟩=>⟨g,e,owns_below h hb⟩,fun _ _ _ _ _ h=>h,fun _ _ _ _ _ h=>h,fun _ _ _ _ hb ⟨a,c,e,h,h0⟩=>⟨a,c,e,owns_below h hb,h0⟩,fun _ _ _ _ _ h=>h,fun _ _ _ _ hb ⟨g,e,h,hs⟩=>⟨g,e,h.below hb,hs⟩,trivial⟩) ?_ ?_
 ·simp only[List.take_succ_cons,List.take_zero]
  refine⟨?_,?_,?_,?_,?_,?_,?_,?_,?_,?_,?_,?_,?_,?_,?_,?_,?_,?_,trivial⟩
  ·intro ρ w1 hG hfr hd
   refine gives_val (u:= .slice (some ⟨w1.heap.size,0,none⟩) 0 0) (w':=w1.alloc (.cells #[] 3)) (by go_simp) ⟨xA1,⟨_,rfl,owns_mono (owns_empty w1 3 1) hG.size⟩,xN1,hG.alloc hG.size _⟩
  ·intro ρ w1 hG hfr hd
   have f1:ρ (.tmp 1)= .pointer (some ⟨w.heap.size,0,none⟩):=hfr _ rfl
   refine gives_val (u:= .pointer (some ⟨w.heap.size,0,none⟩)) (w':=w1) (by go_simp) ⟨Below.refl _ _,rfl,xN1,hG⟩
  ·intro ρ w1 hG hfr hd
   obtain⟨d0,-⟩:=hd
   have d0:(ρ (.tmp 6))= .pointer (some ⟨w.heap.size,0,none⟩):=d0
   have q0:=keepc hG q0
   refine gives_val (u:= .slice v.s v.ns v.cs) (w':=w1) (by go_simp) ⟨Below.refl _ _,rfl,xN1,hG⟩
  ·intro ρ w1 hG hfr hd
   obtain⟨d0,d1,-⟩:=hd
   have d0:∃gz:Nat,(ρ (.tmp 5))= .slice (some ⟨gz,0,none⟩) 0 0∧w1.ownsRow W1.heap.size 3 1 (.slice (some ⟨gz,0,none⟩) 0 0) 0 []:=d0
   have d1:(ρ (.tmp 7))= .slice v.s v.ns v.cs:=d1
   obtain⟨g,d0,hg⟩:=d0
   refine gives_append_new _ _ 23 rfl Tryz.underlying23 info_int rfl (by decide) d0 hg d1 Hs.out (hr.rs.below (B0.trans (hG.mono B0.size))) (ints_one p.sems) (by omega) (by decide) hG.size ?_
   intro a c w2 hown hb hf h0
   exact⟨hb,⟨a,c,rfl,hown,h0⟩,slBk_new hown hf,hG.trans (hb.mono hG.size)⟩
  ·intro ρ w1 hG hfr hd
   refine gives_val (u:= .slice (some ⟨w1.heap.size,0,none⟩) 0 0) (w':=w1.alloc (.cells #[] 3)) (by go_simp) ⟨xA1,⟨_,rfl,owns_mono (owns_empty w1 3 1) hG.size⟩,xN1,hG.alloc hG.size _⟩
  ·intro ρ w1 hG hfr hd
   have f1:ρ (.tmp 1)= .pointer (some ⟨w.heap.size,0,none⟩):=hfr _ rfl
   refine gives_val (u:= .pointer (some ⟨w.heap.size,1,none⟩)) (w':=w1) (by go_simp) ⟨Below.refl _ _,rfl,xN1,hG⟩
  ·intro ρ w1 hG hfr hd
   obtain⟨d0,-⟩:=hd
   have d0:(ρ (.tmp 10))= .pointer (some ⟨w.heap.size,1,none⟩):=d0
   have q1:=keepc hG q1
   refine gives_val (u:= .slice v.g v.ng v.cg) (w':=w1) (by go_simp) ⟨Below.refl _ _,rfl,xN1,hG⟩
  ·intro ρ w1 hG hfr hd
   obtain⟨d0,d1,d2,-⟩:=hd
   have d0:∃gz:Nat,(ρ (.tmp 9))= .slice (some ⟨gz,0,none⟩) 0 0∧w1.ownsRow W1.heap.size 3 1 (.slice (some ⟨gz,0,none⟩) 0 0) 0 []:=d0
   have d1:(ρ (.tmp 11))= .slice v.g v.ng v.cg:=d1
   have d2:∃(az:Option Addr) (cz:Nat),(ρ (.tmp 8))= .slice az v.ns cz∧w1.ownsRow W1.heap.size 3 1 (.slice az v.ns cz) v.ns (ints p.sems)∧(v.ns=0→cz=0):=d2
   obtain⟨g,d0,hg⟩:=d0
   refine gives_append_new _ _ 23 rfl Tryz.underlying23 info_int rfl (by decide) d0 hg d1 Hg.out (hr.rg.below (B0.trans (hG.mono B0.size))) (ints_one p.groups) (by omega) (by decide) hG.size ?_
   intro a c w2 hown hb hf h0
   exact⟨hb,⟨a,c,rfl,hown,h0⟩,slBk_new hown hf,hG.trans (hb.mono hG.size)⟩
  ·intro ρ w1 hG hfr hd
   refine gives_val (u:= .slice (some ⟨w1.heap.size,0,none⟩) 0 0) (w':=w1.alloc (.cells #[] 3)) (by go_simp) ⟨xA1,⟨_,rfl,owns_mono (owns_empty w1 3 1) hG.size⟩,xN1,hG.alloc hG.size _⟩
  ·intro ρ w1 hG hfr hd
   have f1:ρ (.tmp 1)= .pointer (some ⟨w.heap.size,0,none⟩):=hfr _ rfl
   refine gives_val (u:= .pointer (some ⟨w.heap.size,2,none⟩)) (w':=w1) (by go_simp) ⟨Below.refl _ _,rfl,xN1,hG⟩
  ·intro ρ w1 hG hfr hd
   obtain⟨d0,-⟩:=hd
   have d0:(ρ (.tmp 14))= .pointer (some ⟨w.heap.size,2,none⟩):=d0
   have q2:=keepc hG q2
   refine gives_val (u:= .slice v.b v.nb v.cb) (w':=w1) (by go_simp) ⟨Below.refl _ _,rfl,xN1,hG⟩
  ·intro ρ w1 hG hfr hd
   obtain⟨d0,d1,d2,-⟩:=hd
   have d0:∃gz:Nat,(ρ (.tmp 13))= .slice (some ⟨gz,0,none⟩) 0 0∧w1.ownsRow W1.heap.size 3 1 (.slice (some ⟨gz,0,none⟩) 0 0) 0 []:=d0
   have d1:(ρ (.tmp 15))= .slice v.b v.nb v.cb:=d1
   have d2:∃(az:Option Addr) (cz:Nat),(ρ (.tmp 12))= .slice az v.ng cz∧w1.ownsRow W1.heap.size 3 1 (.slice az v.ng cz) v.ng (ints p.groups)∧(v.ng=0→cz=0):=d2
   obtain⟨g,d0,hg⟩:=d0
   refine gives_append_new _ _ 23 rfl Tryz.underlying23 info_int rfl (by decide) d0 hg d1 Hb.out (hr.rb.below (B0.trans (hG.mono B0.size))) (ints_one p.barriers) (by omega) (by decide) hG.size ?_
   intro a c w2 hown hb hf h0
   exact⟨hb,⟨a,c,rfl,hown,h0⟩,slBk_new hown hf,hG.trans (hb.mono hG.size)⟩
  ·intro ρ w1 hG hfr hd
   refine gives_val (u:= .slice (some ⟨w1.heap.size,0,none⟩) 0 0) (w':=w1.alloc (.cells #[] 3)) (by go_simp) ⟨xA1,⟨_,rfl,owns_mono (owns_empty w1 3 1) hG.size⟩,xN1,hG.alloc hG.size _⟩
  ·intro ρ w1 hG hfr hd
   have f1:ρ (.tmp 1)= .pointer (some ⟨w.heap.size,0,none⟩):=hfr _ rfl
   refine gives_val (u:= .pointer (some ⟨w.heap.size,3,none⟩)) (w':=w1) (by go_simp) ⟨Below.refl _ _,rfl,xN1,hG⟩
  ·intro ρ w1 hG hfr hd
   obtain⟨d0,-⟩:=hd
   have d0:(ρ (.tmp 18))= .pointer (some ⟨w.heap.size,3,none⟩):=d0
   have q3:=keepc hG q3
   refine gives_val (u:= .slice v.r v.nr v.cr) (w':=w1) (by go_simp) ⟨Below.refl _ _,rfl,xN1,hG⟩
  ·intro ρ w1 hG hfr hd
   obtain⟨d0,d1,d2,-⟩:=hd
   have d0:∃gz:Nat,(ρ (.tmp 17))= .slice (some ⟨gz,0,none⟩) 0 0∧w1.ownsRow W1.heap.size 3 1 (.slice (some ⟨gz,0,none⟩) 0 0) 0 []:=d0
   have d1:(ρ (.tmp 19))= .slice v.r v.nr v.cr:=d1
   have d2:∃(az:Option Addr) (cz:Nat),(ρ (.tmp 16))= .slice az v.nb cz∧w1.ownsRow W1.heap.size 3 1 (.slice az v.nb cz) v.nb (ints p.barriers)∧(v.nb=0→cz=0):=d2
   obtain⟨g,d0,hg⟩:=d0
   refine gives_append_new _ _ 23 rfl Tryz.underlying23 info_int rfl (by decide) d0 hg d1 Hr.out (hr.rr.below (B0.trans (hG.mono B0.size))) (ints_one p.rooms) (by omega) (by decide) hG.size ?_
   intro a c w2 hown hb hf h0
   exact⟨hb,⟨a,c,rfl,hown,h0⟩,slBk_new hown hf,hG.trans (hb.mono hG.size)⟩
  ·intro ρ w1 hG hfr hd
   obtain⟨d0,d1,d2,d3,-⟩:=hd
   have d0:∃(az:Option Addr) (cz:Nat),(ρ (.tmp 8))= .slice az v.ns cz∧w1.ownsRow W1.heap.size 3 1 (.slice az v.ns cz) v.ns (ints p.sems)∧(v.ns=0→cz=0):=d0
   have d1:∃(az:Option Addr) (cz:Nat),(ρ (.tmp 12))= .slice az v.ng cz∧w1.ownsRow W1.heap.size 3 1 (.slice az v.ng cz) v.ng (ints p.groups)∧(v.ng=0→cz=0):=d1
   have d2:∃(az:Option Addr) (cz:Nat),(ρ (.tmp 16))= .slice az v.nb cz∧w1.ownsRow W1.heap.size 3 1 (.slice az v.nb cz) v.nb (ints p.barriers)∧(v.nb=0→cz=0):=d2
   have d3:∃(az:Option Addr) (cz:Nat),(ρ (.tmp 20))= .slice az v.nr cz∧w1.ownsRow W1.heap.size 3 1 (.slice az v.nr cz) v.nr (ints p.rooms)∧(v.nr=0→cz=0):=d3
   obtain⟨a0,c0,d0,-,-⟩:=d0
   obtain⟨a1,c1,d1,-,-⟩:=d1
   obtain⟨a2,c2,d2,-,-⟩:=d2
   obtain⟨a3,c3,d3,-,-⟩:=d3
   refine gives_val (u:= .agg #[.slice a0 v.ns c0,.slice a1 v.ng c1,.slice a2 v.nb c2,.slice a3 v.nr c3,.slice none 0 0]) (w':=w1) (by go_simp) ⟨Below.refl _ _,?_,xN1,hG⟩
   show Value.agg #[.slice a0 v.ns c0,.slice a1 v.ng c1,.slice a2 v.nb c2,.slice a3 v.nr c3,.slice none 0 0]=Value.agg #[(ρ (.tmp 8)),(ρ (.tmp 12)),(ρ (.tmp 16)),(ρ (.tmp 20)),.slice none 0 0]
   rw[d0,d1,d2,d3]
  ·intro ρ w1 hG hfr hd
   refine gives_val (u:= .pointer (some ⟨w1.heap.size,0,none⟩)) (w':=w1.alloc (.cells #[.slice none 0 0,.slice none 0 0,.slice none 0 0,.slice none 0 0,.slice none 0 0] 26)) (by go_simp) ⟨xA1,⟨_,rfl,Blk.new _ _ _,hG.size⟩,ptBk_new _ _,hG.alloc hG.size _⟩
 intro vs w2 hG hlen hall hap hbd
 obtain⟨xv0,vs0,rfl,hl0⟩:=len_cons hlen
 obtain⟨xv1,vs1,rfl,hl1⟩:=len_cons hl0
 obtain⟨xv2,vs2,rfl,hl2⟩:=len_cons hl1
 obtain⟨xv3,vs3,rfl,hl3⟩:=len_cons hl2
 obtain⟨xv4,vs4,rfl,hl4⟩:=len_cons hl3
 obtain⟨xv5,vs5,rfl,hl5⟩:=len_cons hl4
 obtain⟨xv6,vs6,rfl,hl6⟩:=len_cons hl5
 obtain⟨xv7,vs7,rfl,hl7⟩:=len_cons hl6
 obtain⟨xv8,vs8,rfl,hl8⟩:=len_cons hl7
 obtain⟨xv9,vs9,rfl,hl9⟩:=len_cons hl8
 obtain⟨xv10,vs10,rfl,hl10⟩:=len_cons hl9
 obtain⟨xv11,vs11,rfl,hl11⟩:=len_cons hl10
 obtain⟨xv12,vs12,rfl,hl12⟩:=len_cons hl11
 obtain⟨xv13,vs13,rfl,hl13⟩:=len_cons hl12
 obtain⟨xv14,vs14,rfl,hl14⟩:=len_cons hl13
 obtain⟨xv15,vs15,rfl,hl15⟩:=len_cons hl14
 obtain⟨xv16,vs16,rfl,hl16⟩:=len_cons hl15
 obtain⟨xv17,vs17,rfl,hl17⟩:=len_cons hl16
 obtain rfl:=len_nil hl17
 clear hlen hl0 hl1 hl2 hl3 hl4 hl5 hl6 hl7 hl8 hl9 hl10 hl11 hl12 hl13 hl14 hl15 hl16 hl17
 simp only[List.take_succ_cons,List.take_zero,List.drop_succ_cons,List.drop_zero] at hall⊢
 obtain⟨t0',t1',t2',t3',t4',t5',t6',t7',t8',t9',t10',t11',t12',t13',t14',t15',t16',t17',-⟩:=hall
 have hv0:∃gz:Nat,xv0= .slice (some ⟨gz,0,none⟩) 0 0∧w2.ownsRow W1.heap.size 3 1 (.slice (some ⟨gz,0,none⟩) 0 0) 0 []:=t0'
 have hv1:xv1= .pointer (some ⟨w.heap.size,0,none⟩):=t1'
 have hv2:xv2= .slice v.s v.ns v.cs:=t2'
 have hv3:∃(az:Option Addr) (cz:Nat),xv3= .slice az v.ns cz∧w2.ownsRow W1.heap.size 3 1 (.slice az v.ns cz) v.ns (ints p.sems)∧(v.ns=0→cz=0):=t3'
 have hv4:∃gz:Nat,xv4= .slice (some ⟨gz,0,none⟩) 0 0∧w2.ownsRow W1.heap.size 3 1 (.slice (some ⟨gz,0,none⟩) 0 0) 0 []:=t4'
 have hv5:xv5= .pointer (some ⟨w.heap.size,1,none⟩):=t5'
 have hv6:xv6= .slice v.g v.ng v.cg:=t6'
 have hv7:∃(az:Option Addr) (cz:Nat),xv7= .slice az v.ng cz∧w2.ownsRow W1.heap.size 3 1 (.slice az v.ng cz) v.ng (ints p.groups)∧(v.ng=0→cz=0):=t7'
 have hv8:∃gz:Nat,xv8= .slice (some ⟨gz,0,none⟩) 0 0∧w2.ownsRow W1.heap.size 3 1 (.slice (some ⟨gz,0,none⟩) 0 0) 0 []:=t8'
 have hv9:xv9= .pointer (some ⟨w.heap.size,2,none⟩):=t9'
 have hv10:xv10= .slice v.b v.nb v.cb:=t10'
 have hv11:∃(az:Option Addr) (cz:Nat),xv11= .slice az v.nb cz∧w2.ownsRow W1.heap.size 3 1 (.slice az v.nb cz) v.nb (ints p.barriers)∧(v.nb=0→cz=0):=t11'
 have hv12:∃gz:Nat,xv12= .slice (some ⟨gz,0,none⟩) 0 0∧w2.ownsRow W1.heap.size 3 1 (.slice (some ⟨gz,0,none⟩) 0 0) 0 []:=t12'
 have hv13:xv13= .pointer (some ⟨w.heap.size,3,none⟩):=t13'
 have hv14:xv14= .slice v.r v.nr v.cr:=t14'
 have hv15:∃(az:Option Addr) (cz:Nat),xv15= .slice az v.nr cz∧w2.ownsRow W1.heap.size 3 1 (.slice az v.nr cz) v.nr (ints p.rooms)∧(v.nr=0→cz=0):=t15'
 have hv16:xv16=Value.agg #[xv3,xv7,xv11,xv15,.slice none 0 0]:=t16'
 have hv17:∃gz:Nat,xv17= .pointer (some ⟨gz,0,none⟩)∧Blk w2 gz #[.slice none 0 0,.slice none 0 0,.slice none 0 0,.slice none 0 0,.slice none 0 0] 26∧W1.heap.size≤gz:=t17'
 clear t0' t1' t2' t3' t4' t5' t6' t7' t8' t9' t10' t11' t12' t13' t14' t15' t16' t17'
 have pv3_7:∀k,(slBk v.ns) xv3=some k→(slBk v.ng) xv7≠some k:=hap 3 7 (by simp) (by simp) (by decide)
 have pv3_11:∀k,(slBk v.ns) xv3=some k→(slBk v.nb) xv11≠some k:=hap 3 11 (by simp) (by simp) (by decide)
 have pv3_15:∀k,(slBk v.ns) xv3=some k→(slBk v.nr) xv15≠some k:=hap 3 15 (by simp) (by simp) (by decide)
 have pv7_11:∀k,(slBk v.ng) xv7=some k→(slBk v.nb) xv11≠some k:=hap 7 11 (by simp) (by simp) (by decide)
 have pv7_15:∀k,(slBk v.ng) xv7=some k→(slBk v.nr) xv15≠some k:=hap 7 15 (by simp) (by simp) (by decide)
 have pv11_15:∀k,(slBk v.nb) xv11=some k→(slBk v.nr) xv15≠some k:=hap 11 15 (by simp) (by simp) (by decide)
 clear hap hbd
 subst hv1 hv2 hv5 hv6 hv9 hv10 hv13 hv14
 obtain⟨a0,c0,rfl,o0,z0⟩:=hv3
 obtain⟨a1,c1,rfl,o1,z1⟩:=hv7
 obtain⟨a2,c2,rfl,o2,z2⟩:=hv11
 obtain⟨a3,c3,rfl,o3,z3⟩:=hv15
 obtain⟨G,rfl,kG,hGW⟩:=hv17
 subst hv16
 simp only[putAll,Act.put,List.setIfInBounds_toArray,List.set_cons_succ,List.set_cons_zero]
 have e0:=kG.cell 0 rfl
 have y0:=kG.fz 0
 have e1:=kG.cell 1 rfl
 have y1:=kG.fz 1
 have e2:=kG.cell 2 rfl
 have y2:=kG.fz 2
 have e3:=kG.cell 3 rfl
 have y3:=kG.fz 3
 have e4:=kG.cell 4 rfl
 have y4:=kG.fz 4
 have four:Four ⟨a0,v.ns,c0,a1,v.ng,c1,a2,v.nb,c2,a3,v.nr,c3,none,0,0⟩:=⟨pv3_7,pv3_11,pv3_15,pv7_11,pv7_15,pv11_15,z0,z1,z2,z3⟩
 have C0:CopyAt (((((w2.setCell ⟨G,0,none⟩ (.slice a0 v.ns c0)).setCell ⟨G,1,none⟩ (.slice a1 v.ng c1)).setCell ⟨G,2,none⟩ (.slice a2 v.nb c2)).setCell ⟨G,3,none⟩ (.slice a3 v.nr c3)).setCell ⟨G,4,none⟩ (.slice none 0 0)) W1.heap.size G ⟨a0,v.ns,c0,a1,v.ng,c1,a2,v.nb,c2,a3,v.nr,c3,none,0,0⟩ [] p 0:=by
  obtain⟨t1,t2,t3,t4,t5,t6⟩:=types_ne
  have g5:w2.grownBy (((((w2.setCell ⟨G,0,none⟩ (.slice a0 v.ns c0)).setCell ⟨G,1,none⟩ (.slice a1 v.ng c1)).setCell ⟨G,2,none⟩ (.slice a2 v.nb c2)).setCell ⟨G,3,none⟩ (.slice a3 v.nr c3)).setCell ⟨G,4,none⟩ (.slice none 0 0)) (some G):=grown_trans (grown_trans (grown_trans (grown_trans (grown_set _ _ _ _) (grown_set _ _ _ _)) (grown_set _ _ _ _)) (grown_set _ _ _ _)) (grown_set _ _ _ _)
  have far:∀{e:TypeId} {sz n' c' B':Nat} {a':Option Addr} {xs:List Value},w2.ownsRow B' e sz (.slice a' n' c') n' xs→26≠e→∀q,rowOf a'=some q→some G=some q→False:=by
   intro e sz n' c' B' a' xs ho' hne q hq e'
   cases e'
   exact blk_owns kG ho' hne hq
  refine⟨?_,owns_grown o0 g5 (far o0 t3),owns_grown o1 g5 (far o1 t3),owns_grown o2 g5 (far o2 t3),owns_grown o3 g5 (far o3 t3),World.ownsRow_nil _ _ _ _,by simpa using Inner.nil _,by simp[fpV],by simp[fpV]⟩
  have:=((((kG.set 0 (.slice a0 v.ns c0)).set 1 (.slice a1 v.ng c1)).set 2 (.slice a2 v.nb c2)).set 3 (.slice a3 v.nr c3)).set 4 (.slice none 0 0)
  simpa using this
 have BB:Below W1.heap.size W1 (((((w2.setCell ⟨G,0,none⟩ (.slice a0 v.ns c0)).setCell ⟨G,1,none⟩ (.slice a1 v.ng c1)).setCell ⟨G,2,none⟩ (.slice a2 v.nb c2)).setCell ⟨G,3,none⟩ (.slice a3 v.nr c3)).setCell ⟨G,4,none⟩ (.slice none 0 0)):=((((hG.setCell hGW _).setCell hGW _).setCell hGW _).setCell hGW _).setCell hGW _
 have HC0:=xH1 C0
 have HF:=xH1 four
 clear C0 four pv3_7 pv3_11 pv3_15 pv7_11 pv7_15 pv11_15 o0 o1 o2 o3 z0 z1 z2 z3
 go_wp2
 obtain⟨W6,hW6⟩:∃W6:World,W6=((((w2.setCell ⟨G,0,none⟩ (.slice a0 v.ns c0)).setCell ⟨G,1,none⟩ (.slice a1 v.ng c1)).setCell ⟨G,2,none⟩ (.slice a2 v.nb c2)).setCell ⟨G,3,none⟩ (.slice a3 v.nr c3)).setCell ⟨G,4,none⟩ (.slice none 0 0):=⟨_,rfl⟩
 rw[←hW6] at HC0 BB⊢
 clear hW6 e0 e1 e2 e3 e4 y0 y1 y2 y3 y4 kG hG
 go_loopw [4] (fun i wr=>∃(j:Nat) (U:PV) (us:List Value),j≤v.nt∧i= .int .i64 j∧Hid (Four U)∧Hid (CopyAt wr W1.heap.size G U us p j)∧Below W1.heap.size W1 wr) (fun i _=>v.nt-(intOf i).toNat)
 case atStart=>exact⟨0,_,_,by omega,rfl,HF,HC0,BB⟩
 case round=>
  obtain⟨j,U,us,hj,rfl,HF1,HC,hb0⟩:=hrel
  have c4:=keepc hb0 q4
  by_cases hlt:j<v.nt
  ·obtain⟨b1,o1,ea,g1'⟩:=(hr.below B0).thr (by have:=lt.out;omega)
   obtain⟨a2,x2,g1,r2⟩:=g1' j (by have:=lt.out;omega)
   rw[ea] at c4
   obtain⟨m,hm⟩:∃m,m=(p.threads.getD j []).length:=⟨_,rfl⟩
   rw[←hm] at g1
   replace g1:=keepc hb0 g1
   replace r2:=r2.below hb0
   have hmm:=Z6.out j
   rw[←hm] at hmm
   have HM:=xH1 hm
   have e4:wr.cell? ⟨G,4,none⟩=some (.slice U.t U.nt U.ct):=HC.out.blk.cell 4 rfl
   have hun:U.nt=j:=by
    have h1:=HC.out.ot.1
    have h2:=HC.out.inn.len
    simp only[List.length_map,List.length_take] at h2
    have:=lt.out
    omega
   have HU:=xH1 hun
   have hun2:U.nt≤1048576:=by omega
   have HOPS:Hid ((opsV (p.threads.getD j [])).length=m*3):=xH1 (by rw[opsV_len,hm])
   clear g1' hm ea hun
   go_wp2
   refine wp_region_fresh 10 (by kernel_rfl) (by kernel_rfl) [fun dz uz wz=>uz= .pointer (some ⟨G,4,none⟩),fun dz uz wz=>uz= .slice U.t U.nt U.ct,fun dz uz wz=>∃gz:Nat,uz= .slice (some ⟨gz,0,none⟩) 0 0∧wz.ownsRow wr.heap.size 58 3 (.slice (some ⟨gz,0,none⟩) 0 0) 0 [],fun dz uz wz=>uz= .pointer (some ⟨w.heap.size,4,none⟩),fun dz uz wz=>uz= .slice (some ⟨b1,o1,none⟩) v.nt v.ct,fun dz uz wz=>uz= .int .i64 j,fun dz uz wz=>uz= .pointer (some ⟨b1,o1+j,none⟩),fun dz uz wz=>uz= .slice a2 m x2,fun dz uz wz=>∃(az:Option Addr) (cz:Nat),uz= .slice az m cz∧wz.ownsRow wr.heap.size 58 3 (.slice az m cz) m (opsV (p.threads.getD j []))∧(m=0→cz=0),fun dz uz wz=>∃gz:Nat,uz= .slice (some ⟨gz,0,none⟩) 1 1∧Blk wz gz #[(dz.getD 0 undef)] 51∧wr.heap.size≤gz] (fun i=>match i with|_=>fun _=>none) (fun w'=>Below wr.heap.size wr w') xB1.drew (stab_of ⟨fun _ _ _ _ _ h=>h,fun _ _ _ _ _ h=>h,fun _ _ _ _ hb ⟨g,e,h⟩=>⟨g,e,owns_below h hb⟩,fun _ _ _ _ _ h=>h,fun _ _ _ _ _ h=>h,fun _ _ _ _ _ h=>h,fun _ _ _ _ _ h=>h,fun _ _ _ _ _ h=>h,fun _ _ _ _ hb ⟨a,c,e,h,h0⟩=>⟨a,c,e,owns_below h hb,h0⟩,fun _ _ _ _ hb ⟨g,e,h,hs⟩=>⟨g,e,h.below hb,hs⟩,trivial⟩) ?_ ?_
   ·simp only[List.take_succ_cons,List.take_zero]
    refine⟨?_,?_,?_,?_,?_,?_,?_,?_,?_,?_,trivial⟩
    ·intro ρ w1 hG hfr hd
     have f3:ρ (.tmp 3)= .pointer (some ⟨G,0,none⟩):=hfr _ rfl
     refine gives_val (u:= .pointer (some ⟨G,4,none⟩)) (w':=w1) (by go_simp) ⟨Below.refl _ _,rfl,xN1,hG⟩
    ·intro ρ w1 hG hfr hd
     obtain⟨d0,-⟩:=hd
     have d0:(ρ (.tmp 29))= .pointer (some ⟨G,4,none⟩):=d0
     have e4:=keepc hG e4
     refine gives_val (u:= .slice U.t U.nt U.ct) (w':=w1) (by go_simp) ⟨Below.refl _ _,rfl,xN1,hG⟩
    ·intro ρ w1 hG hfr hd
     refine gives_val (u:= .slice (some ⟨w1.heap.size,0,none⟩) 0 0) (w':=w1.alloc (.cells #[] 58)) (by go_simp) ⟨xA1,⟨_,rfl,owns_mono (owns_empty w1 58 3) hG.size⟩,xN1,hG.alloc hG.size _⟩
    ·intro ρ w1 hG hfr hd
     have f1:ρ (.tmp 1)= .pointer (some ⟨w.heap.size,0,none⟩):=hfr _ rfl
     refine gives_val (u:= .pointer (some ⟨w.heap.size,4,none⟩)) (w':=w1) (by go_simp) ⟨Below.refl _ _,rfl,xN1,hG⟩
    ·intro ρ w1 hG hfr hd
     obtain⟨d0,-⟩:=hd
     have d0:(ρ (.tmp 32))= .pointer (some ⟨w.heap.size,4,none⟩):=d0
     have c4:=keepc hG c4
     refine gives_val (u:= .slice (some ⟨b1,o1,none⟩) v.nt v.ct) (w':=w1) (by go_simp) ⟨Below.refl _ _,rfl,xN1,hG⟩
    ·intro ρ w1 hG hfr hd
     have f4:ρ (.tmp 4)= .int .i64 j:=hfr _ rfl
     refine gives_val (u:= .int .i64 j) (w':=w1) (by go_simp) ⟨Below.refl _ _,rfl,xN1,hG⟩
    ·intro ρ w1 hG hfr hd
     obtain⟨d0,d1,-⟩:=hd
     have d0:(ρ (.tmp 33))= .slice (some ⟨b1,o1,none⟩) v.nt v.ct:=d0
     have d1:(ρ (.tmp 34))= .int .i64 j:=d1
     have i0:(0:Int)≤(j:Int):=by omega
     have i1:(j:Int)<v.nt:=by omega
     refine gives_val (u:= .pointer (some ⟨b1,o1+j,none⟩)) (w':=w1) (by go_simp) ⟨Below.refl _ _,rfl,xN1,hG⟩
    ·intro ρ w1 hG hfr hd
     obtain⟨d0,-⟩:=hd
     have d0:(ρ (.tmp 35))= .pointer (some ⟨b1,o1+j,none⟩):=d0
     have g1:=keepc hG g1
     refine gives_val (u:= .slice a2 m x2) (w':=w1) (by go_simp) ⟨Below.refl _ _,rfl,xN1,hG⟩
    ·intro ρ w1 hG hfr hd
     obtain⟨d0,d1,-⟩:=hd
     have d0:∃gz:Nat,(ρ (.tmp 31))= .slice (some ⟨gz,0,none⟩) 0 0∧w1.ownsRow wr.heap.size 58 3 (.slice (some ⟨gz,0,none⟩) 0 0) 0 []:=d0
     have d1:(ρ (.tmp 36))= .slice a2 m x2:=d1
     obtain⟨g,d0,hg⟩:=d0
     refine gives_append_new _ _ 51 rfl Tryz.underlying51 info_op rfl (by decide) d0 hg d1 HOPS.out (r2.below hG) (opsV_one _) (by omega) (by decide) hG.size ?_
     intro a c w2 hown hb hf h0
     exact⟨hb,⟨a,c,rfl,hown,h0⟩,xN1,hG.trans (hb.mono hG.size)⟩
    ·intro ρ w1 hG hfr hd
     obtain⟨d0,-⟩:=hd
     have d0:∃(az:Option Addr) (cz:Nat),(ρ (.tmp 37))= .slice az m cz∧w1.ownsRow wr.heap.size 58 3 (.slice az m cz) m (opsV (p.threads.getD j []))∧(m=0→cz=0):=d0
     obtain⟨a,c,d0,-,-⟩:=d0
     refine gives_val (u:= .slice (some ⟨w1.heap.size,0,none⟩) 1 1) (w':=w1.alloc (.cells #[.slice a m c] 51)) (by go_simp) ⟨xA1,⟨_,rfl,?_,hG.size⟩,xN1,hG.alloc hG.size _⟩
     show Blk _ _ #[(ρ (.tmp 37))] _
     rw[d0]
     exact Blk.new _ _ _
   intro vs w2 hG hlen hall hap hbd
   obtain⟨xv0,vs0,rfl,hl0⟩:=len_cons hlen
   obtain⟨xv1,vs1,rfl,hl1⟩:=len_cons hl0
   obtain⟨xv2,vs2,rfl,hl2⟩:=len_cons hl1
   obtain⟨xv3,vs3,rfl,hl3⟩:=len_cons hl2
   obtain⟨xv4,vs4,rfl,hl4⟩:=len_cons hl3
   obtain⟨xv5,vs5,rfl,hl5⟩:=len_cons hl4
   obtain⟨xv6,vs6,rfl,hl6⟩:=len_cons hl5
   obtain⟨xv7,vs7,rfl,hl7⟩:=len_cons hl6
   obtain⟨xv8,vs8,rfl,hl8⟩:=len_cons hl7
   obtain⟨xv9,vs9,rfl,hl9⟩:=len_cons hl8
   obtain rfl:=len_nil hl9
   clear hlen hl0 hl1 hl2 hl3 hl4 hl5 hl6 hl7 hl8 hl9
   simp only[List.take_succ_cons,List.take_zero,List.drop_succ_cons,List.drop_zero] at hall⊢
   obtain⟨t0',t1',t2',t3',t4',t5',t6',t7',t8',t9',-⟩:=hall
   have hv0:xv0= .pointer (some ⟨G,4,none⟩):=t0'
   have hv1:xv1= .slice U.t U.nt U.ct:=t1'
   have hv2:∃gz:Nat,xv2= .slice (some ⟨gz,0,none⟩) 0 0∧w2.ownsRow wr.heap.size 58 3 (.slice (some ⟨gz,0,none⟩) 0 0) 0 []:=t2'
   have hv3:xv3= .pointer (some ⟨w.heap.size,4,none⟩):=t3'
   have hv4:xv4= .slice (some ⟨b1,o1,none⟩) v.nt v.ct:=t4'
   have hv5:xv5= .int .i64 j:=t5'
   have hv6:xv6= .pointer (some ⟨b1,o1+j,none⟩):=t6'
   have hv7:xv7= .slice a2 m x2:=t7'
   have hv8:∃(az:Option Addr) (cz:Nat),xv8= .slice az m cz∧w2.ownsRow wr.heap.size 58 3 (.slice az m cz) m (opsV (p.threads.getD j []))∧(m=0→cz=0):=t8'
   have hv9:∃gz:Nat,xv9= .slice (some ⟨gz,0,none⟩) 1 1∧Blk w2 gz #[xv8] 51∧wr.heap.size≤gz:=t9'
   clear t0' t1' t2' t3' t4' t5' t6' t7' t8' t9'
   clear hap hbd
   subst hv0 hv1 hv3 hv4 hv5 hv6 hv7
   obtain⟨a3,c3,rfl,o3,z3⟩:=hv8
   obtain⟨g9,rfl,k9,hg9⟩:=hv9
   simp only[putAll,Act.put,List.setIfInBounds_toArray,List.set_cons_succ,List.set_cons_zero]
   have HC2:=HC.out.below hG
   have e4':=keepc hG e4
   have y4:w2.frozen? ⟨G,4,none⟩=false:=HC2.blk.fz 4
   have hB:W1.heap.size≤w2.heap.size:=Nat.le_trans hb0.size hG.size
   have hin:∀q,rowOf a3=some q→W1.heap.size≤q∧q∉fpV us:=fun q hq=>⟨Nat.le_trans hb0.size (owns_row o3 q hq).1,fun hm=>by have h1:=HC.out.inn.lt q hm;have h2:=(owns_row o3 q hq).1;omega⟩
   have HIN:=xH1 hin
   have HO3:=xH1 o3
   have HCC:=xH1 HC2
   have hot:=HC2.ot
   clear hin o3 HC2
   go_wp2_with (at_builtin;refine wpList_append_rd (news:=[.slice a3 m c3]) rfl _ _ 24 rfl Tryz.underlying24 info_ops rfl (by decide) rfl hot rfl rfl (Rd.of_blk k9) (by simp[Value.oneCell']) (by omega) (by decide) hB ?_;intro a4 c4' w3 hown1 hgr1;have hx4:=keepg hgr1 e4' (blk_owns HCC.out.blk hot types_ne.2.2.2.1);have hy4:=(HCC.out.blk.grown hgr1 (blk_owns HCC.out.blk hot types_ne.2.2.2.1)).fz 4)
   go_roundw
   case rel=>
    refine⟨j+1,U.thr a4 (U.nt+1) c4',us++[.slice a3 m c3],by omega,by go_num,xH1 (HF1.out.thr _ _ _),xH1 ?_,?_⟩
    ·exact HCC.out.step (by have:=lt.out;omega) (owns_mono HO3.out (Nat.zero_le _)) HIN.out hown1 hgr1
    ·exact(((hb0.trans (hG.mono hb0.size)).trans (below_of_grown hgr1 hB (fun q hq=>(owns_row hot q hq).1))).setCell hGW _)
   case measure=>simp[intOf];omega
  ·have hkm:v.nt=j:=by omega
   subst hkm
   have HO:=xH1 (HC.out.own lt.out.symm)
   have HFR:=xH1 HC.out.fresh
   have hun:U.nt=v.nt:=by
    have h1:=HC.out.ot.1
    have h2:=HC.out.inn.len
    simp only[List.length_map,List.length_take] at h2
    have:=lt.out
    omega
   have e0:=HC.out.blk.cell 0 rfl
   have e1:=HC.out.blk.cell 1 rfl
   have e2:=HC.out.blk.cell 2 rfl
   have e3:=HC.out.blk.cell 3 rfl
   have e4:=HC.out.blk.cell 4 rfl
   have kR2:=kR.below hb0
   have y0:=kR2.cell 0 rfl
   have y1:=kR2.cell 1 rfl
   have y2:=kR2.cell 2 rfl
   have y3:=kR2.cell 3 rfl
   have y4:=kR2.cell 4 rfl
   have x0:=kR2.fz 0
   have x1:=kR2.fz 1
   have x2:=kR2.fz 2
   have x3:=kR2.fz 3
   have x4:=kR2.fz 4
   have BE:=B0.trans (hb0.mono B0.size)
   clear kR2 hun
   go_wp2
   refine bodyPost_ret (v:= .agg #[.slice U.s U.ns U.cs,.slice U.g U.ng U.cg,.slice U.b U.nb U.cb,.slice U.r U.nr U.cr,.slice U.t U.nt U.ct]) (by simp[results,Tryz.results18,go_sem,y0,y1,y2,y3,y4]) rfl ⟨U,us,rfl,?_,HC.out.nd,fun q hq=>Nat.le_trans B0.size (HFR.out q hq),HF1.out,?_⟩
   ·refine HO.out.touch (S:=[w.heap.size+1]) ?_ (fun q hq hm=>by have:=HFR.out q hq;simp at hm;omega)
    exact Touch.set (Touch.set (Touch.set (Touch.set (Touch.set (Touch.refl _ _) (by simp)) (by simp)) (by simp)) (by simp)) (by simp)
   ·exact((((BE.setCell (Nat.le_add_right _ _) _).setCell (Nat.le_add_right _ _) _).setCell (Nat.le_add_right _ _) _).setCell (Nat.le_add_right _ _) _).setCell (Nat.le_add_right _ _) _
theorem l6Wrong_any (R:Nat) (a:Option Addr) (n c:Nat) (bs:List Int) (pos:Int) (v:PV) (p:Pg) (k:Nat) (w:World) (h:Rdr w R a n c bs pos) (hp:pos≤1099511620000) (hr:RdP w v p) (hk:Few p k) (hkk:k≤900):
  Calls Tryz.prog 34 #[.pointer (some ⟨R,0,none⟩),.agg #[.slice v.s v.ns v.cs,.slice v.g v.ng v.cg,.slice v.b v.nb v.cb,.slice v.r v.nr v.cr,.slice v.t v.nt v.ct]] w fun e w'=>∃(v':PV) (vs':List Value) (p':Pg) (pos':Int),e= .returned (.agg #[.slice v'.s v'.ns v'.cs,.slice v'.g v'.ng v'.cg,.slice v'.b v'.nb v'.cb,.slice v'.r v'.nr v'.cr,.slice v'.t v'.nt v'.ct])∧OwnP w' v' vs' p'.cells∧(∀q∈fpP v' vs',w.heap.size≤q)∧Few p' (k+1)∧Rdr w' R a n c bs pos'∧pos'≤pos+5∧w.grownBy w' (some R):=by
 have hRw:=h.lt
 have hz:=hk.small' hr (by omega)
 have b0:Below w.heap.size w ((w.alloc (.cells #[.slice v.s v.ns v.cs,.slice v.g v.ng v.cg,.slice v.b v.nb v.cb,.slice v.r v.nr v.cr,.slice v.t v.nt v.ct] 26)).alloc (.cells #[.slice none 0 0,.slice none 0 0,.slice none 0 0,.slice none 0 0,.slice none 0 0] 26)):=(xA1).alloc (by simp) _
 have kR:Blk ((w.alloc (.cells #[.slice v.s v.ns v.cs,.slice v.g v.ng v.cg,.slice v.b v.nb v.cb,.slice v.r v.nr v.cr,.slice v.t v.nt v.ct] 26)).alloc (.cells #[.slice none 0 0,.slice none 0 0,.slice none 0 0,.slice none 0 0,.slice none 0 0] 26)) (w.heap.size+1) #[.slice none 0 0,.slice none 0 0,.slice none 0 0,.slice none 0 0,.slice none 0 0] 26:=by simpa using Blk.new (w.alloc (.cells #[.slice v.s v.ns v.cs,.slice v.g v.ng v.cg,.slice v.b v.nb v.cb,.slice v.r v.nr v.cr,.slice v.t v.nt v.ct] 26)) #[.slice none 0 0,.slice none 0 0,.slice none 0 0,.slice none 0 0,.slice none 0 0] 26
 have h0:=h.below b0
 have HG0:=xH1 (grown_of_below b0 (some R))
 have hr0:=hr.below b0
 have HK:=xH1 hk
 clear b0 h hr hk
 go_enter Tryz.func34,Tryz.ntmps34
 go_wp2_with fail
 refine(l6Copy_any v p _ hr0 hz).mono ?_
 rintro e w1 ⟨u,us,rfl,ho,hnd,hfr,h4,b1⟩
 have s1:w.heap.size+2≤w1.heap.size:=by have:=b1.size;simp at this;omega
 have hfr':∀q∈fpP u us,w.heap.size+2≤q:=fun q hq=>by have:=hfr q hq;simp at this;omega
 have kR1:=kR.below b1
 have h1:=h0.below b1
 have HG1:=xH1 (grown_trans HG0.out (grown_of_below b1 _))
 clear hr0 hz hfr kR h0
 obtain⟨W1,hW1⟩:∃W1,W1=w1.alloc (.cells #[.slice u.s u.ns u.cs,.slice u.g u.ng u.cg,.slice u.b u.nb u.cb,.slice u.r u.nr u.cr,.slice u.t u.nt u.ct] 26):=⟨_,rfl⟩
 have bW:Below w1.heap.size w1 W1:=by rw[hW1];exact xA1
 have sW:W1.heap.size=w1.heap.size+1:=by rw[hW1];simp
 have kG:Blk W1 w1.heap.size #[.slice u.s u.ns u.cs,.slice u.g u.ng u.cg,.slice u.b u.nb u.cb,.slice u.r u.nr u.cr,.slice u.t u.nt u.ct] 26:=by rw[hW1];exact Blk.new _ _ _
 have HC1:=xH1 (CopyAt.of_own (B:=w.heap.size+2) kG (ho.below bW) hfr' hnd)
 have h2:=h1.below bW
 have kR2:=kR1.below bW
 have HG2:=xH1 (grown_trans HG1.out (grown_of_below bW _))
 have H4:=xH1 h4
 clear ho hnd hfr' kR1 h1 bW kG b1 h4
 go_wp2_with fail
 rw[←hW1]
 refine(pick_some R a n c bs pos 24 W1 h2 (by omega) (by omega)).mono ?_
 rintro e w2 ⟨x,rfl,hx,h3,g2,hs2⟩
 have s2:W1.heap.size≤w2.heap.size:=g2.size
 have HC2:=xH1 (HC1.out.drawn g2 (by omega) (by omega))
 have HR2:=xH1 (kR2.grown g2 (by simp;omega))
 have HG3:=xH1 (grown_trans HG2.out g2)
 have HD2:=xH1 h3
 clear h2 kR2 g2 hs2 hW1 HC1 HG2 HG1 HG0 h3
 rcases(by omega:x=0∨x=1∨x=2∨x=3∨4≤x) with hx0|hx0|hx0|hx0|hx4
 ·have t0:((x:Int)==0)=true:=by rw[hx0];rfl
  clear hx0
  have z0:=HC2.out.blk.cell 0 rfl
  have zA:=(HC2.out.blk.alloc (.cells #[.int .i64 0,.int .i64 10,.int .i64 1] 3)).cell 0 rfl
  have hsn:u.ns≤901:=by have:=HC2.out.os.1;have:=HK.out.s;simp[ints] at*;omega
  go_wp2_with fail
  go_region_law (first|(refine step_append_apart (news:=[.int .i64 y]) (by rfl) _ _ 23 (by rfl) Tryz.underlying23 info_int rfl (by decide) (by rfl) (HC3.out.os.alloc _) H4.out.zs (by rfl) (by rfl) (Rd.of_blk (Blk.new _ _ _)) (by simp[Value.oneCell']) (by omega) (by decide) (by simp;omega) ?_;intro a1 c1 w5 hown1 hgr1;have HP:=xH1 ((HC3.out.below (xB1.alloc xL1 (.cells #[.int .i64 y] 3))).pushS (l:=p.sems++[y]) H4.out (by simpa[ints] using hown1) hgr1);have k5:=(HC3.out.blk.alloc (.cells #[.int .i64 y] 3)).grown hgr1 (fun e=>blk_owns HC3.out.blk HC3.out.os types_ne.2.2.1 (slBk_row e));have z5:=k5.cell 0 rfl;have f5:=k5.fz 0;have HG5:=xH1 hgr1;clear k5 hown1 hgr1)|(go_simp;go_at_call 36;refine(num_blk R a n c bs (pos+1) 3 [0,10,1] _ (HD2.out.below (xA1).drew) (by omega) rfl (by omega) (by omega) _ _ (Blk.new w2 _ _) rfl (by omega)).mono ?_;rintro e w3 ⟨y,rfl,hy,hd3,g3⟩;have G3:=grown_trans (grown_of_below ((Below.refl w2.heap.size w2).alloc xL1 _).drew (some R)) g3;have HC3:=xH1 (HC2.out.drawn G3 (by omega) (by omega));have s3:=G3.size;have z3:=HC3.out.blk.cell 0 rfl;have zB:=(HC3.out.blk.alloc (.cells #[.int .i64 y] 3)).cell 0 rfl;have HG4:=xH1 G3;clear G3))
  all_goals
   obtain⟨W9,hW9⟩:∃W9,W9=w5.setCell ⟨w1.heap.size,0,none⟩ (.slice a1 (u.ns+1) c1):=⟨_,rfl⟩
   obtain⟨q,hq⟩:∃q:PV,q={u with s:=a1,ns:=u.ns+1,cs:=c1}:=⟨_,rfl⟩
   rw[←hW9,←hq] at HP
   rw[←hW9]
   have hrow:∀i,slBk u.ns (.slice u.s u.ns u.cs)=some i→w.heap.size+2≤i:=fun i e=>(owns_row HC3.out.os i (slBk_row e)).1
   have ba:=(Below.refl w3.heap.size w3).alloc xL1 (.cells #[.int .i64 y] 3)
   have gs:=grown_set w5 w1.heap.size 0 (.slice a1 (u.ns+1) c1)
   rw[←hW9] at gs
   have HD9:=xH1 (((hd3.below ba).gr HG5.out (fun i e=>by have:=hrow i e;omega)).gr gs (fun i e=>by cases e;omega))
   have HR9:=xH1 ((((HR2.out.grown HG4.out (by simp;omega)).below ba).grown HG5.out (fun e=>by have:=hrow _ e;omega)).grown gs (by simp;omega))
   have HG9:=xH1 (grown_new (grown_new (grown_trans (grown_trans HG3.out HG4.out) (grown_of_below ba _)) HG5.out (fun i e=>by have:=hrow i e;omega)) gs (fun i e=>by cases e;omega))
   clear z0 zA z3 zB z5 f5 hW9 hq gs ba hrow hd3 HG4 HG5 HC3 g3
   have e0:=HP.out.blk.cell 0 rfl
   have e1:=HP.out.blk.cell 1 rfl
   have e2:=HP.out.blk.cell 2 rfl
   have e3:=HP.out.blk.cell 3 rfl
   have e4:=HP.out.blk.cell 4 rfl
   have y0:=HR9.out.cell 0 rfl
   have y1:=HR9.out.cell 1 rfl
   have y2:=HR9.out.cell 2 rfl
   have y3:=HR9.out.cell 3 rfl
   have y4:=HR9.out.cell 4 rfl
   have x0:=HR9.out.fz 0
   have x1:=HR9.out.fz 1
   have x2:=HR9.out.fz 2
   have x3:=HR9.out.fz 3
   have x4:=HR9.out.fz 4
   have hz5:W9.grownBy (((((W9.setCell ⟨w.heap.size+1,0,none⟩ (.slice q.s q.ns q.cs)).setCell ⟨w.heap.size+1,1,none⟩ (.slice q.g q.ng q.cg)).setCell ⟨w.heap.size+1,2,none⟩ (.slice q.b q.nb q.cb)).setCell ⟨w.heap.size+1,3,none⟩ (.slice q.r q.nr q.cr)).setCell ⟨w.heap.size+1,4,none⟩ (.slice q.t q.nt q.ct)) (some (w.heap.size+1)):=grown_trans (grown_trans (grown_trans (grown_trans (grown_set _ _ _ _) (grown_set _ _ _ _)) (grown_set _ _ _ _)) (grown_set _ _ _ _)) (grown_set _ _ _ _)
   have HZ5:=xH1 hz5
   clear hz5
   go_wp2
   refine bodyPost_ret (v:= .agg #[.slice q.s q.ns q.cs,.slice q.g q.ng q.cg,.slice q.b q.nb q.cb,.slice q.r q.nr q.cr,.slice q.t q.nt q.ct]) (by simp[results,Tryz.results34,go_sem,y0,y1,y2,y3,y4]) rfl ⟨q,us,_,(pos+1+1),rfl,(HP.out.own rfl).keep (fun k hk hl=>HZ5.out.block k hl (fun e=>by cases e;have:=HP.out.fresh _ hk;omega)),fun q hq=>by have:=HP.out.fresh q hq;omega,HK.out.addS y,HD9.out.gr HZ5.out (fun i e=>by cases e;omega),by omega,grown_new HG9.out HZ5.out (fun i e=>by cases e;omega)⟩
 ·have t0:((x:Int)==0)=false:=by rw[hx0];rfl
  have t1:((x:Int)==1)=true:=by rw[hx0];rfl
  clear hx0
  have z0:=HC2.out.blk.cell 4 rfl
  have zA:=(HC2.out.blk.alloc (.cells #[.int .i64 11,.int .i64 0,.int .i64 2] 3)).cell 4 rfl
  have hBk:Blk ((w2.alloc (.cells #[.int .i64 11,.int .i64 0,.int .i64 2] 3)).drew) w2.heap.size #[.int .i64 11,.int .i64 0,.int .i64 2] 3:=Blk.new w2 _ _
  have hRd:Rdr ((w2.alloc (.cells #[.int .i64 11,.int .i64 0,.int .i64 2] 3)).drew) R a n c bs (pos+1):=HD2.out.below (xA1).drew
  have hcs:Hid (#[.int .i64 11,.int .i64 0,.int .i64 2]=(ints [11,0,2]).toArray):=xH1 rfl
  have hln:Hid (([11,0,2]:List Int).length=3):=xH1 rfl
  have hp1:pos+1≤1099511627776:=by omega
  have hp2:pos+1+1≤1099511627776:=by omega
  have hp3:pos+1+1+1≤1099511627776:=by omega
  have hwR:w2.heap.size≠R:=by omega
  have hsn:u.nt≤901:=by have h1:=HC2.out.ot.1;have h2:=HC2.out.inn.len;have:=HK.out.t;simp only[List.length_map,List.take_length] at h2;omega
  go_wp2_with fail
  go_region_law (first|(refine step_append_rd (news:=[.slice (some ⟨w5.heap.size,0,none⟩) 1 1]) (by rfl) _ _ 24 (by rfl) Tryz.underlying24 info_ops rfl (by decide) (by rfl) ((HC5.out.ot.alloc _).alloc _) (by rfl) (by rfl) (Rd.of_blk (by simpa using Blk.new (w5.alloc (.cells #[.int .i64 A,.int .i64 (B:Int),.int .i64 (C:Int)] 58)) #[.slice (some ⟨w5.heap.size,0,none⟩) 1 1] 51)) (by simp[Value.oneCell']) (by omega) (by decide) (by simp;omega) ?_;intro a1 c1 w6 hown1 hgr1;have HO:=xH1 hown1;have HG5:=xH1 hgr1;have k6:=((HC5.out.blk.alloc (.cells #[.int .i64 A,.int .i64 (B:Int),.int .i64 (C:Int)] 58)).alloc (.cells #[.slice (some ⟨w5.heap.size,0,none⟩) 1 1] 51)).grown hgr1 (blk_owns HC5.out.blk HC5.out.ot types_ne.2.2.2.1);have z6:=k6.cell 4 rfl;have f6:=k6.fz 4;clear k6 hown1 hgr1)|(go_simp;go_at_call 36;(with_reducible refine(num_blk R a n c bs (pos+1) 3 [11,0,2] _ hRd hp1 hln.out (by decide) (by decide) _ _ hBk hcs.out hwR).mono ?_);rintro e w3 ⟨A,rfl,hA,hd3,g3⟩;have G3:=grown_trans (grown_of_below ((Below.refl w2.heap.size w2).alloc xL1 _).drew (some R)) g3;have HC3:=xH1 (HC2.out.drawn G3 (by omega) (by omega));have s3:=G3.size;have z3:=HC3.out.blk.cell 4 rfl;have HG4:=xH1 G3;clear G3)|(go_simp;go_at_call 55;(with_reducible refine(pick_some R a n c bs (pos+1+1) 4 _ hd3 hp2 (by decide)).mono ?_);rintro e w4 ⟨B,rfl,hB,hd4,g4,_⟩;have HC4:=xH1 (HC3.out.drawn g4 (by omega) (by omega));have s4:=g4.size;have z4:=HC4.out.blk.cell 4 rfl;have HG4:=xH1 (grown_trans HG4.out g4);clear g4)|(go_simp;go_at_call 55;(with_reducible refine(pick_some R a n c bs (pos+1+1+1) 3 _ hd4 hp3 (by decide)).mono ?_);rintro e w5 ⟨C,rfl,hC,hd5,g5,_⟩;have HC5:=xH1 (HC4.out.drawn g5 (by omega) (by omega));have s5:=g5.size;have z5:=HC5.out.blk.cell 4 rfl;have zB:=(HC5.out.blk.alloc (.cells #[.int .i64 A,.int .i64 (B:Int),.int .i64 (C:Int)] 58)).cell 4 rfl;have zC:=((HC5.out.blk.alloc (.cells #[.int .i64 A,.int .i64 (B:Int),.int .i64 (C:Int)] 58)).alloc (.cells #[.slice (some ⟨w5.heap.size,0,none⟩) 1 1] 51)).cell 4 rfl;have HG4:=xH1 (grown_trans HG4.out g5);clear g5))
  all_goals
   have ba:Below w5.heap.size w5 ((w5.alloc (.cells #[.int .i64 A,.int .i64 (B:Int),.int .i64 (C:Int)] 58)).alloc (.cells #[.slice (some ⟨w5.heap.size,0,none⟩) 1 1] 51)):=(xA1).alloc (by simp) _
   have h2:((w5.alloc (.cells #[.int .i64 A,.int .i64 (B:Int),.int .i64 (C:Int)] 58)).alloc (.cells #[.slice (some ⟨w5.heap.size,0,none⟩) 1 1] 51)).ownsRow 0 58 3 (.slice (some ⟨w5.heap.size,0,none⟩) 1 1) 1 (opsV [⟨A,B,C⟩]):=owns_of_blk ((Blk.new w5 #[.int .i64 A,.int .i64 (B:Int),.int .i64 (C:Int)] 58).alloc _) (Nat.zero_le _) rfl (by decide)
   have HP:=xH1 ((HC5.out.below ba).more h2 (fun i hi=>by
    obtain rfl:w5.heap.size=i:=by simpa[rowOf] using hi
    exact⟨by omega,fun hm=>by have:=HC5.out.inn.lt _ hm;omega⟩) HO.out HG5.out)
   have gs:=grown_set w6 w1.heap.size 4 (.slice a1 (u.nt+1) c1)
   obtain⟨W9,hW9⟩:∃W9,W9=w6.setCell ⟨w1.heap.size,4,none⟩ (.slice a1 (u.nt+1) c1):=⟨_,rfl⟩
   obtain⟨q,hq⟩:∃q:PV,q=u.thr a1 (u.nt+1) c1:=⟨_,rfl⟩
   rw[←hW9] at gs
   rw[←hW9,←hq] at HP
   rw[←hW9]
   have hrow:∀i,rowOf u.t=some i→w.heap.size+2≤i:=fun i e=>(owns_row HC5.out.ot i e).1
   have HD9:=xH1 (((hd5.below ba).gr HG5.out (fun i e=>by have:=hrow i e;omega)).gr gs (fun i e=>by cases e;omega))
   have HR9:=xH1 ((((HR2.out.grown HG4.out (by simp;omega)).below ba).grown HG5.out (fun e=>by have:=hrow _ e;omega)).grown gs (by simp;omega))
   have HG9:=xH1 (grown_new (grown_new (grown_trans (grown_trans HG3.out HG4.out) (grown_of_below ba _)) HG5.out (fun i e=>by have:=hrow i e;omega)) gs (fun i e=>by cases e;omega))
   clear hBk hRd hcs hln hp1 hp2 hp3 hwR z0 zA z3 z4 z5 zB zC z6 f6 hW9 hq gs ba hrow hd3 hd4 hd5 HG4 HG5 HC3 HC4 HC5 g3 h2 HO
   have e0:=HP.out.blk.cell 0 rfl
   have e1:=HP.out.blk.cell 1 rfl
   have e2:=HP.out.blk.cell 2 rfl
   have e3:=HP.out.blk.cell 3 rfl
   have e4:=HP.out.blk.cell 4 rfl
   have y0:=HR9.out.cell 0 rfl
   have y1:=HR9.out.cell 1 rfl
   have y2:=HR9.out.cell 2 rfl
   have y3:=HR9.out.cell 3 rfl
   have y4:=HR9.out.cell 4 rfl
   have x0:=HR9.out.fz 0
   have x1:=HR9.out.fz 1
   have x2:=HR9.out.fz 2
   have x3:=HR9.out.fz 3
   have x4:=HR9.out.fz 4
   have hz5:W9.grownBy (((((W9.setCell ⟨w.heap.size+1,0,none⟩ (.slice q.s q.ns q.cs)).setCell ⟨w.heap.size+1,1,none⟩ (.slice q.g q.ng q.cg)).setCell ⟨w.heap.size+1,2,none⟩ (.slice q.b q.nb q.cb)).setCell ⟨w.heap.size+1,3,none⟩ (.slice q.r q.nr q.cr)).setCell ⟨w.heap.size+1,4,none⟩ (.slice q.t q.nt q.ct)) (some (w.heap.size+1)):=grown_trans (grown_trans (grown_trans (grown_trans (grown_set _ _ _ _) (grown_set _ _ _ _)) (grown_set _ _ _ _)) (grown_set _ _ _ _)) (grown_set _ _ _ _)
   have HZ5:=xH1 hz5
   clear hz5
   go_wp2
   refine bodyPost_ret (v:= .agg #[.slice q.s q.ns q.cs,.slice q.g q.ng q.cg,.slice q.b q.nb q.cb,.slice q.r q.nr q.cr,.slice q.t q.nt q.ct]) (by simp[results,Tryz.results34,go_sem,y0,y1,y2,y3,y4]) rfl ⟨q,(us++[.slice (some ⟨w5.heap.size,0,none⟩) 1 1]),_,(pos+1+1+1+1),rfl,(HP.out.own rfl).keep (fun k hk hl=>HZ5.out.block k hl (fun e=>by cases e;have:=HP.out.fresh _ hk;omega)),fun q hq=>by have:=HP.out.fresh q hq;omega,HK.out.addT [⟨A,B,C⟩] (by simp),HD9.out.gr HZ5.out (fun i e=>by cases e;omega),by omega,grown_new HG9.out HZ5.out (fun i e=>by cases e;omega)⟩
 ·have t0:((x:Int)==0)=false:=by rw[hx0];rfl
  have t1:((x:Int)==1)=false:=by rw[hx0];rfl
  have t2:((x:Int)==2)=true:=by rw[hx0];rfl
  clear hx0
  have z4:=(HC2.out.blk.alloc (.cells #[] 51)).cell 4 rfl
  have f4:=(HC2.out.blk.alloc (.cells #[] 51)).fz 4
  have HP:=xH1 (HC2.out.noThr (by omega))
  have ba:=(Below.refl w2.heap.size w2).alloc xL1 (.cells #[] 51)
  have gs:=grown_set (w2.alloc (.cells #[] 51)) w1.heap.size 4 (.slice (some ⟨w2.heap.size,0,none⟩) 0 0)
  have HD9:=xH1 ((HD2.out.below ba).gr gs (fun i e=>by cases e;omega))
  have HR9:=xH1 ((HR2.out.below ba).grown gs (by simp;omega))
  have HG9:=xH1 (grown_new (grown_trans HG3.out (grown_of_below ba _)) gs (fun i e=>by cases e;omega))
  clear gs ba
  have e0:((w2.alloc (.cells #[] 51)).setCell ⟨w1.heap.size,4,none⟩ (.slice (some ⟨w2.heap.size,0,none⟩) 0 0)).cell? ⟨w1.heap.size,0,none⟩=some (.slice u.s u.ns u.cs):=HP.out.blk.cell 0 rfl
  have e1:((w2.alloc (.cells #[] 51)).setCell ⟨w1.heap.size,4,none⟩ (.slice (some ⟨w2.heap.size,0,none⟩) 0 0)).cell? ⟨w1.heap.size,1,none⟩=some (.slice u.g u.ng u.cg):=HP.out.blk.cell 1 rfl
  have e2:((w2.alloc (.cells #[] 51)).setCell ⟨w1.heap.size,4,none⟩ (.slice (some ⟨w2.heap.size,0,none⟩) 0 0)).cell? ⟨w1.heap.size,2,none⟩=some (.slice u.b u.nb u.cb):=HP.out.blk.cell 2 rfl
  have e3:((w2.alloc (.cells #[] 51)).setCell ⟨w1.heap.size,4,none⟩ (.slice (some ⟨w2.heap.size,0,none⟩) 0 0)).cell? ⟨w1.heap.size,3,none⟩=some (.slice u.r u.nr u.cr):=HP.out.blk.cell 3 rfl
  have e4:((w2.alloc (.cells #[] 51)).setCell ⟨w1.heap.size,4,none⟩ (.slice (some ⟨w2.heap.size,0,none⟩) 0 0)).cell? ⟨w1.heap.size,4,none⟩=some (.slice (some ⟨w2.heap.size,0,none⟩) 0 0):=HP.out.blk.cell 4 rfl
  have y0:=HR9.out.cell 0 rfl
  have y1:=HR9.out.cell 1 rfl
  have y2:=HR9.out.cell 2 rfl
  have y3:=HR9.out.cell 3 rfl
  have y4:=HR9.out.cell 4 rfl
  have x0:=HR9.out.fz 0
  have x1:=HR9.out.fz 1
  have x2:=HR9.out.fz 2
  have x3:=HR9.out.fz 3
  have x4:=HR9.out.fz 4
  have hz5:((w2.alloc (.cells #[] 51)).setCell ⟨w1.heap.size,4,none⟩ (.slice (some ⟨w2.heap.size,0,none⟩) 0 0)).grownBy (((((((w2.alloc (.cells #[] 51)).setCell ⟨w1.heap.size,4,none⟩ (.slice (some ⟨w2.heap.size,0,none⟩) 0 0)).setCell ⟨w.heap.size+1,0,none⟩ (.slice u.s u.ns u.cs)).setCell ⟨w.heap.size+1,1,none⟩ (.slice u.g u.ng u.cg)).setCell ⟨w.heap.size+1,2,none⟩ (.slice u.b u.nb u.cb)).setCell ⟨w.heap.size+1,3,none⟩ (.slice u.r u.nr u.cr)).setCell ⟨w.heap.size+1,4,none⟩ (.slice (some ⟨w2.heap.size,0,none⟩) 0 0)) (some (w.heap.size+1)):=grown_trans (grown_trans (grown_trans (grown_trans (grown_set _ _ _ _) (grown_set _ _ _ _)) (grown_set _ _ _ _)) (grown_set _ _ _ _)) (grown_set _ _ _ _)
  have HZ5:=xH1 hz5
  clear hz5
  go_wp2
  refine bodyPost_ret (v:= .agg #[.slice u.s u.ns u.cs,.slice u.g u.ng u.cg,.slice u.b u.nb u.cb,.slice u.r u.nr u.cr,.slice (some ⟨w2.heap.size,0,none⟩) 0 0]) (by simp[results,Tryz.results34,go_sem,y0,y1,y2,y3,y4]) rfl ⟨u.thr (some ⟨w2.heap.size,0,none⟩) 0 0,[],_,(pos+1),rfl,(HP.out.own rfl).keep (fun k hk hl=>HZ5.out.block k hl (fun e=>by cases e;have:=HP.out.fresh _ hk;omega)),fun q hq=>by have:=HP.out.fresh q hq;omega,HK.out.noT,HD9.out.gr HZ5.out (fun i e=>by cases e;omega),by omega,grown_new HG9.out HZ5.out (fun i e=>by cases e;omega)⟩
 ·have t0:((x:Int)==3)=true:=by rw[hx0];rfl
  have t1:((x:Int)==0)=false:=by rw[hx0];rfl
  have t2:((x:Int)==1)=false:=by rw[hx0];rfl
  have t3:((x:Int)==2)=false:=by rw[hx0];rfl
  clear hx0
  have z0:=HC2.out.blk.cell 3 rfl
  have zA:=(HC2.out.blk.alloc (.cells #[.int .i64 5,.int .i64 (-1)] 3)).cell 3 rfl
  have hsn:u.nr≤901:=by have:=HC2.out.orr.1;have:=HK.out.r;simp[ints] at*;omega
  go_wp2_with fail
  go_region_law (first|(refine step_append_apart (news:=[.int .i64 y]) (by rfl) _ _ 23 (by rfl) Tryz.underlying23 info_int rfl (by decide) (by rfl) (HC3.out.orr.alloc _) H4.out.zr (by rfl) (by rfl) (Rd.of_blk (Blk.new _ _ _)) (by simp[Value.oneCell']) (by omega) (by decide) (by simp;omega) ?_;intro a1 c1 w5 hown1 hgr1;have HP:=xH1 ((HC3.out.below (xB1.alloc xL1 (.cells #[.int .i64 y] 3))).pushR (l:=p.rooms++[y]) H4.out (by simpa[ints] using hown1) hgr1);have k5:=(HC3.out.blk.alloc (.cells #[.int .i64 y] 3)).grown hgr1 (fun e=>blk_owns HC3.out.blk HC3.out.orr types_ne.2.2.1 (slBk_row e));have z5:=k5.cell 3 rfl;have f5:=k5.fz 3;have HG5:=xH1 hgr1;clear k5 hown1 hgr1)|(go_simp;go_at_call 36;refine(num_blk R a n c bs (pos+1) 2 [5,-1] _ (HD2.out.below (xA1).drew) (by omega) rfl (by omega) (by omega) _ _ (Blk.new w2 _ _) rfl (by omega)).mono ?_;rintro e w3 ⟨y,rfl,hy,hd3,g3⟩;have G3:=grown_trans (grown_of_below ((Below.refl w2.heap.size w2).alloc xL1 _).drew (some R)) g3;have HC3:=xH1 (HC2.out.drawn G3 (by omega) (by omega));have s3:=G3.size;have z3:=HC3.out.blk.cell 3 rfl;have zB:=(HC3.out.blk.alloc (.cells #[.int .i64 y] 3)).cell 3 rfl;have HG4:=xH1 G3;clear G3))
  all_goals
   obtain⟨W9,hW9⟩:∃W9,W9=w5.setCell ⟨w1.heap.size,3,none⟩ (.slice a1 (u.nr+1) c1):=⟨_,rfl⟩
   obtain⟨q,hq⟩:∃q:PV,q={u with r:=a1,nr:=u.nr+1,cr:=c1}:=⟨_,rfl⟩
   rw[←hW9,←hq] at HP
   rw[←hW9]
   have hrow:∀i,slBk u.nr (.slice u.r u.nr u.cr)=some i→w.heap.size+2≤i:=fun i e=>(owns_row HC3.out.orr i (slBk_row e)).1
   have ba:=(Below.refl w3.heap.size w3).alloc xL1 (.cells #[.int .i64 y] 3)
   have gs:=grown_set w5 w1.heap.size 3 (.slice a1 (u.nr+1) c1)
   rw[←hW9] at gs
   have HD9:=xH1 (((hd3.below ba).gr HG5.out (fun i e=>by have:=hrow i e;omega)).gr gs (fun i e=>by cases e;omega))
   have HR9:=xH1 ((((HR2.out.grown HG4.out (by simp;omega)).below ba).grown HG5.out (fun e=>by have:=hrow _ e;omega)).grown gs (by simp;omega))
   have HG9:=xH1 (grown_new (grown_new (grown_trans (grown_trans HG3.out HG4.out) (grown_of_below ba _)) HG5.out (fun i e=>by have:=hrow i e;omega)) gs (fun i e=>by cases e;omega))
   clear z0 zA z3 zB z5 f5 hW9 hq gs ba hrow hd3 HG4 HG5 HC3 g3
   have e0:=HP.out.blk.cell 0 rfl
   have e1:=HP.out.blk.cell 1 rfl
   have e2:=HP.out.blk.cell 2 rfl
   have e3:=HP.out.blk.cell 3 rfl
   have e4:=HP.out.blk.cell 4 rfl
   have y0:=HR9.out.cell 0 rfl
   have y1:=HR9.out.cell 1 rfl
   have y2:=HR9.out.cell 2 rfl
   have y3:=HR9.out.cell 3 rfl
   have y4:=HR9.out.cell 4 rfl
   have x0:=HR9.out.fz 0
   have x1:=HR9.out.fz 1
   have x2:=HR9.out.fz 2
   have x3:=HR9.out.fz 3
   have x4:=HR9.out.fz 4
   have hz5:W9.grownBy (((((W9.setCell ⟨w.heap.size+1,0,none⟩ (.slice q.s q.ns q.cs)).setCell ⟨w.heap.size+1,1,none⟩ (.slice q.g q.ng q.cg)).setCell ⟨w.heap.size+1,2,none⟩ (.slice q.b q.nb q.cb)).setCell ⟨w.heap.size+1,3,none⟩ (.slice q.r q.nr q.cr)).setCell ⟨w.heap.size+1,4,none⟩ (.slice q.t q.nt q.ct)) (some (w.heap.size+1)):=grown_trans (grown_trans (grown_trans (grown_trans (grown_set _ _ _ _) (grown_set _ _ _ _)) (grown_set _ _ _ _)) (grown_set _ _ _ _)) (grown_set _ _ _ _)
   have HZ5:=xH1 hz5
   clear hz5
   go_wp2
   refine bodyPost_ret (v:= .agg #[.slice q.s q.ns q.cs,.slice q.g q.ng q.cg,.slice q.b q.nb q.cb,.slice q.r q.nr q.cr,.slice q.t q.nt q.ct]) (by simp[results,Tryz.results34,go_sem,y0,y1,y2,y3,y4]) rfl ⟨q,us,_,(pos+1+1),rfl,(HP.out.own rfl).keep (fun k hk hl=>HZ5.out.block k hl (fun e=>by cases e;have:=HP.out.fresh _ hk;omega)),fun q hq=>by have:=HP.out.fresh q hq;omega,HK.out.addR y,HD9.out.gr HZ5.out (fun i e=>by cases e;omega),by omega,grown_new HG9.out HZ5.out (fun i e=>by cases e;omega)⟩
 ·have t0:((x:Int)==0)=false:=by simp;omega
  have t1:((x:Int)==1)=false:=by simp;omega
  have t2:((x:Int)==2)=false:=by simp;omega
  have t3:((x:Int)==3)=false:=by simp;omega
  have e0:=HC2.out.blk.cell 0 rfl
  have e1:=HC2.out.blk.cell 1 rfl
  have e2:=HC2.out.blk.cell 2 rfl
  have e3:=HC2.out.blk.cell 3 rfl
  have e4:=HC2.out.blk.cell 4 rfl
  have y0:=HR2.out.cell 0 rfl
  have y1:=HR2.out.cell 1 rfl
  have y2:=HR2.out.cell 2 rfl
  have y3:=HR2.out.cell 3 rfl
  have y4:=HR2.out.cell 4 rfl
  have x0:=HR2.out.fz 0
  have x1:=HR2.out.fz 1
  have x2:=HR2.out.fz 2
  have x3:=HR2.out.fz 3
  have x4:=HR2.out.fz 4
  have hz5:w2.grownBy (((((w2.setCell ⟨w.heap.size+1,0,none⟩ (.slice u.s u.ns u.cs)).setCell ⟨w.heap.size+1,1,none⟩ (.slice u.g u.ng u.cg)).setCell ⟨w.heap.size+1,2,none⟩ (.slice u.b u.nb u.cb)).setCell ⟨w.heap.size+1,3,none⟩ (.slice u.r u.nr u.cr)).setCell ⟨w.heap.size+1,4,none⟩ (.slice u.t u.nt u.ct)) (some (w.heap.size+1)):=grown_trans (grown_trans (grown_trans (grown_trans (grown_set _ _ _ _) (grown_set _ _ _ _)) (grown_set _ _ _ _)) (grown_set _ _ _ _)) (grown_set _ _ _ _)
  have HZ5:=xH1 hz5
  clear hz5
  go_wp2
  refine bodyPost_ret (v:= .agg #[.slice u.s u.ns u.cs,.slice u.g u.ng u.cg,.slice u.b u.nb u.cb,.slice u.r u.nr u.cr,.slice u.t u.nt u.ct]) (by simp[results,Tryz.results34,go_sem,y0,y1,y2,y3,y4]) rfl ⟨u,us,_,(pos+1),rfl,(HC2.out.own rfl).keep (fun k hk hl=>HZ5.out.block k hl (fun e=>by cases e;have:=HC2.out.fresh _ hk;omega)),fun q hq=>by have:=HC2.out.fresh q hq;omega,HK.out.mono (by omega),HD2.out.gr HZ5.out (fun i e=>by cases e;omega),by omega,grown_new HG3.out HZ5.out (fun i e=>by cases e;omega)⟩
structure Code13 (w:World) (a:Option Addr) (n c:Nat) (bs:List Int):Prop where
 len:bs.length=n
 rd:Rd w a (bytesV bs)
 cap:n≤c
 byte:∀b∈bs,0≤b∧b≤255
 few:n≤1048576
theorem Code13.below {w w':World} {a:Option Addr} {n c:Nat} {bs:List Int} (h:Code13 w a n c bs) (hb:Below w.heap.size w w'):Code13 w' a n c bs:=⟨h.len,h.rd.below hb,h.cap,h.byte,h.few⟩
theorem Code13.open {w:World} {a:Option Addr} {n c:Nat} {bs:List Int} (h:Code13 w a n c bs):
  Calls Tryz.prog 33 #[.slice a n c] w fun e w'=>e= .returned (.pointer (some ⟨w.heap.size,0,none⟩))∧∃n' bs',Rdr w' w.heap.size a n' c bs' 0∧Below w.heap.size w w'∧w'.heap.size=w.heap.size+1:=
 open13_any a n c bs w h.len h.rd h.cap h.byte h.few
structure Own (w:World) (B:Nat) (v:PV) (vs:List Value) (p:Pg) (k:Nat):Prop where
 own:OwnP w v vs p.cells
 lo:∀q∈fpP v vs,B≤q
 few:Few p k
theorem Own.gr {w w':World} {B i:Nat} {v:PV} {vs:List Value} {p:Pg} {k:Nat} (h:Own w B v vs p k) (hg:w.grownBy w' (some i)) (hi:i<B):Own w' B v vs p k:=
 ⟨h.own.keep (fun k hk hl=>hg.block k hl (fun e=>by cases e;have:=h.lo _ hk;omega)),h.lo,h.few⟩
theorem Own.mono {w:World} {B B':Nat} {v:PV} {vs:List Value} {p:Pg} {k:Nat} (h:Own w B v vs p k) (hB:B'≤B):Own w B' v vs p k:=⟨h.own,fun q hq=>by have:=h.lo q hq;omega,h.few⟩
theorem Own.small {w:World} {B:Nat} {v:PV} {vs:List Value} {p:Pg} {k:Nat} (h:Own w B v vs p k) (hk:k≤1000):Small v p:=h.few.small h.own hk
theorem l11Case_any (a:Option Addr) (n c:Nat) (bs:List Int) (w:World) (hC:Code13 w a n c bs):
  Calls Tryz.prog 14 #[.slice a n c] w fun e w'=>∃(v:PV) (vs:List Value) (p:Pg) (x y:Int),e= .returned (.tuple #[.agg #[.slice v.s v.ns v.cs,.slice v.g v.ng v.cg,.slice v.b v.nb v.cb,.slice v.r v.nr v.cr,.slice v.t v.nt v.ct],.int .i64 x,.int .i64 y])∧(-1≤x∧x≤4∧-1≤y∧y≤3)∧Own w' w.heap.size v vs p 10∧Below w.heap.size w w':=by
 have b0:Below w.heap.size w (w.alloc (.cells #[.slice none 0 0,.slice none 0 0,.slice none 0 0,.slice none 0 0,.slice none 0 0] 26)):=xA1
 have k0:Blk (w.alloc (.cells #[.slice none 0 0,.slice none 0 0,.slice none 0 0,.slice none 0 0,.slice none 0 0] 26)) w.heap.size #[.slice none 0 0,.slice none 0 0,.slice none 0 0,.slice none 0 0,.slice none 0 0] 26:=Blk.new _ _ _
 have s0:(w.alloc (.cells #[.slice none 0 0,.slice none 0 0,.slice none 0 0,.slice none 0 0,.slice none 0 0] 26)).heap.size=w.heap.size+1:=by simp
 have hC0:=hC.below b0
 go_enter Tryz.func14,Tryz.ntmps14
 go_wp2_with fail
 refine hC0.open.mono ?_
 rintro e w1 ⟨rfl,n',bs',r1,b1,s1⟩
 have k1:=k0.below b1
 have HB1:=xH1 (b0.trans (b1.mono b0.size))
 rw[s0] at r1 s1
 have HS1:=xH1 s1
 clear b0 k0 b1 hC hC0 s1
 rw[s0]
 clear s0
 go_wp2_with fail
 refine(l6Draw_any (w.heap.size+1) a n' c bs' 0 w1 r1 (by omega)).mono ?_
 rintro e w2 ⟨v,vs,p,pos',rfl,o2,f2,z2,r2,hp2,g2⟩
 have s1:=HS1.out
 have s2:=g2.size
 have k2:=k1.grown g2 (by simp)
 have HB2:=xH1 (HB1.out.trans (below_of_grown g2 (by omega) (fun i e=>by cases e;omega)))
 clear r1 g2 k1
 go_wp2_with fail
 refine(l6Wrong_any (w.heap.size+1) a n' c bs' pos' v p 9 w2 r2 (by omega) o2.rd z2 (by omega)).mono ?_
 rintro e w3 ⟨v',vs',p',pos3,rfl,o3,f3,z3,r3,hp3,g3⟩
 have s3:=g3.size
 have s3a:w.heap.size+2≤w3.heap.size:=by omega
 have k3:=k2.grown g3 (by simp)
 have HB3:=xH1 (HB2.out.trans (below_of_grown g3 (by omega) (fun i e=>by cases e;omega)))
 have HO:Hid (Own w3 (w.heap.size+2) v' vs' p' 10):=xH1 ⟨o3,fun q hq=>by have:=f3 q hq;omega,z3⟩
 clear r2 g3 k2 o2 f2 z2 o3 f3 z3 HS1 s1
 go_wp2_with fail
 refine(num_new (w.heap.size+1) a n' c bs' pos3 7 [0,1,0,1,2,4,-1] w3 r3 (by omega) rfl (by omega) (by omega) _ (by simp) _ rfl).mono ?_
 rintro e w4 ⟨x,rfl,hx,r4,g4,s4⟩
 have k4:=k3.grown g4 (by simp)
 have HB4:=xH1 (HB3.out.trans (below_of_grown g4 (by omega) (fun i e=>by cases e;omega)))
 have HO4:=xH1 (HO.out.gr g4 (by omega))
 have hx': -1≤x∧x≤4:=by simp only[List.mem_cons,List.not_mem_nil,or_false] at hx;omega
 have HX:=xH1 hx'
 clear r3 g4 k3 hx hx'
 go_wp2_with fail
 refine(num_new (w.heap.size+1) a n' c bs' (pos3+1) 6 [1,0,0,2,3,-1] w4 r4 (by omega) rfl (by omega) (by omega) _ (by simp) _ rfl).mono ?_
 rintro e w5 ⟨y,rfl,hy,r5,g5,s5⟩
 have k5:=k4.grown g5 (by simp)
 have HB5:=xH1 (HB4.out.trans (below_of_grown g5 (by omega) (fun i e=>by cases e;omega)))
 have HO5:=xH1 (HO4.out.gr g5 (by omega))
 have hy': -1≤y∧y≤3:=by simp only[List.mem_cons,List.not_mem_nil,or_false] at hy;omega
 have HY:=xH1 hy'
 clear r4 g5 k4 hy hy' r5
 have y0:=k5.cell 0 rfl
 have x0:=k5.fz 0
 have y1:=k5.cell 1 rfl
 have x1:=k5.fz 1
 have y2:=k5.cell 2 rfl
 have x2:=k5.fz 2
 have y3:=k5.cell 3 rfl
 have x3:=k5.fz 3
 have y4:=k5.cell 4 rfl
 have x4:=k5.fz 4
 have hz5:w5.grownBy ((((((w5).setCell ⟨w.heap.size,0,none⟩ (.slice v'.s v'.ns v'.cs)).setCell ⟨w.heap.size,1,none⟩ (.slice v'.g v'.ng v'.cg)).setCell ⟨w.heap.size,2,none⟩ (.slice v'.b v'.nb v'.cb)).setCell ⟨w.heap.size,3,none⟩ (.slice v'.r v'.nr v'.cr)).setCell ⟨w.heap.size,4,none⟩ (.slice v'.t v'.nt v'.ct)) (some (w.heap.size)):=grown_trans (grown_trans (grown_trans (grown_trans (grown_set _ _ _ _) (grown_set _ _ _ _)) (grown_set _ _ _ _)) (grown_set _ _ _ _)) (grown_set _ _ _ _)
 have HZ5:=xH1 hz5
 clear hz5
 go_wp2
 refine bodyPost_ret (v:= .tuple #[.agg #[.slice v'.s v'.ns v'.cs,.slice v'.g v'.ng v'.cg,.slice v'.b v'.nb v'.cb,.slice v'.r v'.nr v'.cr,.slice v'.t v'.nt v'.ct],.int .i64 x,.int .i64 y]) (by simp[results,Tryz.results14,go_sem,y0,y1,y2,y3,y4]) rfl ⟨v',vs',p',x,y,rfl,⟨HX.out.1,HX.out.2,HY.out.1,HY.out.2⟩,(HO5.out.gr HZ5.out (by omega)).mono (by omega),HB5.out.trans (below_of_grown HZ5.out (by omega) (fun i e=>by cases e;omega))⟩
end Go.Proofs.YtjmpejaifmopnaaGreat
