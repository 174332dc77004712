/- Part of a proof: BaseB. -/
import Derived.Shelf.Abstract
import Derived.StillTailTactics
import Derived.Test.YtjmpejaifmopnaaGreatQBaseA
set_option maxRecDepth 100000
set_option maxHeartbeats 16000000
namespace Go.Proofs.YtjmpejaifmopnaaGreat
open Go.RowKit
def spB:ByteArray:=⟨#[32]⟩
def argsN (k:Int):Int:=if k=6∨k=7∨k=9∨k=10 then 1 else if k=1 then 0 else 2
def fmtOp (o:OpD):ByteArray:=
 if 1≤o.kind∧o.kind≤10 then
  (if argsN o.kind=0 then wordB o.kind++spB++decI o.arg else if argsN o.kind=1 then wordB o.kind++spB++decI o.on else wordB o.kind++spB++decI o.on++spB++decI o.arg)
 else noneE
theorem ret_i64 {a b:Int} (h:a=b):Ending.returned (.int .i64 a)= .returned (.int .i64 b):=by rw[h]
theorem l6Args_any (k:Int) (w:World):Calls Tryz.prog 104 #[.int .i64 k] w fun e w'=>e= .returned (.int .i64 (argsN k))∧w'=w:=by
 have go:∀(a6 a7 a9 a10 a1:Bool) (r:Int),(k==6)=a6→(k==7)=a7→(k==9)=a9→(k==10)=a10→(k==1)=a1→argsN k=(if a6 then 1 else if a7 then 1 else if a9 then 1 else if a10 then 1 else if a1 then 0 else 2):=by
  intro a6 a7 a9 a10 a1 r h6 h7 h9 h10 h1
  subst h6 h7 h9 h10 h1
  unfold argsN
  by_cases e6:k=6
  ·simp[e6]
  ·by_cases e7:k=7
   ·simp[e7]
   ·by_cases e9:k=9
    ·simp[e9]
    ·by_cases e10:k=10
     ·simp[e10]
     ·by_cases e1:k=1
      ·simp[e1]
      ·simp[e6,e7,e9,e10,e1]
 have G:=go _ _ _ _ _ 0 rfl rfl rfl rfl rfl
 by_cases e6:k=6
 ·subst e6
  go_enter Tryz.func104,Tryz.ntmps104
  go_wp2
  go_ret
  exact⟨rfl,rfl⟩
 by_cases e7:k=7
 ·subst e7
  go_enter Tryz.func104,Tryz.ntmps104
  go_wp2
  go_ret
  exact⟨rfl,rfl⟩
 by_cases e9:k=9
 ·subst e9
  go_enter Tryz.func104,Tryz.ntmps104
  go_wp2
  go_ret
  exact⟨rfl,rfl⟩
 by_cases e10:k=10
 ·subst e10
  go_enter Tryz.func104,Tryz.ntmps104
  go_wp2
  go_ret
  exact⟨rfl,rfl⟩
 by_cases e1:k=1
 ·subst e1
  go_enter Tryz.func104,Tryz.ntmps104
  go_wp2
  go_ret
  exact⟨rfl,rfl⟩
 ·have b6:(k==6)=false:=by simpa using e6
  have b7:(k==7)=false:=by simpa using e7
  have b9:(k==9)=false:=by simpa using e9
  have b10:(k==10)=false:=by simpa using e10
  have b1:(k==1)=false:=by simpa using e1
  have HG:Hid (argsN k=2):=xH1 (by rw[G,b6,b7,b9,b10,b1];rfl)
  clear G go
  go_enter Tryz.func104,Tryz.ntmps104
  go_wp2
  go_ret
  exact⟨ret_i64 HG.out.symm,rfl⟩
theorem wordB_size (k:Int):(wordB k).size≤7:=by
 unfold wordB
 repeat' split
 all_goals (simp[ByteArray.size])
theorem fmtOp_size (o:OpD) (h1: -9223372036854775808≤o.on∧o.on≤9223372036854775807) (h2: -9223372036854775808≤o.arg∧o.arg≤9223372036854775807):(fmtOp o).size≤49:=by
 have hw:=wordB_size o.kind
 have ha:=decI_size o.on h1.1 h1.2
 have hb:=decI_size o.arg h2.1 h2.2
 have hs:spB.size=1:=rfl
 unfold fmtOp
 split
 ·split
  ·simp only[ByteArray.size_append];omega
  ·split
   ·simp only[ByteArray.size_append];omega
   ·simp only[ByteArray.size_append];omega
 ·show 0≤49;omega
theorem specFormatOp_any (o:OpD) (w:World) (h1: -9223372036854775808≤o.on∧o.on≤9223372036854775807) (h2: -9223372036854775808≤o.arg∧o.arg≤9223372036854775807):
  Calls Tryz.prog 98 #[.agg #[.int .i64 o.kind,.int .i64 o.on,.int .i64 o.arg]] w fun e w'=>e= .returned (.string (fmtOp o))∧Below w.heap.size w w':=by
 have B0:Below w.heap.size w (w.alloc (.cells #[.int .i64 o.kind,.int .i64 o.on,.int .i64 o.arg] 58)):=xA1
 have k0:Blk (w.alloc (.cells #[.int .i64 o.kind,.int .i64 o.on,.int .i64 o.arg] 58)) w.heap.size #[.int .i64 o.kind,.int .i64 o.on,.int .i64 o.arg] 58:=Blk.new _ _ _
 have c0:(w.alloc (.cells #[.int .i64 o.kind,.int .i64 o.on,.int .i64 o.arg] 58)).cell? ⟨w.heap.size,0,none⟩=some (.int .i64 o.kind):=k0.cell 0 rfl
 have c1:(w.alloc (.cells #[.int .i64 o.kind,.int .i64 o.on,.int .i64 o.arg] 58)).cell? ⟨w.heap.size,1,none⟩=some (.int .i64 o.on):=k0.cell 1 rfl
 have c2:(w.alloc (.cells #[.int .i64 o.kind,.int .i64 o.on,.int .i64 o.arg] 58)).cell? ⟨w.heap.size,2,none⟩=some (.int .i64 o.arg):=k0.cell 2 rfl
 clear k0
 by_cases hk:1≤o.kind∧o.kind≤10
 rotate_left
 ·have HW:Hid (wordB o.kind=noneE):=xH1 (by unfold wordB noneE;repeat (rw[if_neg (by omega)]))
  have HR:Hid (fmtOp o=noneE):=xH1 (by unfold fmtOp;rw[if_neg hk])
  clear hk h1 h2
  go_enter Tryz.func98,Tryz.ntmps98
  go_wp2_with fail
  refine(l6Word_any o.kind _).mono ?_
  rintro e w1 ⟨rfl,hb⟩
  rw[HW.out]
  replace c0:=keepc hb c0
  replace c1:=keepc hb c1
  replace c2:=keepc hb c2
  replace B0:=B0.trans (hb.mono B0.size)
  clear hb
  go_wp2
  go_ret
  exact⟨ret_str (by rw[HR.out];rfl),B0⟩
 have hsw:=wordB_size o.kind
 obtain⟨c,cs,hW⟩:∃c cs,wordB o.kind=someE c cs:=by
  have hk:o.kind=1∨o.kind=2∨o.kind=3∨o.kind=4∨o.kind=5∨o.kind=6∨o.kind=7∨o.kind=8∨o.kind=9∨o.kind=10:=by omega
  rcases hk with h|h|h|h|h|h|h|h|h|h<;>rw[h]<;>exact⟨_,_,rfl⟩
 rw[hW] at hsw
 have HW:=xH1 hW
 have hda:=decI_size o.arg h2.1 h2.2
 have hdo:=decI_size o.on h1.1 h1.2
 have H1:=xH1 h1
 have H2:=xH1 h2
 have hs1:spB.size=1:=rfl
 have s1:=fun(W:World)=>run_string_add_sum (P:=Tryz.prog) (w:=W) (someE c cs) spB (by omega)
 have s2:=fun(W:World)=>run_string_add_sum (P:=Tryz.prog) (w:=W) (someE c cs++spB) (decI o.arg) (by rw[ByteArray.size_append];omega)
 have s3:=fun(W:World)=>run_string_add_sum (P:=Tryz.prog) (w:=W) (someE c cs++spB) (decI o.on) (by rw[ByteArray.size_append];omega)
 have s4:=fun(W:World)=>run_string_add_sum (P:=Tryz.prog) (w:=W) (someE c cs++spB++decI o.on) spB (by rw[ByteArray.size_append,ByteArray.size_append];omega)
 have s5:=fun(W:World)=>run_string_add_sum (P:=Tryz.prog) (w:=W) (someE c cs++spB++decI o.on++spB) (decI o.arg) (by simp only[ByteArray.size_append];omega)
 unfold spB at s1 s2 s3 s4 s5
 have HK:=xH1 hk
 clear hsw hda hdo h1 h2 hs1 hW hk
 rcases(show argsN o.kind=0∨argsN o.kind=1∨argsN o.kind=2 by(unfold argsN;repeat' split);all_goals simp) with ha|ha|ha
 ·have HA:=xH1 ha
  have HR:Hid (fmtOp o=wordB o.kind++spB++decI o.arg):=xH1 (by unfold fmtOp;rw[if_pos HK.out,if_pos ha])
  clear ha s3 s4 s5
  go_enter Tryz.func98,Tryz.ntmps98
  go_wp2_with fail
  refine(l6Word_any o.kind _).mono ?_
  rintro e w1 ⟨rfl,hb⟩
  rw[HW.out]
  replace c0:=keepc hb c0
  replace c1:=keepc hb c1
  replace c2:=keepc hb c2
  replace B0:=B0.trans (hb.mono B0.size)
  clear hb
  go_wp2_with fail
  refine(l6Args_any o.kind _).mono ?_
  rintro e w2 ⟨rfl,hw⟩
  have hw':=hw.symm
  subst hw'
  rw[HA.out]
  go_wp2_with fail
  refine(l13Dec_any o.arg _ H2.out.1 H2.out.2).mono ?_
  rintro e w3 ⟨rfl,hb⟩
  replace c0:=keepc hb c0
  replace c1:=keepc hb c1
  replace c2:=keepc hb c2
  replace B0:=B0.trans (hb.mono B0.size)
  clear hb
  go_wp2
  go_ret
  exact⟨ret_str (by rw[HR.out,HW.out];rfl),B0⟩
 ·have HA:=xH1 ha
  have HR:Hid (fmtOp o=wordB o.kind++spB++decI o.on):=xH1 (by unfold fmtOp;rw[if_pos HK.out,if_neg (by omega),if_pos ha])
  clear ha s2 s4 s5
  go_enter Tryz.func98,Tryz.ntmps98
  go_wp2_with fail
  refine(l6Word_any o.kind _).mono ?_
  rintro e w1 ⟨rfl,hb⟩
  rw[HW.out]
  replace c0:=keepc hb c0
  replace c1:=keepc hb c1
  replace c2:=keepc hb c2
  replace B0:=B0.trans (hb.mono B0.size)
  clear hb
  go_wp2_with fail
  refine(l6Args_any o.kind _).mono ?_
  rintro e w2 ⟨rfl,hw⟩
  have hw':=hw.symm
  subst hw'
  rw[HA.out]
  go_wp2_with fail
  refine(l6Args_any o.kind _).mono ?_
  rintro e w2' ⟨rfl,hw⟩
  have hw':=hw.symm
  subst hw'
  rw[HA.out]
  go_wp2_with fail
  refine(l13Dec_any o.on _ H1.out.1 H1.out.2).mono ?_
  rintro e w3 ⟨rfl,hb⟩
  replace c0:=keepc hb c0
  replace c1:=keepc hb c1
  replace c2:=keepc hb c2
  replace B0:=B0.trans (hb.mono B0.size)
  clear hb
  go_wp2
  go_ret
  exact⟨ret_str (by rw[HR.out,HW.out];rfl),B0⟩
 ·have HA:=xH1 ha
  have HR:Hid (fmtOp o=wordB o.kind++spB++decI o.on++spB++decI o.arg):=xH1 (by unfold fmtOp;rw[if_pos HK.out,if_neg (by omega),if_neg (by omega)])
  clear ha s2
  go_enter Tryz.func98,Tryz.ntmps98
  go_wp2_with fail
  refine(l6Word_any o.kind _).mono ?_
  rintro e wS ⟨rfl,hb⟩
  rw[HW.out]
  replace c0:=keepc hb c0
  replace c1:=keepc hb c1
  replace c2:=keepc hb c2
  replace B0:=B0.trans (hb.mono B0.size)
  clear hb
  go_wp2_with fail
  refine(l6Args_any o.kind _).mono ?_
  rintro e w2 ⟨rfl,hw⟩
  have hw':=hw.symm
  subst hw'
  rw[HA.out]
  go_wp2_with fail
  refine(l6Args_any o.kind _).mono ?_
  rintro e w2' ⟨rfl,hw⟩
  have hw':=hw.symm
  subst hw'
  rw[HA.out]
  go_wp2
  refine wp_region_fresh 11 (by kernel_rfl) (by kernel_rfl) [fun dz uz wz=>uz= .string (someE c cs),fun dz uz wz=>uz= .string (someE c cs++(⟨#[32]⟩:ByteArray)),fun dz uz wz=>uz= .pointer (some ⟨w.heap.size,1,none⟩),fun dz uz wz=>uz= .int .i64 o.on,fun dz uz wz=>uz= .string (decI o.on),fun dz uz wz=>uz= .string (someE c cs++(⟨#[32]⟩:ByteArray)++decI o.on),fun dz uz wz=>uz= .string (someE c cs++(⟨#[32]⟩:ByteArray)++decI o.on++(⟨#[32]⟩:ByteArray)),fun dz uz wz=>uz= .pointer (some ⟨w.heap.size,2,none⟩),fun dz uz wz=>uz= .int .i64 o.arg,fun dz uz wz=>uz= .string (decI o.arg),fun dz uz wz=>uz= .string (someE c cs++(⟨#[32]⟩:ByteArray)++decI o.on++(⟨#[32]⟩:ByteArray)++decI o.arg)] (fun i=>match i with|_=>fun _=>none) (fun w'=>Below wS.heap.size wS w') xB1.drew (stab_of ⟨fun _ _ _ _ _ h=>h,fun _ _ _ _ _ h=>h,fun _ _ _ _ _ h=>h,fun _ _ _ _ _ h=>h,fun _ _ _ _ _ h=>h,fun _ _ _ _ _ h=>h,fun _ _ _ _ _ h=>h,fun _ _ _ _ _ h=>h,fun _ _ _ _ _ h=>h,fun _ _ _ _ _ h=>h,fun _ _ _ _ _ h=>h,trivial⟩) ?_ ?_
  ·simp only[List.take_succ_cons,List.take_zero]
   refine⟨?_,?_,?_,?_,?_,?_,?_,?_,?_,?_,?_,trivial⟩
   ·intro ρ w1 hG hfr hd
    obtain⟨fc,ff⟩:=xF1 hfr
    have f3:ρ (.tmp 3)= .string (someE c cs):=hfr _ rfl
    refine gives_val (u:= .string (someE c cs)) (w':=w1) (by go_simp) ⟨Below.refl _ _,rfl,xN1,hG⟩
   ·intro ρ w1 hG hfr hd
    obtain⟨fc,ff⟩:=xF1 hfr
    obtain⟨d0,-⟩:=hd
    have d0:(ρ (.tmp 32))= .string (someE c cs):=d0
    refine gives_val (u:= .string (someE c cs++(⟨#[32]⟩:ByteArray))) (w':=w1) (by go_simp) ⟨Below.refl _ _,rfl,xN1,hG⟩
   ·intro ρ w1 hG hfr hd
    obtain⟨fc,ff⟩:=xF1 hfr
    have f1:ρ (.tmp 1)= .pointer (some ⟨w.heap.size,0,none⟩):=hfr _ rfl
    refine gives_val (u:= .pointer (some ⟨w.heap.size,1,none⟩)) (w':=w1) (by go_simp) ⟨Below.refl _ _,rfl,xN1,hG⟩
   ·intro ρ w1 hG hfr hd
    obtain⟨fc,ff⟩:=xF1 hfr
    obtain⟨d0,-⟩:=hd
    have d0:(ρ (.tmp 34))= .pointer (some ⟨w.heap.size,1,none⟩):=d0
    have c1:=keepc hG c1
    refine gives_val (u:= .int .i64 o.on) (w':=w1) (by go_simp) ⟨Below.refl _ _,rfl,xN1,hG⟩
   ·intro ρ w1 hG hfr hd
    obtain⟨fc,ff⟩:=xF1 hfr
    obtain⟨d0,-⟩:=hd
    have d0:(ρ (.tmp 35))= .int .i64 o.on:=d0
    refine gives_call (by go_simp;exact⟨⟨rfl,rfl⟩,rfl⟩) ?_
    refine(l13Dec_any o.on _ H1.out.1 H1.out.2).mono ?_
    rintro e w2 ⟨rfl,hb⟩
    exact⟨_,rfl,hb,rfl,xN1,hG.trans (hb.mono hG.size)⟩
   ·intro ρ w1 hG hfr hd
    obtain⟨fc,ff⟩:=xF1 hfr
    obtain⟨d0,d1,-⟩:=hd
    have d0:(ρ (.tmp 33))= .string (someE c cs++(⟨#[32]⟩:ByteArray)):=d0
    have d1:(ρ (.tmp 36))= .string (decI o.on):=d1
    refine gives_val (u:= .string (someE c cs++(⟨#[32]⟩:ByteArray)++decI o.on)) (w':=w1) (by go_simp) ⟨Below.refl _ _,rfl,xN1,hG⟩
   ·intro ρ w1 hG hfr hd
    obtain⟨fc,ff⟩:=xF1 hfr
    obtain⟨d0,-⟩:=hd
    have d0:(ρ (.tmp 37))= .string (someE c cs++(⟨#[32]⟩:ByteArray)++decI o.on):=d0
    refine gives_val (u:= .string (someE c cs++(⟨#[32]⟩:ByteArray)++decI o.on++(⟨#[32]⟩:ByteArray))) (w':=w1) (by go_simp) ⟨Below.refl _ _,rfl,xN1,hG⟩
   ·intro ρ w1 hG hfr hd
    obtain⟨fc,ff⟩:=xF1 hfr
    have f1:ρ (.tmp 1)= .pointer (some ⟨w.heap.size,0,none⟩):=hfr _ rfl
    refine gives_val (u:= .pointer (some ⟨w.heap.size,2,none⟩)) (w':=w1) (by go_simp) ⟨Below.refl _ _,rfl,xN1,hG⟩
   ·intro ρ w1 hG hfr hd
    obtain⟨fc,ff⟩:=xF1 hfr
    obtain⟨d0,-⟩:=hd
    have d0:(ρ (.tmp 39))= .pointer (some ⟨w.heap.size,2,none⟩):=d0
    have c2:=keepc hG c2
    refine gives_val (u:= .int .i64 o.arg) (w':=w1) (by go_simp) ⟨Below.refl _ _,rfl,xN1,hG⟩
   ·intro ρ w1 hG hfr hd
    obtain⟨fc,ff⟩:=xF1 hfr
    obtain⟨d0,-⟩:=hd
    have d0:(ρ (.tmp 40))= .int .i64 o.arg:=d0
    refine gives_call (by go_simp;exact⟨⟨rfl,rfl⟩,rfl⟩) ?_
    refine(l13Dec_any o.arg _ H2.out.1 H2.out.2).mono ?_
    rintro e w2 ⟨rfl,hb⟩
    exact⟨_,rfl,hb,rfl,xN1,hG.trans (hb.mono hG.size)⟩
   ·intro ρ w1 hG hfr hd
    obtain⟨fc,ff⟩:=xF1 hfr
    obtain⟨d0,d1,-⟩:=hd
    have d0:(ρ (.tmp 38))= .string (someE c cs++(⟨#[32]⟩:ByteArray)++decI o.on++(⟨#[32]⟩:ByteArray)):=d0
    have d1:(ρ (.tmp 41))= .string (decI o.arg):=d1
    refine gives_val (u:= .string (someE c cs++(⟨#[32]⟩:ByteArray)++decI o.on++(⟨#[32]⟩:ByteArray)++decI o.arg)) (w':=w1) (by go_simp) ⟨Below.refl _ _,rfl,xN1,hG⟩
  intro vs w2 hG hlen hall hap hbd
  obtain⟨xv0,vs0,rfl,hl0⟩:=len_cons hlen
  obtain⟨xv1,vs1,rfl,hl1⟩:=len_cons hl0
  obtain⟨xv2,vs2,rfl,hl2⟩:=len_cons hl1
  obtain⟨xv3,vs3,rfl,hl3⟩:=len_cons hl2
  obtain⟨xv4,vs4,rfl,hl4⟩:=len_cons hl3
  obtain⟨xv5,vs5,rfl,hl5⟩:=len_cons hl4
  obtain⟨xv6,vs6,rfl,hl6⟩:=len_cons hl5
  obtain⟨xv7,vs7,rfl,hl7⟩:=len_cons hl6
  obtain⟨xv8,vs8,rfl,hl8⟩:=len_cons hl7
  obtain⟨xv9,vs9,rfl,hl9⟩:=len_cons hl8
  obtain⟨xv10,vs10,rfl,hl10⟩:=len_cons hl9
  obtain rfl:=len_nil hl10
  clear hlen hl0 hl1 hl2 hl3 hl4 hl5 hl6 hl7 hl8 hl9 hl10
  simp only[List.take_succ_cons,List.take_zero,List.drop_succ_cons,List.drop_zero] at hall⊢
  obtain⟨t0',t1',t2',t3',t4',t5',t6',t7',t8',t9',t10',-⟩:=hall
  have hv0:xv0= .string (someE c cs):=t0'
  have hv1:xv1= .string (someE c cs++(⟨#[32]⟩:ByteArray)):=t1'
  have hv2:xv2= .pointer (some ⟨w.heap.size,1,none⟩):=t2'
  have hv3:xv3= .int .i64 o.on:=t3'
  have hv4:xv4= .string (decI o.on):=t4'
  have hv5:xv5= .string (someE c cs++(⟨#[32]⟩:ByteArray)++decI o.on):=t5'
  have hv6:xv6= .string (someE c cs++(⟨#[32]⟩:ByteArray)++decI o.on++(⟨#[32]⟩:ByteArray)):=t6'
  have hv7:xv7= .pointer (some ⟨w.heap.size,2,none⟩):=t7'
  have hv8:xv8= .int .i64 o.arg:=t8'
  have hv9:xv9= .string (decI o.arg):=t9'
  have hv10:xv10= .string (someE c cs++(⟨#[32]⟩:ByteArray)++decI o.on++(⟨#[32]⟩:ByteArray)++decI o.arg):=t10'
  clear t0' t1' t2' t3' t4' t5' t6' t7' t8' t9' t10'
  clear hap hbd
  subst hv0 hv1 hv2 hv3 hv4 hv5 hv6 hv7 hv8 hv9 hv10
  simp only[putAll,Act.put,List.setIfInBounds_toArray,List.set_cons_succ,List.set_cons_zero]
  go_wp2
  go_ret
  exact⟨ret_str (by rw[HR.out,HW.out];rfl),B0.trans (hG.mono B0.size)⟩
theorem within_bad {l:List Int} {lo hi:Int} {k:Nat} (hk:k<l.length) (h:¬(lo≤l.getD k 0∧l.getD k 0≤hi)):within l lo hi=false:=by
 unfold within
 have:l.all (fun n=>decide (lo≤n)&&decide (n≤hi))=false:=by
  rw[List.all_eq_false]
  refine⟨l[k],List.getElem_mem hk,?_⟩
  have e:l.getD k 0=l[k]:=by simp[List.getD,hk]
  rw[e] at h
  simp only[Bool.and_eq_true,decide_eq_true_eq];exact h
 rw[this];simp
theorem within_good {l:List Int} {lo hi:Int} (h:∀j,j<l.length→lo≤l.getD j 0∧l.getD j 0≤hi):within l lo hi=decide (l.length≤3):=by
 unfold within
 have:l.all (fun n=>decide (lo≤n)&&decide (n≤hi))=true:=by
  rw[List.all_eq_true]
  intro x hx
  obtain⟨k,hk,rfl⟩:=List.getElem_of_mem hx
  have e:l.getD k 0=l[k]:=by simp[List.getD,hk]
  have:=h k hk
  rw[e] at this
  simp[this.1,this.2]
 rw[this];simp
theorem within_long {l:List Int} {lo hi:Int} (h:3<l.length):within l lo hi=false:=by
 unfold within
 rw[show decide (l.length≤3)=false by simp;omega];simp
theorem l6Numbers_any (a:Option Addr) (n c:Nat) (l:List Int) (lo hi:Int) (w:World) (hl:l.length=n) (hn:n≤maxLen) (hr:Rd w a (ints l)):
  Calls Tryz.prog 60 #[.slice a n c,.int .i64 lo,.int .i64 hi] w fun e w'=>e= .returned (.bool (within l lo hi))∧w'=w:=by
 unfold maxLen at hn
 have HL:=xH1 hl
 clear hl
 go_enter Tryz.func60,Tryz.ntmps60
 go_wp2
 go_loopw [7] (fun i wr=>∃k:Nat,k≤n∧k≤4∧i= .int .i64 k∧Hid (∀j,j<k→lo≤l.getD j 0∧l.getD j 0≤hi)∧wr=w) (fun i _=>n-(intOf i).toNat)
 case atStart=>exact⟨0,by omega,by omega,rfl,xH1 (by omega),rfl⟩
 case round=>
  obtain⟨k,hk,hk4,rfl,hall,rfl⟩:=hrel
  by_cases hlt:k<n
  ·by_cases h3:k≤3
   ·obtain⟨b,q,rfl,hc⟩:=hr.int (by have:=HL.out;omega)
    have g:=hc k (by have:=HL.out;omega)
    obtain⟨x,hx⟩:∃x,x=l.getD k 0:=⟨_,rfl⟩
    rw[←hx] at g
    have HX:=xH1 hx
    clear hc hx
    by_cases t1:x<lo
    ·have HB:Hid (within l lo hi=false):=xH1 (within_bad (k:=k) (by have:=HL.out;omega) (by rw[←HX.out];omega))
     go_wp2
     go_ret
     exact⟨ret_bool (by rw[HB.out]),rfl⟩
    ·by_cases t2:hi<x
     ·have HB:Hid (within l lo hi=false):=xH1 (within_bad (k:=k) (by have:=HL.out;omega) (by rw[←HX.out];omega))
      have d1:decide (x<lo)=false:=by simpa using t1
      go_wp2
      go_ret
      exact⟨ret_bool (by rw[HB.out]),rfl⟩
     ·have d1:decide (x<lo)=false:=by simpa using t1
      have d2:decide (hi<x)=false:=by simpa using t2
      go_wp2
      go_roundw
      case rel=>exact⟨k+1,by omega,by omega,by go_num,xH1 (fun j hj=>by
       rcases Nat.lt_or_ge j k with h|h
       ·exact hall.out j h
       ·have:j=k:=by omega
        subst this
        rw[←HX.out];omega),trivial⟩
      case measure=>simp[intOf];omega
   ·have hk':k=4:=by omega
    subst hk'
    have HB:Hid (within l lo hi=false):=xH1 (within_long (by have:=HL.out;omega))
    clear h3
    have hd:decide ((n:Int)≤3)=false:=by simp;omega
    go_wp2
    go_ret
    exact⟨ret_bool (by rw[HB.out]),rfl⟩
  ·have hkm:k=n:=by omega
   subst hkm
   have HB:Hid (within l lo hi=decide ((k:Int)≤3)):=xH1 (by
    rw[within_good (by rw[HL.out];exact hall.out),HL.out]
    exact decide_eq_decide.2 (by omega))
   go_wp2
   go_ret
   exact⟨ret_bool (by rw[HB.out]),rfl⟩
end Go.Proofs.YtjmpejaifmopnaaGreat
namespace Go.Proofs.YtjmpejaifmopnaaGreat
open Go.RowKit Go.Sort
theorem thread_bad {p:Pg} {i k:Nat} (hi:i<p.threads.length) (hk:k<(p.threads.getD i []).length) (h:opValid p ((p.threads.getD i []).getD k noOp)=false):progValid p=false:=by
 have:p.threads.all (fun t=>decide (t.length≤8)&&t.all (opValid p))=false:=by
  rw[List.all_eq_false]
  have e:p.threads.getD i []=p.threads[i]:=by simp[List.getD,hi]
  rw[e] at hk h
  refine⟨p.threads[i],List.getElem_mem hi,?_⟩
  have e2:(p.threads[i]).getD k noOp=(p.threads[i])[k]:=by simp[List.getD,hk]
  rw[e2] at h
  have:(p.threads[i]).all (opValid p)=false:=by
   rw[List.all_eq_false];exact⟨_,List.getElem_mem hk,by rw[h];simp⟩
  rw[this];simp
 unfold progValid;rw[this];simp
theorem thread_long {p:Pg} {i:Nat} (hi:i<p.threads.length) (h:8<(p.threads.getD i []).length):progValid p=false:=by
 have:p.threads.all (fun t=>decide (t.length≤8)&&t.all (opValid p))=false:=by
  rw[List.all_eq_false]
  have e:p.threads.getD i []=p.threads[i]:=by simp[List.getD,hi]
  rw[e] at h
  exact⟨p.threads[i],List.getElem_mem hi,by rw[show decide ((p.threads[i]).length≤8)=false by simp;omega];simp⟩
 unfold progValid;rw[this];simp
theorem threads_good {p:Pg} (h1:within p.sems 1 9=true) (h2:within p.groups 0 9=true) (h3:within p.barriers 1 6=true) (h4:within p.rooms 0 4=true) (h5:1≤p.threads.length) (h6:p.threads.length≤4)
  (h:∀i,i<p.threads.length→(p.threads.getD i []).length≤8∧∀k,k<(p.threads.getD i []).length→opValid p ((p.threads.getD i []).getD k noOp)=true):progValid p=true:=by
 have:p.threads.all (fun t=>decide (t.length≤8)&&t.all (opValid p))=true:=by
  rw[List.all_eq_true]
  intro t ht
  obtain⟨i,hi,rfl⟩:=List.getElem_of_mem ht
  have e:p.threads.getD i []=p.threads[i]:=by simp[List.getD,hi]
  have:=h i hi
  rw[e] at this
  have h2:(p.threads[i]).all (opValid p)=true:=by
   rw[List.all_eq_true]
   intro o ho
   obtain⟨k,hk,rfl⟩:=List.getElem_of_mem ho
   have e2:(p.threads[i]).getD k noOp=(p.threads[i])[k]:=by simp[List.getD,hk]
   rw[←e2];exact this.2 k hk
  rw[h2];simp[this.1]
 unfold progValid
 rw[h1,h2,h3,h4,this];simp;omega
theorem specProgValid_any (v:PV) (p:Pg) (w:World) (hr:RdP w v p) (hz:Small v p):
  Calls Tryz.prog 38 #[.agg #[.slice v.s v.ns v.cs,.slice v.g v.ng v.cg,.slice v.b v.nb v.cb,.slice v.r v.nr v.cr,.slice v.t v.nt v.ct]] w fun e w'=>e= .returned (.bool (progValid p))∧Below w.heap.size w w':=by
 have hs:v.ns≤maxLen∧v.ng≤maxLen∧v.nb≤maxLen∧v.nr≤maxLen:=by
  obtain⟨z1,z2,z3,z4,z5,z6⟩:=hz;unfold maxLen;omega
 have zz:Hid (v.ns≤maxLen∧v.ng≤maxLen∧v.nb≤maxLen∧v.nr≤maxLen):=xH1 hs
 have z5:v.nt≤1048576:=hz.lt
 have Z6:=xH1 hz.inn
 have ls:=xH1 hr.ls
 have lg:=xH1 hr.lg
 have lb:=xH1 hr.lb
 have lr:=xH1 hr.lr
 have lt:=xH1 hr.lt
 clear hz
 have b0:Below w.heap.size w (w.alloc (.cells #[.slice v.s v.ns v.cs,.slice v.g v.ng v.cg,.slice v.b v.nb v.cb,.slice v.r v.nr v.cr,.slice v.t v.nt v.ct] 26)):=xA1
 rcases Bool.eq_false_or_eq_true (within p.sems 1 9) with h1|h1
 rotate_left
 ·have HB:Hid (progValid p=false):=xH1 (by unfold progValid;rw[h1];simp)
  replace h1:=xH1 h1
  go_enter Tryz.func38,Tryz.ntmps38
  go_wp2_with fail
  refine(l6Numbers_any v.s v.ns v.cs p.sems 1 9 _ ls.out (by have:=zz.out;omega) (hr.rs.below b0)).mono ?_
  rintro e w1 ⟨rfl,rfl⟩
  rw[h1.out]
  go_wp2
  go_ret
  exact⟨ret_bool (by rw[HB.out]),b0⟩
 replace h1:=xH1 h1
 rcases Bool.eq_false_or_eq_true (within p.groups 0 9) with h2|h2
 rotate_left
 ·have HB:Hid (progValid p=false):=xH1 (by unfold progValid;rw[h2];simp)
  replace h2:=xH1 h2
  go_enter Tryz.func38,Tryz.ntmps38
  go_wp2_with fail
  refine(l6Numbers_any v.s v.ns v.cs p.sems 1 9 _ ls.out (by have:=zz.out;omega) (hr.rs.below b0)).mono ?_
  rintro e w1 ⟨rfl,rfl⟩
  rw[h1.out]
  go_wp2_with fail
  refine(l6Numbers_any v.g v.ng v.cg p.groups 0 9 _ lg.out (by have:=zz.out;omega) (hr.rg.below b0)).mono ?_
  rintro e w2 ⟨rfl,rfl⟩
  rw[h2.out]
  go_wp2
  go_ret
  exact⟨ret_bool (by rw[HB.out]),b0⟩
 replace h2:=xH1 h2
 rcases Bool.eq_false_or_eq_true (within p.barriers 1 6) with h3|h3
 rotate_left
 ·have HB:Hid (progValid p=false):=xH1 (by unfold progValid;rw[h3];simp)
  replace h3:=xH1 h3
  go_enter Tryz.func38,Tryz.ntmps38
  go_wp2_with fail
  refine(l6Numbers_any v.s v.ns v.cs p.sems 1 9 _ ls.out (by have:=zz.out;omega) (hr.rs.below b0)).mono ?_
  rintro e w1 ⟨rfl,rfl⟩
  rw[h1.out]
  go_wp2_with fail
  refine(l6Numbers_any v.g v.ng v.cg p.groups 0 9 _ lg.out (by have:=zz.out;omega) (hr.rg.below b0)).mono ?_
  rintro e w2 ⟨rfl,rfl⟩
  rw[h2.out]
  go_wp2_with fail
  refine(l6Numbers_any v.b v.nb v.cb p.barriers 1 6 _ lb.out (by have:=zz.out;omega) (hr.rb.below b0)).mono ?_
  rintro e w3 ⟨rfl,rfl⟩
  rw[h3.out]
  go_wp2
  go_ret
  exact⟨ret_bool (by rw[HB.out]),b0⟩
 replace h3:=xH1 h3
 rcases Bool.eq_false_or_eq_true (within p.rooms 0 4) with h4|h4
 rotate_left
 ·have HB:Hid (progValid p=false):=xH1 (by unfold progValid;rw[h4];simp)
  replace h4:=xH1 h4
  go_enter Tryz.func38,Tryz.ntmps38
  go_wp2_with fail
  refine(l6Numbers_any v.s v.ns v.cs p.sems 1 9 _ ls.out (by have:=zz.out;omega) (hr.rs.below b0)).mono ?_
  rintro e w1 ⟨rfl,rfl⟩
  rw[h1.out]
  go_wp2_with fail
  refine(l6Numbers_any v.g v.ng v.cg p.groups 0 9 _ lg.out (by have:=zz.out;omega) (hr.rg.below b0)).mono ?_
  rintro e w2 ⟨rfl,rfl⟩
  rw[h2.out]
  go_wp2_with fail
  refine(l6Numbers_any v.b v.nb v.cb p.barriers 1 6 _ lb.out (by have:=zz.out;omega) (hr.rb.below b0)).mono ?_
  rintro e w3 ⟨rfl,rfl⟩
  rw[h3.out]
  go_wp2_with fail
  refine(l6Numbers_any v.r v.nr v.cr p.rooms 0 4 _ lr.out (by have:=zz.out;omega) (hr.rr.below b0)).mono ?_
  rintro e w4 ⟨rfl,rfl⟩
  rw[h4.out]
  go_wp2
  go_ret
  exact⟨ret_bool (by rw[HB.out]),b0⟩
 replace h4:=xH1 h4
 by_cases h5:v.nt<1
 ·have HB:Hid (progValid p=false):=xH1 (by
   have:=lt.out
   unfold progValid
   rw[show decide (1≤p.threads.length)=false from decide_eq_false (by omega)];simp)
  have t5:decide ((v.nt:Int)<1)=true:=by simp;omega
  go_enter Tryz.func38,Tryz.ntmps38
  go_wp2_with fail
  refine(l6Numbers_any v.s v.ns v.cs p.sems 1 9 _ ls.out (by have:=zz.out;omega) (hr.rs.below b0)).mono ?_
  rintro e w1 ⟨rfl,rfl⟩
  rw[h1.out]
  go_wp2_with fail
  refine(l6Numbers_any v.g v.ng v.cg p.groups 0 9 _ lg.out (by have:=zz.out;omega) (hr.rg.below b0)).mono ?_
  rintro e w2 ⟨rfl,rfl⟩
  rw[h2.out]
  go_wp2_with fail
  refine(l6Numbers_any v.b v.nb v.cb p.barriers 1 6 _ lb.out (by have:=zz.out;omega) (hr.rb.below b0)).mono ?_
  rintro e w3 ⟨rfl,rfl⟩
  rw[h3.out]
  go_wp2_with fail
  refine(l6Numbers_any v.r v.nr v.cr p.rooms 0 4 _ lr.out (by have:=zz.out;omega) (hr.rr.below b0)).mono ?_
  rintro e w4 ⟨rfl,rfl⟩
  rw[h4.out]
  go_wp2
  go_ret
  exact⟨ret_bool (by rw[HB.out]),b0⟩
 have t5:decide ((v.nt:Int)<1)=false:=by simp;omega
 by_cases h6:4<v.nt
 ·have HB:Hid (progValid p=false):=xH1 (by
   have:=lt.out
   unfold progValid
   rw[show decide (p.threads.length≤4)=false from decide_eq_false (by omega)];simp)
  have t6:decide ((4:Int)<v.nt)=true:=by simp;omega
  go_enter Tryz.func38,Tryz.ntmps38
  go_wp2_with fail
  refine(l6Numbers_any v.s v.ns v.cs p.sems 1 9 _ ls.out (by have:=zz.out;omega) (hr.rs.below b0)).mono ?_
  rintro e w1 ⟨rfl,rfl⟩
  rw[h1.out]
  go_wp2_with fail
  refine(l6Numbers_any v.g v.ng v.cg p.groups 0 9 _ lg.out (by have:=zz.out;omega) (hr.rg.below b0)).mono ?_
  rintro e w2 ⟨rfl,rfl⟩
  rw[h2.out]
  go_wp2_with fail
  refine(l6Numbers_any v.b v.nb v.cb p.barriers 1 6 _ lb.out (by have:=zz.out;omega) (hr.rb.below b0)).mono ?_
  rintro e w3 ⟨rfl,rfl⟩
  rw[h3.out]
  go_wp2_with fail
  refine(l6Numbers_any v.r v.nr v.cr p.rooms 0 4 _ lr.out (by have:=zz.out;omega) (hr.rr.below b0)).mono ?_
  rintro e w4 ⟨rfl,rfl⟩
  rw[h4.out]
  go_wp2
  go_ret
  exact⟨ret_bool (by rw[HB.out]),b0⟩
 have t6:decide ((4:Int)<v.nt)=false:=by simp;omega
 obtain⟨vs,hT⟩:=hr.rt
 have kP:Blk (w.alloc (.cells #[.slice v.s v.ns v.cs,.slice v.g v.ng v.cg,.slice v.b v.nb v.cb,.slice v.r v.nr v.cr,.slice v.t v.nt v.ct] 26)) w.heap.size #[.slice v.s v.ns v.cs,.slice v.g v.ng v.cg,.slice v.b v.nb v.cb,.slice v.r v.nr v.cr,.slice v.t v.nt v.ct] 26:=Blk.new _ _ _
 go_enter Tryz.func38,Tryz.ntmps38
 go_wp2_with fail
 refine(l6Numbers_any v.s v.ns v.cs p.sems 1 9 _ ls.out (by have:=zz.out;omega) (hr.rs.below b0)).mono ?_
 rintro e w1 ⟨rfl,rfl⟩
 rw[h1.out]
 go_wp2_with fail
 refine(l6Numbers_any v.g v.ng v.cg p.groups 0 9 _ lg.out (by have:=zz.out;omega) (hr.rg.below b0)).mono ?_
 rintro e w2 ⟨rfl,rfl⟩
 rw[h2.out]
 go_wp2_with fail
 refine(l6Numbers_any v.b v.nb v.cb p.barriers 1 6 _ lb.out (by have:=zz.out;omega) (hr.rb.below b0)).mono ?_
 rintro e w3 ⟨rfl,rfl⟩
 rw[h3.out]
 go_wp2_with fail
 refine(l6Numbers_any v.r v.nr v.cr p.rooms 0 4 _ lr.out (by have:=zz.out;omega) (hr.rr.below b0)).mono ?_
 rintro e w4 ⟨rfl,rfl⟩
 rw[h4.out]
 go_wp2
 obtain⟨W,hW⟩:∃W:World,W=(w.alloc (.cells #[.slice v.s v.ns v.cs,.slice v.g v.ng v.cg,.slice v.b v.nb v.cb,.slice v.r v.nr v.cr,.slice v.t v.nt v.ct] 26)):=⟨_,rfl⟩
 have hsz:w.heap.size<W.heap.size:=by rw[hW];simp
 rw[←hW] at kP b0⊢
 clear hW
 go_loopw [3] (fun i wr=>∃i':Nat,i'≤v.nt∧i= .int .i64 i'∧Hid (∀j,j<i'→(p.threads.getD j []).length≤8∧∀k,k<(p.threads.getD j []).length→opValid p ((p.threads.getD j []).getD k noOp)=true)∧Below W.heap.size W wr) (fun i _=>v.nt-(intOf i).toNat)
 case atStart=>exact⟨0,by omega,rfl,xH1 (by omega),Below.refl _ _⟩
 case round=>
  obtain⟨i,hi,rfl,hall,hb0⟩:=hrel
  have k1:=kP.below hb0
  have c0:=k1.cell 0 rfl
  have c1:=k1.cell 1 rfl
  have c2:=k1.cell 2 rfl
  have c3:=k1.cell 3 rfl
  have c4:=k1.cell 4 rfl
  have B0:Below w.heap.size w wr:=b0.trans (hb0.mono (Nat.le_of_lt hsz))
  by_cases hlt:i<v.nt
  ·obtain⟨wo,hwo⟩:∃wo:World,wo=wr:=⟨_,rfl⟩
   rw[←hwo] at hb0 k1 c0 c1 c2 c3 c4 B0⊢
   clear hwo wr
   obtain⟨b1,o1,ea,g1'⟩:=(hT.below B0).thread (by have:=lt.out;omega)
   obtain⟨a2,x2,g1,r2⟩:=g1' i (by have:=lt.out;omega)
   obtain⟨m,hm⟩:∃m,m=(p.threads.getD i []).length:=⟨_,rfl⟩
   rw[←hm] at g1
   have hmm:=Z6.out i
   rw[←hm] at hmm
   have HM:=xH1 hm
   rw[ea] at c4
   have HRP:Hid (∀w',RdP w' v p→RdP w' ⟨v.s,v.ns,v.cs,v.g,v.ng,v.cg,v.b,v.nb,v.cb,v.r,v.nr,v.cr,some ⟨b1,o1,none⟩,v.nt,v.ct⟩ p):=xH1 (by rw[←ea];exact fun _ h=>h)
   clear g1' hm ea
   go_wp2
   go_loopw [4] (fun j wk=>∃k:Nat,k≤m∧k≤9∧j= .int .i64 k∧Hid (∀j,j<k→opValid p ((p.threads.getD i []).getD j noOp)=true)∧Below wo.heap.size wo wk) (fun j _=>m-(intOf j).toNat)
   case atStart=>exact⟨0,by omega,by omega,rfl,xH1 (by omega),Below.refl _ _⟩
   case round=>
    obtain⟨k,hk,hk9,rfl,hok,hbk⟩:=hrel
    have d0:=keepc hbk c0
    have d1:=keepc hbk c1
    have d2:=keepc hbk c2
    have d3:=keepc hbk c3
    have d4:=keepc hbk c4
    have f1:=keepc hbk g1
    have B1:Below w.heap.size w wr:=B0.trans (hbk.mono B0.size)
    have BW:Below W.heap.size W wr:=hb0.trans (hbk.mono hb0.size)
    by_cases hkl:k<m
    ·by_cases hk8:k≤8
     ·obtain⟨b2,o2,ea2,g2'⟩:=r2.op (by have:=HM.out;omega)
      obtain⟨g2a,g2b,g2c⟩:=g2' k (by have:=HM.out;omega)
      obtain⟨o,ho⟩:∃o,o=(p.threads.getD i []).getD k noOp:=⟨_,rfl⟩
      rw[←ho] at g2a g2b g2c
      replace g2a:=keepc hbk g2a
      replace g2b:=keepc hbk g2b
      replace g2c:=keepc hbk g2c
      have HO:=xH1 ho
      rw[ea2] at f1
      clear g2' ho ea2
      have kd0:=cell_regrown d0
      have kd1:=cell_regrown d1
      have kd2:=cell_regrown d2
      have kd3:=cell_regrown d3
      have kd4:=cell_regrown d4
      have kf1:=cell_regrown f1
      have kg2a:=cell_regrown g2a
      have kg2b:=cell_regrown g2b
      have kg2c:=cell_regrown g2c
      have e8:decide ((k:Int)≤8)=true:=by simp;omega
      rcases Bool.eq_false_or_eq_true (opValid p o) with hv|hv
      ·have HV:=xH1 hv
       have cV:Hid (∀d os,Calls Tryz.prog 61 #[.agg #[.slice v.s v.ns v.cs,.slice v.g v.ng v.cg,.slice v.b v.nb v.cb,.slice v.r v.nr v.cr,.slice (some ⟨b1,o1,none⟩) v.nt v.ct],.agg #[.int .i64 o.kind,.int .i64 o.on,.int .i64 o.arg]] (grow (redrawn wr d) os) fun e w''=>e= .returned (.bool true)∧∃p:Regrown,w''=grow (redrawn wr p.d) p.os):=xH1 (fun d os=>Calls.regrown_of (by
        have:=specOpValid_any ⟨v.s,v.ns,v.cs,v.g,v.ng,v.cg,v.b,v.nb,v.cb,v.r,v.nr,v.cr,some ⟨b1,o1,none⟩,v.nt,v.ct⟩ p o (grow (redrawn wr d) os) (HRP.out _ ((hr.below B1).below (below_regrown wr d os))) zz.out;rw[hv] at this;exact this))
       clear hv
       go_wp2
       refine wp_region_quiet_below (by kernel_rfl) (by kernel_rfl) ?_
       repeat (go_big_quiet_step (exact cV.out _ _))
       refine wpQuiet_nil ?_
       intro w6 hw6
       have hbw:Below wr.heap.size wr w6:=by
        obtain⟨pq,rfl⟩:=hw6
        exact below_regrown _ _ _
       clear hw6
       go_wp2
       go_roundw
       case rel=>exact⟨k+1,by omega,by omega,by go_num,xH1 (fun j hj=>by
        rcases Nat.lt_or_ge j k with h|h
        ·exact hok.out j h
        ·have:j=k:=by omega
         subst this
         rw[←HO.out];exact HV.out),hbk.trans (hbw.mono hbk.size)⟩
       case measure=>simp[intOf];omega
      ·have HV:=xH1 hv
       have cV:Hid (∀d os,Calls Tryz.prog 61 #[.agg #[.slice v.s v.ns v.cs,.slice v.g v.ng v.cg,.slice v.b v.nb v.cb,.slice v.r v.nr v.cr,.slice (some ⟨b1,o1,none⟩) v.nt v.ct],.agg #[.int .i64 o.kind,.int .i64 o.on,.int .i64 o.arg]] (grow (redrawn wr d) os) fun e w''=>e= .returned (.bool false)∧∃p:Regrown,w''=grow (redrawn wr p.d) p.os):=xH1 (fun d os=>Calls.regrown_of (by
        have:=specOpValid_any ⟨v.s,v.ns,v.cs,v.g,v.ng,v.cg,v.b,v.nb,v.cb,v.r,v.nr,v.cr,some ⟨b1,o1,none⟩,v.nt,v.ct⟩ p o (grow (redrawn wr d) os) (HRP.out _ ((hr.below B1).below (below_regrown wr d os))) zz.out;rw[hv] at this;exact this))
       clear hv
       have HB:Hid (progValid p=false):=xH1 (thread_bad (i:=i) (k:=k) (by have:=lt.out;omega) (by have:=HM.out;omega) (by rw[←HO.out];exact HV.out))
       go_wp2
       refine wp_region_quiet_below (by kernel_rfl) (by kernel_rfl) ?_
       repeat (go_big_quiet_step (exact cV.out _ _))
       refine wpQuiet_nil ?_
       intro w6 hw6
       have hbw:Below wr.heap.size wr w6:=by
        obtain⟨pq,rfl⟩:=hw6
        exact below_regrown _ _ _
       clear hw6
       go_wp2
       go_ret
       exact⟨ret_bool (by rw[HB.out]),B1.trans (hbw.mono B1.size)⟩
     ·have e8:decide ((k:Int)≤8)=false:=by simp;omega
      have e9:decide ((8:Int)<m)=true:=by simp;omega
      have HB:Hid (progValid p=false):=xH1 (thread_long (i:=i) (by have:=lt.out;omega) (by have:=HM.out;omega))
      go_wp2
      go_ret
      exact⟨ret_bool (by rw[HB.out]),B1⟩
    ·have hkm:k=m:=by omega
     subst hkm
     by_cases hm8:8<k
     ·have e9:decide ((8:Int)<k)=true:=by simp;omega
      have HB:Hid (progValid p=false):=xH1 (thread_long (i:=i) (by have:=lt.out;omega) (by have:=HM.out;omega))
      go_wp2
      go_ret
      exact⟨ret_bool (by rw[HB.out]),B1⟩
     ·have e9:decide ((8:Int)<k)=false:=by simp;omega
      go_wp2
      go_roundw
      case rel=>exact⟨i+1,by omega,by go_num,xH1 (fun j hj=>by
       rcases Nat.lt_or_ge j i with h|h
       ·exact hall.out j h
       ·have:j=i:=by omega
        subst this
        exact⟨by rw[←HM.out];omega,by rw[←HM.out];exact hok.out⟩),BW⟩
      case measure=>simp[intOf];omega
  ·have hkm:i=v.nt:=by omega
   subst hkm
   have HB:Hid (progValid p=true):=xH1 (threads_good h1.out h2.out h3.out h4.out (by have:=lt.out;omega) (by have:=lt.out;omega) (by rw[lt.out];exact hall.out))
   go_wp2
   go_ret
   exact⟨ret_bool (by rw[HB.out]),B0⟩
end Go.Proofs.YtjmpejaifmopnaaGreat
namespace Go.Proofs.YtjmpejaifmopnaaGreat
open Go.RowKit
theorem isValue_any (n:Int) (w:World):
  Calls Tryz.prog 47 #[.int .i64 n] w fun e w'=>e= .returned (.bool (isVal n))∧w'=w:=by
 by_cases h:0≤n
 ·have h':isVal n=decide (n≤99):=by simp[isVal,h]
  rw[h']
  go_enter Tryz.func47,Tryz.ntmps47
  go_wp2
  go_ret
  exact⟨rfl,rfl⟩
 ·have h':isVal n=false:=by simp[isVal,h]
  have hd:decide (0≤n)=false:=by simpa using h
  rw[h']
  go_enter Tryz.func47,Tryz.ntmps47
  go_wp2
  go_ret
  exact⟨rfl,rfl⟩
theorem any_getD {l:List Int} {q:Int→Bool} (k:Nat) (hk:k<l.length) (h:q (l.getD k 0)=true):l.any q=true:=by
 rw[List.any_eq_true]
 exact⟨l[k],List.getElem_mem hk,by simpa[List.getD,hk] using h⟩
theorem any_none {l:List Int} {q:Int→Bool} (h:∀k,k<l.length→q (l.getD k 0)=false):l.any q=false:=by
 rw[List.any_eq_false]
 intro x hx
 obtain⟨k,hk,rfl⟩:=List.getElem_of_mem hx
 have:=h k hk
 simpa[List.getD,hk] using this
theorem indexInt_any (g:Nat) (lb:Array Value) (q:Int→Bool) (a:Option Addr) (n c:Nat) (l:List Int) (w:World) (eg:∀args w,(callFunc g args).run Tryz.prog w= .ok (.enter g args) w)
  (hl:l.length=n) (hn:n≤maxLen) (hr:Rd w a (ints l)) (hp:∀x,Calls Tryz.prog g (#[.int .i64 x]++lb) w fun e w'=>e= .returned (.bool (q x))∧w'=w):
  Calls Tryz.prog 25 #[.slice a n c,.func (.func g) #[] lb] w fun e w'=>∃r:Int,e= .returned (.int .i64 r)∧decide (0≤r)=l.any q∧w'=w:=by
 unfold maxLen at hn
 have HL:=xH1 hl
 clear hl
 go_enter Tryz.func25,Tryz.ntmps25
 go_wp2
 go_loopw [8] (fun i wr=>∃k:Nat,k≤n∧i= .int .i64 k∧Hid (∀j,j<k→q (l.getD j 0)=false)∧wr=w) (fun i _=>n-(intOf i).toNat)
 case atStart=>exact⟨0,by omega,rfl,xH1 (by omega),rfl⟩
 case round=>
  obtain⟨k,hk,rfl,hall,rfl⟩:=hrel
  by_cases hlt:k<n
  ·obtain⟨b,o,rfl,hc⟩:=hr.int (by have:=HL.out;omega)
   have g1:=hc k (by have:=HL.out;omega)
   obtain⟨x,hx⟩:∃x,x=l.getD k 0:=⟨_,rfl⟩
   rw[←hx] at g1
   have HX:=xH1 hx
   clear hc hx
   rcases Bool.eq_false_or_eq_true (q x) with hq|hq
   ·have HQ:=xH1 hq
    clear hq
    go_wp2_with (go_at_fn g;refine(hp x).mono ?_;rintro e w' ⟨rfl,rfl⟩;rw[HQ.out])
    go_ret
    exact⟨k,rfl,by rw[any_getD (q:=q) k (by have:=HL.out;omega) (by rw[←HX.out];exact HQ.out)];simp,rfl⟩
   ·have HQ:=xH1 hq
    clear hq
    go_wp2_with (go_at_fn g;refine(hp x).mono ?_;rintro e w' ⟨rfl,rfl⟩;rw[HQ.out])
    go_roundw
    case rel=>exact⟨k+1,by omega,by go_num,xH1 (fun j hj=>by
     rcases Nat.lt_or_ge j k with h|h
     ·exact hall.out j h
     ·have:j=k:=by omega
      subst this
      rw[←HX.out];exact HQ.out),trivial⟩
    case measure=>simp[intOf];omega
  ·have hkm:k=n:=by omega
   subst hkm
   go_wp2
   go_ret
   exact⟨-1,rfl,by rw[any_none (q:=q) (by rw[HL.out];exact hall.out)];simp,rfl⟩
theorem containsInt_any (g:Nat) (lb:Array Value) (q:Int→Bool) (a:Option Addr) (n c:Nat) (l:List Int) (w:World) (eg:∀args w,(callFunc g args).run Tryz.prog w= .ok (.enter g args) w)
  (hl:l.length=n) (hn:n≤maxLen) (hr:Rd w a (ints l)) (hp:∀x,Calls Tryz.prog g (#[.int .i64 x]++lb) w fun e w'=>e= .returned (.bool (q x))∧w'=w):
  Calls Tryz.prog 44 #[.slice a n c,.func (.func g) #[] lb] w fun e w'=>e= .returned (.bool (l.any q))∧w'=w:=by
 go_enter Tryz.func44,Tryz.ntmps44
 go_wp2_with fail
 refine(indexInt_any g lb q a n c l w eg hl hn hr hp).mono ?_
 rintro e w1 ⟨r,rfl,hd,rfl⟩
 have HD:=xH1 hd
 clear hd
 go_wp2
 go_ret
 exact⟨ret_bool HD.out,rfl⟩
theorem withinFn_any (x lo hi:Int) (b1 b2:Nat) (w:World) (h1:w.cell? ⟨b1,0,none⟩=some (.int .i64 lo)) (h2:w.cell? ⟨b2,0,none⟩=some (.int .i64 hi)):
  Calls Tryz.prog 45 (#[.int .i64 x]++ #[.pointer (some ⟨b1,0,none⟩),.pointer (some ⟨b2,0,none⟩)]) w fun e w'=>e= .returned (.bool (!(decide (lo≤x)&&decide (x≤hi))))∧w'=w:=by
 by_cases h:x<lo
 ·have hd:decide (x<lo)=true:=by simpa using h
  have HR:Hid ((!(decide (lo≤x)&&decide (x≤hi)))=true):=xH1 (by rw[decide_eq_false (by omega:¬lo≤x)];rfl)
  go_enter Tryz.func45,Tryz.ntmps45
  go_wp2
  go_ret
  exact⟨ret_bool (by rw[HR.out]),rfl⟩
 ·have hd:decide (x<lo)=false:=by simpa using h
  have HR:Hid ((!(decide (lo≤x)&&decide (x≤hi)))=decide (hi<x)):=xH1 (by
   rw[decide_eq_true (by omega:lo≤x),Bool.true_and]
   by_cases hx:x≤hi
   ·rw[decide_eq_true hx,decide_eq_false (by omega:¬hi<x)];rfl
   ·rw[decide_eq_false hx,decide_eq_true (by omega:hi<x)];rfl)
  have hle:decide (lo≤x)=true:=decide_eq_true (by omega)
  go_enter Tryz.func45,Tryz.ntmps45
  go_wp2
  go_ret
  exact⟨ret_bool (by rw[←HR.out,hle];rfl),rfl⟩
theorem any_not_all {l:List Int} (q:Int→Bool):l.any (fun x=> !(q x))= !(l.all q):=by
 induction l with
 |nil=>rfl
 |cons a t ih=>simp[ih]
theorem implWithin_any (a:Option Addr) (n c:Nat) (l:List Int) (lo hi:Int) (w:World) (hl:l.length=n) (hn:n≤maxLen) (hr:Rd w a (ints l)):
  Calls Tryz.prog 28 #[.slice a n c,.int .i64 lo,.int .i64 hi] w fun e w'=>e= .returned (.bool (within l lo hi))∧Below w.heap.size w w':=by
 have hmf:∀(fn:Fn) (first cap:Array Value) (w:World),(Instr.makeFunc fn first cap).run Tryz.prog w= .ok (.func fn first cap) w:=fun _ _ _ _=>rfl
 have b0:Below w.heap.size w ((w.alloc (.cells #[.int .i64 lo] 3)).alloc (.cells #[.int .i64 hi] 3)):=(xA1).alloc (by simp) _
 have k1:Blk ((w.alloc (.cells #[.int .i64 lo] 3)).alloc (.cells #[.int .i64 hi] 3)) w.heap.size #[.int .i64 lo] 3:=(Blk.new _ _ _).alloc _
 have k2:Blk ((w.alloc (.cells #[.int .i64 lo] 3)).alloc (.cells #[.int .i64 hi] 3)) (w.heap.size+1) #[.int .i64 hi] 3:=by simpa using Blk.new (w.alloc (.cells #[.int .i64 lo] 3)) #[.int .i64 hi] 3
 by_cases h3:n≤3
 ·have hd:decide ((n:Int)≤3)=true:=by simp;omega
  have HR:Hid (within l lo hi=l.all (fun x=>decide (lo≤x)&&decide (x≤hi))):=xH1 (by unfold within;rw[hl,show decide (n≤3)=true by simpa using h3];simp)
  go_enter Tryz.func28,Tryz.ntmps28
  go_wp2_with fail
  refine(containsInt_any 45 #[.pointer (some ⟨w.heap.size,0,none⟩),.pointer (some ⟨w.heap.size+1,0,none⟩)] (fun x=> !(decide (lo≤x)&&decide (x≤hi))) a n c l _ (enters_of Tryz.func45 (by kernel_rfl) rfl) hl hn (hr.below b0) (fun x=>withinFn_any x lo hi _ _ _ (k1.cell 0 rfl) (k2.cell 0 rfl))).mono ?_
  rintro e w1 ⟨rfl,rfl⟩
  rw[any_not_all]
  go_wp2
  go_ret
  exact⟨ret_bool (by rw[HR.out]),b0⟩
 ·have hd:decide ((n:Int)≤3)=false:=by simp;omega
  have HR:Hid (within l lo hi=false):=xH1 (within_long (by omega))
  go_enter Tryz.func28,Tryz.ntmps28
  go_wp2_with fail
  go_ret
  exact⟨ret_bool (by rw[HR.out]),b0⟩
end Go.Proofs.YtjmpejaifmopnaaGreat
namespace Go.Proofs.YtjmpejaifmopnaaGreat
open Go.RowKit Go.Sort
theorem onFn_any (a:Option Addr) (n c:Nat) (on:Int) (b:Nat) (w:World) (_hn:n≤maxLen) (h1:w.cell? ⟨b,1,none⟩=some (.int .i64 on)):
  Calls Tryz.prog 46 #[.slice a n c,.pointer (some ⟨b,0,none⟩)] w fun e w'=>e= .returned (.bool (decide (0≤on)&&decide (on<n)))∧w'=w:=by
 unfold maxLen at _hn
 by_cases h:0≤on
 ·have hd:decide (0≤on)=true:=decide_eq_true h
  rw[hd,Bool.true_and]
  go_enter Tryz.func46,Tryz.ntmps46
  go_wp2
  go_ret
  exact⟨rfl,rfl⟩
 ·have hd:decide (0≤on)=false:=decide_eq_false h
  rw[hd,Bool.false_and]
  go_enter Tryz.func46,Tryz.ntmps46
  go_wp2
  go_ret
  exact⟨rfl,rfl⟩
theorem opValid_no {p:Pg} {o:OpD} (h:¬(1≤o.kind∧o.kind≤10)):opValid p o=false:=by
 unfold opValid;rw[←Bool.decide_and,decide_eq_false h];simp
theorem opValid_off {p:Pg} {o:OpD} (h:¬(0≤o.on∧o.on<shared p o.kind)):opValid p o=false:=by
 unfold opValid
 by_cases h0:0≤o.on
 ·rw[decide_eq_false (fun h1:o.on<shared p o.kind=>h ⟨h0,h1⟩)];simp
 ·rw[decide_eq_false h0];simp
theorem opValid_on {p:Pg} {o:OpD} (hk:1≤o.kind∧o.kind≤10) (h:0≤o.on∧o.on<shared p o.kind):opValid p o=argOk p o:=by
 unfold opValid
 rw[decide_eq_true hk.1,decide_eq_true hk.2,decide_eq_true h.1,decide_eq_true h.2];simp
theorem implOpValid_any (v:PV) (p:Pg) (o:OpD) (w:World) (hr:RdP w v p) (hs:v.ns≤maxLen∧v.ng≤maxLen∧v.nb≤maxLen∧v.nr≤maxLen):
  Calls Tryz.prog 29 #[.agg #[.slice v.s v.ns v.cs,.slice v.g v.ng v.cg,.slice v.b v.nb v.cb,.slice v.r v.nr v.cr,.slice v.t v.nt v.ct],.agg #[.int .i64 o.kind,.int .i64 o.on,.int .i64 o.arg]] w fun e w'=>e= .returned (.bool (opValid p o))∧Below w.heap.size w w':=by
 have hmf:∀(fn:Fn) (first cap:Array Value) (w:World),(Instr.makeFunc fn first cap).run Tryz.prog w= .ok (.func fn first cap) w:=fun _ _ _ _=>rfl
 have kP:Blk ((w.alloc (.cells #[.slice v.s v.ns v.cs,.slice v.g v.ng v.cg,.slice v.b v.nb v.cb,.slice v.r v.nr v.cr,.slice v.t v.nt v.ct] 26)).alloc (.cells #[.int .i64 o.kind,.int .i64 o.on,.int .i64 o.arg] 58)) w.heap.size #[.slice v.s v.ns v.cs,.slice v.g v.ng v.cg,.slice v.b v.nb v.cb,.slice v.r v.nr v.cr,.slice v.t v.nt v.ct] 26:=(Blk.new _ _ _).alloc _
 have kO:Blk ((w.alloc (.cells #[.slice v.s v.ns v.cs,.slice v.g v.ng v.cg,.slice v.b v.nb v.cb,.slice v.r v.nr v.cr,.slice v.t v.nt v.ct] 26)).alloc (.cells #[.int .i64 o.kind,.int .i64 o.on,.int .i64 o.arg] 58)) (w.heap.size+1) #[.int .i64 o.kind,.int .i64 o.on,.int .i64 o.arg] 58:=by simpa using Blk.new (w.alloc (.cells #[.slice v.s v.ns v.cs,.slice v.g v.ng v.cg,.slice v.b v.nb v.cb,.slice v.r v.nr v.cr,.slice v.t v.nt v.ct] 26)) #[.int .i64 o.kind,.int .i64 o.on,.int .i64 o.arg] 58
 have b0:Below w.heap.size w ((w.alloc (.cells #[.slice v.s v.ns v.cs,.slice v.g v.ng v.cg,.slice v.b v.nb v.cb,.slice v.r v.nr v.cr,.slice v.t v.nt v.ct] 26)).alloc (.cells #[.int .i64 o.kind,.int .i64 o.on,.int .i64 o.arg] 58)):=(xA1).alloc (by simp) _
 have k0:((w.alloc (.cells #[.slice v.s v.ns v.cs,.slice v.g v.ng v.cg,.slice v.b v.nb v.cb,.slice v.r v.nr v.cr,.slice v.t v.nt v.ct] 26)).alloc (.cells #[.int .i64 o.kind,.int .i64 o.on,.int .i64 o.arg] 58)).cell? ⟨w.heap.size+1,1,none⟩=some (.int .i64 o.on):=kO.cell 1 rfl
 have ls:=xH1 hr.ls
 have lg:=xH1 hr.lg
 have lb:=xH1 hr.lb
 have lr:=xH1 hr.lr
 obtain⟨zs,zg,zb,zr⟩:=hs
 obtain⟨kd,on,ar⟩:=o
 simp only at k0 b0 kP kO
 by_cases hk:1≤kd∧kd≤10
 rotate_left
 ·have HB:Hid (opValid p ⟨kd,on,ar⟩=false):=xH1 (opValid_no hk)
  have e1:(kd==1)=false:=by simp;omega
  have e2:(kd==2)=false:=by simp;omega
  have e3:(kd==3)=false:=by simp;omega
  have e4:(kd==4)=false:=by simp;omega
  have e5:(kd==5)=false:=by simp;omega
  have e6:(kd==6)=false:=by simp;omega
  have e7:(kd==7)=false:=by simp;omega
  have e8:(kd==8)=false:=by simp;omega
  have e9:(kd==9)=false:=by simp;omega
  have e10:(kd==10)=false:=by simp;omega
  clear kP kO k0
  go_enter Tryz.func29,Tryz.ntmps29
  go_wp2_with fail
  go_ret
  exact⟨ret_bool (by rw[HB.out]),b0⟩
 have hk':kd=1∨kd=2∨kd=3∨kd=4∨kd=5∨kd=6∨kd=7∨kd=8∨kd=9∨kd=10:=by omega
 clear hk
 rcases hk' with rfl|rfl|rfl|rfl|rfl|rfl|rfl|rfl|rfl|rfl
 --kind 1
 ·by_cases h:on=0
  ·subst h
   have HB:Hid (opValid p ⟨1,0,ar⟩=isVal ar):=xH1 (opValid_on (by show(1:Int)≤1∧(1:Int)≤10;decide) (by show(0:Int)≤0∧(0:Int)<((1:Nat):Int);decide))
   clear kP kO k0
   go_enter Tryz.func29,Tryz.ntmps29
   go_wp2_with fail
   refine(isValue_any ar _).mono ?_
   rintro e w1 ⟨rfl,rfl⟩
   go_wp2
   go_ret
   exact⟨ret_bool (by rw[HB.out]),b0⟩
  ·have HB:Hid (opValid p ⟨1,on,ar⟩=false):=xH1 (opValid_off (by show¬(0≤on∧on<((1:Nat):Int));omega))
   have e0:(on==0)=false:=by simpa using h
   clear kP kO k0
   go_enter Tryz.func29,Tryz.ntmps29
   go_wp2_with fail
   go_ret
   exact⟨ret_bool (by rw[HB.out]),b0⟩
 --kind 2
 ·by_cases h:0≤on∧on<v.ns
  ·have HC:Hid ((decide (0≤on)&&decide (on<v.ns))=true):=xH1 (by rw[decide_eq_true h.1,decide_eq_true h.2];rfl)
   have HO:Hid (opValid p ⟨2,on,ar⟩=argOk p ⟨2,on,ar⟩):=xH1 (opValid_on (by show(1:Int)≤2∧(2:Int)≤10;decide) (by show 0≤on∧on<(shared p 2:Int);rw[show shared p 2=v.ns from ls.out];exact h))
   obtain⟨W0,hW0⟩:∃W0:World,W0=((w.alloc (.cells #[.slice v.s v.ns v.cs,.slice v.g v.ng v.cg,.slice v.b v.nb v.cb,.slice v.r v.nr v.cr,.slice v.t v.nt v.ct] 26)).alloc (.cells #[.int .i64 2,.int .i64 on,.int .i64 ar] 58)):=⟨_,rfl⟩
   rw[←hW0] at kP kO b0 k0
   have HW0:=xH1 hW0
   clear hW0
   have c1:W0.cell? ⟨w.heap.size,0,none⟩=some (.slice v.s v.ns v.cs):=kP.cell 0 rfl
   have c6:W0.cell? ⟨w.heap.size+1,0,none⟩=some (.int .i64 2):=kO.cell 0 rfl
   have c8:W0.cell? ⟨w.heap.size+1,2,none⟩=some (.int .i64 ar):=kO.cell 2 rfl
   have k1:=cell_regrown c1
   have k6:=cell_regrown c6
   have k7:=cell_regrown k0
   have k8:=cell_regrown c8
   clear kP kO
   have cF:Hid (∀d os,Calls Tryz.prog 46 #[.slice v.s v.ns v.cs,.pointer (some ⟨w.heap.size+1,0,none⟩)] (grow (redrawn W0 d) os) fun e w''=>e= .returned (.bool true)∧∃p:Regrown,w''=grow (redrawn W0 p.d) p.os):=xH1 (fun d os=>regrown_same (by
    have:=onFn_any v.s v.ns v.cs on (w.heap.size+1) (grow (redrawn W0 d) os) zs (k7 d os);rw[HC.out] at this;exact this))
   obtain⟨b,q,hsa,hc⟩:=hr.rs.int (by rw[hr.ls];omega)
   have hcell:=hc on.toNat (by rw[hr.ls];omega)
   obtain⟨x,hx⟩:∃x,x=p.sems.getD on.toNat 0:=⟨_,rfl⟩
   rw[←hx] at hcell
   have HA:Hid (argOk p ⟨2,on,ar⟩=(decide (1≤ar)&&decide (ar≤x))):=xH1 (by rw[hx];rfl)
   obtain⟨on0,on1⟩:=h
   have k9:=cell_regrown (keepc b0 hcell)
   rw[hsa] at k1 cF HW0
   clear k0 hc hx hr ls lg lb lr hcell
   by_cases h1:1≤ar
   ·have d1:decide (1≤ar)=true:=decide_eq_true h1
    go_enter Tryz.func29,Tryz.ntmps29
    go_wp2_with fail
    rw[←HW0.out]
    refine wp_region_quiet_below (by kernel_rfl) (by kernel_rfl) ?_
    repeat (go_big_quiet_step (exact cF.out _ _))
    refine wpQuiet_nil ?_
    intro w6 hw6
    have hbq:Below W0.heap.size W0 w6:=by
     obtain⟨pq,rfl⟩:=hw6
     exact below_regrown _ _ _
    clear hw6
    go_wp2
    go_ret
    exact⟨ret_bool (by rw[HO.out,HA.out,d1];rfl),b0.trans (hbq.mono b0.size)⟩
   ·have d1:decide (1≤ar)=false:=decide_eq_false h1
    go_enter Tryz.func29,Tryz.ntmps29
    go_wp2_with fail
    rw[←HW0.out]
    refine wp_region_quiet_below (by kernel_rfl) (by kernel_rfl) ?_
    repeat (go_big_quiet_step (exact cF.out _ _))
    refine wpQuiet_nil ?_
    intro w6 hw6
    have hbq:Below W0.heap.size W0 w6:=by
     obtain⟨pq,rfl⟩:=hw6
     exact below_regrown _ _ _
    clear hw6
    go_wp2
    go_ret
    exact⟨ret_bool (by rw[HO.out,HA.out,d1];rfl),b0.trans (hbq.mono b0.size)⟩
  ·have HC:Hid ((decide (0≤on)&&decide (on<v.ns))=false):=xH1 (by rw[←Bool.decide_and];exact decide_eq_false h)
   have HB:Hid (opValid p ⟨2,on,ar⟩=false):=xH1 (opValid_off (by show¬(0≤on∧on<(shared p 2:Int));rw[show shared p 2=v.ns from ls.out];exact h))
   obtain⟨W0,hW0⟩:∃W0:World,W0=((w.alloc (.cells #[.slice v.s v.ns v.cs,.slice v.g v.ng v.cg,.slice v.b v.nb v.cb,.slice v.r v.nr v.cr,.slice v.t v.nt v.ct] 26)).alloc (.cells #[.int .i64 2,.int .i64 on,.int .i64 ar] 58)):=⟨_,rfl⟩
   rw[←hW0] at kP kO b0 k0
   have HW0:=xH1 hW0
   clear hW0
   have c1:W0.cell? ⟨w.heap.size,0,none⟩=some (.slice v.s v.ns v.cs):=kP.cell 0 rfl
   have c6:W0.cell? ⟨w.heap.size+1,0,none⟩=some (.int .i64 2):=kO.cell 0 rfl
   have c8:W0.cell? ⟨w.heap.size+1,2,none⟩=some (.int .i64 ar):=kO.cell 2 rfl
   have k1:=cell_regrown c1
   have k6:=cell_regrown c6
   have k7:=cell_regrown k0
   have k8:=cell_regrown c8
   clear kP kO
   have cF:Hid (∀d os,Calls Tryz.prog 46 #[.slice v.s v.ns v.cs,.pointer (some ⟨w.heap.size+1,0,none⟩)] (grow (redrawn W0 d) os) fun e w''=>e= .returned (.bool false)∧∃p:Regrown,w''=grow (redrawn W0 p.d) p.os):=xH1 (fun d os=>regrown_same (by
    have:=onFn_any v.s v.ns v.cs on (w.heap.size+1) (grow (redrawn W0 d) os) zs (k7 d os);rw[HC.out] at this;exact this))
   clear k0
   go_enter Tryz.func29,Tryz.ntmps29
   go_wp2_with fail
   rw[←HW0.out]
   refine wp_region_quiet_below (by kernel_rfl) (by kernel_rfl) ?_
   repeat (go_big_quiet_step (exact cF.out _ _))
   refine wpQuiet_nil ?_
   intro w6 hw6
   have hbq:Below W0.heap.size W0 w6:=by
    obtain⟨pq,rfl⟩:=hw6
    exact below_regrown _ _ _
   clear hw6
   go_wp2
   go_ret
   exact⟨ret_bool (by rw[HB.out]),b0.trans (hbq.mono b0.size)⟩
 --kind 3
 ·by_cases h:0≤on∧on<v.ns
  ·have HC:Hid ((decide (0≤on)&&decide (on<v.ns))=true):=xH1 (by rw[decide_eq_true h.1,decide_eq_true h.2];rfl)
   have HO:Hid (opValid p ⟨3,on,ar⟩=argOk p ⟨3,on,ar⟩):=xH1 (opValid_on (by show(1:Int)≤3∧(3:Int)≤10;decide) (by show 0≤on∧on<(shared p 3:Int);rw[show shared p 3=v.ns from ls.out];exact h))
   obtain⟨W0,hW0⟩:∃W0:World,W0=((w.alloc (.cells #[.slice v.s v.ns v.cs,.slice v.g v.ng v.cg,.slice v.b v.nb v.cb,.slice v.r v.nr v.cr,.slice v.t v.nt v.ct] 26)).alloc (.cells #[.int .i64 3,.int .i64 on,.int .i64 ar] 58)):=⟨_,rfl⟩
   rw[←hW0] at kP kO b0 k0
   have HW0:=xH1 hW0
   clear hW0
   have c1:W0.cell? ⟨w.heap.size,0,none⟩=some (.slice v.s v.ns v.cs):=kP.cell 0 rfl
   have c6:W0.cell? ⟨w.heap.size+1,0,none⟩=some (.int .i64 3):=kO.cell 0 rfl
   have c8:W0.cell? ⟨w.heap.size+1,2,none⟩=some (.int .i64 ar):=kO.cell 2 rfl
   have k1:=cell_regrown c1
   have k6:=cell_regrown c6
   have k7:=cell_regrown k0
   have k8:=cell_regrown c8
   clear kP kO
   have cF:Hid (∀d os,Calls Tryz.prog 46 #[.slice v.s v.ns v.cs,.pointer (some ⟨w.heap.size+1,0,none⟩)] (grow (redrawn W0 d) os) fun e w''=>e= .returned (.bool true)∧∃p:Regrown,w''=grow (redrawn W0 p.d) p.os):=xH1 (fun d os=>regrown_same (by
    have:=onFn_any v.s v.ns v.cs on (w.heap.size+1) (grow (redrawn W0 d) os) zs (k7 d os);rw[HC.out] at this;exact this))
   obtain⟨b,q,hsa,hc⟩:=hr.rs.int (by rw[hr.ls];omega)
   have hcell:=hc on.toNat (by rw[hr.ls];omega)
   obtain⟨x,hx⟩:∃x,x=p.sems.getD on.toNat 0:=⟨_,rfl⟩
   rw[←hx] at hcell
   have HA:Hid (argOk p ⟨3,on,ar⟩=(decide (1≤ar)&&decide (ar≤x))):=xH1 (by rw[hx];rfl)
   obtain⟨on0,on1⟩:=h
   have k9:=cell_regrown (keepc b0 hcell)
   rw[hsa] at k1 cF HW0
   clear k0 hc hx hr ls lg lb lr hcell
   by_cases h1:1≤ar
   ·have d1:decide (1≤ar)=true:=decide_eq_true h1
    go_enter Tryz.func29,Tryz.ntmps29
    go_wp2_with fail
    rw[←HW0.out]
    refine wp_region_quiet_below (by kernel_rfl) (by kernel_rfl) ?_
    repeat (go_big_quiet_step (exact cF.out _ _))
    refine wpQuiet_nil ?_
    intro w6 hw6
    have hbq:Below W0.heap.size W0 w6:=by
     obtain⟨pq,rfl⟩:=hw6
     exact below_regrown _ _ _
    clear hw6
    go_wp2
    go_ret
    exact⟨ret_bool (by rw[HO.out,HA.out,d1];rfl),b0.trans (hbq.mono b0.size)⟩
   ·have d1:decide (1≤ar)=false:=decide_eq_false h1
    go_enter Tryz.func29,Tryz.ntmps29
    go_wp2_with fail
    rw[←HW0.out]
    refine wp_region_quiet_below (by kernel_rfl) (by kernel_rfl) ?_
    repeat (go_big_quiet_step (exact cF.out _ _))
    refine wpQuiet_nil ?_
    intro w6 hw6
    have hbq:Below W0.heap.size W0 w6:=by
     obtain⟨pq,rfl⟩:=hw6
     exact below_regrown _ _ _
    clear hw6
    go_wp2
    go_ret
    exact⟨ret_bool (by rw[HO.out,HA.out,d1];rfl),b0.trans (hbq.mono b0.size)⟩
  ·have HC:Hid ((decide (0≤on)&&decide (on<v.ns))=false):=xH1 (by rw[←Bool.decide_and];exact decide_eq_false h)
   have HB:Hid (opValid p ⟨3,on,ar⟩=false):=xH1 (opValid_off (by show¬(0≤on∧on<(shared p 3:Int));rw[show shared p 3=v.ns from ls.out];exact h))
   obtain⟨W0,hW0⟩:∃W0:World,W0=((w.alloc (.cells #[.slice v.s v.ns v.cs,.slice v.g v.ng v.cg,.slice v.b v.nb v.cb,.slice v.r v.nr v.cr,.slice v.t v.nt v.ct] 26)).alloc (.cells #[.int .i64 3,.int .i64 on,.int .i64 ar] 58)):=⟨_,rfl⟩
   rw[←hW0] at kP kO b0 k0
   have HW0:=xH1 hW0
   clear hW0
   have c1:W0.cell? ⟨w.heap.size,0,none⟩=some (.slice v.s v.ns v.cs):=kP.cell 0 rfl
   have c6:W0.cell? ⟨w.heap.size+1,0,none⟩=some (.int .i64 3):=kO.cell 0 rfl
   have c8:W0.cell? ⟨w.heap.size+1,2,none⟩=some (.int .i64 ar):=kO.cell 2 rfl
   have k1:=cell_regrown c1
   have k6:=cell_regrown c6
   have k7:=cell_regrown k0
   have k8:=cell_regrown c8
   clear kP kO
   have cF:Hid (∀d os,Calls Tryz.prog 46 #[.slice v.s v.ns v.cs,.pointer (some ⟨w.heap.size+1,0,none⟩)] (grow (redrawn W0 d) os) fun e w''=>e= .returned (.bool false)∧∃p:Regrown,w''=grow (redrawn W0 p.d) p.os):=xH1 (fun d os=>regrown_same (by
    have:=onFn_any v.s v.ns v.cs on (w.heap.size+1) (grow (redrawn W0 d) os) zs (k7 d os);rw[HC.out] at this;exact this))
   clear k0
   go_enter Tryz.func29,Tryz.ntmps29
   go_wp2_with fail
   rw[←HW0.out]
   refine wp_region_quiet_below (by kernel_rfl) (by kernel_rfl) ?_
   repeat (go_big_quiet_step (exact cF.out _ _))
   refine wpQuiet_nil ?_
   intro w6 hw6
   have hbq:Below W0.heap.size W0 w6:=by
    obtain⟨pq,rfl⟩:=hw6
    exact below_regrown _ _ _
   clear hw6
   go_wp2
   go_ret
   exact⟨ret_bool (by rw[HB.out]),b0.trans (hbq.mono b0.size)⟩
 --kind 4
 ·by_cases h1:0≤on
  ·have d1:decide (0≤on)=true:=decide_eq_true h1
   by_cases h2:on≤2
   ·have d2:decide (on≤2)=true:=decide_eq_true h2
    have HB:Hid (opValid p ⟨4,on,ar⟩=isVal ar):=xH1 (opValid_on (by show(1:Int)≤4∧(4:Int)≤10;decide) (by show 0≤on∧on<((3:Nat):Int);omega))
    clear kP kO k0
    go_enter Tryz.func29,Tryz.ntmps29
    go_wp2_with fail
    refine(isValue_any ar _).mono ?_
    rintro e w1 ⟨rfl,rfl⟩
    go_wp2
    go_ret
    exact⟨ret_bool (by rw[HB.out]),b0⟩
   ·have d2:decide (on≤2)=false:=decide_eq_false h2
    have HB:Hid (opValid p ⟨4,on,ar⟩=false):=xH1 (opValid_off (by show¬(0≤on∧on<((3:Nat):Int));omega))
    clear kP kO k0
    go_enter Tryz.func29,Tryz.ntmps29
    go_wp2_with fail
    go_ret
    exact⟨ret_bool (by rw[HB.out]),b0⟩
  ·have d1:decide (0≤on)=false:=decide_eq_false h1
   have HB:Hid (opValid p ⟨4,on,ar⟩=false):=xH1 (opValid_off (by show¬(0≤on∧on<((3:Nat):Int));omega))
   clear kP kO k0
   go_enter Tryz.func29,Tryz.ntmps29
   go_wp2_with fail
   go_ret
   exact⟨ret_bool (by rw[HB.out]),b0⟩
 --kind 5
 ·by_cases h:0≤on∧on<v.ng
  ·have HC:Hid ((decide (0≤on)&&decide (on<v.ng))=true):=xH1 (by rw[decide_eq_true h.1,decide_eq_true h.2];rfl)
   have HO:Hid (opValid p ⟨5,on,ar⟩=argOk p ⟨5,on,ar⟩):=xH1 (opValid_on (by show(1:Int)≤5∧(5:Int)≤10;decide) (by show 0≤on∧on<(shared p 5:Int);rw[show shared p 5=v.ng from lg.out];exact h))
   clear kP kO h
   by_cases h9: -9≤ar
   ·have d9:decide (-9≤ar)=true:=decide_eq_true h9
    have HB:Hid (argOk p ⟨5,on,ar⟩=decide (ar≤9)):=xH1 (by show(decide (-9≤ar)&&decide (ar≤9))=_;rw[d9];rfl)
    go_enter Tryz.func29,Tryz.ntmps29
    go_wp2_with fail
    refine(onFn_any v.g v.ng v.cg on _ _ zg k0).mono ?_
    rintro e w1 ⟨rfl,rfl⟩
    rw[HC.out]
    go_wp2
    go_ret
    exact⟨ret_bool (by rw[HO.out,HB.out]),b0⟩
   ·have d9:decide (-9≤ar)=false:=decide_eq_false h9
    have HB:Hid (argOk p ⟨5,on,ar⟩=false):=xH1 (by show(decide (-9≤ar)&&decide (ar≤9))=_;rw[d9];rfl)
    go_enter Tryz.func29,Tryz.ntmps29
    go_wp2_with fail
    refine(onFn_any v.g v.ng v.cg on _ _ zg k0).mono ?_
    rintro e w1 ⟨rfl,rfl⟩
    rw[HC.out]
    go_wp2
    go_ret
    exact⟨ret_bool (by rw[HO.out,HB.out]),b0⟩
  ·have HC:Hid ((decide (0≤on)&&decide (on<v.ng))=false):=xH1 (by rw[←Bool.decide_and];exact decide_eq_false h)
   have HB:Hid (opValid p ⟨5,on,ar⟩=false):=xH1 (opValid_off (by show¬(0≤on∧on<(shared p 5:Int));rw[show shared p 5=v.ng from lg.out];exact h))
   clear kP kO h
   go_enter Tryz.func29,Tryz.ntmps29
   go_wp2_with fail
   refine(onFn_any v.g v.ng v.cg on _ _ zg k0).mono ?_
   rintro e w1 ⟨rfl,rfl⟩
   rw[HC.out]
   go_wp2
   go_ret
   exact⟨ret_bool (by rw[HB.out]),b0⟩
 --kind 6
 ·by_cases h:0≤on∧on<v.ng
  ·have HC:Hid ((decide (0≤on)&&decide (on<v.ng))=true):=xH1 (by rw[decide_eq_true h.1,decide_eq_true h.2];rfl)
   have HO:Hid (opValid p ⟨6,on,ar⟩=argOk p ⟨6,on,ar⟩):=xH1 (opValid_on (by show(1:Int)≤6∧(6:Int)≤10;decide) (by show 0≤on∧on<(shared p 6:Int);rw[show shared p 6=v.ng from lg.out];exact h))
   clear kP kO h
   go_enter Tryz.func29,Tryz.ntmps29
   go_wp2_with fail
   refine(onFn_any v.g v.ng v.cg on _ _ zg k0).mono ?_
   rintro e w1 ⟨rfl,rfl⟩
   rw[HC.out]
   go_wp2
   go_ret
   exact⟨ret_bool (by rw[HO.out];rfl),b0⟩
  ·have HC:Hid ((decide (0≤on)&&decide (on<v.ng))=false):=xH1 (by rw[←Bool.decide_and];exact decide_eq_false h)
   have HB:Hid (opValid p ⟨6,on,ar⟩=false):=xH1 (opValid_off (by show¬(0≤on∧on<(shared p 6:Int));rw[show shared p 6=v.ng from lg.out];exact h))
   clear kP kO h
   go_enter Tryz.func29,Tryz.ntmps29
   go_wp2_with fail
   refine(onFn_any v.g v.ng v.cg on _ _ zg k0).mono ?_
   rintro e w1 ⟨rfl,rfl⟩
   rw[HC.out]
   go_wp2
   go_ret
   exact⟨ret_bool (by rw[HB.out]),b0⟩
 --kind 7
 ·by_cases h:0≤on∧on<v.nb
  ·have HC:Hid ((decide (0≤on)&&decide (on<v.nb))=true):=xH1 (by rw[decide_eq_true h.1,decide_eq_true h.2];rfl)
   have HO:Hid (opValid p ⟨7,on,ar⟩=argOk p ⟨7,on,ar⟩):=xH1 (opValid_on (by show(1:Int)≤7∧(7:Int)≤10;decide) (by show 0≤on∧on<(shared p 7:Int);rw[show shared p 7=v.nb from lb.out];exact h))
   clear kP kO h
   go_enter Tryz.func29,Tryz.ntmps29
   go_wp2_with fail
   refine(onFn_any v.b v.nb v.cb on _ _ zb k0).mono ?_
   rintro e w1 ⟨rfl,rfl⟩
   rw[HC.out]
   go_wp2
   go_ret
   exact⟨ret_bool (by rw[HO.out];rfl),b0⟩
  ·have HC:Hid ((decide (0≤on)&&decide (on<v.nb))=false):=xH1 (by rw[←Bool.decide_and];exact decide_eq_false h)
   have HB:Hid (opValid p ⟨7,on,ar⟩=false):=xH1 (opValid_off (by show¬(0≤on∧on<(shared p 7:Int));rw[show shared p 7=v.nb from lb.out];exact h))
   clear kP kO h
   go_enter Tryz.func29,Tryz.ntmps29
   go_wp2_with fail
   refine(onFn_any v.b v.nb v.cb on _ _ zb k0).mono ?_
   rintro e w1 ⟨rfl,rfl⟩
   rw[HC.out]
   go_wp2
   go_ret
   exact⟨ret_bool (by rw[HB.out]),b0⟩
 --kind 8
 ·by_cases h:0≤on∧on<v.nr
  ·have HC:Hid ((decide (0≤on)&&decide (on<v.nr))=true):=xH1 (by rw[decide_eq_true h.1,decide_eq_true h.2];rfl)
   have HO:Hid (opValid p ⟨8,on,ar⟩=argOk p ⟨8,on,ar⟩):=xH1 (opValid_on (by show(1:Int)≤8∧(8:Int)≤10;decide) (by show 0≤on∧on<(shared p 8:Int);rw[show shared p 8=v.nr from lr.out];exact h))
   clear kP kO h
   go_enter Tryz.func29,Tryz.ntmps29
   go_wp2_with fail
   refine(onFn_any v.r v.nr v.cr on _ _ zr k0).mono ?_
   rintro e w1 ⟨rfl,rfl⟩
   rw[HC.out]
   go_wp2_with fail
   refine(isValue_any ar _).mono ?_
   rintro e w1 ⟨rfl,rfl⟩
   go_wp2
   go_ret
   exact⟨ret_bool (by rw[HO.out];rfl),b0⟩
  ·have HC:Hid ((decide (0≤on)&&decide (on<v.nr))=false):=xH1 (by rw[←Bool.decide_and];exact decide_eq_false h)
   have HB:Hid (opValid p ⟨8,on,ar⟩=false):=xH1 (opValid_off (by show¬(0≤on∧on<(shared p 8:Int));rw[show shared p 8=v.nr from lr.out];exact h))
   clear kP kO h
   go_enter Tryz.func29,Tryz.ntmps29
   go_wp2_with fail
   refine(onFn_any v.r v.nr v.cr on _ _ zr k0).mono ?_
   rintro e w1 ⟨rfl,rfl⟩
   rw[HC.out]
   go_wp2
   go_ret
   exact⟨ret_bool (by rw[HB.out]),b0⟩
 --kind 9
 ·by_cases h:0≤on∧on<v.nr
  ·have HC:Hid ((decide (0≤on)&&decide (on<v.nr))=true):=xH1 (by rw[decide_eq_true h.1,decide_eq_true h.2];rfl)
   have HO:Hid (opValid p ⟨9,on,ar⟩=argOk p ⟨9,on,ar⟩):=xH1 (opValid_on (by show(1:Int)≤9∧(9:Int)≤10;decide) (by show 0≤on∧on<(shared p 9:Int);rw[show shared p 9=v.nr from lr.out];exact h))
   clear kP kO h
   go_enter Tryz.func29,Tryz.ntmps29
   go_wp2_with fail
   refine(onFn_any v.r v.nr v.cr on _ _ zr k0).mono ?_
   rintro e w1 ⟨rfl,rfl⟩
   rw[HC.out]
   go_wp2
   go_ret
   exact⟨ret_bool (by rw[HO.out];rfl),b0⟩
  ·have HC:Hid ((decide (0≤on)&&decide (on<v.nr))=false):=xH1 (by rw[←Bool.decide_and];exact decide_eq_false h)
   have HB:Hid (opValid p ⟨9,on,ar⟩=false):=xH1 (opValid_off (by show¬(0≤on∧on<(shared p 9:Int));rw[show shared p 9=v.nr from lr.out];exact h))
   clear kP kO h
   go_enter Tryz.func29,Tryz.ntmps29
   go_wp2_with fail
   refine(onFn_any v.r v.nr v.cr on _ _ zr k0).mono ?_
   rintro e w1 ⟨rfl,rfl⟩
   rw[HC.out]
   go_wp2
   go_ret
   exact⟨ret_bool (by rw[HB.out]),b0⟩
 --kind 10
 ·by_cases h:0≤on∧on<v.nr
  ·have HC:Hid ((decide (0≤on)&&decide (on<v.nr))=true):=xH1 (by rw[decide_eq_true h.1,decide_eq_true h.2];rfl)
   have HO:Hid (opValid p ⟨10,on,ar⟩=argOk p ⟨10,on,ar⟩):=xH1 (opValid_on (by show(1:Int)≤10∧(10:Int)≤10;decide) (by show 0≤on∧on<(shared p 10:Int);rw[show shared p 10=v.nr from lr.out];exact h))
   clear kP kO h
   go_enter Tryz.func29,Tryz.ntmps29
   go_wp2_with fail
   refine(onFn_any v.r v.nr v.cr on _ _ zr k0).mono ?_
   rintro e w1 ⟨rfl,rfl⟩
   rw[HC.out]
   go_wp2
   go_ret
   exact⟨ret_bool (by rw[HO.out];rfl),b0⟩
  ·have HC:Hid ((decide (0≤on)&&decide (on<v.nr))=false):=xH1 (by rw[←Bool.decide_and];exact decide_eq_false h)
   have HB:Hid (opValid p ⟨10,on,ar⟩=false):=xH1 (opValid_off (by show¬(0≤on∧on<(shared p 10:Int));rw[show shared p 10=v.nr from lr.out];exact h))
   clear kP kO h
   go_enter Tryz.func29,Tryz.ntmps29
   go_wp2_with fail
   refine(onFn_any v.r v.nr v.cr on _ _ zr k0).mono ?_
   rintro e w1 ⟨rfl,rfl⟩
   rw[HC.out]
   go_wp2
   go_ret
   exact⟨ret_bool (by rw[HB.out]),b0⟩
end Go.Proofs.YtjmpejaifmopnaaGreat
namespace Go.Proofs.YtjmpejaifmopnaaGreat
open Go.RowKit
theorem implProgValid_any (v:PV) (p:Pg) (w:World) (hr:RdP w v p) (hz:Small v p):
  Calls Tryz.prog 11 #[.agg #[.slice v.s v.ns v.cs,.slice v.g v.ng v.cg,.slice v.b v.nb v.cb,.slice v.r v.nr v.cr,.slice v.t v.nt v.ct]] w fun e w'=>e= .returned (.bool (progValid p))∧Below w.heap.size w w':=by
 have hs:v.ns≤maxLen∧v.ng≤maxLen∧v.nb≤maxLen∧v.nr≤maxLen:=by
  obtain⟨z1,z2,z3,z4,z5,z6⟩:=hz;unfold maxLen;omega
 have zz:Hid (v.ns≤maxLen∧v.ng≤maxLen∧v.nb≤maxLen∧v.nr≤maxLen):=xH1 hs
 have z5:v.nt≤1048576:=hz.lt
 have Z6:=xH1 hz.inn
 have ls:=xH1 hr.ls
 have lg:=xH1 hr.lg
 have lb:=xH1 hr.lb
 have lr:=xH1 hr.lr
 have lt:=xH1 hr.lt
 clear hz
 have B0:Below w.heap.size w (w.alloc (.cells #[.slice v.s v.ns v.cs,.slice v.g v.ng v.cg,.slice v.b v.nb v.cb,.slice v.r v.nr v.cr,.slice v.t v.nt v.ct] 26)):=xA1
 have k0:Blk (w.alloc (.cells #[.slice v.s v.ns v.cs,.slice v.g v.ng v.cg,.slice v.b v.nb v.cb,.slice v.r v.nr v.cr,.slice v.t v.nt v.ct] 26)) w.heap.size #[.slice v.s v.ns v.cs,.slice v.g v.ng v.cg,.slice v.b v.nb v.cb,.slice v.r v.nr v.cr,.slice v.t v.nt v.ct] 26:=Blk.new _ _ _
 rcases Bool.eq_false_or_eq_true (within p.sems 1 9) with h1|h1
 rotate_left
 ·have HB:Hid (progValid p=false):=xH1 (by unfold progValid;rw[h1];simp)
  replace h1:=xH1 h1
  go_enter Tryz.func11,Tryz.ntmps11
  go_wp2_with fail
  refine(implWithin_any v.s v.ns v.cs p.sems 1 9 _ ls.out (by have:=zz.out;omega) (hr.rs.below B0)).mono ?_
  rintro e w1 ⟨rfl,hb⟩
  rw[h1.out]
  have B1:=B0.trans (hb.mono B0.size)
  have k1:=k0.below hb
  clear hb
  have q0:w1.cell? ⟨w.heap.size,0,none⟩=some (.slice v.s v.ns v.cs):=k1.cell 0 rfl
  have q1:w1.cell? ⟨w.heap.size,1,none⟩=some (.slice v.g v.ng v.cg):=k1.cell 1 rfl
  have q2:w1.cell? ⟨w.heap.size,2,none⟩=some (.slice v.b v.nb v.cb):=k1.cell 2 rfl
  have q3:w1.cell? ⟨w.heap.size,3,none⟩=some (.slice v.r v.nr v.cr):=k1.cell 3 rfl
  have q4:w1.cell? ⟨w.heap.size,4,none⟩=some (.slice v.t v.nt v.ct):=k1.cell 4 rfl
  go_wp2
  go_ret
  exact⟨ret_bool (by rw[HB.out]),B1⟩
 replace h1:=xH1 h1
 rcases Bool.eq_false_or_eq_true (within p.groups 0 9) with h2|h2
 rotate_left
 ·have HB:Hid (progValid p=false):=xH1 (by unfold progValid;rw[h2];simp)
  replace h2:=xH1 h2
  go_enter Tryz.func11,Tryz.ntmps11
  go_wp2_with fail
  refine(implWithin_any v.s v.ns v.cs p.sems 1 9 _ ls.out (by have:=zz.out;omega) (hr.rs.below B0)).mono ?_
  rintro e w1 ⟨rfl,hb⟩
  rw[h1.out]
  have B1:=B0.trans (hb.mono B0.size)
  have k1:=k0.below hb
  clear hb
  have q0:w1.cell? ⟨w.heap.size,0,none⟩=some (.slice v.s v.ns v.cs):=k1.cell 0 rfl
  have q1:w1.cell? ⟨w.heap.size,1,none⟩=some (.slice v.g v.ng v.cg):=k1.cell 1 rfl
  have q2:w1.cell? ⟨w.heap.size,2,none⟩=some (.slice v.b v.nb v.cb):=k1.cell 2 rfl
  have q3:w1.cell? ⟨w.heap.size,3,none⟩=some (.slice v.r v.nr v.cr):=k1.cell 3 rfl
  have q4:w1.cell? ⟨w.heap.size,4,none⟩=some (.slice v.t v.nt v.ct):=k1.cell 4 rfl
  go_wp2_with fail
  refine(implWithin_any v.g v.ng v.cg p.groups 0 9 _ lg.out (by have:=zz.out;omega) (hr.rg.below B1)).mono ?_
  rintro e w2 ⟨rfl,hb⟩
  rw[h2.out]
  have B2:=B1.trans (hb.mono B1.size)
  have k2:=k1.below hb
  clear hb
  replace q0:w2.cell? ⟨w.heap.size,0,none⟩=some (.slice v.s v.ns v.cs):=k2.cell 0 rfl
  replace q1:w2.cell? ⟨w.heap.size,1,none⟩=some (.slice v.g v.ng v.cg):=k2.cell 1 rfl
  replace q2:w2.cell? ⟨w.heap.size,2,none⟩=some (.slice v.b v.nb v.cb):=k2.cell 2 rfl
  replace q3:w2.cell? ⟨w.heap.size,3,none⟩=some (.slice v.r v.nr v.cr):=k2.cell 3 rfl
  replace q4:w2.cell? ⟨w.heap.size,4,none⟩=some (.slice v.t v.nt v.ct):=k2.cell 4 rfl
  go_wp2
  go_ret
  exact⟨ret_bool (by rw[HB.out]),B2⟩
 replace h2:=xH1 h2
 rcases Bool.eq_false_or_eq_true (within p.barriers 1 6) with h3|h3
 rotate_left
 ·have HB:Hid (progValid p=false):=xH1 (by unfold progValid;rw[h3];simp)
  replace h3:=xH1 h3
  go_enter Tryz.func11,Tryz.ntmps11
  go_wp2_with fail
  refine(implWithin_any v.s v.ns v.cs p.sems 1 9 _ ls.out (by have:=zz.out;omega) (hr.rs.below B0)).mono ?_
  rintro e w1 ⟨rfl,hb⟩
  rw[h1.out]
  have B1:=B0.trans (hb.mono B0.size)
  have k1:=k0.below hb
  clear hb
  have q0:w1.cell? ⟨w.heap.size,0,none⟩=some (.slice v.s v.ns v.cs):=k1.cell 0 rfl
  have q1:w1.cell? ⟨w.heap.size,1,none⟩=some (.slice v.g v.ng v.cg):=k1.cell 1 rfl
  have q2:w1.cell? ⟨w.heap.size,2,none⟩=some (.slice v.b v.nb v.cb):=k1.cell 2 rfl
  have q3:w1.cell? ⟨w.heap.size,3,none⟩=some (.slice v.r v.nr v.cr):=k1.cell 3 rfl
  have q4:w1.cell? ⟨w.heap.size,4,none⟩=some (.slice v.t v.nt v.ct):=k1.cell 4 rfl
  go_wp2_with fail
  refine(implWithin_any v.g v.ng v.cg p.groups 0 9 _ lg.out (by have:=zz.out;omega) (hr.rg.below B1)).mono ?_
  rintro e w2 ⟨rfl,hb⟩
  rw[h2.out]
  have B2:=B1.trans (hb.mono B1.size)
  have k2:=k1.below hb
  clear hb
  replace q0:w2.cell? ⟨w.heap.size,0,none⟩=some (.slice v.s v.ns v.cs):=k2.cell 0 rfl
  replace q1:w2.cell? ⟨w.heap.size,1,none⟩=some (.slice v.g v.ng v.cg):=k2.cell 1 rfl
  replace q2:w2.cell? ⟨w.heap.size,2,none⟩=some (.slice v.b v.nb v.cb):=k2.cell 2 rfl
  replace q3:w2.cell? ⟨w.heap.size,3,none⟩=some (.slice v.r v.nr v.cr):=k2.cell 3 rfl
  replace q4:w2.cell? ⟨w.heap.size,4,none⟩=some (.slice v.t v.nt v.ct):=k2.cell 4 rfl
  go_wp2_with fail
  refine(implWithin_any v.b v.nb v.cb p.barriers 1 6 _ lb.out (by have:=zz.out;omega) (hr.rb.below B2)).mono ?_
  rintro e w3 ⟨rfl,hb⟩
  rw[h3.out]
  have B3:=B2.trans (hb.mono B2.size)
  have k3:=k2.below hb
  clear hb
  replace q0:w3.cell? ⟨w.heap.size,0,none⟩=some (.slice v.s v.ns v.cs):=k3.cell 0 rfl
  replace q1:w3.cell? ⟨w.heap.size,1,none⟩=some (.slice v.g v.ng v.cg):=k3.cell 1 rfl
  replace q2:w3.cell? ⟨w.heap.size,2,none⟩=some (.slice v.b v.nb v.cb):=k3.cell 2 rfl
  replace q3:w3.cell? ⟨w.heap.size,3,none⟩=some (.slice v.r v.nr v.cr):=k3.cell 3 rfl
  replace q4:w3.cell? ⟨w.heap.size,4,none⟩=some (.slice v.t v.nt v.ct):=k3.cell 4 rfl
  go_wp2
  go_ret
  exact⟨ret_bool (by rw[HB.out]),B3⟩
 replace h3:=xH1 h3
 rcases Bool.eq_false_or_eq_true (within p.rooms 0 4) with h4|h4
 rotate_left
 ·have HB:Hid (progValid p=false):=xH1 (by unfold progValid;rw[h4];simp)
  replace h4:=xH1 h4
  go_enter Tryz.func11,Tryz.ntmps11
  go_wp2_with fail
  refine(implWithin_any v.s v.ns v.cs p.sems 1 9 _ ls.out (by have:=zz.out;omega) (hr.rs.below B0)).mono ?_
  rintro e w1 ⟨rfl,hb⟩
  rw[h1.out]
  have B1:=B0.trans (hb.mono B0.size)
  have k1:=k0.below hb
  clear hb
  have q0:w1.cell? ⟨w.heap.size,0,none⟩=some (.slice v.s v.ns v.cs):=k1.cell 0 rfl
  have q1:w1.cell? ⟨w.heap.size,1,none⟩=some (.slice v.g v.ng v.cg):=k1.cell 1 rfl
  have q2:w1.cell? ⟨w.heap.size,2,none⟩=some (.slice v.b v.nb v.cb):=k1.cell 2 rfl
  have q3:w1.cell? ⟨w.heap.size,3,none⟩=some (.slice v.r v.nr v.cr):=k1.cell 3 rfl
  have q4:w1.cell? ⟨w.heap.size,4,none⟩=some (.slice v.t v.nt v.ct):=k1.cell 4 rfl
  go_wp2_with fail
  refine(implWithin_any v.g v.ng v.cg p.groups 0 9 _ lg.out (by have:=zz.out;omega) (hr.rg.below B1)).mono ?_
  rintro e w2 ⟨rfl,hb⟩
  rw[h2.out]
  have B2:=B1.trans (hb.mono B1.size)
  have k2:=k1.below hb
  clear hb
  replace q0:w2.cell? ⟨w.heap.size,0,none⟩=some (.slice v.s v.ns v.cs):=k2.cell 0 rfl
  replace q1:w2.cell? ⟨w.heap.size,1,none⟩=some (.slice v.g v.ng v.cg):=k2.cell 1 rfl
  replace q2:w2.cell? ⟨w.heap.size,2,none⟩=some (.slice v.b v.nb v.cb):=k2.cell 2 rfl
  replace q3:w2.cell? ⟨w.heap.size,3,none⟩=some (.slice v.r v.nr v.cr):=k2.cell 3 rfl
  replace q4:w2.cell? ⟨w.heap.size,4,none⟩=some (.slice v.t v.nt v.ct):=k2.cell 4 rfl
  go_wp2_with fail
  refine(implWithin_any v.b v.nb v.cb p.barriers 1 6 _ lb.out (by have:=zz.out;omega) (hr.rb.below B2)).mono ?_
  rintro e w3 ⟨rfl,hb⟩
  rw[h3.out]
  have B3:=B2.trans (hb.mono B2.size)
  have k3:=k2.below hb
  clear hb
  replace q0:w3.cell? ⟨w.heap.size,0,none⟩=some (.slice v.s v.ns v.cs):=k3.cell 0 rfl
  replace q1:w3.cell? ⟨w.heap.size,1,none⟩=some (.slice v.g v.ng v.cg):=k3.cell 1 rfl
  replace q2:w3.cell? ⟨w.heap.size,2,none⟩=some (.slice v.b v.nb v.cb):=k3.cell 2 rfl
  replace q3:w3.cell? ⟨w.heap.size,3,none⟩=some (.slice v.r v.nr v.cr):=k3.cell 3 rfl
  replace q4:w3.cell? ⟨w.heap.size,4,none⟩=some (.slice v.t v.nt v.ct):=k3.cell 4 rfl
  go_wp2_with fail
  refine(implWithin_any v.r v.nr v.cr p.rooms 0 4 _ lr.out (by have:=zz.out;omega) (hr.rr.below B3)).mono ?_
  rintro e w4 ⟨rfl,hb⟩
  rw[h4.out]
  have B4:=B3.trans (hb.mono B3.size)
  have k4:=k3.below hb
  clear hb
  replace q0:w4.cell? ⟨w.heap.size,0,none⟩=some (.slice v.s v.ns v.cs):=k4.cell 0 rfl
  replace q1:w4.cell? ⟨w.heap.size,1,none⟩=some (.slice v.g v.ng v.cg):=k4.cell 1 rfl
  replace q2:w4.cell? ⟨w.heap.size,2,none⟩=some (.slice v.b v.nb v.cb):=k4.cell 2 rfl
  replace q3:w4.cell? ⟨w.heap.size,3,none⟩=some (.slice v.r v.nr v.cr):=k4.cell 3 rfl
  replace q4:w4.cell? ⟨w.heap.size,4,none⟩=some (.slice v.t v.nt v.ct):=k4.cell 4 rfl
  go_wp2
  go_ret
  exact⟨ret_bool (by rw[HB.out]),B4⟩
 replace h4:=xH1 h4
 by_cases h5:v.nt<1
 ·have HB:Hid (progValid p=false):=xH1 (by
   have:=lt.out
   unfold progValid
   rw[show decide (1≤p.threads.length)=false from decide_eq_false (by omega)];simp)
  have t5:decide ((v.nt:Int)<1)=true:=by simp;omega
  go_enter Tryz.func11,Tryz.ntmps11
  go_wp2_with fail
  refine(implWithin_any v.s v.ns v.cs p.sems 1 9 _ ls.out (by have:=zz.out;omega) (hr.rs.below B0)).mono ?_
  rintro e w1 ⟨rfl,hb⟩
  rw[h1.out]
  have B1:=B0.trans (hb.mono B0.size)
  have k1:=k0.below hb
  clear hb
  have q0:w1.cell? ⟨w.heap.size,0,none⟩=some (.slice v.s v.ns v.cs):=k1.cell 0 rfl
  have q1:w1.cell? ⟨w.heap.size,1,none⟩=some (.slice v.g v.ng v.cg):=k1.cell 1 rfl
  have q2:w1.cell? ⟨w.heap.size,2,none⟩=some (.slice v.b v.nb v.cb):=k1.cell 2 rfl
  have q3:w1.cell? ⟨w.heap.size,3,none⟩=some (.slice v.r v.nr v.cr):=k1.cell 3 rfl
  have q4:w1.cell? ⟨w.heap.size,4,none⟩=some (.slice v.t v.nt v.ct):=k1.cell 4 rfl
  go_wp2_with fail
  refine(implWithin_any v.g v.ng v.cg p.groups 0 9 _ lg.out (by have:=zz.out;omega) (hr.rg.below B1)).mono ?_
  rintro e w2 ⟨rfl,hb⟩
  rw[h2.out]
  have B2:=B1.trans (hb.mono B1.size)
  have k2:=k1.below hb
  clear hb
  replace q0:w2.cell? ⟨w.heap.size,0,none⟩=some (.slice v.s v.ns v.cs):=k2.cell 0 rfl
  replace q1:w2.cell? ⟨w.heap.size,1,none⟩=some (.slice v.g v.ng v.cg):=k2.cell 1 rfl
  replace q2:w2.cell? ⟨w.heap.size,2,none⟩=some (.slice v.b v.nb v.cb):=k2.cell 2 rfl
  replace q3:w2.cell? ⟨w.heap.size,3,none⟩=some (.slice v.r v.nr v.cr):=k2.cell 3 rfl
  replace q4:w2.cell? ⟨w.heap.size,4,none⟩=some (.slice v.t v.nt v.ct):=k2.cell 4 rfl
  go_wp2_with fail
  refine(implWithin_any v.b v.nb v.cb p.barriers 1 6 _ lb.out (by have:=zz.out;omega) (hr.rb.below B2)).mono ?_
  rintro e w3 ⟨rfl,hb⟩
  rw[h3.out]
  have B3:=B2.trans (hb.mono B2.size)
  have k3:=k2.below hb
  clear hb
  replace q0:w3.cell? ⟨w.heap.size,0,none⟩=some (.slice v.s v.ns v.cs):=k3.cell 0 rfl
  replace q1:w3.cell? ⟨w.heap.size,1,none⟩=some (.slice v.g v.ng v.cg):=k3.cell 1 rfl
  replace q2:w3.cell? ⟨w.heap.size,2,none⟩=some (.slice v.b v.nb v.cb):=k3.cell 2 rfl
  replace q3:w3.cell? ⟨w.heap.size,3,none⟩=some (.slice v.r v.nr v.cr):=k3.cell 3 rfl
  replace q4:w3.cell? ⟨w.heap.size,4,none⟩=some (.slice v.t v.nt v.ct):=k3.cell 4 rfl
  go_wp2_with fail
  refine(implWithin_any v.r v.nr v.cr p.rooms 0 4 _ lr.out (by have:=zz.out;omega) (hr.rr.below B3)).mono ?_
  rintro e w4 ⟨rfl,hb⟩
  rw[h4.out]
  have B4:=B3.trans (hb.mono B3.size)
  have k4:=k3.below hb
  clear hb
  replace q0:w4.cell? ⟨w.heap.size,0,none⟩=some (.slice v.s v.ns v.cs):=k4.cell 0 rfl
  replace q1:w4.cell? ⟨w.heap.size,1,none⟩=some (.slice v.g v.ng v.cg):=k4.cell 1 rfl
  replace q2:w4.cell? ⟨w.heap.size,2,none⟩=some (.slice v.b v.nb v.cb):=k4.cell 2 rfl
  replace q3:w4.cell? ⟨w.heap.size,3,none⟩=some (.slice v.r v.nr v.cr):=k4.cell 3 rfl
  replace q4:w4.cell? ⟨w.heap.size,4,none⟩=some (.slice v.t v.nt v.ct):=k4.cell 4 rfl
  go_wp2
  go_ret
  exact⟨ret_bool (by rw[HB.out]),B4⟩
 have t5:decide ((v.nt:Int)<1)=false:=by simp;omega
 by_cases h6:4<v.nt
 ·have HB:Hid (progValid p=false):=xH1 (by
   have:=lt.out
   unfold progValid
   rw[show decide (p.threads.length≤4)=false from decide_eq_false (by omega)];simp)
  have t6:decide ((4:Int)<v.nt)=true:=by simp;omega
  go_enter Tryz.func11,Tryz.ntmps11
  go_wp2_with fail
  refine(implWithin_any v.s v.ns v.cs p.sems 1 9 _ ls.out (by have:=zz.out;omega) (hr.rs.below B0)).mono ?_
  rintro e w1 ⟨rfl,hb⟩
  rw[h1.out]
  have B1:=B0.trans (hb.mono B0.size)
  have k1:=k0.below hb
  clear hb
  have q0:w1.cell? ⟨w.heap.size,0,none⟩=some (.slice v.s v.ns v.cs):=k1.cell 0 rfl
  have q1:w1.cell? ⟨w.heap.size,1,none⟩=some (.slice v.g v.ng v.cg):=k1.cell 1 rfl
  have q2:w1.cell? ⟨w.heap.size,2,none⟩=some (.slice v.b v.nb v.cb):=k1.cell 2 rfl
  have q3:w1.cell? ⟨w.heap.size,3,none⟩=some (.slice v.r v.nr v.cr):=k1.cell 3 rfl
  have q4:w1.cell? ⟨w.heap.size,4,none⟩=some (.slice v.t v.nt v.ct):=k1.cell 4 rfl
  go_wp2_with fail
  refine(implWithin_any v.g v.ng v.cg p.groups 0 9 _ lg.out (by have:=zz.out;omega) (hr.rg.below B1)).mono ?_
  rintro e w2 ⟨rfl,hb⟩
  rw[h2.out]
  have B2:=B1.trans (hb.mono B1.size)
  have k2:=k1.below hb
  clear hb
  replace q0:w2.cell? ⟨w.heap.size,0,none⟩=some (.slice v.s v.ns v.cs):=k2.cell 0 rfl
  replace q1:w2.cell? ⟨w.heap.size,1,none⟩=some (.slice v.g v.ng v.cg):=k2.cell 1 rfl
  replace q2:w2.cell? ⟨w.heap.size,2,none⟩=some (.slice v.b v.nb v.cb):=k2.cell 2 rfl
  replace q3:w2.cell? ⟨w.heap.size,3,none⟩=some (.slice v.r v.nr v.cr):=k2.cell 3 rfl
  replace q4:w2.cell? ⟨w.heap.size,4,none⟩=some (.slice v.t v.nt v.ct):=k2.cell 4 rfl
  go_wp2_with fail
  refine(implWithin_any v.b v.nb v.cb p.barriers 1 6 _ lb.out (by have:=zz.out;omega) (hr.rb.below B2)).mono ?_
  rintro e w3 ⟨rfl,hb⟩
  rw[h3.out]
  have B3:=B2.trans (hb.mono B2.size)
  have k3:=k2.below hb
  clear hb
  replace q0:w3.cell? ⟨w.heap.size,0,none⟩=some (.slice v.s v.ns v.cs):=k3.cell 0 rfl
  replace q1:w3.cell? ⟨w.heap.size,1,none⟩=some (.slice v.g v.ng v.cg):=k3.cell 1 rfl
  replace q2:w3.cell? ⟨w.heap.size,2,none⟩=some (.slice v.b v.nb v.cb):=k3.cell 2 rfl
  replace q3:w3.cell? ⟨w.heap.size,3,none⟩=some (.slice v.r v.nr v.cr):=k3.cell 3 rfl
  replace q4:w3.cell? ⟨w.heap.size,4,none⟩=some (.slice v.t v.nt v.ct):=k3.cell 4 rfl
  go_wp2_with fail
  refine(implWithin_any v.r v.nr v.cr p.rooms 0 4 _ lr.out (by have:=zz.out;omega) (hr.rr.below B3)).mono ?_
  rintro e w4 ⟨rfl,hb⟩
  rw[h4.out]
  have B4:=B3.trans (hb.mono B3.size)
  have k4:=k3.below hb
  clear hb
  replace q0:w4.cell? ⟨w.heap.size,0,none⟩=some (.slice v.s v.ns v.cs):=k4.cell 0 rfl
  replace q1:w4.cell? ⟨w.heap.size,1,none⟩=some (.slice v.g v.ng v.cg):=k4.cell 1 rfl
  replace q2:w4.cell? ⟨w.heap.size,2,none⟩=some (.slice v.b v.nb v.cb):=k4.cell 2 rfl
  replace q3:w4.cell? ⟨w.heap.size,3,none⟩=some (.slice v.r v.nr v.cr):=k4.cell 3 rfl
  replace q4:w4.cell? ⟨w.heap.size,4,none⟩=some (.slice v.t v.nt v.ct):=k4.cell 4 rfl
  go_wp2
  go_ret
  exact⟨ret_bool (by rw[HB.out]),B4⟩
 have t6:decide ((4:Int)<v.nt)=false:=by simp;omega
 obtain⟨vs,hT⟩:=hr.rt
 go_enter Tryz.func11,Tryz.ntmps11
 go_wp2_with fail
 refine(implWithin_any v.s v.ns v.cs p.sems 1 9 _ ls.out (by have:=zz.out;omega) (hr.rs.below B0)).mono ?_
 rintro e w1 ⟨rfl,hb⟩
 rw[h1.out]
 have B1:=B0.trans (hb.mono B0.size)
 have k1:=k0.below hb
 clear hb
 have q0:w1.cell? ⟨w.heap.size,0,none⟩=some (.slice v.s v.ns v.cs):=k1.cell 0 rfl
 have q1:w1.cell? ⟨w.heap.size,1,none⟩=some (.slice v.g v.ng v.cg):=k1.cell 1 rfl
 have q2:w1.cell? ⟨w.heap.size,2,none⟩=some (.slice v.b v.nb v.cb):=k1.cell 2 rfl
 have q3:w1.cell? ⟨w.heap.size,3,none⟩=some (.slice v.r v.nr v.cr):=k1.cell 3 rfl
 have q4:w1.cell? ⟨w.heap.size,4,none⟩=some (.slice v.t v.nt v.ct):=k1.cell 4 rfl
 go_wp2_with fail
 refine(implWithin_any v.g v.ng v.cg p.groups 0 9 _ lg.out (by have:=zz.out;omega) (hr.rg.below B1)).mono ?_
 rintro e w2 ⟨rfl,hb⟩
 rw[h2.out]
 have B2:=B1.trans (hb.mono B1.size)
 have k2:=k1.below hb
 clear hb
 replace q0:w2.cell? ⟨w.heap.size,0,none⟩=some (.slice v.s v.ns v.cs):=k2.cell 0 rfl
 replace q1:w2.cell? ⟨w.heap.size,1,none⟩=some (.slice v.g v.ng v.cg):=k2.cell 1 rfl
 replace q2:w2.cell? ⟨w.heap.size,2,none⟩=some (.slice v.b v.nb v.cb):=k2.cell 2 rfl
 replace q3:w2.cell? ⟨w.heap.size,3,none⟩=some (.slice v.r v.nr v.cr):=k2.cell 3 rfl
 replace q4:w2.cell? ⟨w.heap.size,4,none⟩=some (.slice v.t v.nt v.ct):=k2.cell 4 rfl
 go_wp2_with fail
 refine(implWithin_any v.b v.nb v.cb p.barriers 1 6 _ lb.out (by have:=zz.out;omega) (hr.rb.below B2)).mono ?_
 rintro e w3 ⟨rfl,hb⟩
 rw[h3.out]
 have B3:=B2.trans (hb.mono B2.size)
 have k3:=k2.below hb
 clear hb
 replace q0:w3.cell? ⟨w.heap.size,0,none⟩=some (.slice v.s v.ns v.cs):=k3.cell 0 rfl
 replace q1:w3.cell? ⟨w.heap.size,1,none⟩=some (.slice v.g v.ng v.cg):=k3.cell 1 rfl
 replace q2:w3.cell? ⟨w.heap.size,2,none⟩=some (.slice v.b v.nb v.cb):=k3.cell 2 rfl
 replace q3:w3.cell? ⟨w.heap.size,3,none⟩=some (.slice v.r v.nr v.cr):=k3.cell 3 rfl
 replace q4:w3.cell? ⟨w.heap.size,4,none⟩=some (.slice v.t v.nt v.ct):=k3.cell 4 rfl
 go_wp2_with fail
 refine(implWithin_any v.r v.nr v.cr p.rooms 0 4 _ lr.out (by have:=zz.out;omega) (hr.rr.below B3)).mono ?_
 rintro e w4 ⟨rfl,hb⟩
 rw[h4.out]
 have B4:=B3.trans (hb.mono B3.size)
 have k4:=k3.below hb
 clear hb
 replace q0:w4.cell? ⟨w.heap.size,0,none⟩=some (.slice v.s v.ns v.cs):=k4.cell 0 rfl
 replace q1:w4.cell? ⟨w.heap.size,1,none⟩=some (.slice v.g v.ng v.cg):=k4.cell 1 rfl
 replace q2:w4.cell? ⟨w.heap.size,2,none⟩=some (.slice v.b v.nb v.cb):=k4.cell 2 rfl
 replace q3:w4.cell? ⟨w.heap.size,3,none⟩=some (.slice v.r v.nr v.cr):=k4.cell 3 rfl
 replace q4:w4.cell? ⟨w.heap.size,4,none⟩=some (.slice v.t v.nt v.ct):=k4.cell 4 rfl
 go_wp2
 clear k0 k1 k2 k3 B0 B1 B2 B3
 obtain⟨b1,o1,ea,g1'⟩:=(hT.below B4).thread (by have:=lt.out;omega)
 rw[ea] at q4
 have HRP:Hid (∀w',RdP w' v p→RdP w' ⟨v.s,v.ns,v.cs,v.g,v.ng,v.cg,v.b,v.nb,v.cb,v.r,v.nr,v.cr,some ⟨b1,o1,none⟩,v.nt,v.ct⟩ p):=xH1 (by rw[←ea];exact fun _ h=>h)
 have G1:=xH1 g1'
 rw[ea]
 clear g1' ea hT w1 w2 w3
 go_loopw [44] (fun i wr=>∃i':Nat,i'≤v.nt∧i= .int .i64 i'∧Hid (∀j,j<i'→(p.threads.getD j []).length≤8∧∀k,k<(p.threads.getD j []).length→opValid p ((p.threads.getD j []).getD k noOp)=true)∧Below w4.heap.size w4 wr) (fun i _=>v.nt-(intOf i).toNat)
 case atStart=>exact⟨0,by omega,rfl,xH1 (by omega),Below.refl _ _⟩
 case round=>
  obtain⟨i,hi,rfl,hall,hb0⟩:=hrel
  have c0:=keepc hb0 q0
  have c1:=keepc hb0 q1
  have c2:=keepc hb0 q2
  have c3:=keepc hb0 q3
  have c4:=keepc hb0 q4
  have B0:Below w.heap.size w wr:=B4.trans (hb0.mono B4.size)
  by_cases hlt:i<v.nt
  ·obtain⟨wo,hwo⟩:∃wo:World,wo=wr:=⟨_,rfl⟩
   rw[←hwo] at hb0 c0 c1 c2 c3 c4 B0⊢
   clear hwo wr
   obtain⟨a2,x2,g1,r2⟩:=G1.out i (by have:=lt.out;omega)
   obtain⟨m,hm⟩:∃m,m=(p.threads.getD i []).length:=⟨_,rfl⟩
   rw[←hm] at g1
   replace g1:=keepc hb0 g1
   replace r2:=r2.below hb0
   have hmm:=Z6.out i
   rw[←hm] at hmm
   have HM:=xH1 hm
   clear hm
   by_cases hm8:8<m
   ·have e9:decide ((8:Int)<m)=true:=by simp;omega
    have HB:Hid (progValid p=false):=xH1 (thread_long (i:=i) (by have:=lt.out;omega) (by have:=HM.out;omega))
    go_wp2
    go_ret
    exact⟨ret_bool (by rw[HB.out]),B0⟩
   have e9:decide ((8:Int)<m)=false:=by simp;omega
   go_wp2
   go_loopw [53] (fun j wk=>∃k:Nat,k≤m∧j= .int .i64 k∧Hid (∀j,j<k→opValid p ((p.threads.getD i []).getD j noOp)=true)∧Below wo.heap.size wo wk) (fun j _=>m-(intOf j).toNat)
   case atStart=>exact⟨0,by omega,rfl,xH1 (by omega),Below.refl _ _⟩
   case round=>
    obtain⟨k,hk,rfl,hok,hbk⟩:=hrel
    have d0:=keepc hbk c0
    have d1:=keepc hbk c1
    have d2:=keepc hbk c2
    have d3:=keepc hbk c3
    have d4:=keepc hbk c4
    have B1:Below w.heap.size w wr:=B0.trans (hbk.mono B0.size)
    have BW:Below w4.heap.size w4 wr:=hb0.trans (hbk.mono hb0.size)
    by_cases hkl:k<m
    ·obtain⟨b2,o2,ea2,g2'⟩:=r2.op (by have:=HM.out;omega)
     obtain⟨g2a,g2b,g2c⟩:=g2' k (by have:=HM.out;omega)
     obtain⟨o,ho⟩:∃o,o=(p.threads.getD i []).getD k noOp:=⟨_,rfl⟩
     rw[←ho] at g2a g2b g2c
     replace g2a:=keepc hbk g2a
     replace g2b:=keepc hbk g2b
     replace g2c:=keepc hbk g2c
     have HO:=xH1 ho
     subst ea2
     clear g2' ho
     have bA:Below wr.heap.size wr (wr.alloc (.cells #[.int .i64 o.kind,.int .i64 o.on,.int .i64 o.arg] 58)):=xA1
     have e0:=keepc bA d0
     have e1:=keepc bA d1
     have e2:=keepc bA d2
     have e3:=keepc bA d3
     have e4:=keepc bA d4
     have HR2:Hid (RdP (wr.alloc (.cells #[.int .i64 o.kind,.int .i64 o.on,.int .i64 o.arg] 58)) ⟨v.s,v.ns,v.cs,v.g,v.ng,v.cg,v.b,v.nb,v.cb,v.r,v.nr,v.cr,some ⟨b1,o1,none⟩,v.nt,v.ct⟩ p):=xH1 (HRP.out _ ((hr.below B1).below bA))
     rcases Bool.eq_false_or_eq_true (opValid p o) with hv|hv
     ·have HV:=xH1 hv
      clear hv
      go_wp2_with fail
      refine(implOpValid_any ⟨v.s,v.ns,v.cs,v.g,v.ng,v.cg,v.b,v.nb,v.cb,v.r,v.nr,v.cr,some ⟨b1,o1,none⟩,v.nt,v.ct⟩ p o _ HR2.out zz.out).mono ?_
      rintro e w2 ⟨rfl,hb3⟩
      rw[HV.out]
      have hbw:Below wr.heap.size wr w2:=bA.trans (hb3.mono bA.size)
      clear bA hb3
      go_wp2
      go_roundw
      case rel=>exact⟨k+1,by omega,by go_num,xH1 (fun j hj=>by
       rcases Nat.lt_or_ge j k with h|h
       ·exact hok.out j h
       ·have:j=k:=by omega
        subst this
        rw[←HO.out];exact HV.out),hbk.trans (hbw.mono hbk.size)⟩
      case measure=>simp[intOf];omega
     ·have HV:=xH1 hv
      clear hv
      have HB:Hid (progValid p=false):=xH1 (thread_bad (i:=i) (k:=k) (by have:=lt.out;omega) (by have:=HM.out;omega) (by rw[←HO.out];exact HV.out))
      go_wp2_with fail
      refine(implOpValid_any ⟨v.s,v.ns,v.cs,v.g,v.ng,v.cg,v.b,v.nb,v.cb,v.r,v.nr,v.cr,some ⟨b1,o1,none⟩,v.nt,v.ct⟩ p o _ HR2.out zz.out).mono ?_
      rintro e w2 ⟨rfl,hb3⟩
      rw[HV.out]
      have hbw:Below wr.heap.size wr w2:=bA.trans (hb3.mono bA.size)
      clear bA hb3
      go_wp2
      go_ret
      exact⟨ret_bool (by rw[HB.out]),B1.trans (hbw.mono B1.size)⟩
    ·have hkm:k=m:=by omega
     subst hkm
     go_wp2
     go_roundw
     case rel=>exact⟨i+1,by omega,by go_num,xH1 (fun j hj=>by
      rcases Nat.lt_or_ge j i with h|h
      ·exact hall.out j h
      ·have:j=i:=by omega
       subst this
       exact⟨by rw[←HM.out];omega,by rw[←HM.out];exact hok.out⟩),BW⟩
     case measure=>simp[intOf];omega
  ·have hkm:i=v.nt:=by omega
   subst hkm
   have HB:Hid (progValid p=true):=xH1 (threads_good h1.out h2.out h3.out h4.out (by have:=lt.out;omega) (by have:=lt.out;omega) (by rw[lt.out];exact hall.out))
   go_wp2
   go_ret
   exact⟨ret_bool (by rw[HB.out]),B0⟩
theorem valid_op {p:Pg} (h:progValid p=true) {i k:Nat} (hi:i<p.threads.length) (hk:k<(p.threads.getD i []).length):opValid p ((p.threads.getD i []).getD k noOp)=true:=by
 cases hc:opValid p ((p.threads.getD i []).getD k noOp) with
 |true=>rfl
 |false=>rw[thread_bad hi hk hc] at h;cases h
theorem valid_threads {p:Pg} (h:progValid p=true):1≤p.threads.length∧p.threads.length≤4:=by
 unfold progValid at h
 simp only[Bool.and_eq_true,decide_eq_true_eq] at h
 omega
theorem opValid_facts {p:Pg} {o:OpD} (h:opValid p o=true):(1≤o.kind∧o.kind≤10)∧(0≤o.on∧o.on<shared p o.kind)∧argOk p o=true:=by
 unfold opValid at h
 simp only[Bool.and_eq_true,decide_eq_true_eq] at h
 exact⟨⟨h.1.1.1.1,h.1.1.1.2⟩,⟨h.1.1.2,h.1.2⟩,h.2⟩

theorem valid_len {p:Pg} (h:progValid p=true) {i:Nat} (hi:i<p.threads.length):(p.threads.getD i []).length≤8:=by
 rcases Nat.lt_or_ge 8 (p.threads.getD i []).length with hc|hc
 ·rw[thread_long hi hc] at h;cases h
 ·exact hc
theorem implCloneInts_any (a:Option Addr) (n c:Nat) (xs:List Int) (w:World) (hl:xs.length=n) (hn:n≤1099511627776) (hr:Rd w a (ints xs)):
  Calls Tryz.prog 42 #[.slice a n c] w fun e w'=>∃a' c',e= .returned (.slice a' n c')∧w'.ownsRow w.heap.size 3 1 (.slice a' n c') n (ints xs)∧Below w.heap.size w w':=by
 have H1:Hid ((ints xs).length=n*1):=xH1 (by simp[hl])
 clear hl
 go_enter Tryz.func42,Tryz.ntmps42
 go_wp2_with (at_builtin;refine wpList_append_rd rfl _ _ 23 rfl Tryz.underlying23 info_int rfl (by decide) rfl (owns_none _ w.heap.size _ _) rfl H1.out hr (ints_one xs) (by omega) (by decide) xL1 ?_;intro a1 c1 w1 hown1 hgr1)
 go_wp2
 go_ret
 exact⟨a1,c1,by simp,by simpa using hown1,below_of_grown hgr1 xL1 (by simp[rowOf])⟩
end Go.Proofs.YtjmpejaifmopnaaGreat
