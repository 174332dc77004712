/- Part of a proof: IClone. -/
import Derived.Test.YtjmpejaifmopnaaGreatQPChan
import Derived.Test.YtjmpejaifmopnaaGreatQSb
import Derived.Test.YtjmpejaifmopnaaGreatQElem
set_option maxRecDepth 100000
set_option maxHeartbeats 16000000
namespace Go.Proofs.YtjmpejaifmopnaaGreat
open Go.RowKit
theorem implState_clone (v:StV) (L:StL) (s:StD) (w:World) (hr:StR w v L s) (hz:SmS s):
  Calls Tryz.prog 41 #[.agg #[.slice v.pl.a v.pl.n v.pl.c,.slice v.st.a v.st.n v.st.c,.slice v.se.a v.se.n v.se.c,.slice v.on.a v.on.n v.on.c,.slice v.gr.a v.gr.n v.gr.c,.slice v.ba.a v.ba.n v.ba.c,.slice v.ch.a v.ch.n v.ch.c,.slice v.sa.a v.sa.n v.sa.c,.int .i64 v.fl]] w fun e w'=>∃(v':StV) (L':StL),e= .returned v'.val∧StO [] w.heap.size w' v' L' s∧NewB w.heap.size L'∧Below w.heap.size w w':=by
 have npl:v.pl.n≤1048576:=by rw[hr.pl.len];exact hz.pl.2
 have Lpl:=xH1 hr.pl.len
 have nst:v.st.n≤1048576:=by rw[hr.st.len];exact hz.st.2
 have Lst:=xH1 hr.st.len
 have nse:v.se.n≤1048576:=by rw[hr.se.len];exact hz.se
 have Lse:=xH1 hr.se.len
 have non:v.on.n≤1048576:=by rw[hr.on.len];exact hz.on
 have Lon:=xH1 hr.on.len
 have ngr:v.gr.n≤1048576:=by rw[hr.gr.len];exact hz.gr
 have Lgr:=xH1 hr.gr.len
 have nba:v.ba.n≤1048576:=by rw[hr.ba.len];exact hz.ba
 have Lba:=xH1 hr.ba.len
 have nch:v.ch.n≤1048576:=by rw[hr.ch.len];exact hz.ch
 have Lch:=xH1 hr.ch.len
 have nsa:v.sa.n≤1048576:=by rw[hr.sa.len];exact hz.sa
 have Lsa:=xH1 hr.sa.len
 have HZ:=xH1 hz
 have HS:=xH1 hr
 have F:=((Fr.start w).alloc (svC v) 38).alloc zC 38
 simp only[World.size_alloc] at F
 clear hz hr
 go_enter Tryz.func41,Tryz.ntmps41
 go_wp2_with fail
 obtain⟨u1,hu,F0⟩:=F.named
 rw[←hu]
 clear hu F
 have F:=F0
 clear F0
 refine wp_region_fresh 13 (by kernel_rfl) (by kernel_rfl) [isV (.pointer (some ⟨w.heap.size,0,none⟩)),isV (.slice v.pl.a v.pl.n v.pl.c),fun dz uz wz=>∃(az:Option Addr) (cz:Nat),uz= .slice az v.pl.n cz∧wz.ownsRow u1.heap.size 3 1 (.slice az v.pl.n cz) v.pl.n (ints s.places),isV (.pointer (some ⟨w.heap.size,1,none⟩)),isV (.slice v.st.a v.st.n v.st.c),fun dz uz wz=>∃(az:Option Addr) (cz:Nat),uz= .slice az v.st.n cz∧wz.ownsRow u1.heap.size 3 1 (.slice az v.st.n cz) v.st.n (ints s.status),isV (.pointer (some ⟨w.heap.size,7,none⟩)),isV (.slice v.sa.a v.sa.n v.sa.c),fun dz uz wz=>∃(az:Option Addr) (cz:Nat),uz= .slice az v.sa.n cz∧wz.ownsRow u1.heap.size 3 1 (.slice az v.sa.n cz) v.sa.n (ints s.said),isV (.pointer (some ⟨w.heap.size,8,none⟩)),isV (.int .i64 v.fl),fun dz uz wz=>uz=(.agg #[(dz.getD 0 undef),(dz.getD 1 undef),.slice none 0 0,.slice none 0 0,.slice none 0 0,.slice none 0 0,.slice none 0 0,(dz.getD 2 undef),(dz.getD 3 undef)]:Value),fun dz uz wz=>∃gz:Nat,uz= .pointer (some ⟨gz,0,none⟩)∧Blk wz gz zC 38∧u1.heap.size≤gz] (fun i=>match i with|2=>Value.ownBlock|5=>Value.ownBlock|8=>Value.ownBlock|12=>ptBk|_=>fun _=>none) (fun w'=>Below u1.heap.size u1 w') xB1.drew (stab_of ⟨pS,pS,fun _ _ _ _ hb ⟨a,c,e,h⟩=>⟨a,c,e,owns_below h hb⟩,pS,pS,fun _ _ _ _ hb ⟨a,c,e,h⟩=>⟨a,c,e,owns_below h hb⟩,pS,pS,fun _ _ _ _ hb ⟨a,c,e,h⟩=>⟨a,c,e,owns_below h hb⟩,pS,pS,fun _ _ _ _ _ h=>h,stZ,trivial⟩) ?_ ?_
 ·simp only[List.take_succ_cons,List.take_zero]
  refine⟨?_,?_,?_,?_,?_,?_,?_,?_,?_,?_,?_,?_,?_,trivial⟩
  all_goals (intro ρ w1 hG hfr hd;obtain⟨fc,ff⟩:=fcff hfr;have f1:ρ (.tmp 1)= .pointer (some ⟨w.heap.size,0,none⟩):=hfr _ rfl;have F1:=F.call hG;have cs:=F1.c9 1 rfl;clear F1)
  ·exact gvF hG (by go_simp) rfl xN1
  ·obtain⟨d0,-⟩:=hd
   have d0:ρ (.tmp 14)=_:=d0
   exact gvF hG (by go_simp) rfl xN1
  ·obtain⟨d0,-⟩:=hd
   have d0:ρ (.tmp 15)=_:=d0
   refine gives_call (by go_simp;exact⟨⟨rfl,rfl⟩,rfl⟩) ?_
   refine(implCloneInts_any v.pl.a v.pl.n v.pl.c s.places _ Lpl.out.symm (by omega) ((F.rd HS.out.pl.rd).below hG)).mono ?_
   rintro e w2 ⟨a1,c1,rfl,ho,hb⟩
   exact⟨_,rfl,hb,⟨a1,c1,rfl,owns_mono ho hG.size⟩,ho.lt,hG.trans (hb.mono hG.size)⟩
  ·exact gvF hG (by go_simp) rfl xN1
  ·obtain⟨d0,-⟩:=hd
   have d0:ρ (.tmp 17)=_:=d0
   exact gvF hG (by go_simp) rfl xN1
  ·obtain⟨d0,d1,-⟩:=hd
   have d0:ρ (.tmp 18)=_:=d0
   have d1:∃(az:Option Addr) (cz:Nat),(ρ (.tmp 16))= .slice az v.pl.n cz∧w1.ownsRow u1.heap.size 3 1 (.slice az v.pl.n cz) v.pl.n (ints s.places):=d1
   refine gives_call (by go_simp;exact⟨⟨rfl,rfl⟩,rfl⟩) ?_
   refine(implCloneInts_any v.st.a v.st.n v.st.c s.status _ Lst.out.symm (by omega) ((F.rd HS.out.st.rd).below hG)).mono ?_
   rintro e w2 ⟨a1,c1,rfl,ho,hb⟩
   exact⟨_,rfl,hb,⟨a1,c1,rfl,owns_mono ho hG.size⟩,ho.lt,hG.trans (hb.mono hG.size)⟩
  ·exact gvF hG (by go_simp) rfl xN1
  ·obtain⟨d0,-⟩:=hd
   have d0:ρ (.tmp 20)=_:=d0
   exact gvF hG (by go_simp) rfl xN1
  ·obtain⟨d0,d1,-⟩:=hd
   have d0:ρ (.tmp 21)=_:=d0
   have d1:∃(az:Option Addr) (cz:Nat),(ρ (.tmp 19))= .slice az v.st.n cz∧w1.ownsRow u1.heap.size 3 1 (.slice az v.st.n cz) v.st.n (ints s.status):=d1
   refine gives_call (by go_simp;exact⟨⟨rfl,rfl⟩,rfl⟩) ?_
   refine(implCloneInts_any v.sa.a v.sa.n v.sa.c s.said _ Lsa.out.symm (by omega) ((F.rd HS.out.sa.rd).below hG)).mono ?_
   rintro e w2 ⟨a1,c1,rfl,ho,hb⟩
   exact⟨_,rfl,hb,⟨a1,c1,rfl,owns_mono ho hG.size⟩,ho.lt,hG.trans (hb.mono hG.size)⟩
  ·exact gvF hG (by go_simp) rfl xN1
  ·obtain⟨d0,-⟩:=hd
   have d0:ρ (.tmp 23)=_:=d0
   exact gvF hG (by go_simp) rfl xN1
  ·obtain⟨d0,d1,d2,d3,-⟩:=hd
   have d0:∃(az:Option Addr) (cz:Nat),(ρ (.tmp 16))= .slice az v.pl.n cz∧w1.ownsRow u1.heap.size 3 1 (.slice az v.pl.n cz) v.pl.n (ints s.places):=d0
   have d1:∃(az:Option Addr) (cz:Nat),(ρ (.tmp 19))= .slice az v.st.n cz∧w1.ownsRow u1.heap.size 3 1 (.slice az v.st.n cz) v.st.n (ints s.status):=d1
   have d2:∃(az:Option Addr) (cz:Nat),(ρ (.tmp 22))= .slice az v.sa.n cz∧w1.ownsRow u1.heap.size 3 1 (.slice az v.sa.n cz) v.sa.n (ints s.said):=d2
   have d3:ρ (.tmp 24)=_:=d3
   obtain⟨az0,cz0,d0,-⟩:=d0
   obtain⟨az1,cz1,d1,-⟩:=d1
   obtain⟨az2,cz2,d2,-⟩:=d2
   refine gives_val (u:= .agg #[.slice az0 v.pl.n cz0,.slice az1 v.st.n cz1,.slice none 0 0,.slice none 0 0,.slice none 0 0,.slice none 0 0,.slice none 0 0,.slice az2 v.sa.n cz2,.int .i64 v.fl]) (w':=w1) (by go_simp) ⟨Below.refl _ _,?_,xN1,hG⟩
   show Value.agg #[.slice az0 v.pl.n cz0,.slice az1 v.st.n cz1,.slice none 0 0,.slice none 0 0,.slice none 0 0,.slice none 0 0,.slice none 0 0,.slice az2 v.sa.n cz2,.int .i64 v.fl]=(.agg #[(ρ (.tmp 16)),(ρ (.tmp 19)),.slice none 0 0,.slice none 0 0,.slice none 0 0,.slice none 0 0,.slice none 0 0,(ρ (.tmp 22)),(ρ (.tmp 24))]:Value)
   rw[d0,d1,d2,d3]
  ·refine gives_val (u:= .pointer (some ⟨w1.heap.size,0,none⟩)) (w':=w1.alloc (.cells zC 38)) (by go_simp) ⟨xA1,⟨_,rfl,Blk.new _ _ _,hG.size⟩,ptBk_new _ _,hG.alloc hG.size _⟩
 intro vs w2 hG hlen hall hap hbd
 obtain⟨xv0,xv1,xv2,xv3,xv4,xv5,xv6,xv7,xv8,xv9,xv10,xv11,xv12,rfl⟩:=len13 hlen
 clear hlen
 simp only[List.take_succ_cons,List.take_zero,List.drop_succ_cons,List.drop_zero] at hall⊢
 obtain⟨hv0,hv1,hv2,hv3,hv4,hv5,hv6,hv7,hv8,hv9,hv10,hv11,hv12,-⟩:=hall
 replace hv2:∃(az:Option Addr) (cz:Nat),xv2= .slice az v.pl.n cz∧w2.ownsRow u1.heap.size 3 1 (.slice az v.pl.n cz) v.pl.n (ints s.places):=hv2
 replace hv5:∃(az:Option Addr) (cz:Nat),xv5= .slice az v.st.n cz∧w2.ownsRow u1.heap.size 3 1 (.slice az v.st.n cz) v.st.n (ints s.status):=hv5
 replace hv8:∃(az:Option Addr) (cz:Nat),xv8= .slice az v.sa.n cz∧w2.ownsRow u1.heap.size 3 1 (.slice az v.sa.n cz) v.sa.n (ints s.said):=hv8
 replace hv11:xv11=(.agg #[xv2,xv5,.slice none 0 0,.slice none 0 0,.slice none 0 0,.slice none 0 0,.slice none 0 0,xv8,xv10]:Value):=hv11
 replace hv12:∃gz:Nat,xv12= .pointer (some ⟨gz,0,none⟩)∧Blk w2 gz zC 38∧u1.heap.size≤gz:=hv12
 obtain rfl:xv0=_:=hv0
 obtain rfl:xv1=_:=hv1
 obtain rfl:xv3=_:=hv3
 obtain rfl:xv4=_:=hv4
 obtain rfl:xv6=_:=hv6
 obtain rfl:xv7=_:=hv7
 obtain rfl:xv9=_:=hv9
 obtain rfl:xv10=_:=hv10
 have pv2_5:∀k,(Value.ownBlock) xv2=some k→(Value.ownBlock) xv5≠some k:=hap 2 5 (by simp) (by simp) (by decide)
 have pv2_8:∀k,(Value.ownBlock) xv2=some k→(Value.ownBlock) xv8≠some k:=hap 2 8 (by simp) (by simp) (by decide)
 have pv5_8:∀k,(Value.ownBlock) xv5=some k→(Value.ownBlock) xv8≠some k:=hap 5 8 (by simp) (by simp) (by decide)
 clear hap hbd
 simp only[putAll,Act.put,List.setIfInBounds_toArray,List.set_cons_succ,List.set_cons_zero]
 obtain⟨a1,c1,rfl,o1⟩:=hv2
 obtain⟨a2,c2,rfl,o2⟩:=hv5
 obtain⟨a8,c8,rfl,o8⟩:=hv8
 obtain⟨G,rfl,kG,hG0⟩:=hv12
 simp only[ownBlock_slice] at pv2_5 pv2_8 pv5_8
 have F2:=F.more hG (i:= .blk G zC 38) ⟨hG0,kG⟩
 have hsz:=F.bel.size
 have h0:Sf w w2 [.blk G zC 38,.blk (w.heap.size+1) zC 38,.blk w.heap.size (svC v) 38] ⟨⟨a1,v.pl.n,c1⟩,⟨a2,v.st.n,c2⟩,nilV,nilV,nilV,nilV,nilV,⟨a8,v.sa.n,c8⟩,v.fl⟩ ⟨[],[],[],[],[]⟩ (part s 0 0 0 0 0):=by
  refine⟨F2,?_⟩
  refine⟨owns_mono o1 hsz,Lpl.out,owns_mono o2 hsz,Lst.out,World.ownsRow_nil _ _ _ _,rfl,World.ownsRow_nil _ _ _ _,rfl,World.ownsRow_nil _ _ _ _,rfl,World.ownsRow_nil _ _ _ _,rfl,World.ownsRow_nil _ _ _ _,rfl,owns_mono o8 hsz,Lsa.out,HS.out.fl,pv2_5,pv2_8,pv5_8,fun q hq=>⟨(F2.inside q hq).2,fun hm=> ?_⟩,⟨InL.nil,InL.nil,InL.nil,InL.nil,InL.nil⟩⟩
  have hB:∃cs,Blk w2 q cs 38:=by
   obtain⟨i,hi,hqi⟩:=List.mem_flatMap.1 hq
   simp only[List.mem_cons,List.not_mem_nil,or_false] at hi
   rcases hi with rfl|rfl|rfl<;>obtain rfl:=xS1 hqi
   ·exact⟨_,F2.blk 0 rfl⟩
   ·exact⟨_,F2.blk 1 rfl⟩
   ·exact⟨_,F2.blk 2 rfl⟩
  obtain⟨cs,hB⟩:=hB
  obtain⟨z,hz,hzk⟩:=List.mem_filterMap.1 hm
  simp only[nilV,List.mem_cons,List.not_mem_nil,or_false] at hz
  rcases hz with rfl|rfl|rfl|rfl|rfl|rfl|rfl|rfl
  ·exact blk_owns hB o1 (by decide) hzk
  ·exact blk_owns hB o2 (by decide) hzk
  iterate 5 cases hzk
  ·exact blk_owns hB o8 (by decide) hzk
 have co:=h0.c9 0 rfl
 have h1:=h0.set9 0 rfl (.slice a1 v.pl.n c1) (.slice a2 v.st.n c2) (.slice none 0 0) (.slice none 0 0) (.slice none 0 0) (.slice none 0 0) (.slice none 0 0) (.slice a8 v.sa.n c8) (.int .i64 v.fl)
 clear o1 o2 o8 pv2_5 pv2_8 pv5_8 kG hG0 F2 F h0 hsz hG
 go_upto_region 2 with fail
 obtain⟨wz,hw,h⟩:=h1.named
 rw[←hw]
 clear hw h1 co hv11
 have HN:=NewB.nil w.heap.size
 have cs:=h.c9 2 rfl
 go_wp2
 clear cs
 go_loopw [29] (fun i wr=>∃(k:Nat) (V:StV) (M:StL),k≤v.se.n∧i= .int .i64 k∧Sf w wr (cl3 w G V v) V M (part s k 0 0 0 0)∧NewB w.heap.size M) (fun i _=>v.se.n-(intOf i).toNat)
 case atStart=>exact⟨0,⟨⟨a1,v.pl.n,c1⟩,⟨a2,v.st.n,c2⟩,nilV,nilV,nilV,nilV,nilV,⟨a8,v.sa.n,c8⟩,v.fl⟩,_,by omega,rfl,h,HN⟩
 case round=>
  clear h HN
  obtain⟨k,V,M,hk,rfl,h,HN⟩:=hrel
  by_cases hlt:k<v.se.n
  ·have hks:k<s.sems.length:=by have:=Lse.out;omega
   obtain⟨x,q,b1,o1,HX,ea,g0,g1,g2,Q0,QL0,QC0⟩:=HS.out.at_se (j:=k) hks
   replace g0:=keepc h.bel g0
   replace g1:=keepc h.bel g1
   replace g2:=keepc h.bel g2
   have hVn:V.se.n=k:=by rw[h.st.nse];show(s.sems.take k).length=k;rw[List.length_take];omega
   have HP:Hid (s.sems.take (k+1)=s.sems.take k++[x]):=xH1 (by rw[HX.out];exact(take_snoc _ _ hks).symm)
   have h2:=h.alloc #[.int .i64 x.free,.int .i64 x.limit,.slice q.a q.n q.c] 83
   have cx:=h2.c3 0 rfl
   have HVN:=xH1 hVn
   clear hks hVn
   go_upto_region 5 with fail
   obtain⟨u2,hu,h3⟩:=h2.named
   rw[←hu]
   clear hu h2 h cx ea g0 g1 g2
   apply wp_rk 5 [.k _,.k _,.k _,.r fun dz uz wz=>∃(az:Option Addr) (cz:Nat),uz= .agg #[.int .i64 x.free,.int .i64 x.limit,.slice az q.n cz]∧wz.ownsRow u2.heap.size 146 2 (.slice az q.n cz) q.n (pairs x.queue),.r fun dz uz wz=>∃(gz:Nat) (az:Option Addr) (cz:Nat),uz= .slice (some ⟨gz,0,none⟩) 1 1∧Blk wz gz #[.int .i64 x.free,.int .i64 x.limit,.slice az q.n cz] 83∧wz.ownsRow u2.heap.size 146 2 (.slice az q.n cz) q.n (pairs x.queue)] ⟨fun _ _ _ _ hb ⟨a,c,e,h⟩=>⟨a,c,e,owns_below h hb⟩,fun _ _ _ _ hb ⟨g,a,c,e,h,h1⟩=>⟨g,a,c,e,h.below hb,owns_below h1 hb⟩,trivial⟩ ?s1 ?e1
   case s1=>
    repeat' apply And.intro
    all_goals first|trivial|(intro ρ w1 hG hfr hd;obtain⟨fc,ff⟩:=fcff hfr;have f3:=hfr (.tmp 3) rfl;have f5:=hfr (.tmp 5) rfl;have F1:=h3.fr.call hG;have co:=F1.c9 1 rfl;have cx:=F1.c3 0 rfl;clear F1)
    exact rk0;exact rk1;exact rk0
    ·obtain⟨d0,-⟩:=hd
     have d0:ρ (.tmp 35)=_:=d0
     refine gives_call (by go_simp;exact⟨⟨rfl,rfl⟩,rfl⟩) ?_
     refine(implSemClone_any x q.a q.n q.c _ QL0.out.symm (by rw[QL0.out,HX.out];exact HZ.out.qse k) ((h3.fr.call hG).rd Q0.out)).mono ?_
     rintro e w2 ⟨a1,c1,rfl,ho,hb⟩
     exact⟨_,rfl,hb,⟨a1,c1,rfl,owns_mono ho hG.size⟩,xN1,hG.trans (hb.mono hG.size)⟩
    ·obtain⟨d0,-⟩:=hd
     have d0:∃(az:Option Addr) (cz:Nat),(ρ (.tmp 36))= .agg #[.int .i64 x.free,.int .i64 x.limit,.slice az q.n cz]∧w1.ownsRow u2.heap.size 146 2 (.slice az q.n cz) q.n (pairs x.queue):=d0
     obtain⟨azz,czz,d0,ho⟩:=d0
     have hb:Below w1.heap.size w1 (w1.alloc (.cells #[.int .i64 x.free,.int .i64 x.limit,.slice azz q.n czz] 83)):=xA1
     refine gives_val (u:= .slice (some ⟨w1.heap.size,0,none⟩) 1 1) (w':=w1.alloc (.cells #[.int .i64 x.free,.int .i64 x.limit,.slice azz q.n czz] 83)) (by go_simp) ⟨hb,⟨_,azz,czz,rfl,Blk.new _ _ _,owns_below ho hb⟩,xN1,hG.alloc hG.size _⟩
   intro w2 hG
   refine rk_end ?_
   intro xv3 hv3 xv4 hv4
   obtain⟨gz,az,cz,rfl,kL,ho⟩:=hv4
   have hq:semR (foots (.blk wr.heap.size #[.int .i64 x.free,.int .i64 x.limit,.slice q.a q.n q.c] 83::cl3 w G V v)++V.blks) w2 x ⟨az,q.n,cz⟩:=by
    have h9:=h3.apart (SlN.of_owns ho xL1)
    show SlR _ _ _ _ x.queue.length
    rw[←QL0.out]
    exact h9
   have HN2:=HN.se1 (x:=x) (q:=⟨az,q.n,cz⟩) (newS.lower (SlN.of_owns ho xL1).new h3.bel.size)
   have h4:=h3.call hG
   have HQ:=xH1 hq
   clear hq hG h3 hv3
   go_wp2_with (at_builtin;refine h4.app_se rfl _ _ rfl rfl rfl (Rd.of_blk kL) HQ.out (by have:=HVN.out;omega) ?_;intro r W5 h5;have co:=h5.c9 1 rfl;have h6:=(h5.set 1 rfl 2 r.val).sub (l':=cl3 w G {V with se:=r} v) (.cons _ (.refl _)))
   go_roundw
   case rel=>exact⟨k+1,_,_,by omega,by go_num,by
    have e:part s (k+1) 0 0 0 0={part s k 0 0 0 0 with sems:=s.sems.take k++[x]}:=by unfold part;rw[HP.out]
    rw[e]
    exact h6,HN2⟩
   case measure=>simp[intOf];omega
  ·obtain rfl:k=v.se.n:=by omega
   clear hlt hk
   have cs:=h.c9 2 rfl
   go_wp2
   clear cs
   go_loopw [44] (fun i wr=>∃(k:Nat) (V:StV) (M:StL),k≤v.on.n∧i= .int .i64 k∧Sf w wr (cl3 w G V v) V M (part s v.se.n k 0 0 0)∧NewB w.heap.size M) (fun i _=>v.on.n-(intOf i).toNat)
   case atStart=>exact⟨0,V,_,by omega,rfl,h,HN⟩
   case round=>
    clear h HN
    obtain⟨k,V,M,hk,rfl,h,HN⟩:=hrel
    by_cases hlt:k<v.on.n
    ·have hks:k<s.onces.length:=by have:=Lon.out;omega
     obtain⟨x,q,b1,o1,HX,ea,g0,g1,g2,g3,Q0,QL0,QC0⟩:=HS.out.at_on (j:=k) hks
     replace g0:=keepc h.bel g0
     replace g1:=keepc h.bel g1
     replace g2:=keepc h.bel g2
     replace g3:=keepc h.bel g3
     have hVn:V.on.n=k:=by rw[h.st.non];show(s.onces.take k).length=k;rw[List.length_take];omega
     have HP:Hid (s.onces.take (k+1)=s.onces.take k++[x]):=xH1 (by rw[HX.out];exact(take_snoc _ _ hks).symm)
     have h2:=h.alloc #[.int .i64 x.state,.int .i64 x.owner,.int .i64 x.value,.slice q.a q.n q.c] 96
     have cx:=h2.c4 0 rfl
     have HVN:=xH1 hVn
     clear hks hVn
     go_upto_region 10 with fail
     obtain⟨u2,hu,h3⟩:=h2.named
     rw[←hu]
     clear hu h2 h cx ea g0 g1 g2 g3
     apply wp_rk 5 [.k _,.k _,.k _,.r fun dz uz wz=>∃(az:Option Addr) (cz:Nat),uz= .agg #[.int .i64 x.state,.int .i64 x.owner,.int .i64 x.value,.slice az q.n cz]∧wz.ownsRow u2.heap.size 3 1 (.slice az q.n cz) q.n (ints x.waits),.r fun dz uz wz=>∃(gz:Nat) (az:Option Addr) (cz:Nat),uz= .slice (some ⟨gz,0,none⟩) 1 1∧Blk wz gz #[.int .i64 x.state,.int .i64 x.owner,.int .i64 x.value,.slice az q.n cz] 96∧wz.ownsRow u2.heap.size 3 1 (.slice az q.n cz) q.n (ints x.waits)] ⟨fun _ _ _ _ hb ⟨a,c,e,h⟩=>⟨a,c,e,owns_below h hb⟩,fun _ _ _ _ hb ⟨g,a,c,e,h,h1⟩=>⟨g,a,c,e,h.below hb,owns_below h1 hb⟩,trivial⟩ ?s2 ?e2
     case s2=>
      repeat' apply And.intro
      all_goals first|trivial|(intro ρ w1 hG hfr hd;obtain⟨fc,ff⟩:=fcff hfr;have f3:=hfr (.tmp 3) rfl;have f7:=hfr (.tmp 7) rfl;have F1:=h3.fr.call hG;have co:=F1.c9 1 rfl;have cx:=F1.c4 0 rfl;clear F1)
      exact rk0;exact rk1;exact rk0
      ·obtain⟨d0,-⟩:=hd
       have d0:ρ (.tmp 50)=_:=d0
       refine gives_call (by go_simp;exact⟨⟨rfl,rfl⟩,rfl⟩) ?_
       refine(implOnceClone_any x q.a q.n q.c _ QL0.out.symm (by rw[QL0.out,HX.out];exact HZ.out.qon k) ((h3.fr.call hG).rd Q0.out)).mono ?_
       rintro e w2 ⟨a1,c1,rfl,ho,hb⟩
       exact⟨_,rfl,hb,⟨a1,c1,rfl,owns_mono ho hG.size⟩,xN1,hG.trans (hb.mono hG.size)⟩
      ·obtain⟨d0,-⟩:=hd
       have d0:∃(az:Option Addr) (cz:Nat),(ρ (.tmp 51))= .agg #[.int .i64 x.state,.int .i64 x.owner,.int .i64 x.value,.slice az q.n cz]∧w1.ownsRow u2.heap.size 3 1 (.slice az q.n cz) q.n (ints x.waits):=d0
       obtain⟨azz,czz,d0,ho⟩:=d0
       have hb:Below w1.heap.size w1 (w1.alloc (.cells #[.int .i64 x.state,.int .i64 x.owner,.int .i64 x.value,.slice azz q.n czz] 96)):=xA1
       refine gives_val (u:= .slice (some ⟨w1.heap.size,0,none⟩) 1 1) (w':=w1.alloc (.cells #[.int .i64 x.state,.int .i64 x.owner,.int .i64 x.value,.slice azz q.n czz] 96)) (by go_simp) ⟨hb,⟨_,azz,czz,rfl,Blk.new _ _ _,owns_below ho hb⟩,xN1,hG.alloc hG.size _⟩
     intro w2 hG
     refine rk_end ?_
     intro xv3 hv3 xv4 hv4
     obtain⟨gz,az,cz,rfl,kL,ho⟩:=hv4
     have hq:onceR (foots (.blk wr.heap.size #[.int .i64 x.state,.int .i64 x.owner,.int .i64 x.value,.slice q.a q.n q.c] 96::cl3 w G V v)++V.blks) w2 x ⟨az,q.n,cz⟩:=by
      have h9:=h3.apart (SlN.of_owns ho xL1)
      show SlR _ _ _ _ x.waits.length
      rw[←QL0.out]
      exact h9
     have HN2:=HN.on1 (x:=x) (q:=⟨az,q.n,cz⟩) (newS.lower (SlN.of_owns ho xL1).new h3.bel.size)
     have h4:=h3.call hG
     have HQ:=xH1 hq
     clear hq hG h3 hv3
     go_wp2_with (at_builtin;refine h4.app_on rfl _ _ rfl rfl rfl (Rd.of_blk kL) HQ.out (by have:=HVN.out;omega) ?_;intro r W5 h5;have co:=h5.c9 1 rfl;have h6:=(h5.set 1 rfl 3 r.val).sub (l':=cl3 w G {V with on:=r} v) (.cons _ (.refl _)))
     go_roundw
     case rel=>exact⟨k+1,_,_,by omega,by go_num,by
      have e:part s v.se.n (k+1) 0 0 0={part s v.se.n k 0 0 0 with onces:=s.onces.take k++[x]}:=by unfold part;rw[HP.out]
      rw[e]
      exact h6,HN2⟩
     case measure=>simp[intOf];omega
    ·obtain rfl:k=v.on.n:=by omega
     clear hlt hk
     have cs:=h.c9 2 rfl
     go_wp2
     clear cs
     go_loopw [59] (fun i wr=>∃(k:Nat) (V:StV) (M:StL),k≤v.gr.n∧i= .int .i64 k∧Sf w wr (cl3 w G V v) V M (part s v.se.n v.on.n k 0 0)∧NewB w.heap.size M) (fun i _=>v.gr.n-(intOf i).toNat)
     case atStart=>exact⟨0,V,_,by omega,rfl,h,HN⟩
     case round=>
      clear h HN
      obtain⟨k,V,M,hk,rfl,h,HN⟩:=hrel
      by_cases hlt:k<v.gr.n
      ·have hks:k<s.groups.length:=by have:=Lgr.out;omega
       obtain⟨x,q,b1,o1,HX,ea,g0,g1,Q0,QL0,QC0⟩:=HS.out.at_gr (j:=k) hks
       replace g0:=keepc h.bel g0
       replace g1:=keepc h.bel g1
       have hVn:V.gr.n=k:=by rw[h.st.ngr];show(s.groups.take k).length=k;rw[List.length_take];omega
       have HP:Hid (s.groups.take (k+1)=s.groups.take k++[x]):=xH1 (by rw[HX.out];exact(take_snoc _ _ hks).symm)
       have h2:=h.alloc #[.int .i64 x.count,.slice q.a q.n q.c] 86
       have cx:=h2.c2 0 rfl
       have HVN:=xH1 hVn
       clear hks hVn
       go_upto_region 15 with fail
       obtain⟨u2,hu,h3⟩:=h2.named
       rw[←hu]
       clear hu h2 h cx ea g0 g1
       apply wp_rk 9 [.k _,.k _,.k _,.k _,.k _,.k _,.r fun dz uz wz=>∃(az:Option Addr) (cz:Nat),uz= .slice az q.n cz∧wz.ownsRow u2.heap.size 3 1 (.slice az q.n cz) q.n (ints x.waits),.r fun dz uz wz=>∃(az:Option Addr) (cz:Nat),uz= .agg #[.int .i64 x.count,.slice az q.n cz]∧wz.ownsRow u2.heap.size 3 1 (.slice az q.n cz) q.n (ints x.waits),.r fun dz uz wz=>∃(gz:Nat) (az:Option Addr) (cz:Nat),uz= .slice (some ⟨gz,0,none⟩) 1 1∧Blk wz gz #[.int .i64 x.count,.slice az q.n cz] 86∧wz.ownsRow u2.heap.size 3 1 (.slice az q.n cz) q.n (ints x.waits)] ⟨fun _ _ _ _ hb ⟨a,c,e,h⟩=>⟨a,c,e,owns_below h hb⟩,fun _ _ _ _ hb ⟨a,c,e,h⟩=>⟨a,c,e,owns_below h hb⟩,fun _ _ _ _ hb ⟨g,a,c,e,h,h1⟩=>⟨g,a,c,e,h.below hb,owns_below h1 hb⟩,trivial⟩ ?s3 ?e3
       case s3=>
        repeat' apply And.intro
        all_goals first|trivial|(intro ρ w1 hG hfr hd;obtain⟨fc,ff⟩:=fcff hfr;have f3:=hfr (.tmp 3) rfl;have f9:=hfr (.tmp 9) rfl;have F1:=h3.fr.call hG;have co:=F1.c9 1 rfl;have cx:=F1.c2 0 rfl;clear F1)
        exact rk0;exact rk1;exact rk0;exact rk1;exact rk0;exact rk1
        ·obtain⟨d0,-⟩:=hd
         have d0:ρ (.tmp 68)=_:=d0
         refine gives_call (by go_simp;exact⟨⟨rfl,rfl⟩,rfl⟩) ?_
         refine(implCloneInts_any q.a q.n q.c x.waits _ QL0.out.symm (by have h1:=HZ.out.qgr k;rw[←HX.out,←QL0.out] at h1;omega) ((h3.fr.call hG).rd Q0.out)).mono ?_
         rintro e w2 ⟨a1,c1,rfl,ho,hb⟩
         exact⟨_,rfl,hb,⟨a1,c1,rfl,owns_mono ho hG.size⟩,xN1,hG.trans (hb.mono hG.size)⟩
        ·obtain⟨d0,d1,-⟩:=hd
         have d0:ρ (.tmp 66)=_:=d0
         have d1:∃(az:Option Addr) (cz:Nat),(ρ (.tmp 69))= .slice az q.n cz∧w1.ownsRow u2.heap.size 3 1 (.slice az q.n cz) q.n (ints x.waits):=d1
         obtain⟨azz,czz,d1,ho⟩:=d1
         exact gvF hG (by go_simp) ⟨azz,czz,rfl,ho⟩ xN1
        ·obtain⟨d0,-⟩:=hd
         have d0:∃(az:Option Addr) (cz:Nat),(ρ (.tmp 70))= .agg #[.int .i64 x.count,.slice az q.n cz]∧w1.ownsRow u2.heap.size 3 1 (.slice az q.n cz) q.n (ints x.waits):=d0
         obtain⟨azz,czz,d0,ho⟩:=d0
         have hb:Below w1.heap.size w1 (w1.alloc (.cells #[.int .i64 x.count,.slice azz q.n czz] 86)):=xA1
         refine gives_val (u:= .slice (some ⟨w1.heap.size,0,none⟩) 1 1) (w':=w1.alloc (.cells #[.int .i64 x.count,.slice azz q.n czz] 86)) (by go_simp) ⟨hb,⟨_,azz,czz,rfl,Blk.new _ _ _,owns_below ho hb⟩,xN1,hG.alloc hG.size _⟩
       intro w2 hG
       refine rk_end ?_
       intro xv6 hv6 xv7 hv7 xv8 hv8
       obtain⟨gz,az,cz,rfl,kL,ho⟩:=hv8
       have hq:grpR (foots (.blk wr.heap.size #[.int .i64 x.count,.slice q.a q.n q.c] 86::cl3 w G V v)++V.blks) w2 x ⟨az,q.n,cz⟩:=by
        have h9:=h3.apart (SlN.of_owns ho xL1)
        show SlR _ _ _ _ x.waits.length
        rw[←QL0.out]
        exact h9
       have HN2:=HN.gr1 (x:=x) (q:=⟨az,q.n,cz⟩) (newS.lower (SlN.of_owns ho xL1).new h3.bel.size)
       have h4:=h3.call hG
       have HQ:=xH1 hq
       clear hq hG h3 hv7
       go_wp2_with (at_builtin;refine h4.app_gr rfl _ _ rfl rfl rfl (Rd.of_blk kL) HQ.out (by have:=HVN.out;omega) ?_;intro r W5 h5;have co:=h5.c9 1 rfl;have h6:=(h5.set 1 rfl 4 r.val).sub (l':=cl3 w G {V with gr:=r} v) (.cons _ (.refl _)))
       go_roundw
       case rel=>exact⟨k+1,_,_,by omega,by go_num,by
        have e:part s v.se.n v.on.n (k+1) 0 0={part s v.se.n v.on.n k 0 0 with groups:=s.groups.take k++[x]}:=by unfold part;rw[HP.out]
        rw[e]
        exact h6,HN2⟩
       case measure=>simp[intOf];omega
      ·obtain rfl:k=v.gr.n:=by omega
       clear hlt hk
       have cs:=h.c9 2 rfl
       go_wp2
       clear cs
       go_loopw [78] (fun i wr=>∃(k:Nat) (V:StV) (M:StL),k≤v.ba.n∧i= .int .i64 k∧Sf w wr (cl3 w G V v) V M (part s v.se.n v.on.n v.gr.n k 0)∧NewB w.heap.size M) (fun i _=>v.ba.n-(intOf i).toNat)
       case atStart=>exact⟨0,V,_,by omega,rfl,h,HN⟩
       case round=>
        clear h HN
        obtain⟨k,V,M,hk,rfl,h,HN⟩:=hrel
        by_cases hlt:k<v.ba.n
        ·have hks:k<s.bars.length:=by have:=Lba.out;omega
         obtain⟨x,q,b1,o1,HX,ea,g0,g1,g2,Q0,QL0,QC0⟩:=HS.out.at_ba (j:=k) hks
         replace g0:=keepc h.bel g0
         replace g1:=keepc h.bel g1
         replace g2:=keepc h.bel g2
         have hVn:V.ba.n=k:=by rw[h.st.nba];show(s.bars.take k).length=k;rw[List.length_take];omega
         have HP:Hid (s.bars.take (k+1)=s.bars.take k++[x]):=xH1 (by rw[HX.out];exact(take_snoc _ _ hks).symm)
         have h2:=h.alloc #[.int .i64 x.parties,.int .i64 x.round,.slice q.a q.n q.c] 89
         have cx:=h2.c3 0 rfl
         have HVN:=xH1 hVn
         clear hks hVn
         go_upto_region 20 with fail
         obtain⟨u2,hu,h3⟩:=h2.named
         rw[←hu]
         clear hu h2 h cx ea g0 g1 g2
         apply wp_rk 11 [.k _,.k _,.k _,.k _,.k _,.k _,.k _,.k _,.r fun dz uz wz=>∃(az:Option Addr) (cz:Nat),uz= .slice az q.n cz∧wz.ownsRow u2.heap.size 3 1 (.slice az q.n cz) q.n (ints x.waits),.r fun dz uz wz=>∃(az:Option Addr) (cz:Nat),uz= .agg #[.int .i64 x.parties,.int .i64 x.round,.slice az q.n cz]∧wz.ownsRow u2.heap.size 3 1 (.slice az q.n cz) q.n (ints x.waits),.r fun dz uz wz=>∃(gz:Nat) (az:Option Addr) (cz:Nat),uz= .slice (some ⟨gz,0,none⟩) 1 1∧Blk wz gz #[.int .i64 x.parties,.int .i64 x.round,.slice az q.n cz] 89∧wz.ownsRow u2.heap.size 3 1 (.slice az q.n cz) q.n (ints x.waits)] ⟨fun _ _ _ _ hb ⟨a,c,e,h⟩=>⟨a,c,e,owns_below h hb⟩,fun _ _ _ _ hb ⟨a,c,e,h⟩=>⟨a,c,e,owns_below h hb⟩,fun _ _ _ _ hb ⟨g,a,c,e,h,h1⟩=>⟨g,a,c,e,h.below hb,owns_below h1 hb⟩,trivial⟩ ?s4 ?e4
         case s4=>
          repeat' apply And.intro
          all_goals first|trivial|(intro ρ w1 hG hfr hd;obtain⟨fc,ff⟩:=fcff hfr;have f3:=hfr (.tmp 3) rfl;have f11:=hfr (.tmp 11) rfl;have F1:=h3.fr.call hG;have co:=F1.c9 1 rfl;have cx:=F1.c3 0 rfl;clear F1)
          exact rk0;exact rk1;exact rk0;exact rk1;exact rk0;exact rk1;exact rk0;exact rk1
          ·obtain⟨d0,-⟩:=hd
           have d0:ρ (.tmp 89)=_:=d0
           refine gives_call (by go_simp;exact⟨⟨rfl,rfl⟩,rfl⟩) ?_
           refine(implCloneInts_any q.a q.n q.c x.waits _ QL0.out.symm (by have h1:=HZ.out.qba k;rw[←HX.out,←QL0.out] at h1;omega) ((h3.fr.call hG).rd Q0.out)).mono ?_
           rintro e w2 ⟨a1,c1,rfl,ho,hb⟩
           exact⟨_,rfl,hb,⟨a1,c1,rfl,owns_mono ho hG.size⟩,xN1,hG.trans (hb.mono hG.size)⟩
          ·obtain⟨d0,d1,d2,-⟩:=hd
           have d0:ρ (.tmp 85)=_:=d0
           have d1:ρ (.tmp 87)=_:=d1
           have d2:∃(az:Option Addr) (cz:Nat),(ρ (.tmp 90))= .slice az q.n cz∧w1.ownsRow u2.heap.size 3 1 (.slice az q.n cz) q.n (ints x.waits):=d2
           obtain⟨azz,czz,d2,ho⟩:=d2
           exact gvF hG (by go_simp) ⟨azz,czz,rfl,ho⟩ xN1
          ·obtain⟨d0,-⟩:=hd
           have d0:∃(az:Option Addr) (cz:Nat),(ρ (.tmp 91))= .agg #[.int .i64 x.parties,.int .i64 x.round,.slice az q.n cz]∧w1.ownsRow u2.heap.size 3 1 (.slice az q.n cz) q.n (ints x.waits):=d0
           obtain⟨azz,czz,d0,ho⟩:=d0
           have hb:Below w1.heap.size w1 (w1.alloc (.cells #[.int .i64 x.parties,.int .i64 x.round,.slice azz q.n czz] 89)):=xA1
           refine gives_val (u:= .slice (some ⟨w1.heap.size,0,none⟩) 1 1) (w':=w1.alloc (.cells #[.int .i64 x.parties,.int .i64 x.round,.slice azz q.n czz] 89)) (by go_simp) ⟨hb,⟨_,azz,czz,rfl,Blk.new _ _ _,owns_below ho hb⟩,xN1,hG.alloc hG.size _⟩
         intro w2 hG
         refine rk_end ?_
         intro xv8 hv8 xv9 hv9 xv10 hv10
         obtain⟨gz,az,cz,rfl,kL,ho⟩:=hv10
         have hq:barR (foots (.blk wr.heap.size #[.int .i64 x.parties,.int .i64 x.round,.slice q.a q.n q.c] 89::cl3 w G V v)++V.blks) w2 x ⟨az,q.n,cz⟩:=by
          have h9:=h3.apart (SlN.of_owns ho xL1)
          show SlR _ _ _ _ x.waits.length
          rw[←QL0.out]
          exact h9
         have HN2:=HN.ba1 (x:=x) (q:=⟨az,q.n,cz⟩) (newS.lower (SlN.of_owns ho xL1).new h3.bel.size)
         have h4:=h3.call hG
         have HQ:=xH1 hq
         clear hq hG h3 hv9
         go_wp2_with (at_builtin;refine h4.app_ba rfl _ _ rfl rfl rfl (Rd.of_blk kL) HQ.out (by have:=HVN.out;omega) ?_;intro r W5 h5;have co:=h5.c9 1 rfl;have h6:=(h5.set 1 rfl 5 r.val).sub (l':=cl3 w G {V with ba:=r} v) (.cons _ (.refl _)))
         go_roundw
         case rel=>exact⟨k+1,_,_,by omega,by go_num,by
          have e:part s v.se.n v.on.n v.gr.n (k+1) 0={part s v.se.n v.on.n v.gr.n k 0 with bars:=s.bars.take k++[x]}:=by unfold part;rw[HP.out]
          rw[e]
          exact h6,HN2⟩
         case measure=>simp[intOf];omega
        ·obtain rfl:k=v.ba.n:=by omega
         clear hlt hk
         have cs:=h.c9 2 rfl
         go_wp2
         clear cs
         go_loopw [99] (fun i wr=>∃(k:Nat) (V:StV) (M:StL),k≤v.ch.n∧i= .int .i64 k∧Sf w wr (cl3 w G V v) V M (part s v.se.n v.on.n v.gr.n v.ba.n k)∧NewB w.heap.size M) (fun i _=>v.ch.n-(intOf i).toNat)
         case atStart=>exact⟨0,V,_,by omega,rfl,h,HN⟩
         case round=>
          clear h HN
          obtain⟨k,V,M,hk,rfl,h,HN⟩:=hrel
          by_cases hlt:k<v.ch.n
          ·have hks:k<s.chans.length:=by have:=Lch.out;omega
           obtain⟨x,q,b1,o1,HX,ea,g0,g1,g2,g3,g4,Q0,QL0,QC0,Q1,QL1,QC1,Q2,QL2,QC2⟩:=HS.out.at_ch (j:=k) hks
           replace g0:=keepc h.bel g0
           replace g1:=keepc h.bel g1
           replace g2:=keepc h.bel g2
           replace g3:=keepc h.bel g3
           replace g4:=keepc h.bel g4
           have hVn:V.ch.n=k:=by rw[h.st.nch];show(s.chans.take k).length=k;rw[List.length_take];omega
           have HP:Hid (s.chans.take (k+1)=s.chans.take k++[x]):=xH1 (by rw[HX.out];exact(take_snoc _ _ hks).symm)
           have h2:=h.alloc #[.int .i64 x.room,.slice q.1.a q.1.n q.1.c,.slice q.2.1.a q.2.1.n q.2.1.c,.slice q.2.2.a q.2.2.n q.2.2.c,.bool x.closed] 93
           have cx:=h2.c5 0 rfl
           have HVN:=xH1 hVn
           clear hks hVn
           go_upto_region 25 with fail
           obtain⟨u2,hu,h3⟩:=h2.named
           rw[←hu]
           clear hu h2 h cx ea g0 g1 g2 g3 g4
           apply wp_rk 5 [.k _,.k _,.k _,.r fun dz uz wz=>∃(bi bs bg:Option Addr) (di ds dg:Nat),uz= .agg #[.int .i64 x.room,.slice bi q.1.n di,.slice bs q.2.1.n ds,.slice bg q.2.2.n dg,.bool x.closed]∧wz.ownsRow u2.heap.size 3 1 (.slice bi q.1.n di) q.1.n (ints x.items)∧wz.ownsRow u2.heap.size 148 2 (.slice bs q.2.1.n ds) q.2.1.n (pairs x.senders)∧wz.ownsRow u2.heap.size 3 1 (.slice bg q.2.2.n dg) q.2.2.n (ints x.getters),.r fun dz uz wz=>∃(gz:Nat) (bi bs bg:Option Addr) (di ds dg:Nat),uz= .slice (some ⟨gz,0,none⟩) 1 1∧Blk wz gz #[.int .i64 x.room,.slice bi q.1.n di,.slice bs q.2.1.n ds,.slice bg q.2.2.n dg,.bool x.closed] 93∧wz.ownsRow u2.heap.size 3 1 (.slice bi q.1.n di) q.1.n (ints x.items)∧wz.ownsRow u2.heap.size 148 2 (.slice bs q.2.1.n ds) q.2.1.n (pairs x.senders)∧wz.ownsRow u2.heap.size 3 1 (.slice bg q.2.2.n dg) q.2.2.n (ints x.getters)] ⟨fun _ _ _ _ hb ⟨a,b,c,d1,d2,d3,e,h1,h2,h3⟩=>⟨a,b,c,d1,d2,d3,e,owns_below h1 hb,owns_below h2 hb,owns_below h3 hb⟩,fun _ _ _ _ hb ⟨g,a,b,c,d1,d2,d3,e,h,h1,h2,h3⟩=>⟨g,a,b,c,d1,d2,d3,e,h.below hb,owns_below h1 hb,owns_below h2 hb,owns_below h3 hb⟩,trivial⟩ ?s5 ?e5
           case s5=>
            repeat' apply And.intro
            all_goals first|trivial|(intro ρ w1 hG hfr hd;obtain⟨fc,ff⟩:=fcff hfr;have f3:=hfr (.tmp 3) rfl;have f13:=hfr (.tmp 13) rfl;have F1:=h3.fr.call hG;have co:=F1.c9 1 rfl;have cx:=F1.c5 0 rfl;clear F1)
            exact rk0;exact rk1;exact rk0
            ·obtain⟨d0,-⟩:=hd
             have d0:ρ (.tmp 105)=_:=d0
             refine gives_call (by go_simp;exact⟨⟨rfl,rfl⟩,rfl⟩) ?_
             refine(implChanClone_fr x q.1.a q.2.1.a q.2.2.a q.1.n q.1.c q.2.1.n q.2.1.c q.2.2.n q.2.2.c _ QL0.out.symm QL1.out.symm QL2.out.symm (by rw[QL0.out,HX.out];exact(HZ.out.qch k).1) (by rw[QL1.out,HX.out];exact(HZ.out.qch k).2.1) (by rw[QL2.out,HX.out];exact(HZ.out.qch k).2.2) ((h3.fr.call hG).rd Q0.out) ((h3.fr.call hG).rd Q1.out) ((h3.fr.call hG).rd Q2.out)).mono ?_
             rintro e w2 ⟨bi,bs,bg,di,ds,dg,rfl,F'⟩
             exact⟨_,rfl,F'.bel,⟨bi,bs,bg,di,ds,dg,rfl,owns_mono (F'.own 2 rfl) hG.size,owns_mono (F'.own 1 rfl) hG.size,owns_mono (F'.own 0 rfl) hG.size⟩,xN1,hG.trans (F'.bel.mono hG.size)⟩
            ·obtain⟨d0,-⟩:=hd
             have d0:∃(bi bs bg:Option Addr) (di ds dg:Nat),(ρ (.tmp 106))= .agg #[.int .i64 x.room,.slice bi q.1.n di,.slice bs q.2.1.n ds,.slice bg q.2.2.n dg,.bool x.closed]∧w1.ownsRow u2.heap.size 3 1 (.slice bi q.1.n di) q.1.n (ints x.items)∧w1.ownsRow u2.heap.size 148 2 (.slice bs q.2.1.n ds) q.2.1.n (pairs x.senders)∧w1.ownsRow u2.heap.size 3 1 (.slice bg q.2.2.n dg) q.2.2.n (ints x.getters):=d0
             obtain⟨bi,bs,bg,di,ds,dg,d0,o1,o2,o3⟩:=d0
             have hb:Below w1.heap.size w1 (w1.alloc (.cells #[.int .i64 x.room,.slice bi q.1.n di,.slice bs q.2.1.n ds,.slice bg q.2.2.n dg,.bool x.closed] 93)):=xA1
             refine gives_val (u:= .slice (some ⟨w1.heap.size,0,none⟩) 1 1) (w':=w1.alloc (.cells #[.int .i64 x.room,.slice bi q.1.n di,.slice bs q.2.1.n ds,.slice bg q.2.2.n dg,.bool x.closed] 93)) (by go_simp) ⟨hb,⟨_,bi,bs,bg,di,ds,dg,rfl,Blk.new _ _ _,owns_below o1 hb,owns_below o2 hb,owns_below o3 hb⟩,xN1,hG.alloc hG.size _⟩
           intro w2 hG
           refine rk_end ?_
           intro xv3 hv3 xv4 hv4
           obtain⟨gz,bi,bs,bg,di,ds,dg,rfl,kL,o1,o2,o3⟩:=hv4
           have hq:chnR (foots (.blk wr.heap.size #[.int .i64 x.room,.slice q.1.a q.1.n q.1.c,.slice q.2.1.a q.2.1.n q.2.1.c,.slice q.2.2.a q.2.2.n q.2.2.c,.bool x.closed] 93::cl3 w G V v)++V.blks) w2 x (⟨bi,q.1.n,di⟩,⟨bs,q.2.1.n,ds⟩,⟨bg,q.2.2.n,dg⟩):=⟨by rw[←QL0.out];exact h3.apart (SlN.of_owns o1 xL1),by rw[←QL1.out];exact h3.apart (SlN.of_owns o2 xL1),by rw[←QL2.out];exact h3.apart (SlN.of_owns o3 xL1)⟩
           have HN2:=HN.ch1 (x:=x) (q:=(⟨bi,q.1.n,di⟩,⟨bs,q.2.1.n,ds⟩,⟨bg,q.2.2.n,dg⟩)) ⟨newS.lower (SlN.of_owns o1 xL1).new h3.bel.size,newS.lower (SlN.of_owns o2 xL1).new h3.bel.size,newS.lower (SlN.of_owns o3 xL1).new h3.bel.size⟩
           have h4:=h3.call hG
           have HQ:=xH1 hq
           clear hq hG h3 hv3
           go_wp2_with (at_builtin;refine h4.app_ch rfl _ _ rfl rfl rfl (Rd.of_blk kL) HQ.out (by have:=HVN.out;omega) ?_;intro r W5 h5;have co:=h5.c9 1 rfl;have h6:=(h5.set 1 rfl 6 r.val).sub (l':=cl3 w G {V with ch:=r} v) (.cons _ (.refl _)))
           go_roundw
           case rel=>exact⟨k+1,_,_,by omega,by go_num,by
            have e:part s v.se.n v.on.n v.gr.n v.ba.n (k+1)={part s v.se.n v.on.n v.gr.n v.ba.n k with chans:=s.chans.take k++[x]}:=by unfold part;rw[HP.out]
            rw[e]
            exact h6,HN2⟩
           case measure=>simp[intOf];omega
          ·obtain rfl:k=v.ch.n:=by omega
           clear hlt hk
           have cs:=h.c9 2 rfl
           have co:=h.c9 0 rfl
           have cr:=h.c9 1 rfl
           have hp:part s v.se.n v.on.n v.gr.n v.ba.n v.ch.n=s:=by rw[Lse.out,Lon.out,Lgr.out,Lba.out,Lch.out];exact part_all s
           rw[hp] at h
           have h7:=h.set9 1 rfl (.slice V.pl.a V.pl.n V.pl.c) (.slice V.st.a V.st.n V.st.c) (.slice V.se.a V.se.n V.se.c) (.slice V.on.a V.on.n V.on.c) (.slice V.gr.a V.gr.n V.gr.c) (.slice V.ba.a V.ba.n V.ba.c) (.slice V.ch.a V.ch.n V.ch.c) (.slice V.sa.a V.sa.n V.sa.c) (.int .i64 V.fl)
           go_wp2
           exact bodyPost_ret (v:= .agg #[.slice V.pl.a V.pl.n V.pl.c,.slice V.st.a V.st.n V.st.c,.slice V.se.a V.se.n V.se.c,.slice V.on.a V.on.n V.on.c,.slice V.gr.a V.gr.n V.gr.c,.slice V.ba.a V.ba.n V.ba.c,.slice V.ch.a V.ch.n V.ch.c,.slice V.sa.a V.sa.n V.sa.c,.int .i64 V.fl]) (by simp[results,Tryz.results41,go_sem,h7.c9 1 rfl]) rfl ⟨V,M,rfl,h7.st.sub (by simp),HN,h7.bel⟩
end Go.Proofs.YtjmpejaifmopnaaGreat
