/- Part of a proof: RCopy MShared MQueued MWaits MThread MFits MOn. -/
import Derived.Test.YtnlijgjpgdjpiaaGreatQPRk
import Derived.Test.YtnlijgjpgdjpiaaGreatQPMRef
import Derived.Test.YtnlijgjpgdjpiaaGreatQPMachK
import Derived.StillTailTactics
import Derived.Deep.Cut
set_option maxRecDepth 100000
set_option maxHeartbeats 16000000
namespace Go.Proofs.YtnlijgjpgdjpiaaGreat
open Go.RowKit
theorem zgT (v:StV) (L:StL) (s:StD) (w:World) (hr:StR w v L s) (hz:SmS s):
  Calls Tryz.prog 56 #[v.val] w λe w'=>∃(v':StV) (L':StL),e= .returned v'.val/\StO [] w.heap.size w' v' L' s/\NewB w.heap.size L'/\xW w w':=by
 have npl:v.pl.n<=1048576:=by rw[hr.pl.len];exact hz.pl.2
 have Lpl:=xH1 hr.pl.len;have nst:v.st.n<=1048576:=by rw[hr.st.len];exact hz.st.2
 have Lst:=xH1 hr.st.len;have nse:v.se.n<=1048576:=by rw[hr.se.len];exact hz.se
 have Lse:=xH1 hr.se.len;have non:v.on.n<=1048576:=by rw[hr.on.len];exact hz.on
 have Lon:=xH1 hr.on.len;have ngr:v.gr.n<=1048576:=by rw[hr.gr.len];exact hz.gr
 have Lgr:=xH1 hr.gr.len;have nba:v.ba.n<=1048576:=by rw[hr.ba.len];exact hz.ba
 have Lba:=xH1 hr.ba.len;have nch:v.ch.n<=1048576:=by rw[hr.ch.len];exact hz.ch
 have Lch:=xH1 hr.ch.len;have nsa:v.sa.n<=1048576:=by rw[hr.sa.len];exact hz.sa
 have Lsa:=xH1 hr.sa.len;have HZ:=xH1 hz;have p0:0<v.pl.n:=by rw[hr.pl.len];exact hz.pl.1
 have p1:0<v.st.n:=by rw[hr.st.len];exact hz.st.1
 have HS:=xH1 hr;have F:=((Fr.start w).alloc (svC v) 33).alloc zC 33;simp only[xDe] at F;clear hz hr;go_enter Tryz.func56,Tryz.ntmps56;go_wp2_with fail;obtain⟨u1,hu,F0⟩:=F.named;rw[<-hu];clear hu F;have F:=F0;clear F0
 refine zaJ 16 (by kernel_rfl) (by kernel_rfl) [λdz uz wz=>∃gz:Nat,uz= .slice (some ⟨gz,0,none⟩) 0 0/\wz.ownsRow u1.heap.size 3 1 (.slice (some ⟨gz,0,none⟩) 0 0) 0 [],isV (.pointer (some ⟨w.heap.size,0,none⟩)),isV (.slice v.pl.a v.pl.n v.pl.c),λdz uz wz=>∃(az:Option Addr) (cz:Nat),uz= .slice az v.pl.n cz/\wz.ownsRow u1.heap.size 3 1 (.slice az v.pl.n cz) v.pl.n (ints s.places)/\(v.pl.n=0->cz=0),λdz uz wz=>∃gz:Nat,uz= .slice (some ⟨gz,0,none⟩) 0 0/\wz.ownsRow u1.heap.size 3 1 (.slice (some ⟨gz,0,none⟩) 0 0) 0 [],isV (.pointer (some ⟨w.heap.size,1,none⟩)),isV (.slice v.st.a v.st.n v.st.c),λdz uz wz=>∃(az:Option Addr) (cz:Nat),uz= .slice az v.st.n cz/\wz.ownsRow u1.heap.size 3 1 (.slice az v.st.n cz) v.st.n (ints s.status)/\(v.st.n=0->cz=0),λdz uz wz=>∃gz:Nat,uz= .slice (some ⟨gz,0,none⟩) 0 0/\wz.ownsRow u1.heap.size 3 1 (.slice (some ⟨gz,0,none⟩) 0 0) 0 [],isV (.pointer (some ⟨w.heap.size,7,none⟩)),isV (.slice v.sa.a v.sa.n v.sa.c),λdz uz wz=>∃(az:Option Addr) (cz:Nat),uz= .slice az v.sa.n cz/\wz.ownsRow u1.heap.size 3 1 (.slice az v.sa.n cz) v.sa.n (ints s.said)/\(v.sa.n=0->cz=0),isV (.pointer (some ⟨w.heap.size,8,none⟩)),isV (.int .i64 v.fl),λdz uz wz=>uz=(.agg #[(dz.getD 0 undef),(dz.getD 1 undef),.slice none 0 0,.slice none 0 0,.slice none 0 0,.slice none 0 0,.slice none 0 0,(dz.getD 2 undef),(dz.getD 3 undef)]:Value),λdz uz wz=>∃gz:Nat,uz= .pointer (some ⟨gz,0,none⟩)/\Blk wz gz zC 33/\u1.heap.size<=gz] (λi=>match i with|3=>slBk v.pl.n|7=>slBk v.st.n|11=>slBk v.sa.n|15=>ptBk|_=>λ_=>none) (λw'=>xW u1 w') xB1.drew (zbT ⟨stE,pS,pS,λ_ _ _ _ hb ⟨a,c,e,h,h0⟩=>⟨a,c,e,zf h hb,h0⟩,stE,pS,pS,λ_ _ _ _ hb ⟨a,c,e,h,h0⟩=>⟨a,c,e,zf h hb,h0⟩,stE,pS,pS,λ_ _ _ _ hb ⟨a,c,e,h,h0⟩=>⟨a,c,e,zf h hb,h0⟩,pS,pS,λ_ _ _ _ _ h=>h,stZ,trivial⟩) ?_ ?_
 ·simp only[List.take_succ_cons,List.take_zero];refine⟨?_,?_,?_,?_,?_,?_,?_,?_,?_,?_,?_,?_,?_,?_,?_,?_,trivial⟩
  all_goals (intro ρ w1 hG hfr hd;obtain⟨fc,ff⟩:=fcff hfr;have f1:ρ (.tmp 1)= .pointer (some ⟨w.heap.size,0,none⟩):=hfr _ rfl;have F1:=F.call hG;have cs:=F1.c9 1 rfl;clear F1)
  ·refine zh (u:= .slice (some ⟨w1.heap.size,0,none⟩) 0 0) (w':=w1.alloc (.cells #[] 3)) (by go_simp) ⟨xA1,⟨_,rfl,zl (zJ w1 3 1) hG.size⟩,xN1,hG.alloc hG.size _⟩
  ·exact gvF hG (by go_simp) rfl xN1
  ·obtain⟨d0,-⟩:=hd;have d0:ρ (.tmp 11)=_:=d0;exact gvF hG (by go_simp) rfl xN1
  ·obtain⟨d0,d1,-⟩:=hd;have d0:∃gz:Nat,(ρ (.tmp 10))= .slice (some ⟨gz,0,none⟩) 0 0/\w1.ownsRow u1.heap.size 3 1 (.slice (some ⟨gz,0,none⟩) 0 0) 0 []:=d0;have d1:ρ (.tmp 12)=_:=d1;obtain⟨g,d0,hg⟩:=d0;refine zag _ _ 22 rfl Tryz.underlying22 zM rfl (by decide) d0 hg d1 (by rw[xDf,Lpl.out,Nat.mul_one]) ((F.rd HS.out.pl.rd).below hG) (zaa s.places) (by omega) (by decide) hG.size ?_;intro a c w2 hown hb hf h0;exact⟨hb,⟨a,c,rfl,hown,h0⟩,zeU hown hf,hG.trans (hb.mono hG.size)⟩
  ·refine zh (u:= .slice (some ⟨w1.heap.size,0,none⟩) 0 0) (w':=w1.alloc (.cells #[] 3)) (by go_simp) ⟨xA1,⟨_,rfl,zl (zJ w1 3 1) hG.size⟩,xN1,hG.alloc hG.size _⟩
  ·exact gvF hG (by go_simp) rfl xN1
  ·obtain⟨d0,-⟩:=hd;have d0:ρ (.tmp 15)=_:=d0;exact gvF hG (by go_simp) rfl xN1
  ·obtain⟨d0,d1,d2,-⟩:=hd;have d0:∃gz:Nat,(ρ (.tmp 14))= .slice (some ⟨gz,0,none⟩) 0 0/\w1.ownsRow u1.heap.size 3 1 (.slice (some ⟨gz,0,none⟩) 0 0) 0 []:=d0;have d1:ρ (.tmp 16)=_:=d1;have d2:∃(az:Option Addr) (cz:Nat),(ρ (.tmp 13))= .slice az v.pl.n cz/\w1.ownsRow u1.heap.size 3 1 (.slice az v.pl.n cz) v.pl.n (ints s.places)/\(v.pl.n=0->cz=0):=d2;obtain⟨g,d0,hg⟩:=d0;refine zag _ _ 22 rfl Tryz.underlying22 zM rfl (by decide) d0 hg d1 (by rw[xDf,Lst.out,Nat.mul_one]) ((F.rd HS.out.st.rd).below hG) (zaa s.status) (by omega) (by decide) hG.size ?_;intro a c w2 hown hb hf h0;exact⟨hb,⟨a,c,rfl,hown,h0⟩,zeU hown hf,hG.trans (hb.mono hG.size)⟩
  ·refine zh (u:= .slice (some ⟨w1.heap.size,0,none⟩) 0 0) (w':=w1.alloc (.cells #[] 3)) (by go_simp) ⟨xA1,⟨_,rfl,zl (zJ w1 3 1) hG.size⟩,xN1,hG.alloc hG.size _⟩
  ·exact gvF hG (by go_simp) rfl xN1
  ·obtain⟨d0,-⟩:=hd;have d0:ρ (.tmp 19)=_:=d0;exact gvF hG (by go_simp) rfl xN1
  ·obtain⟨d0,d1,d2,-⟩:=hd;have d0:∃gz:Nat,(ρ (.tmp 18))= .slice (some ⟨gz,0,none⟩) 0 0/\w1.ownsRow u1.heap.size 3 1 (.slice (some ⟨gz,0,none⟩) 0 0) 0 []:=d0;have d1:ρ (.tmp 20)=_:=d1;have d2:∃(az:Option Addr) (cz:Nat),(ρ (.tmp 17))= .slice az v.st.n cz/\w1.ownsRow u1.heap.size 3 1 (.slice az v.st.n cz) v.st.n (ints s.status)/\(v.st.n=0->cz=0):=d2;obtain⟨g,d0,hg⟩:=d0;refine zag _ _ 22 rfl Tryz.underlying22 zM rfl (by decide) d0 hg d1 (by rw[xDf,Lsa.out,Nat.mul_one]) ((F.rd HS.out.sa.rd).below hG) (zaa s.said) (by omega) (by decide) hG.size ?_;intro a c w2 hown hb hf h0;exact⟨hb,⟨a,c,rfl,hown,h0⟩,zeU hown hf,hG.trans (hb.mono hG.size)⟩
  ·exact gvF hG (by go_simp) rfl xN1
  ·obtain⟨d0,-⟩:=hd;have d0:ρ (.tmp 22)=_:=d0;exact gvF hG (by go_simp) rfl xN1
  ·obtain⟨d0,d1,d2,d3,-⟩:=hd;have d0:∃(az:Option Addr) (cz:Nat),(ρ (.tmp 13))= .slice az v.pl.n cz/\w1.ownsRow u1.heap.size 3 1 (.slice az v.pl.n cz) v.pl.n (ints s.places)/\(v.pl.n=0->cz=0):=d0;have d1:∃(az:Option Addr) (cz:Nat),(ρ (.tmp 17))= .slice az v.st.n cz/\w1.ownsRow u1.heap.size 3 1 (.slice az v.st.n cz) v.st.n (ints s.status)/\(v.st.n=0->cz=0):=d1;have d2:∃(az:Option Addr) (cz:Nat),(ρ (.tmp 21))= .slice az v.sa.n cz/\w1.ownsRow u1.heap.size 3 1 (.slice az v.sa.n cz) v.sa.n (ints s.said)/\(v.sa.n=0->cz=0):=d2;have d3:ρ (.tmp 23)=_:=d3;obtain⟨az0,cz0,d0,-,-⟩:=d0;obtain⟨az1,cz1,d1,-,-⟩:=d1;obtain⟨az2,cz2,d2,-,-⟩:=d2;refine zh (u:= .agg #[.slice az0 v.pl.n cz0,.slice az1 v.st.n cz1,.slice none 0 0,.slice none 0 0,.slice none 0 0,.slice none 0 0,.slice none 0 0,.slice az2 v.sa.n cz2,.int .i64 v.fl]) (w':=w1) (by go_simp) ⟨Below.refl _ _,?_,xN1,hG⟩;show Value.agg #[.slice az0 v.pl.n cz0,.slice az1 v.st.n cz1,.slice none 0 0,.slice none 0 0,.slice none 0 0,.slice none 0 0,.slice none 0 0,.slice az2 v.sa.n cz2,.int .i64 v.fl]=(.agg #[(ρ (.tmp 13)),(ρ (.tmp 17)),.slice none 0 0,.slice none 0 0,.slice none 0 0,.slice none 0 0,.slice none 0 0,(ρ (.tmp 21)),(ρ (.tmp 23))]:Value)
   rw[d0,d1,d2,d3]
  ·refine zh (u:= .pointer (some ⟨w1.heap.size,0,none⟩)) (w':=w1.alloc (.cells zC 33)) (by go_simp) ⟨xA1,⟨_,rfl,Blk.new _ _ _,hG.size⟩,zfT _ _,hG.alloc hG.size _⟩
 intro vs w2 hG hlen hall hap hbd;obtain⟨xv0,xv1,xv2,xv3,xv4,xv5,xv6,xv7,xv8,xv9,xv10,xv11,xv12,xv13,xv14,xv15,rfl⟩:=zkL hlen;clear hlen;simp only[List.take_succ_cons,List.take_zero,List.drop_succ_cons,List.drop_zero] at hall⊢;obtain⟨hv0,hv1,hv2,hv3,hv4,hv5,hv6,hv7,hv8,hv9,hv10,hv11,hv12,hv13,hv14,hv15,-⟩:=hall;replace hv0:∃gz:Nat,xv0= .slice (some ⟨gz,0,none⟩) 0 0/\w2.ownsRow u1.heap.size 3 1 (.slice (some ⟨gz,0,none⟩) 0 0) 0 []:=hv0;replace hv3:∃(az:Option Addr) (cz:Nat),xv3= .slice az v.pl.n cz/\w2.ownsRow u1.heap.size 3 1 (.slice az v.pl.n cz) v.pl.n (ints s.places)/\(v.pl.n=0->cz=0):=hv3;replace hv4:∃gz:Nat,xv4= .slice (some ⟨gz,0,none⟩) 0 0/\w2.ownsRow u1.heap.size 3 1 (.slice (some ⟨gz,0,none⟩) 0 0) 0 []:=hv4;replace hv7:∃(az:Option Addr) (cz:Nat),xv7= .slice az v.st.n cz/\w2.ownsRow u1.heap.size 3 1 (.slice az v.st.n cz) v.st.n (ints s.status)/\(v.st.n=0->cz=0):=hv7;replace hv8:∃gz:Nat,xv8= .slice (some ⟨gz,0,none⟩) 0 0/\w2.ownsRow u1.heap.size 3 1 (.slice (some ⟨gz,0,none⟩) 0 0) 0 []:=hv8;replace hv11:∃(az:Option Addr) (cz:Nat),xv11= .slice az v.sa.n cz/\w2.ownsRow u1.heap.size 3 1 (.slice az v.sa.n cz) v.sa.n (ints s.said)/\(v.sa.n=0->cz=0):=hv11
 replace hv14:xv14=(.agg #[xv3,xv7,.slice none 0 0,.slice none 0 0,.slice none 0 0,.slice none 0 0,.slice none 0 0,xv11,xv13]:Value):=hv14;replace hv15:∃gz:Nat,xv15= .pointer (some ⟨gz,0,none⟩)/\Blk w2 gz zC 33/\u1.heap.size<=gz:=hv15;obtain rfl:xv1=_:=hv1;obtain rfl:xv2=_:=hv2;obtain rfl:xv5=_:=hv5;obtain rfl:xv6=_:=hv6;obtain rfl:xv9=_:=hv9;obtain rfl:xv10=_:=hv10;obtain rfl:xv12=_:=hv12;obtain rfl:xv13=_:=hv13;have pv3_7:∀k,(slBk v.pl.n) xv3=some k->(slBk v.st.n) xv7≠some k:=hap 3 7 (by simp) (by simp) (by decide);have pv3_11:∀k,(slBk v.pl.n) xv3=some k->(slBk v.sa.n) xv11≠some k:=hap 3 11 (by simp) (by simp) (by decide);have pv7_11:∀k,(slBk v.st.n) xv7=some k->(slBk v.sa.n) xv11≠some k:=hap 7 11 (by simp) (by simp) (by decide);clear hap hbd;simp only[zap,Act.put,List.setIfInBounds_toArray,List.set_cons_succ,List.set_cons_zero];obtain⟨a1,c1,rfl,o1,z1⟩:=hv3;obtain⟨a2,c2,rfl,o2,z2⟩:=hv7;obtain⟨a8,c8,rfl,o8,z8⟩:=hv11;obtain⟨G,rfl,kG,hG0⟩:=hv15;have dps:∀k,ze a1=some k->ze a2≠some k:=by
  intro k h1 h2;exact pv3_7 k (by simp only[slBk,if_neg (show¬v.pl.n=0 by omega),zO];exact h1) (by simp only[slBk,if_neg (show¬v.st.n=0 by omega),zO];exact h2)
 have dXa:∀{a':Option Addr} {n' c':Nat} {xs:List Value},0<n'->w2.ownsRow u1.heap.size 3 1 (.slice a' n' c') n' xs->(∀k,slBk n' (.slice a' n' c')=some k->slBk v.sa.n (.slice a8 v.sa.n c8)≠some k)->∀k,ze a'=some k->ze a8≠some k:=by
  intro a' n' c' xs hn' ho' hp k h1 h2;by_cases h0:v.sa.n=0
  ·obtain rfl:=z8 h0;exact zjE ho' o8 hn' k h1 h2
  ·exact hp k (by simp only[slBk,if_neg (show¬n'=0 by omega),zO];exact h1) (by simp only[slBk,if_neg h0,zO];exact h2)
 have dpa:=dXa p0 o1 pv3_11;have dsa:=dXa p1 o2 pv7_11;have F2:=F.more hG (i:= .blk G zC 33) ⟨hG0,kG⟩;have hsz:=F.bel.size;have h0:Sf w w2 [.blk G zC 33,.blk (w.heap.size+1) zC 33,.blk w.heap.size (svC v) 33] ⟨⟨a1,v.pl.n,c1⟩,⟨a2,v.st.n,c2⟩,nilV,nilV,nilV,nilV,nilV,⟨a8,v.sa.n,c8⟩,v.fl⟩ ⟨[],[],[],[],[]⟩ (part s 0 0 0 0 0):=by
  refine⟨F2,?_⟩;refine⟨zl o1 hsz,Lpl.out,zl o2 hsz,Lst.out,xDi _ _ _ _,rfl,xDi _ _ _ _,rfl,xDi _ _ _ _,rfl,xDi _ _ _ _,rfl,xDi _ _ _ _,rfl,zl o8 hsz,Lsa.out,HS.out.fl,dps,dpa,dsa,λq hq=>⟨(F2.inside q hq).2,λhm=> ?_⟩,⟨InL.nil,InL.nil,InL.nil,InL.nil,InL.nil⟩⟩;have hB:∃cs,Blk w2 q cs 33:=by
   obtain⟨i,hi,hqi⟩:=List.mem_flatMap.1 hq;simp only[List.mem_cons,xDm,or_false] at hi;rcases hi with rfl|rfl|rfl<;>obtain rfl:=xS1 hqi
   ·exact⟨_,F2.blk 0 rfl⟩
   ·exact⟨_,F2.blk 1 rfl⟩
   ·exact⟨_,F2.blk 2 rfl⟩
  obtain⟨cs,hB⟩:=hB;obtain⟨z,hz,hzk⟩:=xDc.1 hm;simp only[nilV,List.mem_cons,xDm,or_false] at hz;rcases hz with rfl|rfl|rfl|rfl|rfl|rfl|rfl|rfl
  ·exact zab hB o1 (by decide) hzk
  ·exact zab hB o2 (by decide) hzk
  iterate 5 cases hzk
  ·exact zab hB o8 (by decide) hzk
 have co:=h0.c9 0 rfl;have h1:=h0.set9 0 rfl (.slice a1 v.pl.n c1) (.slice a2 v.st.n c2) (.slice none 0 0) (.slice none 0 0) (.slice none 0 0) (.slice none 0 0) (.slice none 0 0) (.slice a8 v.sa.n c8) (.int .i64 v.fl);clear o1 o2 o8 dps dpa dsa dXa pv3_7 pv3_11 pv7_11 kG hG0 F2 F h0 hsz hG z1 z2 z8;go_upto_region 2 with fail;obtain⟨wz,hw,h⟩:=h1.named;rw[<-hw];clear hw h1 co hv14;have HN:=NewB.nil w.heap.size;have cs:=h.c9 2 rfl;go_wp2;clear cs
 go_loopw [4] (λi wr=>∃(k:Nat) (V:StV) (M:StL),k<=v.se.n/\i= .int .i64 k/\Sf w wr (cl3 w G V v) V M (part s k 0 0 0 0)/\NewB w.heap.size M) (λi _=>v.se.n-(intOf i).toNat)
 case atStart=>exact⟨0,⟨⟨a1,v.pl.n,c1⟩,⟨a2,v.st.n,c2⟩,nilV,nilV,nilV,nilV,nilV,⟨a8,v.sa.n,c8⟩,v.fl⟩,_,by omega,rfl,h,HN⟩
 case round=>
  clear h HN;obtain⟨k,V,M,hk,rfl,h,HN⟩:=hrel;have cs:=h.c9 2 rfl;by_cases hlt:k<v.se.n
  ·have hks:k<s.sems.length:=by have:=Lse.out;omega
   obtain⟨x,q,b1,o1,HX,ea,g0,g1,g2,Q0,QL0,QC0⟩:=HS.out.at_se (j:=k) hks;replace g0:=zd h.bel g0;replace g1:=zd h.bel g1;replace g2:=zd h.bel g2;have HEA:=xH1 ea;clear ea;have HVN:Hid (V.se.n=k):=xH1 (by rw[h.st.nse];show(s.sems.take k).length=k;rw[xDp];omega);have HP:Hid (s.sems.take (k+1)=s.sems.take k++[x]):=xH1 (by rw[HX.out];exact(zas _ _ hks).symm);have i0:(0:Int)<=(k:Int):=(by omega);have i1:(k:Int)<(v.se.n:Int):=(by omega);clear hks;go_upto_region 5 with fail;obtain⟨u2,hu⟩:∃u2:World,u2=wr:=⟨_,rfl⟩
   rw[<-hu] at h g0 g1 g2⊢;clear hu cs;have h3:=h;clear h;apply zbc 9 [.k _,.k _,.k _,.k _,.k _,.k _,.k _,.r λdz uz wz=>∃(az:Option Addr) (cz:Nat),uz= .agg #[.int .i64 x.free,.int .i64 x.limit,.slice az q.n cz]/\wz.ownsRow u2.heap.size 167 2 (.slice az q.n cz) q.n (zt x.queue),.r λdz uz wz=>∃(gz:Nat) (az:Option Addr) (cz:Nat),uz= .slice (some ⟨gz,0,none⟩) 1 1/\Blk wz gz #[.int .i64 x.free,.int .i64 x.limit,.slice az q.n cz] 74/\wz.ownsRow u2.heap.size 167 2 (.slice az q.n cz) q.n (zt x.queue)] ⟨λ_ _ _ _ hb ⟨a,c,e,h⟩=>⟨a,c,e,zf h hb⟩,λ_ _ _ _ hb ⟨g,a,c,e,h,h1⟩=>⟨g,a,c,e,h.below hb,zf h1 hb⟩,trivial⟩ ?s1 ?e1
   case s1=>
    repeat' apply And.intro
    all_goals first|trivial|(intro ρ w1 hG hfr hd;obtain⟨fc,ff⟩:=fcff hfr;have f3:=hfr (.tmp 3) rfl;have f1:=hfr (.tmp 1) rfl;have f4:=hfr (.tmp 4) rfl;have F1:=h3.fr.call hG;have co:=F1.c9 0 rfl;have cs:=F1.c9 2 rfl;have g0:=zd hG g0;have g1:=zd hG g1;have g2:=zd hG g2)
    exact rk0;exact rk1;exact rk0;exact rk1;exact rk0
    ·have d:ρ (.tmp _)=_:=hd.1;have d':ρ (.tmp _)=_:=hd.2.1;rw[HEA.out] at d;exact rk0
    exact rk1
    ·obtain⟨d0,-⟩:=hd;have d0:ρ (.tmp 38)=_:=d0;refine zac (by go_simp;exact⟨⟨rfl,rfl⟩,rfl⟩) ?_;refine(zct x q.a q.n q.c _ QL0.out.symm (by rw[QL0.out,HX.out];exact HZ.out.qse k) ((h3.fr.call hG).rd Q0.out)).mono ?_;rintro e w2 ⟨a1,c1,rfl,ho,hb⟩;exact⟨_,rfl,hb,⟨a1,c1,rfl,zl ho hG.size⟩,xN1,hG.trans (hb.mono hG.size)⟩
    ·obtain⟨d0,-⟩:=hd;have d0:∃(az:Option Addr) (cz:Nat),(ρ (.tmp 39))= .agg #[.int .i64 x.free,.int .i64 x.limit,.slice az q.n cz]/\w1.ownsRow u2.heap.size 167 2 (.slice az q.n cz) q.n (zt x.queue):=d0;obtain⟨azz,czz,d0,ho⟩:=d0;have hb:xW w1 (w1.alloc (.cells #[.int .i64 x.free,.int .i64 x.limit,.slice azz q.n czz] 74)):=xA1;refine zh (u:= .slice (some ⟨w1.heap.size,0,none⟩) 1 1) (w':=w1.alloc (.cells #[.int .i64 x.free,.int .i64 x.limit,.slice azz q.n czz] 74)) (by go_simp) ⟨hb,⟨_,azz,czz,rfl,Blk.new _ _ _,zf ho hb⟩,xN1,hG.alloc hG.size _⟩
   intro w2 hG;refine zao ?_;intro xv7 hv7 xv8 hv8;obtain⟨gz,az,cz,rfl,kL,ho⟩:=hv8;have hq:semR (zv (cl3 w G V v)++V.blks) w2 x ⟨az,q.n,cz⟩:=by
    have h9:=h3.apart (SlN.of_owns ho xL1);show SlR _ _ _ _ x.queue.length;rw[<-QL0.out];exact h9
   have HN2:=HN.se1 (x:=x) (q:=⟨az,q.n,cz⟩) (newS.lower (SlN.of_owns ho xL1).new h3.bel.size);have h4:=h3.call hG;have HQ:=xH1 hq;clear hq hG h3 hv7 g0 g1 g2;go_wp2_with (at_builtin;refine h4.app_se rfl _ _ rfl rfl rfl (Rd.of_blk kL) HQ.out (by have:=HVN.out;omega) ?_;intro r W5 h5;have co:=h5.c9 0 rfl;have h6:=(h5.set 0 rfl 2 r.val).sub (l':=cl3 w G {V with se:=r} v) (.refl _))
   go_roundw
   case rel=>exact⟨k+1,_,_,by omega,by go_num,by
    have e:part s (k+1) 0 0 0 0={part s k 0 0 0 0 with sems:=s.sems.take k++[x]}:=by unfold part;rw[HP.out]
    rw[e];exact h6,HN2⟩
   case measure=>simp[intOf];omega
  ·obtain rfl:k=v.se.n:=by omega
   clear hlt hk;go_wp2;clear cs
   go_loopw [5] (λi wr=>∃(k:Nat) (V:StV) (M:StL),k<=v.on.n/\i= .int .i64 k/\Sf w wr (cl3 w G V v) V M (part s v.se.n k 0 0 0)/\NewB w.heap.size M) (λi _=>v.on.n-(intOf i).toNat)
   case atStart=>exact⟨0,V,_,by omega,rfl,h,HN⟩
   case round=>
    clear h HN;obtain⟨k,V,M,hk,rfl,h,HN⟩:=hrel;have cs:=h.c9 2 rfl;by_cases hlt:k<v.on.n
    ·have hks:k<s.onces.length:=by have:=Lon.out;omega
     obtain⟨x,q,b1,o1,HX,ea,g0,g1,g2,g3,Q0,QL0,QC0⟩:=HS.out.at_on (j:=k) hks;replace g0:=zd h.bel g0;replace g1:=zd h.bel g1;replace g2:=zd h.bel g2;replace g3:=zd h.bel g3;have HEA:=xH1 ea;clear ea;have HVN:Hid (V.on.n=k):=xH1 (by rw[h.st.non];show(s.onces.take k).length=k;rw[xDp];omega);have HP:Hid (s.onces.take (k+1)=s.onces.take k++[x]):=xH1 (by rw[HX.out];exact(zas _ _ hks).symm);have i0:(0:Int)<=(k:Int):=(by omega);have i1:(k:Int)<(v.on.n:Int):=(by omega);clear hks;go_upto_region 9 with fail;obtain⟨u2,hu⟩:∃u2:World,u2=wr:=⟨_,rfl⟩
     rw[<-hu] at h g0 g1 g2 g3⊢;clear hu cs;have h3:=h;clear h;apply zbc 9 [.k _,.k _,.k _,.k _,.k _,.k _,.k _,.r λdz uz wz=>∃(az:Option Addr) (cz:Nat),uz= .agg #[.int .i64 x.state,.int .i64 x.owner,.int .i64 x.value,.slice az q.n cz]/\wz.ownsRow u2.heap.size 3 1 (.slice az q.n cz) q.n (ints x.waits),.r λdz uz wz=>∃(gz:Nat) (az:Option Addr) (cz:Nat),uz= .slice (some ⟨gz,0,none⟩) 1 1/\Blk wz gz #[.int .i64 x.state,.int .i64 x.owner,.int .i64 x.value,.slice az q.n cz] 78/\wz.ownsRow u2.heap.size 3 1 (.slice az q.n cz) q.n (ints x.waits)] ⟨λ_ _ _ _ hb ⟨a,c,e,h⟩=>⟨a,c,e,zf h hb⟩,λ_ _ _ _ hb ⟨g,a,c,e,h,h1⟩=>⟨g,a,c,e,h.below hb,zf h1 hb⟩,trivial⟩ ?s2 ?e2
     case s2=>
      repeat' apply And.intro
      all_goals first|trivial|(intro ρ w1 hG hfr hd;obtain⟨fc,ff⟩:=fcff hfr;have f3:=hfr (.tmp 3) rfl;have f1:=hfr (.tmp 1) rfl;have f5:=hfr (.tmp 5) rfl;have F1:=h3.fr.call hG;have co:=F1.c9 0 rfl;have cs:=F1.c9 2 rfl;have g0:=zd hG g0;have g1:=zd hG g1;have g2:=zd hG g2;have g3:=zd hG g3)
      exact rk0;exact rk1;exact rk0;exact rk1;exact rk0
      ·have d:ρ (.tmp _)=_:=hd.1;have d':ρ (.tmp _)=_:=hd.2.1;rw[HEA.out] at d;exact rk0
      exact rk1
      ·obtain⟨d0,-⟩:=hd;have d0:ρ (.tmp 56)=_:=d0;refine zac (by go_simp;exact⟨⟨rfl,rfl⟩,rfl⟩) ?_;refine(zcj x q.a q.n q.c _ QL0.out.symm (by rw[QL0.out,HX.out];exact HZ.out.qon k) ((h3.fr.call hG).rd Q0.out)).mono ?_;rintro e w2 ⟨a1,c1,rfl,ho,hb⟩;exact⟨_,rfl,hb,⟨a1,c1,rfl,zl ho hG.size⟩,xN1,hG.trans (hb.mono hG.size)⟩
      ·obtain⟨d0,-⟩:=hd;have d0:∃(az:Option Addr) (cz:Nat),(ρ (.tmp 57))= .agg #[.int .i64 x.state,.int .i64 x.owner,.int .i64 x.value,.slice az q.n cz]/\w1.ownsRow u2.heap.size 3 1 (.slice az q.n cz) q.n (ints x.waits):=d0;obtain⟨azz,czz,d0,ho⟩:=d0;have hb:xW w1 (w1.alloc (.cells #[.int .i64 x.state,.int .i64 x.owner,.int .i64 x.value,.slice azz q.n czz] 78)):=xA1;refine zh (u:= .slice (some ⟨w1.heap.size,0,none⟩) 1 1) (w':=w1.alloc (.cells #[.int .i64 x.state,.int .i64 x.owner,.int .i64 x.value,.slice azz q.n czz] 78)) (by go_simp) ⟨hb,⟨_,azz,czz,rfl,Blk.new _ _ _,zf ho hb⟩,xN1,hG.alloc hG.size _⟩
     intro w2 hG;refine zao ?_;intro xv7 hv7 xv8 hv8;obtain⟨gz,az,cz,rfl,kL,ho⟩:=hv8;have hq:zda (zv (cl3 w G V v)++V.blks) w2 x ⟨az,q.n,cz⟩:=by
      have h9:=h3.apart (SlN.of_owns ho xL1);show SlR _ _ _ _ x.waits.length;rw[<-QL0.out];exact h9
     have HN2:=HN.on1 (x:=x) (q:=⟨az,q.n,cz⟩) (newS.lower (SlN.of_owns ho xL1).new h3.bel.size);have h4:=h3.call hG;have HQ:=xH1 hq;clear hq hG h3 hv7 g0 g1 g2 g3;go_wp2_with (at_builtin;refine h4.app_on rfl _ _ rfl rfl rfl (Rd.of_blk kL) HQ.out (by have:=HVN.out;omega) ?_;intro r W5 h5;have co:=h5.c9 0 rfl;have h6:=(h5.set 0 rfl 3 r.val).sub (l':=cl3 w G {V with on:=r} v) (.refl _))
     go_roundw
     case rel=>exact⟨k+1,_,_,by omega,by go_num,by
      have e:part s v.se.n (k+1) 0 0 0={part s v.se.n k 0 0 0 with onces:=s.onces.take k++[x]}:=by unfold part;rw[HP.out]
      rw[e];exact h6,HN2⟩
     case measure=>simp[intOf];omega
    ·obtain rfl:k=v.on.n:=by omega
     clear hlt hk;go_wp2;clear cs
     go_loopw [6] (λi wr=>∃(k:Nat) (V:StV) (M:StL),k<=v.gr.n/\i= .int .i64 k/\Sf w wr (cl3 w G V v) V M (part s v.se.n v.on.n k 0 0)/\NewB w.heap.size M) (λi _=>v.gr.n-(intOf i).toNat)
     case atStart=>exact⟨0,V,_,by omega,rfl,h,HN⟩
     case round=>
      clear h HN;obtain⟨k,V,M,hk,rfl,h,HN⟩:=hrel;have cs:=h.c9 2 rfl;by_cases hlt:k<v.gr.n
      ·have hks:k<s.groups.length:=by have:=Lgr.out;omega
       obtain⟨x,q,b1,o1,HX,ea,g0,g1,Q0,QL0,QC0⟩:=HS.out.at_gr (j:=k) hks;replace g0:=zd h.bel g0;replace g1:=zd h.bel g1;have HEA:=xH1 ea;clear ea;have HVN:Hid (V.gr.n=k):=xH1 (by rw[h.st.ngr];show(s.groups.take k).length=k;rw[xDp];omega);have HP:Hid (s.groups.take (k+1)=s.groups.take k++[x]):=xH1 (by rw[HX.out];exact(zas _ _ hks).symm);have i0:(0:Int)<=(k:Int):=(by omega);have i1:(k:Int)<(v.gr.n:Int):=(by omega);clear hks;go_upto_region 13 with fail;obtain⟨u2,hu⟩:∃u2:World,u2=wr:=⟨_,rfl⟩
       rw[<-hu] at h g0 g1⊢;clear hu cs;have h3:=h;clear h;apply zbc 18 [.k _,.k _,.k _,.k _,.k _,.k _,.k _,.k _,.r (rqE u2.heap.size 3 1),.k _,.k _,.k _,.k _,.k _,.k _,.r (rqA u2.heap.size 3 1 (q.n) (ints x.waits)),.r λdz uz wz=>∃(az:Option Addr) (cz:Nat),uz= .agg #[.int .i64 x.count,.slice az q.n cz]/\wz.ownsRow u2.heap.size 3 1 (.slice az q.n cz) q.n (ints x.waits),.r λdz uz wz=>∃(gz:Nat) (az:Option Addr) (cz:Nat),uz= .slice (some ⟨gz,0,none⟩) 1 1/\Blk wz gz #[.int .i64 x.count,.slice az q.n cz] 80/\wz.ownsRow u2.heap.size 3 1 (.slice az q.n cz) q.n (ints x.waits)] ⟨stE,stA,λ_ _ _ _ hb ⟨a,c,e,h⟩=>⟨a,c,e,zf h hb⟩,λ_ _ _ _ hb ⟨g,a,c,e,h,h1⟩=>⟨g,a,c,e,h.below hb,zf h1 hb⟩,trivial⟩ ?s3 ?e3
       case s3=>
        repeat' apply And.intro
        all_goals first|trivial|(intro ρ w1 hG hfr hd;obtain⟨fc,ff⟩:=fcff hfr;have f3:=hfr (.tmp 3) rfl;have f1:=hfr (.tmp 1) rfl;have f6:=hfr (.tmp 6) rfl;have F1:=h3.fr.call hG;have co:=F1.c9 0 rfl;have cs:=F1.c9 2 rfl;have g0:=zd hG g0;have g1:=zd hG g1)
        exact rk0;exact rk1;exact rk0;exact rk1;exact rk0
        ·have d:ρ (.tmp _)=_:=hd.1;have d':ρ (.tmp _)=_:=hd.2.1;rw[HEA.out] at d;exact rk0
        exact rk1;exact rk1;exact rkE;exact rk0;exact rk1;exact rk0
        ·have d:ρ (.tmp _)=_:=hd.1;have d':ρ (.tmp _)=_:=hd.2.1;rw[HEA.out] at d;exact rk0
        exact rk1;exact rk1
        ·have d:ρ (.tmp _)=_:=hd.2.1;have hq9:q.n<=1048576:=by rw[QL0.out,HX.out];have:=HZ.out.qgr k;omega
         exact gkA hG _ _ 22 rfl Tryz.underlying22 zM rfl (by decide) hd.1 d (by rw[xDf,QL0.out,Nat.mul_one]) ((h3.fr.call hG).rd Q0.out) (zaa x.waits) (by omega) (by decide) (λ_ _ h=>h)
        ·obtain⟨d0,d1,-⟩:=hd;have d0:ρ (.tmp 75)=_:=d0;have d1:∃(az:Option Addr) (cz:Nat),(ρ (.tmp 83))= .slice az q.n cz/\w1.ownsRow u2.heap.size 3 1 (.slice az q.n cz) q.n (ints x.waits)/\(q.n=0->cz=0):=d1;obtain⟨azz,czz,d1,ho,-⟩:=d1;exact gvF hG (by go_simp) ⟨azz,czz,rfl,ho⟩ xN1
        ·obtain⟨d0,-⟩:=hd;have d0:∃(az:Option Addr) (cz:Nat),(ρ (.tmp 84))= .agg #[.int .i64 x.count,.slice az q.n cz]/\w1.ownsRow u2.heap.size 3 1 (.slice az q.n cz) q.n (ints x.waits):=d0;obtain⟨azz,czz,d0,ho⟩:=d0;have hb:xW w1 (w1.alloc (.cells #[.int .i64 x.count,.slice azz q.n czz] 80)):=xA1;refine zh (u:= .slice (some ⟨w1.heap.size,0,none⟩) 1 1) (w':=w1.alloc (.cells #[.int .i64 x.count,.slice azz q.n czz] 80)) (by go_simp) ⟨hb,⟨_,azz,czz,rfl,Blk.new _ _ _,zf ho hb⟩,xN1,hG.alloc hG.size _⟩
       intro w2 hG;refine zao ?_;intro xv8 hv8 xv15 hv15 xv16 hv16 xv17 hv17;obtain⟨gz,az,cz,rfl,kL,ho⟩:=hv17;have hq:grpR (zv (cl3 w G V v)++V.blks) w2 x ⟨az,q.n,cz⟩:=by
        have h9:=h3.apart (SlN.of_owns ho xL1);show SlR _ _ _ _ x.waits.length;rw[<-QL0.out];exact h9
       have HN2:=HN.gr1 (x:=x) (q:=⟨az,q.n,cz⟩) (newS.lower (SlN.of_owns ho xL1).new h3.bel.size);have h4:=h3.call hG;have HQ:=xH1 hq;clear hq hG h3 hv16 g0 g1;go_wp2_with (at_builtin;refine h4.app_gr rfl _ _ rfl rfl rfl (Rd.of_blk kL) HQ.out (by have:=HVN.out;omega) ?_;intro r W5 h5;have co:=h5.c9 0 rfl;have h6:=(h5.set 0 rfl 4 r.val).sub (l':=cl3 w G {V with gr:=r} v) (.refl _))
       go_roundw
       case rel=>exact⟨k+1,_,_,by omega,by go_num,by
        have e:part s v.se.n v.on.n (k+1) 0 0={part s v.se.n v.on.n k 0 0 with groups:=s.groups.take k++[x]}:=by unfold part;rw[HP.out]
        rw[e];exact h6,HN2⟩
       case measure=>simp[intOf];omega
      ·obtain rfl:k=v.gr.n:=by omega
       clear hlt hk;go_wp2;clear cs
       go_loopw [7] (λi wr=>∃(k:Nat) (V:StV) (M:StL),k<=v.ba.n/\i= .int .i64 k/\Sf w wr (cl3 w G V v) V M (part s v.se.n v.on.n v.gr.n k 0)/\NewB w.heap.size M) (λi _=>v.ba.n-(intOf i).toNat)
       case atStart=>exact⟨0,V,_,by omega,rfl,h,HN⟩
       case round=>
        clear h HN;obtain⟨k,V,M,hk,rfl,h,HN⟩:=hrel;have cs:=h.c9 2 rfl;by_cases hlt:k<v.ba.n
        ·have hks:k<s.bars.length:=by have:=Lba.out;omega
         obtain⟨x,q,b1,o1,HX,ea,g0,g1,g2,Q0,QL0,QC0⟩:=HS.out.at_ba (j:=k) hks;replace g0:=zd h.bel g0;replace g1:=zd h.bel g1;replace g2:=zd h.bel g2;have HEA:=xH1 ea;clear ea;have HVN:Hid (V.ba.n=k):=xH1 (by rw[h.st.nba];show(s.bars.take k).length=k;rw[xDp];omega);have HP:Hid (s.bars.take (k+1)=s.bars.take k++[x]):=xH1 (by rw[HX.out];exact(zas _ _ hks).symm);have i0:(0:Int)<=(k:Int):=(by omega);have i1:(k:Int)<(v.ba.n:Int):=(by omega);clear hks;have ea:=HEA.out;rw[ea] at cs;have h2:=h.alloc #[.int .i64 x.parties,.int .i64 x.round,.slice q.a q.n q.c] 82;have cx:=h2.c3 0 rfl;go_upto_region 18 with fail;obtain⟨u2,hu,h3⟩:=h2.named;rw[<-hu];clear hu h2 h cx cs ea g0 g1 g2
         apply zbc 12 [.k _,.k _,.k _,.k _,.k _,.k _,.r (rqE u2.heap.size 3 1),.k _,.k _,.r (rqA u2.heap.size 3 1 (q.n) (ints x.waits)),.r λdz uz wz=>∃(az:Option Addr) (cz:Nat),uz= .agg #[.int .i64 x.parties,.int .i64 x.round,.slice az q.n cz]/\wz.ownsRow u2.heap.size 3 1 (.slice az q.n cz) q.n (ints x.waits),.r λdz uz wz=>∃(gz:Nat) (az:Option Addr) (cz:Nat),uz= .slice (some ⟨gz,0,none⟩) 1 1/\Blk wz gz #[.int .i64 x.parties,.int .i64 x.round,.slice az q.n cz] 82/\wz.ownsRow u2.heap.size 3 1 (.slice az q.n cz) q.n (ints x.waits)] ⟨stE,stA,λ_ _ _ _ hb ⟨a,c,e,h⟩=>⟨a,c,e,zf h hb⟩,λ_ _ _ _ hb ⟨g,a,c,e,h,h1⟩=>⟨g,a,c,e,h.below hb,zf h1 hb⟩,trivial⟩ ?s4 ?e4
         case s4=>
          repeat' apply And.intro
          all_goals first|trivial|(intro ρ w1 hG hfr hd;obtain⟨fc,ff⟩:=fcff hfr;have f3:=hfr (.tmp 3) rfl;have f8:=hfr (.tmp 8) rfl;have F1:=h3.fr.call hG;have co:=F1.c9 1 rfl;have cx:=F1.c3 0 rfl;clear F1)
          exact rk0;exact rk1;exact rk0;exact rk1;exact rk0;exact rk1;exact rkE;exact rk0;exact rk1
          ·have d:ρ (.tmp _)=_:=hd.2.1;have hq9:q.n<=1048576:=by rw[QL0.out,HX.out];have:=HZ.out.qba k;omega
           exact gkA hG _ _ 22 rfl Tryz.underlying22 zM rfl (by decide) hd.1 d (by rw[xDf,QL0.out,Nat.mul_one]) ((h3.fr.call hG).rd Q0.out) (zaa x.waits) (by omega) (by decide) (λ_ _ h=>h)
          ·obtain⟨d0,d1,d2,-⟩:=hd;have d0:ρ (.tmp 103)=_:=d0;have d1:ρ (.tmp 105)=_:=d1;have d2:∃(az:Option Addr) (cz:Nat),(ρ (.tmp 109))= .slice az q.n cz/\w1.ownsRow u2.heap.size 3 1 (.slice az q.n cz) q.n (ints x.waits)/\(q.n=0->cz=0):=d2;obtain⟨azz,czz,d2,ho,-⟩:=d2;exact gvF hG (by go_simp) ⟨azz,czz,rfl,ho⟩ xN1
          ·obtain⟨d0,-⟩:=hd;have d0:∃(az:Option Addr) (cz:Nat),(ρ (.tmp 110))= .agg #[.int .i64 x.parties,.int .i64 x.round,.slice az q.n cz]/\w1.ownsRow u2.heap.size 3 1 (.slice az q.n cz) q.n (ints x.waits):=d0;obtain⟨azz,czz,d0,ho⟩:=d0;have hb:xW w1 (w1.alloc (.cells #[.int .i64 x.parties,.int .i64 x.round,.slice azz q.n czz] 82)):=xA1;refine zh (u:= .slice (some ⟨w1.heap.size,0,none⟩) 1 1) (w':=w1.alloc (.cells #[.int .i64 x.parties,.int .i64 x.round,.slice azz q.n czz] 82)) (by go_simp) ⟨hb,⟨_,azz,czz,rfl,Blk.new _ _ _,zf ho hb⟩,xN1,hG.alloc hG.size _⟩
         intro w2 hG;refine zao ?_;intro xv6 hv6 xv9 hv9 xv10 hv10 xv11 hv11;obtain⟨gz,az,cz,rfl,kL,ho⟩:=hv11;have hq:barR (zv (.blk wr.heap.size #[.int .i64 x.parties,.int .i64 x.round,.slice q.a q.n q.c] 82::cl3 w G V v)++V.blks) w2 x ⟨az,q.n,cz⟩:=by
          have h9:=h3.apart (SlN.of_owns ho xL1);show SlR _ _ _ _ x.waits.length;rw[<-QL0.out];exact h9
         have HN2:=HN.ba1 (x:=x) (q:=⟨az,q.n,cz⟩) (newS.lower (SlN.of_owns ho xL1).new h3.bel.size);have h4:=h3.call hG;have HQ:=xH1 hq;clear hq hG h3 hv10;go_wp2_with (at_builtin;refine h4.app_ba rfl _ _ rfl rfl rfl (Rd.of_blk kL) HQ.out (by have:=HVN.out;omega) ?_;intro r W5 h5;have co:=h5.c9 1 rfl;have h6:=(h5.set 1 rfl 5 r.val).sub (l':=cl3 w G {V with ba:=r} v) (.cons _ (.refl _)))
         go_roundw
         case rel=>exact⟨k+1,_,_,by omega,by go_num,by
          have e:part s v.se.n v.on.n v.gr.n (k+1) 0={part s v.se.n v.on.n v.gr.n k 0 with bars:=s.bars.take k++[x]}:=by unfold part;rw[HP.out]
          rw[e];exact h6,HN2⟩
         case measure=>simp[intOf];omega
        ·obtain rfl:k=v.ba.n:=by omega
         clear hlt hk;go_wp2;clear cs
         go_loopw [9] (λi wr=>∃(k:Nat) (V:StV) (M:StL),k<=v.ch.n/\i= .int .i64 k/\Sf w wr (cl3 w G V v) V M (part s v.se.n v.on.n v.gr.n v.ba.n k)/\NewB w.heap.size M) (λi _=>v.ch.n-(intOf i).toNat)
         case atStart=>exact⟨0,V,_,by omega,rfl,h,HN⟩
         case round=>
          clear h HN;obtain⟨k,V,M,hk,rfl,h,HN⟩:=hrel;have cs:=h.c9 2 rfl;by_cases hlt:k<v.ch.n
          ·have hks:k<s.chans.length:=by have:=Lch.out;omega
           obtain⟨x,q,b1,o1,HX,ea,g0,g1,g2,g3,g4,Q0,QL0,QC0,Q1,QL1,QC1,Q2,QL2,QC2⟩:=HS.out.at_ch (j:=k) hks;replace g0:=zd h.bel g0;replace g1:=zd h.bel g1;replace g2:=zd h.bel g2;replace g3:=zd h.bel g3;replace g4:=zd h.bel g4;have HEA:=xH1 ea;clear ea;have HVN:Hid (V.ch.n=k):=xH1 (by rw[h.st.nch];show(s.chans.take k).length=k;rw[xDp];omega);have HP:Hid (s.chans.take (k+1)=s.chans.take k++[x]):=xH1 (by rw[HX.out];exact(zas _ _ hks).symm);have i0:(0:Int)<=(k:Int):=(by omega);have i1:(k:Int)<(v.ch.n:Int):=(by omega);clear hks;go_upto_region 22 with fail;obtain⟨u2,hu⟩:∃u2:World,u2=wr:=⟨_,rfl⟩
           rw[<-hu] at h g0 g1 g2 g3 g4⊢;clear hu cs;have h3:=h;clear h;apply zbc 9 [.k _,.k _,.k _,.k _,.k _,.k _,.k _,.r λdz uz wz=>∃(bi bs bg:Option Addr) (di ds dg:Nat),uz= .agg #[.int .i64 x.room,.slice bi q.1.n di,.slice bs q.2.1.n ds,.slice bg q.2.2.n dg,.bool x.closed]/\wz.ownsRow u2.heap.size 3 1 (.slice bi q.1.n di) q.1.n (ints x.items)/\wz.ownsRow u2.heap.size 187 2 (.slice bs q.2.1.n ds) q.2.1.n (zt x.senders)/\wz.ownsRow u2.heap.size 3 1 (.slice bg q.2.2.n dg) q.2.2.n (ints x.getters),.r λdz uz wz=>∃(gz:Nat) (bi bs bg:Option Addr) (di ds dg:Nat),uz= .slice (some ⟨gz,0,none⟩) 1 1/\Blk wz gz #[.int .i64 x.room,.slice bi q.1.n di,.slice bs q.2.1.n ds,.slice bg q.2.2.n dg,.bool x.closed] 87/\wz.ownsRow u2.heap.size 3 1 (.slice bi q.1.n di) q.1.n (ints x.items)/\wz.ownsRow u2.heap.size 187 2 (.slice bs q.2.1.n ds) q.2.1.n (zt x.senders)/\wz.ownsRow u2.heap.size 3 1 (.slice bg q.2.2.n dg) q.2.2.n (ints x.getters)] ⟨λ_ _ _ _ hb ⟨a,b,c,d1,d2,d3,e,h1,h2,h3⟩=>⟨a,b,c,d1,d2,d3,e,zf h1 hb,zf h2 hb,zf h3 hb⟩,λ_ _ _ _ hb ⟨g,a,b,c,d1,d2,d3,e,h,h1,h2,h3⟩=>⟨g,a,b,c,d1,d2,d3,e,h.below hb,zf h1 hb,zf h2 hb,zf h3 hb⟩,trivial⟩ ?s5 ?e5
           case s5=>
            repeat' apply And.intro
            all_goals first|trivial|(intro ρ w1 hG hfr hd;obtain⟨fc,ff⟩:=fcff hfr;have f3:=hfr (.tmp 3) rfl;have f1:=hfr (.tmp 1) rfl;have f9:=hfr (.tmp 9) rfl;have F1:=h3.fr.call hG;have co:=F1.c9 0 rfl;have cs:=F1.c9 2 rfl;have g0:=zd hG g0;have g1:=zd hG g1;have g2:=zd hG g2;have g3:=zd hG g3;have g4:=zd hG g4)
            exact rk0;exact rk1;exact rk0;exact rk1;exact rk0
            ·have d:ρ (.tmp _)=_:=hd.1;have d':ρ (.tmp _)=_:=hd.2.1;rw[HEA.out] at d;exact rk0
            exact rk1
            ·obtain⟨d0,-⟩:=hd;have d0:ρ (.tmp 127)=_:=d0;refine zac (by go_simp;exact⟨⟨rfl,rfl⟩,rfl⟩) ?_;refine(zfS x q.1.a q.2.1.a q.2.2.a q.1.n q.1.c q.2.1.n q.2.1.c q.2.2.n q.2.2.c _ QL0.out.symm QL1.out.symm QL2.out.symm (by rw[QL0.out,HX.out];exact(HZ.out.qch k).1) (by rw[QL1.out,HX.out];exact(HZ.out.qch k).2.1) (by rw[QL2.out,HX.out];exact(HZ.out.qch k).2.2) ((h3.fr.call hG).rd Q0.out) ((h3.fr.call hG).rd Q1.out) ((h3.fr.call hG).rd Q2.out)).mono ?_;rintro e w2 ⟨bi,bs,bg,di,ds,dg,rfl,o1,o2,o3,hb⟩;exact⟨_,rfl,hb,⟨bi,bs,bg,di,ds,dg,rfl,zl o1 hG.size,zl o2 hG.size,zl o3 hG.size⟩,xN1,hG.trans (hb.mono hG.size)⟩
            ·obtain⟨d0,-⟩:=hd;have d0:∃(bi bs bg:Option Addr) (di ds dg:Nat),(ρ (.tmp 128))= .agg #[.int .i64 x.room,.slice bi q.1.n di,.slice bs q.2.1.n ds,.slice bg q.2.2.n dg,.bool x.closed]/\w1.ownsRow u2.heap.size 3 1 (.slice bi q.1.n di) q.1.n (ints x.items)/\w1.ownsRow u2.heap.size 187 2 (.slice bs q.2.1.n ds) q.2.1.n (zt x.senders)/\w1.ownsRow u2.heap.size 3 1 (.slice bg q.2.2.n dg) q.2.2.n (ints x.getters):=d0;obtain⟨bi,bs,bg,di,ds,dg,d0,o1,o2,o3⟩:=d0;have hb:xW w1 (w1.alloc (.cells #[.int .i64 x.room,.slice bi q.1.n di,.slice bs q.2.1.n ds,.slice bg q.2.2.n dg,.bool x.closed] 87)):=xA1;refine zh (u:= .slice (some ⟨w1.heap.size,0,none⟩) 1 1) (w':=w1.alloc (.cells #[.int .i64 x.room,.slice bi q.1.n di,.slice bs q.2.1.n ds,.slice bg q.2.2.n dg,.bool x.closed] 87)) (by go_simp) ⟨hb,⟨_,bi,bs,bg,di,ds,dg,rfl,Blk.new _ _ _,zf o1 hb,zf o2 hb,zf o3 hb⟩,xN1,hG.alloc hG.size _⟩
           intro w2 hG;refine zao ?_;intro xv7 hv7 xv8 hv8;obtain⟨gz,bi,bs,bg,di,ds,dg,rfl,kL,o1,o2,o3⟩:=hv8;have hq:chnR (zv (cl3 w G V v)++V.blks) w2 x (⟨bi,q.1.n,di⟩,⟨bs,q.2.1.n,ds⟩,⟨bg,q.2.2.n,dg⟩):=⟨by rw[<-QL0.out];exact h3.apart (SlN.of_owns o1 xL1),by rw[<-QL1.out];exact h3.apart (SlN.of_owns o2 xL1),by rw[<-QL2.out];exact h3.apart (SlN.of_owns o3 xL1)⟩
           have HN2:=HN.ch1 (x:=x) (q:=(⟨bi,q.1.n,di⟩,⟨bs,q.2.1.n,ds⟩,⟨bg,q.2.2.n,dg⟩)) ⟨newS.lower (SlN.of_owns o1 xL1).new h3.bel.size,newS.lower (SlN.of_owns o2 xL1).new h3.bel.size,newS.lower (SlN.of_owns o3 xL1).new h3.bel.size⟩;have h4:=h3.call hG;have HQ:=xH1 hq;clear hq hG h3 hv7 g0 g1 g2 g3 g4;go_wp2_with (at_builtin;refine h4.app_ch rfl _ _ rfl rfl rfl (Rd.of_blk kL) HQ.out (by have:=HVN.out;omega) ?_;intro r W5 h5;have co:=h5.c9 0 rfl;have h6:=(h5.set 0 rfl 6 r.val).sub (l':=cl3 w G {V with ch:=r} v) (.refl _))
           go_roundw
           case rel=>exact⟨k+1,_,_,by omega,by go_num,by
            have e:part s v.se.n v.on.n v.gr.n v.ba.n (k+1)={part s v.se.n v.on.n v.gr.n v.ba.n k with chans:=s.chans.take k++[x]}:=by unfold part;rw[HP.out]
            rw[e];exact h6,HN2⟩
           case measure=>simp[intOf];omega
          ·obtain rfl:k=v.ch.n:=by omega
           clear hlt hk;have co:=h.c9 0 rfl;have cr:=h.c9 1 rfl;have hp:part s v.se.n v.on.n v.gr.n v.ba.n v.ch.n=s:=by rw[Lse.out,Lon.out,Lgr.out,Lba.out,Lch.out];exact zhV s
           rw[hp] at h;have h7:=h.setV 1 rfl V;go_wp2;exact xDd (v:=V.val) (by simp[results,Tryz.results56,go_sem,h7.c9 1 rfl]) rfl ⟨V,M,rfl,h7.st.sub (by simp),HN,h7.bel⟩
end Go.Proofs.YtnlijgjpgdjpiaaGreat
namespace Go.Proofs.YtnlijgjpgdjpiaaGreat
open Go.RowKit Go.Sort
theorem zhD (u:PV) (p:Pg) (v:StV) (L:StL) (s:StD) (w:World) (hp:RdP w u p) (hv:zu p=true) (hr:StR w v L s) (hf:zW p s):
  Calls Tryz.prog 95 #[.agg #[.slice u.s u.ns u.cs,.slice u.g u.ng u.cg,.slice u.b u.nb u.cb,.slice u.r u.nr u.cr,.slice u.t u.nt u.ct],.agg #[.slice v.pl.a v.pl.n v.pl.c,.slice v.st.a v.st.n v.st.c,.slice v.se.a v.se.n v.se.c,.slice v.on.a v.on.n v.on.c,.slice v.gr.a v.gr.n v.gr.c,.slice v.ba.a v.ba.n v.ba.c,.slice v.ch.a v.ch.n v.ch.c,.slice v.sa.a v.sa.n v.sa.c,.int .i64 v.fl]] w λe w'=>e= .returned (.bool true)/\Below w.heap.size w w':=by
 have HS:=xH1 hr;have HP:=xH1 hp;have HF:=xH1 hf;obtain⟨z1,z2,z3,z4,-,-⟩:=zR hv;have es:v.se.n=u.ns:=by rw[hr.se.len,hf.nse,hp.ls]
 have eg:v.gr.n=u.ng:=by rw[hr.gr.len,hf.ngr,hp.lg]
 have eb:v.ba.n=u.nb:=by rw[hr.ba.len,hf.nba,hp.lb]
 have ec:v.ch.n=u.nr:=by rw[hr.ch.len,hf.nch,hp.lr]
 have eo:v.on.n=3:=by rw[hr.on.len,hf.non]
 have m1:((v.se.n:Int) !=(u.ns:Int))=false:=by rw[es];simp
 have m2:((v.on.n:Int) !=3)=false:=by rw[eo];rfl
 have m3:((v.gr.n:Int) !=(u.ng:Int))=false:=by rw[eg];simp
 have m4:((v.ba.n:Int) !=(u.nb:Int))=false:=by rw[eb];simp
 have m5:((v.ch.n:Int) !=(u.nr:Int))=false:=by rw[ec];simp
 have Lse:=xH1 hr.se.len;have Lon:=xH1 hr.on.len;have Lgr:=xH1 hr.gr.len;have Lba:=xH1 hr.ba.len;have Lch:=xH1 hr.ch.len;have Es:=xH1 es;have Eb:=xH1 eb;have Ec:=xH1 ec;have zse:v.se.n<=3:=by rw[es,<-hp.ls];exact z1
 have zgr:v.gr.n<=3:=by rw[eg,<-hp.lg];exact z2
 have zba:v.ba.n<=3:=by rw[eb,<-hp.lb];exact z3
 have zch:v.ch.n<=3:=by rw[ec,<-hp.lr];exact z4
 have zon:v.on.n<=3:=by omega
 clear es eg eb ec eo hr hp hf hv z1 z2 z3 z4;obtain⟨W0,hW0⟩:∃W0:World,W0=((w.alloc (.cells #[.slice u.s u.ns u.cs,.slice u.g u.ng u.cg,.slice u.b u.nb u.cb,.slice u.r u.nr u.cr,.slice u.t u.nt u.ct] 40)).alloc (.cells #[.slice v.pl.a v.pl.n v.pl.c,.slice v.st.a v.st.n v.st.c,.slice v.se.a v.se.n v.se.c,.slice v.on.a v.on.n v.on.c,.slice v.gr.a v.gr.n v.gr.c,.slice v.ba.a v.ba.n v.ba.c,.slice v.ch.a v.ch.n v.ch.c,.slice v.sa.a v.sa.n v.sa.c,.int .i64 v.fl] 33)):=⟨_,rfl⟩
 have B0:Below w.heap.size w W0:=by
  rw[hW0];exact((xB1.alloc (by simp) _).alloc (by simp) _)
 have kP:Blk W0 (w.heap.size) #[.slice u.s u.ns u.cs,.slice u.g u.ng u.cg,.slice u.b u.nb u.cb,.slice u.r u.nr u.cr,.slice u.t u.nt u.ct] 40:=by
  rw[hW0];have h:=Blk.new w #[.slice u.s u.ns u.cs,.slice u.g u.ng u.cg,.slice u.b u.nb u.cb,.slice u.r u.nr u.cr,.slice u.t u.nt u.ct] 40;exact h|>.alloc _
 have kS:Blk W0 (w.heap.size+1) #[.slice v.pl.a v.pl.n v.pl.c,.slice v.st.a v.st.n v.st.c,.slice v.se.a v.se.n v.se.c,.slice v.on.a v.on.n v.on.c,.slice v.gr.a v.gr.n v.gr.c,.slice v.ba.a v.ba.n v.ba.c,.slice v.ch.a v.ch.n v.ch.c,.slice v.sa.a v.sa.n v.sa.c,.int .i64 v.fl] 33:=by
  rw[hW0];have h:=Blk.new (w.alloc (.cells #[.slice u.s u.ns u.cs,.slice u.g u.ng u.cg,.slice u.b u.nb u.cb,.slice u.r u.nr u.cr,.slice u.t u.nt u.ct] 40)) #[.slice v.pl.a v.pl.n v.pl.c,.slice v.st.a v.st.n v.st.c,.slice v.se.a v.se.n v.se.c,.slice v.on.a v.on.n v.on.c,.slice v.gr.a v.gr.n v.gr.c,.slice v.ba.a v.ba.n v.ba.c,.slice v.ch.a v.ch.n v.ch.c,.slice v.sa.a v.sa.n v.sa.c,.int .i64 v.fl] 33;simp only[World.size_alloc] at h;exact h
 have hS0:W0.heap.size=w.heap.size+2:=by rw[hW0];simp
 have p0:=kP.cell 0 rfl;have p1:=kP.cell 1 rfl;have p2:=kP.cell 2 rfl;have p3:=kP.cell 3 rfl;have q0:=kS.cell 0 rfl;have q1:=kS.cell 1 rfl;have q2:=kS.cell 2 rfl;have q3:=kS.cell 3 rfl;have q4:=kS.cell 4 rfl;have q5:=kS.cell 5 rfl;have q6:=kS.cell 6 rfl;have q7:=kS.cell 7 rfl;have q8:=kS.cell 8 rfl;have H0:=xH1 (HS.out.below B0);have HP0:=xH1 (HP.out.below B0);have HB:=xH1 B0;clear HS HP B0 kS kP;go_enter Tryz.func95,Tryz.ntmps95;go_wp2;rw[<-hW0];clear hW0
 go_loopw [5] (λi wr=>∃j:Nat,j<=v.se.n/\i= .int .i64 j/\Below W0.heap.size W0 wr) (λi _=>v.se.n-(intOf i).toNat)
 case atStart=>exact⟨0,by omega,rfl,Below.refl _ _⟩
 case round=>
  obtain⟨j,hj,rfl,hb0⟩:=hrel;have cq:=zd hb0 q2;have cp:=zd hb0 p0;by_cases hlt:j<v.se.n
  rotate_left
  ·obtain rfl:j=v.se.n:=by omega
   go_wp2;obtain⟨WZ0,hWZ0⟩:∃W',W'=wr:=⟨_,rfl⟩
   rw[<-hWZ0] at hb0⊢;have BB0:=hb0;clear hb0 cq cp hlt hWZ0 hj
   go_loopw [6] (λi wr=>∃j:Nat,j<=v.on.n/\i= .int .i64 j/\Below W0.heap.size W0 wr) (λi _=>v.on.n-(intOf i).toNat)
   case atStart=>exact⟨0,by omega,rfl,BB0⟩
   case round=>
    obtain⟨j,hj,rfl,hb0⟩:=hrel;have cq:=zd hb0 q3;by_cases hlt:j<v.on.n
    rotate_left
    ·obtain rfl:j=v.on.n:=by omega
     go_wp2;obtain⟨WZ1,hWZ1⟩:∃W',W'=wr:=⟨_,rfl⟩
     rw[<-hWZ1] at hb0⊢;have BB1:=hb0;clear hb0 cq hlt hWZ1 hj
     go_loopw [7] (λi wr=>∃j:Nat,j<=v.gr.n/\i= .int .i64 j/\Below W0.heap.size W0 wr) (λi _=>v.gr.n-(intOf i).toNat)
     case atStart=>exact⟨0,by omega,rfl,BB1⟩
     case round=>
      obtain⟨j,hj,rfl,hb0⟩:=hrel;have cq:=zd hb0 q4;by_cases hlt:j<v.gr.n
      rotate_left
      ·obtain rfl:j=v.gr.n:=by omega
       go_wp2;obtain⟨WZ2,hWZ2⟩:∃W',W'=wr:=⟨_,rfl⟩
       rw[<-hWZ2] at hb0⊢;have BB2:=hb0;clear hb0 cq hlt hWZ2 hj
       go_loopw [8] (λi wr=>∃j:Nat,j<=v.ba.n/\i= .int .i64 j/\Below W0.heap.size W0 wr) (λi _=>v.ba.n-(intOf i).toNat)
       case atStart=>exact⟨0,by omega,rfl,BB2⟩
       case round=>
        obtain⟨j,hj,rfl,hb0⟩:=hrel;have cq:=zd hb0 q5;have cp:=zd hb0 p2;by_cases hlt:j<v.ba.n
        rotate_left
        ·obtain rfl:j=v.ba.n:=by omega
         go_wp2;obtain⟨WZ3,hWZ3⟩:∃W',W'=wr:=⟨_,rfl⟩
         rw[<-hWZ3] at hb0⊢;have BB3:=hb0;clear hb0 cq cp hlt hWZ3 hj
         go_loopw [9] (λi wr=>∃j:Nat,j<=v.ch.n/\i= .int .i64 j/\Below W0.heap.size W0 wr) (λi _=>v.ch.n-(intOf i).toNat)
         case atStart=>exact⟨0,by omega,rfl,BB3⟩
         case round=>
          obtain⟨j,hj,rfl,hb0⟩:=hrel;have cq:=zd hb0 q6;have cp:=zd hb0 p3;by_cases hlt:j<v.ch.n
          rotate_left
          ·obtain rfl:j=v.ch.n:=by omega
           go_wp2;go_ret;exact⟨rfl,HB.out.trans (hb0.mono HB.out.size)⟩
          ·have hjs:j<s.chans.length:=by have:=Lch.out;omega
           obtain⟨x,q,b1,o1,HX,ea,g0,g1,g2,g3,g4,Q0,QL0,QC0,Q1,QL1,QC1,Q2,QL2,QC2⟩:=(H0.out.below hb0).at_ch (j:=j) hjs;have hok:=HF.out.ch j hjs;rw[<-HX.out] at hok;have HOK:=xH1 hok.1;have HOE:=xH1 hok.2;clear hok;obtain⟨b2,o2,eap,g2'⟩:=HP0.out.rr.int (by rw[HP0.out.lr];have:=Ec.out;omega);have gp:=zd hb0 (g2' j (by rw[HP0.out.lr];have:=Ec.out;omega));rw[<-HOE.out] at gp;rw[eap] at cp;have hju:j<u.nr:=by have:=Ec.out;omega
           have i2:(j:Int)<(u.nr:Int):=(by omega);clear g2' eap hju;rw[ea] at cq;have i0:(0:Int)<=(j:Int):=(by omega);have i1:(j:Int)<v.ch.n:=(by omega);clear ea hjs;have k0:=cell_regrown g0;have k1:=cell_regrown g1;have k2:=cell_regrown g2;have k3:=cell_regrown g3;have k4:=cell_regrown g4;have kq:=cell_regrown cq;have kp:=cell_regrown cp;have kgp:=cell_regrown gp;have tt:(x.room !=x.room)=false:=(by simp);have cV:Hid (∀d os,Calls Tryz.prog 146 #[.agg #[.int .i64 x.room,.slice q.1.a q.1.n q.1.c,.slice q.2.1.a q.2.1.n q.2.1.c,.slice q.2.2.a q.2.2.n q.2.2.c,.bool x.closed]] (grow (redrawn wr d) os) λe w''=>e= .returned (.bool true)/\∃p:Regrown,w''=grow (redrawn wr p.d) p.os):=xH1 (λd os=>Calls.regrown_of (zcf x q.1.a q.2.1.a q.2.2.a q.1.n q.1.c q.2.1.n q.2.1.c q.2.2.n q.2.2.c _ QL0.out.symm QL1.out.symm QL2.out.symm QC2.out (Q0.out.below (below_regrown wr d os)) (Q1.out.below (below_regrown wr d os)) (Q2.out.below (below_regrown wr d os)) HOK.out));go_wp2;refine wp_region_quiet_below (by kernel_rfl) (by kernel_rfl) ?_
           repeat (go_big_quiet_step (exact cV.out _ _))
           refine wpQuiet_nil ?_;intro w6 hw6;have hbq:Below wr.heap.size wr w6:=by
            obtain⟨pq,rfl⟩:=hw6;exact below_regrown _ _ _
           clear hw6;go_wp2
           go_roundw
           case rel=>exact⟨j+1,by omega,by go_num,hb0.trans (hbq.mono hb0.size)⟩
           case measure=>simp[intOf];omega
        ·have hjs:j<s.bars.length:=by have:=Lba.out;omega
         obtain⟨x,q,b1,o1,HX,ea,g0,g1,g2,Q0,QL0,QC0⟩:=(H0.out.below hb0).at_ba (j:=j) hjs;have hok:=HF.out.ba j hjs;rw[<-HX.out] at hok;have HOK:=xH1 hok.1;have HOE:=xH1 hok.2;clear hok;obtain⟨b2,o2,eap,g2'⟩:=HP0.out.rb.int (by rw[HP0.out.lb];have:=Eb.out;omega);have gp:=zd hb0 (g2' j (by rw[HP0.out.lb];have:=Eb.out;omega));rw[<-HOE.out] at gp;rw[eap] at cp;have hju:j<u.nb:=by have:=Eb.out;omega
         have i2:(j:Int)<(u.nb:Int):=(by omega);clear g2' eap hju;rw[ea] at cq;have i0:(0:Int)<=(j:Int):=(by omega);have i1:(j:Int)<v.ba.n:=(by omega);clear ea hjs;have k0:=cell_regrown g0;have k1:=cell_regrown g1;have k2:=cell_regrown g2;have kq:=cell_regrown cq;have kp:=cell_regrown cp;have kgp:=cell_regrown gp;have tt:(x.parties !=x.parties)=false:=(by simp);have cV:Hid (∀d os,Calls Tryz.prog 141 #[.agg #[.int .i64 x.parties,.int .i64 x.round,.slice q.a q.n q.c]] (grow (redrawn wr d) os) λe w''=>e= .returned (.bool true)/\∃p:Regrown,w''=grow (redrawn wr p.d) p.os):=xH1 (λd os=>Calls.regrown_of (zen x q.a q.n q.c _ QL0.out.symm QC0.out (Q0.out.below (below_regrown wr d os)) HOK.out));go_wp2;refine wp_region_quiet_below (by kernel_rfl) (by kernel_rfl) ?_
         repeat (go_big_quiet_step (exact cV.out _ _))
         refine wpQuiet_nil ?_;intro w6 hw6;have hbq:Below wr.heap.size wr w6:=by
          obtain⟨pq,rfl⟩:=hw6;exact below_regrown _ _ _
         clear hw6;go_wp2
         go_roundw
         case rel=>exact⟨j+1,by omega,by go_num,hb0.trans (hbq.mono hb0.size)⟩
         case measure=>simp[intOf];omega
      ·have hjs:j<s.groups.length:=by have:=Lgr.out;omega
       obtain⟨x,q,b1,o1,HX,ea,g0,g1,Q0,QL0,QC0⟩:=(H0.out.below hb0).at_gr (j:=j) hjs;have hok:=HF.out.gr j hjs;rw[<-HX.out] at hok;have HOK:=xH1 hok;clear hok;rw[ea] at cq;have i0:(0:Int)<=(j:Int):=(by omega);have i1:(j:Int)<v.gr.n:=(by omega);clear ea hjs;go_wp2_with fail;refine(zbD x q.a q.n q.c _ QL0.out.symm QC0.out (Q0.out) HOK.out).mono ?_;rintro e w6 ⟨rfl,hbq⟩;go_wp2
       go_roundw
       case rel=>exact⟨j+1,by omega,by go_num,hb0.trans (hbq.mono hb0.size)⟩
       case measure=>simp[intOf];omega
    ·have hjs:j<s.onces.length:=by have:=Lon.out;omega
     obtain⟨x,q,b1,o1,HX,ea,g0,g1,g2,g3,Q0,QL0,QC0⟩:=(H0.out.below hb0).at_on (j:=j) hjs;have hok:=HF.out.on j hjs;rw[<-HX.out] at hok;have HOK:=xH1 hok;clear hok;rw[ea] at cq;have i0:(0:Int)<=(j:Int):=(by omega);have i1:(j:Int)<v.on.n:=(by omega);clear ea hjs;go_wp2_with fail;refine(zbN x q.a q.n q.c _ QL0.out.symm QC0.out (Q0.out) HOK.out).mono ?_;rintro e w6 ⟨rfl,hbq⟩;go_wp2
     go_roundw
     case rel=>exact⟨j+1,by omega,by go_num,hb0.trans (hbq.mono hb0.size)⟩
     case measure=>simp[intOf];omega
  ·have hjs:j<s.sems.length:=by have:=Lse.out;omega
   obtain⟨x,q,b1,o1,HX,ea,g0,g1,g2,Q0,QL0,QC0⟩:=(H0.out.below hb0).at_se (j:=j) hjs;have hok:=HF.out.se j hjs;rw[<-HX.out] at hok;have HOK:=xH1 hok.1;have HOE:=xH1 hok.2;clear hok;obtain⟨b2,o2,eap,g2'⟩:=HP0.out.rs.int (by rw[HP0.out.ls];have:=Es.out;omega);have gp:=zd hb0 (g2' j (by rw[HP0.out.ls];have:=Es.out;omega));rw[<-HOE.out] at gp;rw[eap] at cp;have hju:j<u.ns:=by have:=Es.out;omega
   have i2:(j:Int)<(u.ns:Int):=(by omega);clear g2' eap hju;rw[ea] at cq;have i0:(0:Int)<=(j:Int):=(by omega);have i1:(j:Int)<v.se.n:=(by omega);clear ea hjs;have k0:=cell_regrown g0;have k1:=cell_regrown g1;have k2:=cell_regrown g2;have kq:=cell_regrown cq;have kp:=cell_regrown cp;have kgp:=cell_regrown gp;have tt:(x.limit !=x.limit)=false:=(by simp);have cV:Hid (∀d os,Calls Tryz.prog 134 #[.agg #[.int .i64 x.free,.int .i64 x.limit,.slice q.a q.n q.c]] (grow (redrawn wr d) os) λe w''=>e= .returned (.bool true)/\∃p:Regrown,w''=grow (redrawn wr p.d) p.os):=xH1 (λd os=>Calls.regrown_of (zcr x q.a q.n q.c _ QL0.out.symm (Q0.out.below (below_regrown wr d os)) HOK.out));go_wp2;refine wp_region_quiet_below (by kernel_rfl) (by kernel_rfl) ?_
   repeat (go_big_quiet_step (exact cV.out _ _))
   refine wpQuiet_nil ?_;intro w6 hw6;have hbq:Below wr.heap.size wr w6:=by
    obtain⟨pq,rfl⟩:=hw6;exact below_regrown _ _ _
   clear hw6;go_wp2
   go_roundw
   case rel=>exact⟨j+1,by omega,by go_num,hb0.trans (hbq.mono hb0.size)⟩
   case measure=>simp[intOf];omega
def semT (s:StD) (i:Nat):List Int:=(s.sems.getD i zG).queue.map (·.1)
def onT (s:StD) (i:Nat):List Int:=(s.onces.getD i zq).waits
def grT (s:StD) (i:Nat):List Int:=(s.groups.getD i zQ).waits
def baT (s:StD) (i:Nat):List Int:=(s.bars.getD i zE).waits
def chT (s:StD) (i:Nat):List Int:=(s.chans.getD i zH).senders.map (·.1)++(s.chans.getD i zH).getters
theorem ziB {α β:Type} (g:α->β) (f:Nat->List α):∀n,(allE f n).map g=allE (λi=>(f i).map g) n
 |0=>rfl
 |n+1=>by rw[allE,allE,xDr,ziB g f n]
theorem zkP (s:StD):eT s=allE (semT s) s.sems.length++allE (onT s) s.onces.length++allE (grT s) s.groups.length++allE (baT s) s.bars.length++allE (chT s) s.chans.length:=by
 unfold eT ents;simp only[xDr,ziB,xDg];congr 1
 ·exact zbX λi _=>by simp[zU,semT]
 congr 1
 ·exact zbX λi _=>by unfold zN onT;rw[List.map_map];exact List.map_id' _
 congr 1
 ·exact zbX λi _=>by unfold zah grT;rw[List.map_map];exact List.map_id' _
 congr 1
 ·exact zbX λi _=>by unfold zal baT;rw[List.map_map];exact List.map_id' _
 ·exact zbX λi _=>by unfold zZ chT;rw[xDr,List.map_map,List.map_map];congr 1;exact List.map_id' _
def cntL (n:Nat) (l:List Int):List Int:=(List.range n).map λt:Nat=>((l.count (t:Int):Nat):Int)
theorem zh5 (n:Nat) (l:List Int):(cntL n l).length=n:=by simp[cntL]
theorem zfR (n:Nat) (l:List Int) {t:Nat} (h:t<n):(cntL n l).getD t 0=((l.count (t:Int):Nat):Int):=by
 simp[cntL,List.getD,h]
theorem zkm (n:Nat):cntL n []=List.replicate n 0:=by
 unfold cntL;apply List.ext_getElem<;>simp
theorem zj0 (n:Nat) (l:List Int) {x:Int} (h0:0<=x) (h1:x<n):(cntL n l).set x.toNat ((cntL n l).getD x.toNat 0+1)=cntL n (l++[x]):=by
 have hy:=zfR n l (show x.toNat<n by omega);obtain⟨y,ey⟩:∃y,y=(cntL n l).getD x.toNat 0:=⟨_,rfl⟩
 rw[<-ey] at hy⊢;clear ey;subst hy;apply List.ext_getElem
 ·simp[cntL]
 ·intro i h2 h3;rw[List.getElem_set];simp only[cntL,List.getElem_map,List.getElem_range,List.count_append];by_cases hx:x.toNat=i
  ·subst hx;rw[if_pos rfl,show((x.toNat:Nat):Int)=x by omega];simp
  ·rw[if_neg hx];have:List.count (i:Int) [x]=0:=List.count_eq_zero.2 (λh=>hx (by rw[<-xS1 h];omega));rw[this];simp
theorem zhs (u:PV) (p:Pg) (v:StV) (L:StL) (s:StD) (w:World) (hp:RdP w u p) (hv:zu p=true) (hr:StR w v L s) (hf:Fits p s):
  Calls Tryz.prog 97 #[.agg #[.slice u.s u.ns u.cs,.slice u.g u.ng u.cg,.slice u.b u.nb u.cb,.slice u.r u.nr u.cr,.slice u.t u.nt u.ct],.agg #[.slice v.pl.a v.pl.n v.pl.c,.slice v.st.a v.st.n v.st.c,.slice v.se.a v.se.n v.se.c,.slice v.on.a v.on.n v.on.c,.slice v.gr.a v.gr.n v.gr.c,.slice v.ba.a v.ba.n v.ba.c,.slice v.ch.a v.ch.n v.ch.c,.slice v.sa.a v.sa.n v.sa.c,.int .i64 v.fl]] w λe w'=>∃(a:Option Addr) (c:Nat),e= .returned (.tuple #[.slice a u.nt c,.bool true])/\w'.ownsRow w.heap.size 3 1 (.slice a u.nt c) u.nt (ints (cntL u.nt (eT s)))/\Below w.heap.size w w':=by
 have HS:=xH1 hr;have HF:=xH1 hf;obtain⟨z1,z2,z3,z4,⟨z5,z6⟩,-⟩:=zR hv;have Lse:=xH1 hr.se.len;have Lon:=xH1 hr.on.len;have Lgr:=xH1 hr.gr.len;have Lba:=xH1 hr.ba.len;have Lch:=xH1 hr.ch.len;have zse:v.se.n<=3:=by rw[hr.se.len,hf.nse];exact z1
 have zgr:v.gr.n<=3:=by rw[hr.gr.len,hf.ngr];exact z2
 have zba:v.ba.n<=3:=by rw[hr.ba.len,hf.nba];exact z3
 have zch:v.ch.n<=3:=by rw[hr.ch.len,hf.nch];exact z4
 have zon:v.on.n<=3:=by rw[hr.on.len,hf.non];omega
 have znt:u.nt<=4:=by rw[<-hp.lt];exact z6
 have LT:=xH1 hp.lt;clear hr hp hf hv z1 z2 z3 z4 z5 z6;obtain⟨i0,hi0,hz0,hz1,hz2⟩:=info_parts zM;obtain⟨W0,hW0⟩:∃W0:World,W0=(((w.alloc (.cells #[.slice u.s u.ns u.cs,.slice u.g u.ng u.cg,.slice u.b u.nb u.cb,.slice u.r u.nr u.cr,.slice u.t u.nt u.ct] 40)).alloc (.cells #[.slice v.pl.a v.pl.n v.pl.c,.slice v.st.a v.st.n v.st.c,.slice v.se.a v.se.n v.se.c,.slice v.on.a v.on.n v.on.c,.slice v.gr.a v.gr.n v.gr.c,.slice v.ba.a v.ba.n v.ba.c,.slice v.ch.a v.ch.n v.ch.c,.slice v.sa.a v.sa.n v.sa.c,.int .i64 v.fl] 33)).alloc (.cells #[] 3)):=⟨_,rfl⟩
 have B0:Below w.heap.size w W0:=by
  rw[hW0];exact(((xB1.alloc (by simp) _).alloc (by simp) _).alloc (by simp;omega) _)
 have kP:Blk W0 (w.heap.size) #[.slice u.s u.ns u.cs,.slice u.g u.ng u.cg,.slice u.b u.nb u.cb,.slice u.r u.nr u.cr,.slice u.t u.nt u.ct] 40:=by
  rw[hW0];have h:=Blk.new w #[.slice u.s u.ns u.cs,.slice u.g u.ng u.cg,.slice u.b u.nb u.cb,.slice u.r u.nr u.cr,.slice u.t u.nt u.ct] 40;exact h|>.alloc _|>.alloc _
 have kS:Blk W0 (w.heap.size+1) #[.slice v.pl.a v.pl.n v.pl.c,.slice v.st.a v.st.n v.st.c,.slice v.se.a v.se.n v.se.c,.slice v.on.a v.on.n v.on.c,.slice v.gr.a v.gr.n v.gr.c,.slice v.ba.a v.ba.n v.ba.c,.slice v.ch.a v.ch.n v.ch.c,.slice v.sa.a v.sa.n v.sa.c,.int .i64 v.fl] 33:=by
  rw[hW0];have h:=Blk.new (w.alloc (.cells #[.slice u.s u.ns u.cs,.slice u.g u.ng u.cg,.slice u.b u.nb u.cb,.slice u.r u.nr u.cr,.slice u.t u.nt u.ct] 40)) #[.slice v.pl.a v.pl.n v.pl.c,.slice v.st.a v.st.n v.st.c,.slice v.se.a v.se.n v.se.c,.slice v.on.a v.on.n v.on.c,.slice v.gr.a v.gr.n v.gr.c,.slice v.ba.a v.ba.n v.ba.c,.slice v.ch.a v.ch.n v.ch.c,.slice v.sa.a v.sa.n v.sa.c,.int .i64 v.fl] 33;simp only[World.size_alloc] at h;exact h|>.alloc _
 have kE:Blk W0 (w.heap.size+2) #[] 3:=by
  rw[hW0];have h:=Blk.new ((w.alloc (.cells #[.slice u.s u.ns u.cs,.slice u.g u.ng u.cg,.slice u.b u.nb u.cb,.slice u.r u.nr u.cr,.slice u.t u.nt u.ct] 40)).alloc (.cells #[.slice v.pl.a v.pl.n v.pl.c,.slice v.st.a v.st.n v.st.c,.slice v.se.a v.se.n v.se.c,.slice v.on.a v.on.n v.on.c,.slice v.gr.a v.gr.n v.gr.c,.slice v.ba.a v.ba.n v.ba.c,.slice v.ch.a v.ch.n v.ch.c,.slice v.sa.a v.sa.n v.sa.c,.int .i64 v.fl] 33)) #[] 3;simp only[World.size_alloc,Nat.add_assoc,Nat.reduceAdd] at h;exact h
 have hS0:W0.heap.size=w.heap.size+3:=by rw[hW0];simp
 have p4:=kP.cell 4 rfl;have q0:=kS.cell 0 rfl;have q1:=kS.cell 1 rfl;have q2:=kS.cell 2 rfl;have q3:=kS.cell 3 rfl;have q4:=kS.cell 4 rfl;have q5:=kS.cell 5 rfl;have q6:=kS.cell 6 rfl;have q7:=kS.cell 7 rfl;have q8:=kS.cell 8 rfl;have kE1:Blk W0 (w.heap.size+1+1) #[] 3:=kE;have HE:=xH1 (zb5 (B:=w.heap.size+2) kE1 (by omega) (sz:=1) (m:=0) rfl (Nat.zero_le _));have HB:=xH1 B0;have hW0s:=hS0;clear B0 kS kP kE kE1;go_enter Tryz.func97,Tryz.ntmps97;go_wp2;rw[<-hW0];clear hW0
 go_loopw [7,6] (λi z wr=>∃(j:Nat) (a:Option Addr) (l c:Nat),j<=v.se.n/\i= .int .i64 j/\z= .slice a l c/\Hid (wr.ownsRow (w.heap.size+2) 3 1 (.slice a l c) l (ints (allE (semT s) j)))/\l<=0+6*j/\Below (w.heap.size+2) W0 wr) (λi _ _=>v.se.n-(intOf i).toNat)
 case atStart=>exact⟨0,_,0,0,by omega,rfl,rfl,HE,by omega,Below.refl _ _⟩
 case round=>
  obtain⟨j,a,l,c,hj,rfl,rfl,ho,hl,hb0⟩:=hrel;have cq:=zdm hb0 (by show w.heap.size+1<w.heap.size+2;omega) q2;have hbw:=HB.out.trans (hb0.mono (by omega));have hsw:w.heap.size+2<=wr.heap.size:=by have:=hb0.size;omega
  by_cases hlt:j<v.se.n
  rotate_left
  ·obtain rfl:j=v.se.n:=by omega
   go_wp2;obtain⟨WZ,hWZ⟩:∃W',W'=wr:=⟨_,rfl⟩
   rw[<-hWZ] at ho hb0 hsw⊢;clear cq hlt hWZ hj hbw hsw wr
   go_loopw [9,6] (λi z wr=>∃(j:Nat) (a:Option Addr) (l c:Nat),j<=v.on.n/\i= .int .i64 j/\z= .slice a l c/\Hid (wr.ownsRow (w.heap.size+2) 3 1 (.slice a l c) l (ints (allE (semT s) v.se.n++allE (onT s) j)))/\l<=18+6*j/\Below (w.heap.size+2) W0 wr) (λi _ _=>v.on.n-(intOf i).toNat)
   case atStart=>exact⟨0,a,l,c,by omega,rfl,rfl,by simpa[allE] using ho,by omega,hb0⟩
   case round=>
    obtain⟨j,a,l,c,hj,rfl,rfl,ho,hl,hb0⟩:=hrel;have cq:=zdm hb0 (by show w.heap.size+1<w.heap.size+2;omega) q3;have hbw:=HB.out.trans (hb0.mono (by omega));have hsw:w.heap.size+2<=wr.heap.size:=by have:=hb0.size;omega
    by_cases hlt:j<v.on.n
    rotate_left
    ·obtain rfl:j=v.on.n:=by omega
     go_wp2;obtain⟨WZ,hWZ⟩:∃W',W'=wr:=⟨_,rfl⟩
     rw[<-hWZ] at ho hb0 hsw⊢;clear cq hlt hWZ hj hbw hsw wr
     go_loopw [10,6] (λi z wr=>∃(j:Nat) (a:Option Addr) (l c:Nat),j<=v.gr.n/\i= .int .i64 j/\z= .slice a l c/\Hid (wr.ownsRow (w.heap.size+2) 3 1 (.slice a l c) l (ints (allE (semT s) v.se.n++allE (onT s) v.on.n++allE (grT s) j)))/\l<=36+6*j/\Below (w.heap.size+2) W0 wr) (λi _ _=>v.gr.n-(intOf i).toNat)
     case atStart=>exact⟨0,a,l,c,by omega,rfl,rfl,by simpa[allE] using ho,by omega,hb0⟩
     case round=>
      obtain⟨j,a,l,c,hj,rfl,rfl,ho,hl,hb0⟩:=hrel;have cq:=zdm hb0 (by show w.heap.size+1<w.heap.size+2;omega) q4;have hbw:=HB.out.trans (hb0.mono (by omega));have hsw:w.heap.size+2<=wr.heap.size:=by have:=hb0.size;omega
      by_cases hlt:j<v.gr.n
      rotate_left
      ·obtain rfl:j=v.gr.n:=by omega
       go_wp2;obtain⟨WZ,hWZ⟩:∃W',W'=wr:=⟨_,rfl⟩
       rw[<-hWZ] at ho hb0 hsw⊢;clear cq hlt hWZ hj hbw hsw wr
       go_loopw [11,6] (λi z wr=>∃(j:Nat) (a:Option Addr) (l c:Nat),j<=v.ba.n/\i= .int .i64 j/\z= .slice a l c/\Hid (wr.ownsRow (w.heap.size+2) 3 1 (.slice a l c) l (ints (allE (semT s) v.se.n++allE (onT s) v.on.n++allE (grT s) v.gr.n++allE (baT s) j)))/\l<=54+6*j/\Below (w.heap.size+2) W0 wr) (λi _ _=>v.ba.n-(intOf i).toNat)
       case atStart=>exact⟨0,a,l,c,by omega,rfl,rfl,by simpa[allE] using ho,by omega,hb0⟩
       case round=>
        obtain⟨j,a,l,c,hj,rfl,rfl,ho,hl,hb0⟩:=hrel;have cq:=zdm hb0 (by show w.heap.size+1<w.heap.size+2;omega) q5;have hbw:=HB.out.trans (hb0.mono (by omega));have hsw:w.heap.size+2<=wr.heap.size:=by have:=hb0.size;omega
        by_cases hlt:j<v.ba.n
        rotate_left
        ·obtain rfl:j=v.ba.n:=by omega
         go_wp2;obtain⟨WZ,hWZ⟩:∃W',W'=wr:=⟨_,rfl⟩
         rw[<-hWZ] at ho hb0 hsw⊢;clear cq hlt hWZ hj hbw hsw wr
         go_loopw [12,6] (λi z wr=>∃(j:Nat) (a:Option Addr) (l c:Nat),j<=v.ch.n/\i= .int .i64 j/\z= .slice a l c/\Hid (wr.ownsRow (w.heap.size+2) 3 1 (.slice a l c) l (ints (allE (semT s) v.se.n++allE (onT s) v.on.n++allE (grT s) v.gr.n++allE (baT s) v.ba.n++allE (chT s) j)))/\l<=72+12*j/\Below (w.heap.size+2) W0 wr) (λi _ _=>v.ch.n-(intOf i).toNat)
         case atStart=>exact⟨0,a,l,c,by omega,rfl,rfl,by simpa[allE] using ho,by omega,hb0⟩
         case round=>
          obtain⟨j,a,l,c,hj,rfl,rfl,ho,hl,hb0⟩:=hrel;have cq:=zdm hb0 (by show w.heap.size+1<w.heap.size+2;omega) q6;have hbw:=HB.out.trans (hb0.mono (by omega));have hsw:w.heap.size+2<=wr.heap.size:=by have:=hb0.size;omega
          by_cases hlt:j<v.ch.n
          rotate_left
          ·obtain rfl:j=v.ch.n:=by omega
           have HALL:Hid (wr.ownsRow (w.heap.size+2) 3 1 (.slice a l c) l (ints (eT s))):=xH1 (by
            have h:=ho.out;rw[Lse.out,Lon.out,Lgr.out,Lba.out,Lch.out,<-zkP] at h;exact h)
           have hal:(eT s).length=l:=by have:=HALL.out.1;rw[List.length_map] at this;omega
           have cp:=zdm hb0 (by show w.heap.size<w.heap.size+2;omega) p4;have HAL:=xH1 hal;clear hal ho;go_wp2_with (refine wpList_make_full _ rfl _ _ 22 rfl (w.heap.size+2) 3 i0 (.int .i64 0) 1 Tryz.underlying22 hi0 hz0 hz1 _ _ _ _ u.nt rfl rfl rfl rfl (by rw[hz2];omega) (by unfold maxLen;omega) hsw ?_;intro w2 hown1 hgr1;have HOM:=xH1 hown1;have HGM:=xH1 hgr1;clear hown1 hgr1);have hown1:=HOM.out;rw[show(Value.int .i64 0).cells= #[.int .i64 0] from rfl,Nat.mul_one,toList_madeCells_one] at hown1;have hb2:Below wr.heap.size wr w2:=zA HGM.out xL1 (by simp);obtain⟨g,hg⟩:∃g,g=wr.heap.size:=⟨_,rfl⟩
           have HA2:=xH1 (zf HALL.out hb2);rw[<-hg] at hown1⊢;have hgw:w.heap.size+2<=g:=(by omega);have HBG:Hid (Below w.heap.size w w2):=xH1 (hbw.trans (hb2.mono hbw.size));obtain⟨ga,hga⟩:∃ga,0<l->a=some ⟨ga,0,none⟩/\ga<g:=by
            by_cases h0:0<l
            ·obtain⟨ga,e,-,h⟩:=zaf HALL.out h0;exact⟨ga,λ_=>⟨e,by omega⟩⟩
            ·exact⟨0,λh=>absurd h h0⟩
           have HGA:=xH1 hga;have hsg:g<=w2.heap.size:=by rw[hg];exact hb2.size
           have HC0:Hid (w2.ownsRow (w.heap.size+2) 3 1 (.slice (some ⟨g,0,none⟩) u.nt u.nt) u.nt (ints (cntL u.nt ((eT s).take 0)))):=xH1 (by rw[List.take_zero,zkm];simpa[ints] using hown1);obtain⟨ws,hws⟩:∃ws,ws=w2:=⟨_,rfl⟩
           rw[<-hws] at HA2 HBG HC0 hsg⊢;clear hown1 hb2 hga hg hws cp HOM HGM hbw hb0 hlt hj HALL hsw
           go_loopw [14] (λi wk=>∃k:Nat,k<=l/\i= .int .i64 k/\Hid (wk.ownsRow (w.heap.size+2) 3 1 (.slice (some ⟨g,0,none⟩) u.nt u.nt) u.nt (ints (cntL u.nt ((eT s).take k))))/\Below g ws wk) (λi _=>l-(intOf i).toNat)
           case atStart=>exact⟨0,by omega,rfl,HC0,Below.refl _ _⟩
           case round=>
            obtain⟨k,hk,rfl,HC,hbk⟩:=hrel;by_cases hkl:k<l
            ·obtain⟨ea,hga⟩:=HGA.out (by omega);obtain⟨x,hx⟩:∃x,x=(eT s).getD k 0:=⟨_,rfl⟩
             have hmx:x∈eT s:=by
              rw[hx,List.getD_eq_getElem?_getD,List.getElem?_eq_getElem (by have:=HAL.out;omega)];exact List.getElem_mem _
             obtain⟨e,he,hex⟩:=List.mem_map.1 hmx;have hxr:=HF.out.we e he;rw[hex,LT.out] at hxr;have hx0:=hxr.1;have hx1:=hxr.2;have own:=HA2.out;rw[ea] at own;have cx:=own.cellAt k (by omega);replace cx:ws.cell? ⟨ga,k,none⟩=some (.int .i64 x):=by
              rw[cx,hx];have:k<(eT s).length:=by have:=HAL.out;omega
              simp[ints,List.getD,this]
             replace cx:=zdm hbk (by show ga<g;exact hga) cx;obtain⟨y,hy⟩:∃y,y=(cntL u.nt ((eT s).take k)).getD x.toNat 0:=⟨_,rfl⟩
             have cy:=HC.out.cellAt x.toNat (by omega)
             replace cy:wr.cell? ⟨g,x.toNat,none⟩=some (.int .i64 y):=by
              rw[cy,hy];have:x.toNat<(cntL u.nt ((eT s).take k)).length:=by rw[zh5];omega
              simp[ints,List.getD,this]
             have hyb:0<=y/\y<=l:=by
              rw[hy,zfR _ _ (by omega)];have:=List.count_le_length (a:=((x.toNat:Nat):Int)) (l:=(eT s).take k);rw[List.length_take] at this;omega
             have hwr:IntKind.i64.wrap (y+1)=y+1:=Go.IntWalk.i64_in _ (by omega);have hfz:=HC.out.frozenAt x.toNat
             have R:=zak (zf HC.out xB1.drew) x.toNat (.int .i64 (y+1)) (cs':=ints (cntL u.nt ((eT s).take (k+1)))) (by
              rw[<-zas _ 0 (show k<(eT s).length by have:=HAL.out;omega),<-hx,<-zj0 _ _ hx0 (by exact hx1),<-hy];simp[ints,List.map_set])
             have HR:=xH1 R;have i2:(0:Int)<=(k:Int):=(by omega);have i3:(k:Int)<(l:Int):=(by omega);subst ea;clear hx hmx hex he hxr own hy hyb R;go_wp2;go_still_tail 14,(by kernel_rfl)
             go_wp2
             go_roundw
             case rel=>exact⟨k+1,by omega,by go_num,xH1 HR.out.1,hbk.drew.trans (zA HR.out.2 (Nat.le_trans hsg hbk.drew.size) (by rintro q hq;cases hq;exact Nat.le_refl _))⟩
             case measure=>simp[intOf];omega
            ·have hkq:k=l:=(by omega);subst hkq;have hfin:=HC.out;rw[<-HAL.out,List.take_length] at hfin;have HFN:=xH1 hfin;clear hfin;go_wp2;refine bodyPost_ret (v:= .tuple #[.slice (some ⟨g,0,none⟩) u.nt u.nt,.bool true]) (by simp[results,Tryz.results97,go_sem]) rfl ⟨_,_,rfl,zl HFN.out (by omega),HBG.out.trans (hbk.mono (by omega))⟩
          ·have hjs:j<s.chans.length:=by have:=Lch.out;omega
           obtain⟨x,q,b1,o1,HX,ea,g0,g1,g2,g3,g4,Q0,QL0,QC0,Q1,QL1,QC1,Q2,QL2,QC2⟩:=HS.out.at_ch (j:=j) hjs;have hok:=(HF.out.ch j hjs).1;rw[<-HX.out] at hok;rw[ea] at cq;have i0':(0:Int)<=(j:Int):=(by omega);have i1:(j:Int)<v.ch.n:=(by omega);clear ea hjs;have h6:=hok.2.2.2.2.1.1;rw[List.length_append,List.length_map] at h6;have hq1:q.2.1.n<=6:=by rw[QL1.out];omega
           have hq2:q.2.2.n<=6:=by rw[QL2.out];omega
           have cg2:=zd hbw g2;have cg3:=zd hbw g3;obtain⟨A,hA⟩:∃A,A=(ze a).toList:=⟨_,rfl⟩
           have hAb:∀b∈A,w.heap.size+2<=b/\b<wr.heap.size:=λb hb=>by rw[hA] at hb;exact zp ho.out b (by simpa using hb)
           have hxa1:∀b,v.ch.a=some b->True:=λ_ _=>trivial;have hb1w:b1<w.heap.size:=by have:=World.block_lt_of_cell? w _ g2;exact this
           have S1:Hid (SlR A wr q.2.1 (zt x.senders) x.senders.length):=xH1 ⟨QL1.out,Q1.out.below hbw,by
            by_cases h0:zt x.senders=[]
            ·exact .inl h0
            ·exact .inr λb hb hm=>by have:=Q1.out.far h0 b hb;have:=(hAb b hm).1;omega,QC1.out⟩
           have S2:Hid (SlR A wr q.2.2 (ints x.getters) x.getters.length):=xH1 ⟨QL2.out,Q2.out.below hbw,by
            by_cases h0:ints x.getters=[]
            ·exact .inl h0
            ·exact .inr λb hb hm=>by have:=Q2.out.far h0 b hb;have:=(hAb b hm).1;omega,QC2.out⟩
           have HAB:=xH1 hAb;have HHA:=xH1 hA;have nS:w.heap.size+1∉A:=λhm=>by have:=(hAb _ hm).1;omega
           have nB:b1∉A:=λhm=>by have:=(hAb _ hm).1;omega
           have HL1:Hid ((ints (x.senders.map (·.1))).length=q.2.1.n*1):=xH1 (by rw[List.length_map,List.length_map,QL1.out,Nat.mul_one]);have HL2:Hid ((ints x.getters).length=q.2.2.n*1):=xH1 (by rw[List.length_map,QL2.out,Nat.mul_one]);clear hok h6 g0 g1 g2 g3 g4 hAb hA hxa1;go_wp2
           refine za1 15 (by kernel_rfl) (by kernel_rfl) [λdz uz wz=>uz= .slice a l c,λdz uz wz=>uz= .pointer (some ⟨w.heap.size+1,6,none⟩),λdz uz wz=>uz= .slice (some ⟨b1,o1,none⟩) v.ch.n v.ch.c,λdz uz wz=>uz= .int .i64 j,λdz uz wz=>uz= .pointer (some ⟨b1,o1+j*5,none⟩),λdz uz wz=>uz= .pointer (some ⟨b1,o1+j*5+2,none⟩),λdz uz wz=>uz= .slice q.2.1.a q.2.1.n q.2.1.c,λdz uz wz=>(∃(a5:Option Addr) (c5:Nat),uz= .slice a5 q.2.1.n c5/\wz.ownsRow wr.heap.size 3 1 (.slice a5 q.2.1.n c5) q.2.1.n (ints (x.senders.map (·.1)))),λdz uz wz=>(∃(a6:Option Addr) (c6:Nat),uz= .slice a6 (l+q.2.1.n) c6/\wz.ownsRow (w.heap.size+2) 3 1 (.slice a6 (l+q.2.1.n) c6) (l+q.2.1.n) (ints (allE (semT s) v.se.n++allE (onT s) v.on.n++allE (grT s) v.gr.n++allE (baT s) v.ba.n++allE (chT s) j)++ints (x.senders.map (·.1)))),λdz uz wz=>uz= .pointer (some ⟨w.heap.size+1,6,none⟩),λdz uz wz=>uz= .slice (some ⟨b1,o1,none⟩) v.ch.n v.ch.c,λdz uz wz=>uz= .int .i64 j,λdz uz wz=>uz= .pointer (some ⟨b1,o1+j*5,none⟩),λdz uz wz=>uz= .pointer (some ⟨b1,o1+j*5+3,none⟩),λdz uz wz=>uz= .slice q.2.2.a q.2.2.n q.2.2.c] (St1 8 (zi A)) (λ_ _=>none) (za2 8 A wr) (za2.start _ _ _) (zcZ (λ_ _ h=>h.size)) (zc1 ⟨λ_ _ _ _ _ h=>h,λ_ _ _ _ _ h=>h,λ_ _ _ _ _ h=>h,λ_ _ _ _ _ h=>h,λ_ _ _ _ _ h=>h,λ_ _ _ _ _ h=>h,λ_ _ _ _ _ h=>h,λ_ _ _ _ hb ⟨a5,c5,e,h⟩=>⟨a5,c5,e,zf h hb⟩,λ_ _ _ _ hb ⟨a6,c6,e,h⟩=>⟨a6,c6,e,zf h hb⟩,λ_ _ _ _ _ h=>h,λ_ _ _ _ _ h=>h,λ_ _ _ _ _ h=>h,λ_ _ _ _ _ h=>h,λ_ _ _ _ _ h=>h,λ_ _ _ _ _ h=>h,trivial⟩ ⟨.inr (λ_ _ _ _ _ h=>h),.inr (λ_ _ _ _ _ h=>h),.inr (λ_ _ _ _ _ h=>h),.inr (λ_ _ _ _ _ h=>h),.inr (λ_ _ _ _ _ h=>h),.inr (λ_ _ _ _ _ h=>h),.inr (λ_ _ _ _ _ h=>h),.inr (λ_ _ _ _ hT ⟨a5,c5,e,h⟩=>⟨a5,c5,e,zj h hT (λk hk hm=>by have:=(zp h k hk).1;have:=(HAB.out k hm).2;omega)⟩),.inl rfl,.inr (λ_ _ _ _ _ h=>h),.inr (λ_ _ _ _ _ h=>h),.inr (λ_ _ _ _ _ h=>h),.inr (λ_ _ _ _ _ h=>h),.inr (λ_ _ _ _ _ h=>h),.inr (λ_ _ _ _ _ h=>h),trivial⟩) ?_ ?_
           ·simp only[List.take_succ_cons,List.take_zero];refine⟨?_,?_,?_,?_,?_,?_,?_,?_,?_,?_,?_,?_,?_,?_,?_,trivial⟩
            ·intro ρ w1 L hG hny hfr hd;obtain⟨fc,ff⟩:=xF1 hfr;have f6:ρ (.tmp 6)= .slice a l c:=hfr _ rfl;refine zh (u:= .slice a l c) (w':=w1) (by go_simp) ⟨zI (by decide) xB1,rfl,xN1,hG.step (by decide) xB1⟩
            ·intro ρ w1 L hG hny hfr hd;obtain⟨fc,ff⟩:=xF1 hfr;have f3:ρ (.tmp 3)= .pointer (some ⟨w.heap.size+1,0,none⟩):=hfr _ rfl;refine zh (u:= .pointer (some ⟨w.heap.size+1,6,none⟩)) (w':=w1) (by go_simp) ⟨zI (by decide) xB1,rfl,xN1,hG.step (by decide) xB1⟩
            ·intro ρ w1 L hG hny hfr hd;obtain⟨fc,ff⟩:=xF1 hfr;obtain⟨d0,-⟩:=hd;have d0:(ρ (.tmp 100))= .pointer (some ⟨w.heap.size+1,6,none⟩):=d0;have cq:=zB hG.2 cq (by show w.heap.size+1∉A;exact nS);refine zh (u:= .slice (some ⟨b1,o1,none⟩) v.ch.n v.ch.c) (w':=w1) (by go_simp) ⟨zI (by decide) xB1,rfl,xN1,hG.step (by decide) xB1⟩
            ·intro ρ w1 L hG hny hfr hd;obtain⟨fc,ff⟩:=xF1 hfr;have f12:ρ (.tmp 12)= .int .i64 j:=hfr _ rfl;refine zh (u:= .int .i64 j) (w':=w1) (by go_simp) ⟨zI (by decide) xB1,rfl,xN1,hG.step (by decide) xB1⟩
            ·intro ρ w1 L hG hny hfr hd;obtain⟨fc,ff⟩:=xF1 hfr;obtain⟨d0,d1,-⟩:=hd;have d0:(ρ (.tmp 101))= .slice (some ⟨b1,o1,none⟩) v.ch.n v.ch.c:=d0;have d1:(ρ (.tmp 102))= .int .i64 j:=d1;have i2:(0:Int)<=(j:Int):=(by omega);have i3:(j:Int)<v.ch.n:=(by omega);refine zh (u:= .pointer (some ⟨b1,o1+j*5,none⟩)) (w':=w1) (by go_simp) ⟨zI (by decide) xB1,rfl,xN1,hG.step (by decide) xB1⟩
            ·intro ρ w1 L hG hny hfr hd;obtain⟨fc,ff⟩:=xF1 hfr;obtain⟨d0,-⟩:=hd;have d0:(ρ (.tmp 103))= .pointer (some ⟨b1,o1+j*5,none⟩):=d0;refine zh (u:= .pointer (some ⟨b1,o1+j*5+2,none⟩)) (w':=w1) (by go_simp) ⟨zI (by decide) xB1,rfl,xN1,hG.step (by decide) xB1⟩
            ·intro ρ w1 L hG hny hfr hd;obtain⟨fc,ff⟩:=xF1 hfr;obtain⟨d0,-⟩:=hd;have d0:(ρ (.tmp 104))= .pointer (some ⟨b1,o1+j*5+2,none⟩):=d0;have cg2:=zB hG.2 cg2 (by show b1∉A;exact nB);refine zh (u:= .slice q.2.1.a q.2.1.n q.2.1.c) (w':=w1) (by go_simp) ⟨zI (by decide) xB1,rfl,xN1,hG.step (by decide) xB1⟩
            ·intro ρ w1 L hG hny hfr hd;obtain⟨fc,ff⟩:=xF1 hfr;obtain⟨d0,-⟩:=hd;have d0:(ρ (.tmp 105))= .slice q.2.1.a q.2.1.n q.2.1.c:=d0;have S1':=S1.out.touch hG.2 (λ_ h=>h);refine zac (by go_simp;exact⟨⟨rfl,rfl⟩,rfl⟩) ?_;refine(zci x.senders q.2.1.a q.2.1.n q.2.1.c w1 QL1.out.symm (by omega) S1'.rd).mono ?_;rintro e w2 ⟨a5,c5,rfl,h5,hb⟩;exact⟨_,rfl,zI (by decide) hb,⟨a5,c5,rfl,zl h5 hG.2.size⟩,xN1,hG.step (by decide) hb⟩
            ·intro ρ w1 L hG hny hfr hd;obtain⟨fc,ff⟩:=xF1 hfr;obtain⟨d0,d1,-⟩:=hd;have d0:(ρ (.tmp 99))= .slice a l c:=d0;have d1:(∃(a5:Option Addr) (c5:Nat),(ρ (.tmp 106))= .slice a5 q.2.1.n c5/\w1.ownsRow wr.heap.size 3 1 (.slice a5 q.2.1.n c5) q.2.1.n (ints (x.senders.map (·.1)))):=d1;have hL:=hny 8 _ rfl (by kernel_rfl);have hbe:=hG.1 hL;have hown:=zf ho.out hbe;obtain⟨a5,c5,d1,h5⟩:=d1;refine zcK _ _ 22 rfl Tryz.underlying22 zM rfl (by decide) d0 hown d1 HL1.out (Rd.of_owns h5) (zaa _) (by omega) (by decide) (Nat.le_trans hsw hbe.size) ?_;intro a' c' w2 hown2 hgr hkeep;have hT:zi A w1 w2:=zi.of_grown hgr (λq hq=>by rw[HHA.out];simpa using hq);exact⟨zdw hT,⟨a',c',rfl,hown2⟩,xN1,hG.own hT⟩
            ·intro ρ w1 L hG hny hfr hd;obtain⟨fc,ff⟩:=xF1 hfr;have f3:ρ (.tmp 3)= .pointer (some ⟨w.heap.size+1,0,none⟩):=hfr _ rfl;refine zh (u:= .pointer (some ⟨w.heap.size+1,6,none⟩)) (w':=w1) (by go_simp) ⟨zI (by decide) xB1,rfl,xN1,hG.step (by decide) xB1⟩
            ·intro ρ w1 L hG hny hfr hd;obtain⟨fc,ff⟩:=xF1 hfr;obtain⟨d0,-⟩:=hd;have d0:(ρ (.tmp 108))= .pointer (some ⟨w.heap.size+1,6,none⟩):=d0;have cq:=zB hG.2 cq (by show w.heap.size+1∉A;exact nS);refine zh (u:= .slice (some ⟨b1,o1,none⟩) v.ch.n v.ch.c) (w':=w1) (by go_simp) ⟨zI (by decide) xB1,rfl,xN1,hG.step (by decide) xB1⟩
            ·intro ρ w1 L hG hny hfr hd;obtain⟨fc,ff⟩:=xF1 hfr;have f12:ρ (.tmp 12)= .int .i64 j:=hfr _ rfl;refine zh (u:= .int .i64 j) (w':=w1) (by go_simp) ⟨zI (by decide) xB1,rfl,xN1,hG.step (by decide) xB1⟩
            ·intro ρ w1 L hG hny hfr hd;obtain⟨fc,ff⟩:=xF1 hfr;obtain⟨d0,d1,-⟩:=hd;have d0:(ρ (.tmp 109))= .slice (some ⟨b1,o1,none⟩) v.ch.n v.ch.c:=d0;have d1:(ρ (.tmp 110))= .int .i64 j:=d1;have i2:(0:Int)<=(j:Int):=(by omega);have i3:(j:Int)<v.ch.n:=(by omega);refine zh (u:= .pointer (some ⟨b1,o1+j*5,none⟩)) (w':=w1) (by go_simp) ⟨zI (by decide) xB1,rfl,xN1,hG.step (by decide) xB1⟩
            ·intro ρ w1 L hG hny hfr hd;obtain⟨fc,ff⟩:=xF1 hfr;obtain⟨d0,-⟩:=hd;have d0:(ρ (.tmp 111))= .pointer (some ⟨b1,o1+j*5,none⟩):=d0;refine zh (u:= .pointer (some ⟨b1,o1+j*5+3,none⟩)) (w':=w1) (by go_simp) ⟨zI (by decide) xB1,rfl,xN1,hG.step (by decide) xB1⟩
            ·intro ρ w1 L hG hny hfr hd;obtain⟨fc,ff⟩:=xF1 hfr;obtain⟨d0,-⟩:=hd;have d0:(ρ (.tmp 112))= .pointer (some ⟨b1,o1+j*5+3,none⟩):=d0;have cg3:=zB hG.2 cg3 (by show b1∉A;exact nB);refine zh (u:= .slice q.2.2.a q.2.2.n q.2.2.c) (w':=w1) (by go_simp) ⟨zI (by decide) xB1,rfl,xN1,hG.step (by decide) xB1⟩
           intro vs w2 LL hG hlen hall hap hbd;obtain⟨xv0,vs0,rfl,hl0⟩:=zk hlen;obtain⟨xv1,vs1,rfl,hl1⟩:=zk hl0;obtain⟨xv2,vs2,rfl,hl2⟩:=zk hl1;obtain⟨xv3,vs3,rfl,hl3⟩:=zk hl2;obtain⟨xv4,vs4,rfl,hl4⟩:=zk hl3;obtain⟨xv5,vs5,rfl,hl5⟩:=zk hl4;obtain⟨xv6,vs6,rfl,hl6⟩:=zk hl5;obtain⟨xv7,vs7,rfl,hl7⟩:=zk hl6;obtain⟨xv8,vs8,rfl,hl8⟩:=zk hl7;obtain⟨xv9,vs9,rfl,hl9⟩:=zk hl8;obtain⟨xv10,vs10,rfl,hl10⟩:=zk hl9;obtain⟨xv11,vs11,rfl,hl11⟩:=zk hl10;obtain⟨xv12,vs12,rfl,hl12⟩:=zk hl11;obtain⟨xv13,vs13,rfl,hl13⟩:=zk hl12;obtain⟨xv14,vs14,rfl,hl14⟩:=zk hl13;obtain rfl:=zcD hl14;clear hlen hl0 hl1 hl2 hl3 hl4 hl5 hl6 hl7 hl8 hl9 hl10 hl11 hl12 hl13 hl14;simp only[List.take_succ_cons,List.take_zero,List.drop_succ_cons,List.drop_zero] at hall⊢;obtain⟨t0',t1',t2',t3',t4',t5',t6',t7',t8',t9',t10',t11',t12',t13',t14',-⟩:=hall;have hv0:xv0= .slice a l c:=t0';have hv1:xv1= .pointer (some ⟨w.heap.size+1,6,none⟩):=t1';have hv2:xv2= .slice (some ⟨b1,o1,none⟩) v.ch.n v.ch.c:=t2';have hv3:xv3= .int .i64 j:=t3';have hv4:xv4= .pointer (some ⟨b1,o1+j*5,none⟩):=t4';have hv5:xv5= .pointer (some ⟨b1,o1+j*5+2,none⟩):=t5';have hv6:xv6= .slice q.2.1.a q.2.1.n q.2.1.c:=t6'
           have hv7:(∃(a5:Option Addr) (c5:Nat),xv7= .slice a5 q.2.1.n c5/\w2.ownsRow wr.heap.size 3 1 (.slice a5 q.2.1.n c5) q.2.1.n (ints (x.senders.map (·.1)))):=t7';have hv8:(∃(a6:Option Addr) (c6:Nat),xv8= .slice a6 (l+q.2.1.n) c6/\w2.ownsRow (w.heap.size+2) 3 1 (.slice a6 (l+q.2.1.n) c6) (l+q.2.1.n) (ints (allE (semT s) v.se.n++allE (onT s) v.on.n++allE (grT s) v.gr.n++allE (baT s) v.ba.n++allE (chT s) j)++ints (x.senders.map (·.1)))):=t8';have hv9:xv9= .pointer (some ⟨w.heap.size+1,6,none⟩):=t9';have hv10:xv10= .slice (some ⟨b1,o1,none⟩) v.ch.n v.ch.c:=t10';have hv11:xv11= .int .i64 j:=t11';have hv12:xv12= .pointer (some ⟨b1,o1+j*5,none⟩):=t12';have hv13:xv13= .pointer (some ⟨b1,o1+j*5+3,none⟩):=t13';have hv14:xv14= .slice q.2.2.a q.2.2.n q.2.2.c:=t14';clear t0' t1' t2' t3' t4' t5' t6' t7' t8' t9' t10' t11' t12' t13' t14';clear hap hbd;subst hv0 hv1 hv2 hv3 hv4 hv5 hv6 hv9 hv10 hv11 hv12 hv13 hv14;obtain⟨_,_,rfl,-⟩:=hv7;obtain⟨a6,c6,rfl,h6o⟩:=hv8;simp only[zap,Act.put,List.setIfInBounds_toArray,List.set_cons_succ,List.set_cons_zero];have S2':=xH1 (S2.out.touch hG.2 (λ_ h=>h)).rd;have hs2:w.heap.size+2<=w2.heap.size:=Nat.le_trans hsw hG.2.size
           have hBT:Below (w.heap.size+2) W0 w2:=hb0.trans (hG.2.below hsw (λk hk=>(HAB.out k hk).1));have HO6:=xH1 h6o;clear h6o;go_wp2_with (at_builtin;refine zax (news:=ints x.getters) rfl _ _ 22 rfl Tryz.underlying22 zM rfl (by decide) rfl HO6.out rfl HL2.out S2'.out (zaa _) (by omega) (by decide) hs2 ?_;intro a3 c3 w3 ho3 hg3;have HO3:=xH1 ho3;have HG3:=xH1 hg3;clear ho3 hg3)
           go_roundw
           case rel=>exact⟨j+1,a3,l+q.2.1.n+q.2.2.n,c3,by omega,by go_num,rfl,xH1 (by
            have e:ints (allE (semT s) v.se.n++allE (onT s) v.on.n++allE (grT s) v.gr.n++allE (baT s) v.ba.n++allE (chT s) (j+1))=ints (allE (semT s) v.se.n++allE (onT s) v.on.n++allE (grT s) v.gr.n++allE (baT s) v.ba.n++allE (chT s) j)++ints (x.senders.map (·.1))++ints x.getters:=by
             rw[<-List.map_append,<-List.map_append,HX.out];simp only[allE,List.append_assoc];rfl
            rw[e];exact HO3.out),by omega,hBT.trans (zA HG3.out hs2 (λq hq=>(zp HO6.out q hq).1))⟩
           case measure=>simp[intOf];omega
        ·have hjs:j<s.bars.length:=by have:=Lba.out;omega
         obtain⟨x,q,b1,o1,HX,ea,g0,g1,g2,Q0,QL0,QC0⟩:=HS.out.at_ba (j:=j) hjs;have hok:=(HF.out.ba j hjs).1;rw[<-HX.out] at hok;rw[ea] at cq;have i0':(0:Int)<=(j:Int):=(by omega);have i1:(j:Int)<v.ba.n:=(by omega);clear ea hjs;have hq6:q.n<=6:=by rw[QL0.out];exact hok.2.2.1.1
         have cg:=zd hbw g2;have RQ:=xH1 (Q0.out.below hbw);have HLQ:Hid ((ints x.waits).length=q.n*1):=xH1 (by rw[List.length_map,QL0.out,Nat.mul_one]);clear hok g0 g1 g2;go_wp2_with (at_builtin;refine zax (news:=ints x.waits) rfl _ _ 22 rfl Tryz.underlying22 zM rfl (by decide) rfl ho.out rfl HLQ.out RQ.out (zaa _) (by omega) (by decide) hsw ?_;intro a3 c3 w3 ho3 hg3;have HO3:=xH1 ho3;have HG3:=xH1 hg3;clear ho3 hg3)
         go_roundw
         case rel=>exact⟨j+1,a3,l+q.n,c3,by omega,by go_num,rfl,xH1 (by
          have e:ints (allE (semT s) v.se.n++allE (onT s) v.on.n++allE (grT s) v.gr.n++allE (baT s) (j+1))=ints (allE (semT s) v.se.n++allE (onT s) v.on.n++allE (grT s) v.gr.n++allE (baT s) j)++ints x.waits:=by
           rw[<-List.map_append,HX.out];simp only[allE,List.append_assoc];rfl
          rw[e];exact HO3.out),by omega,hb0.trans (zA HG3.out hsw (λq hq=>(zp ho.out q hq).1))⟩
         case measure=>simp[intOf];omega
      ·have hjs:j<s.groups.length:=by have:=Lgr.out;omega
       obtain⟨x,q,b1,o1,HX,ea,g0,g1,Q0,QL0,QC0⟩:=HS.out.at_gr (j:=j) hjs;have hok:=HF.out.gr j hjs;rw[<-HX.out] at hok;rw[ea] at cq;have i0':(0:Int)<=(j:Int):=(by omega);have i1:(j:Int)<v.gr.n:=(by omega);clear ea hjs;have hq6:q.n<=6:=by rw[QL0.out];exact hok.2.1.1
       have cg:=zd hbw g1;have RQ:=xH1 (Q0.out.below hbw);have HLQ:Hid ((ints x.waits).length=q.n*1):=xH1 (by rw[List.length_map,QL0.out,Nat.mul_one]);clear hok g0 g1;go_wp2_with (at_builtin;refine zax (news:=ints x.waits) rfl _ _ 22 rfl Tryz.underlying22 zM rfl (by decide) rfl ho.out rfl HLQ.out RQ.out (zaa _) (by omega) (by decide) hsw ?_;intro a3 c3 w3 ho3 hg3;have HO3:=xH1 ho3;have HG3:=xH1 hg3;clear ho3 hg3)
       go_roundw
       case rel=>exact⟨j+1,a3,l+q.n,c3,by omega,by go_num,rfl,xH1 (by
        have e:ints (allE (semT s) v.se.n++allE (onT s) v.on.n++allE (grT s) (j+1))=ints (allE (semT s) v.se.n++allE (onT s) v.on.n++allE (grT s) j)++ints x.waits:=by
         rw[<-List.map_append,HX.out];simp only[allE,List.append_assoc];rfl
        rw[e];exact HO3.out),by omega,hb0.trans (zA HG3.out hsw (λq hq=>(zp ho.out q hq).1))⟩
       case measure=>simp[intOf];omega
    ·have hjs:j<s.onces.length:=by have:=Lon.out;omega
     obtain⟨x,q,b1,o1,HX,ea,g0,g1,g2,g3,Q0,QL0,QC0⟩:=HS.out.at_on (j:=j) hjs;have hok:=HF.out.on j hjs;rw[<-HX.out] at hok;rw[ea] at cq;have i0':(0:Int)<=(j:Int):=(by omega);have i1:(j:Int)<v.on.n:=(by omega);clear ea hjs;have hq6:q.n<=6:=by
      rw[QL0.out];rcases hok with ⟨-,-,-,h⟩|⟨-,-,-,h,-⟩|⟨-,-,-,h⟩
      ·rw[h];simp
      ·exact h.1
      ·rw[h];simp
     have cg:=zd hbw g3;have RQ:=xH1 (Q0.out.below hbw);have HLQ:Hid ((ints x.waits).length=q.n*1):=xH1 (by rw[List.length_map,QL0.out,Nat.mul_one]);clear hok g0 g1 g2 g3;go_wp2_with (at_builtin;refine zax (news:=ints x.waits) rfl _ _ 22 rfl Tryz.underlying22 zM rfl (by decide) rfl ho.out rfl HLQ.out RQ.out (zaa _) (by omega) (by decide) hsw ?_;intro a3 c3 w3 ho3 hg3;have HO3:=xH1 ho3;have HG3:=xH1 hg3;clear ho3 hg3)
     go_roundw
     case rel=>exact⟨j+1,a3,l+q.n,c3,by omega,by go_num,rfl,xH1 (by
      have e:ints (allE (semT s) v.se.n++allE (onT s) (j+1))=ints (allE (semT s) v.se.n++allE (onT s) j)++ints x.waits:=by
       rw[<-List.map_append,HX.out];simp only[allE,List.append_assoc];rfl
      rw[e];exact HO3.out),by omega,hb0.trans (zA HG3.out hsw (λq hq=>(zp ho.out q hq).1))⟩
     case measure=>simp[intOf];omega
  ·have hjs:j<s.sems.length:=by have:=Lse.out;omega
   obtain⟨x,q,b1,o1,HX,ea,g0,g1,g2,Q0,QL0,QC0⟩:=HS.out.at_se (j:=j) hjs;have hok:=(HF.out.se j hjs).1;rw[<-HX.out] at hok;rw[ea] at cq;have i0':(0:Int)<=(j:Int):=(by omega);have i1:(j:Int)<v.se.n:=(by omega);have EA:=xH1 ea;clear ea hjs;have hq6:q.n<=6:=by have:=hok.2.2.2.1.1;rw[List.length_map] at this;rw[QL0.out];exact this
   obtain⟨xb,xo,hxa⟩:∃xb xo,0<q.n->q.a=some ⟨xb,xo,none⟩/\∀k,k<x.queue.length->w.cell? ⟨xb,xo+k*2,none⟩=some (.int .i64 (x.queue.getD k (0,0)).1):=by
    by_cases h0:0<q.n
    ·obtain⟨xb,xo,e,h⟩:=Q0.out.pair (by have:=QL0.out;omega);exact⟨xb,xo,λ_=>⟨e,λk hk=>(h k hk).1⟩⟩
    ·exact⟨0,0,λh=>absurd h h0⟩
   have HXA:=xH1 hxa;have cg:=zd hbw g2;clear hxa hok g0 g1;go_wp2
   go_loopw [8,6] (λi z wq=>∃(k:Nat) (a2:Option Addr) (l2 c2:Nat),k<=q.n/\i= .int .i64 k/\z= .slice a2 l2 c2/\Hid (wq.ownsRow (w.heap.size+2) 3 1 (.slice a2 l2 c2) l2 (ints (allE (semT s) j++(x.queue.take k).map (·.1))))/\Hid (l2=l+k)/\l2<=l+6/\Below (w.heap.size+2) W0 wq) (λi _ _=>q.n-(intOf i).toNat)
   case atStart=>exact⟨0,a,l,c,by omega,rfl,rfl,by simpa using ho,xH1 rfl,by omega,hb0⟩
   case round=>
    obtain⟨k,a2,l2,c2,hk,rfl,rfl,ho2,HL2,hl2,hb2⟩:=hrel;have cq2:=zdm hb2 (by show w.heap.size+1<w.heap.size+2;omega) q2;rw[show v.se.a=some ⟨b1,o1,none⟩ from EA.out] at cq2;have hbw2:=HB.out.trans (hb2.mono (by omega));have cg2:=zd hbw2 g2;have hs2:w.heap.size+2<=wr.heap.size:=by have:=hb2.size;omega
    by_cases hkl:k<q.n
    ·obtain⟨eqa,hcell⟩:=HXA.out (by omega);obtain⟨t,et⟩:∃t,t=(x.queue.getD k (0,0)).1:=⟨_,rfl⟩
     have ct:=zd hbw2 (hcell k (by have:=QL0.out;omega));rw[<-et] at ct;rw[eqa] at cg2;have i2:(0:Int)<=(k:Int):=(by omega);have i3:(k:Int)<(q.n:Int):=(by omega);have ET:=xH1 et;clear hcell et eqa;go_wp2_with (at_builtin;refine zav (m:=1) (cm:=1) (news:=[.int .i64 t]) rfl _ _ 22 rfl Tryz.underlying22 zM rfl (by decide) rfl ho2.out rfl rfl rfl (by simp[Value.oneCell']) (by omega) (by decide) hs2 ?_;intro a3 c3 w3 ho3 hg3;have HO3:=xH1 ho3;have HG3:=xH1 hg3;clear ho3 hg3)
     go_roundw
     case rel=>exact⟨k+1,a3,l2+1,c3,by omega,by go_num,rfl,xH1 (by
      have e:ints (allE (semT s) j++(x.queue.take (k+1)).map (·.1))=ints (allE (semT s) j++(x.queue.take k).map (·.1))++[.int .i64 t]:=by
       rw[<-zas _ (0,0) (show k<x.queue.length by have:=QL0.out;omega),List.map_append,<-List.append_assoc];simp[ints,ET.out]
      rw[e];exact HO3.out),xH1 (by have:=HL2.out;omega),by have:=HL2.out;omega,hb2.trans (zA HG3.out hs2 (λq hq=>(zp ho2.out q hq).1))⟩
     case measure=>simp[intOf];omega
    ·have hkq:k=q.n:=(by omega);subst hkq;go_wp2
     go_roundw
     case rel=>exact⟨j+1,a2,l2,c2,by omega,by go_num,rfl,xH1 (by
      have e:allE (semT s) (j+1)=allE (semT s) j++(x.queue.take q.n).map (·.1):=by
       rw[allE,QL0.out,List.take_length];show _++(s.sems.getD j zG).queue.map (·.1)=_;rw[<-HX.out]
      rw[e];exact ho2.out),by have:=HL2.out;omega,hb2⟩
     case measure=>simp[intOf];omega
theorem zkg {s:StD} {e:Ent} (h:e∈ents s):
  (e.2.1=2/\∃i,i<s.sems.length/\e.2.2.1=i/\(e.1,e.2.2.2)∈(s.sems.getD i zG).queue)\/(e.2.1=4/\∃i,i<s.onces.length/\e.2.2.1=i/\e.1∈(s.onces.getD i zq).waits)\/
  (e.2.1=6/\∃i,i<s.groups.length/\e.2.2.1=i/\e.1∈(s.groups.getD i zQ).waits)\/(e.2.1=7/\∃i,i<s.bars.length/\e.2.2.1=i/\e.1∈(s.bars.getD i zE).waits)\/
  (e.2.1=8/\∃i,i<s.chans.length/\e.2.2.1=i/\(e.1,e.2.2.2)∈(s.chans.getD i zH).senders)\/(e.2.1=9/\∃i,i<s.chans.length/\e.2.2.1=i/\e.1∈(s.chans.getD i zH).getters):=by
 unfold ents at h;rcases xP1 h with h|h
 ·obtain⟨i,hi,h⟩:=za9.1 h;obtain⟨w,hw,rfl⟩:=xDl.1 h;exact .inl ⟨rfl,i,hi,rfl,hw⟩
 rcases xP1 h with h|h
 ·obtain⟨i,hi,h⟩:=za9.1 h;obtain⟨w,hw,rfl⟩:=xDl.1 h;exact .inr (.inl ⟨rfl,i,hi,rfl,hw⟩)
 rcases xP1 h with h|h
 ·obtain⟨i,hi,h⟩:=za9.1 h;obtain⟨w,hw,rfl⟩:=xDl.1 h;exact .inr (.inr (.inl ⟨rfl,i,hi,rfl,hw⟩))
 rcases xP1 h with h|h
 ·obtain⟨i,hi,h⟩:=za9.1 h;obtain⟨w,hw,rfl⟩:=xDl.1 h;exact .inr (.inr (.inr (.inl ⟨rfl,i,hi,rfl,hw⟩)))
 ·obtain⟨i,hi,h⟩:=za9.1 h;rcases xP1 h with h|h
  ·obtain⟨w,hw,rfl⟩:=xDl.1 h;exact .inr (.inr (.inr (.inr (.inl ⟨rfl,i,hi,rfl,hw⟩))))
  ·obtain⟨w,hw,rfl⟩:=xDl.1 h;exact .inr (.inr (.inr (.inr (.inr ⟨rfl,i,hi,rfl,hw⟩))))
theorem zeo {l:List (Int×Int)} {t c:Int} (hn:(l.map (·.1)).Nodup) (hm:(t,c)∈l):∃i:Nat,i<l.length/\zay (l.map (·.1)) t=i/\l.getD i (0,0)=(t,c):=by
 obtain⟨i,hi,e⟩:=List.mem_iff_getElem.1 hm;have e2:l.getD i (0,0)=(t,c):=by rw[xDa,xDb hi];exact e
 have e3:(l.map (·.1)).getD i 0=t:=by
  rw[xDa,xDb (by rw[xDf];exact hi),List.getElem_map];show(l[i]).1=t;rw[e]
 refine⟨i,hi,zeh (by rw[xDf];exact hi) e3 (λj hj h=> ?_),e2⟩;exact zdY hn (by rw[xDf];exact hi) hj (h.trans e3.symm)
theorem zhI (p:Pg) (v:StV) (L:StL) (s:StD) (o:OpD) (t:Int) (w:World) (hr:StR w v L s) (hf:Fits p s) (hw:want o t∈ents s):
  Calls Tryz.prog 148 #[.agg #[.slice v.pl.a v.pl.n v.pl.c,.slice v.st.a v.st.n v.st.c,.slice v.se.a v.se.n v.se.c,.slice v.on.a v.on.n v.on.c,.slice v.gr.a v.gr.n v.gr.c,.slice v.ba.a v.ba.n v.ba.c,.slice v.ch.a v.ch.n v.ch.c,.slice v.sa.a v.sa.n v.sa.c,.int .i64 v.fl],.agg #[.int .i64 o.kind,.int .i64 o.on,.int .i64 o.arg],.int .i64 t] w λe w'=>e= .returned (.bool true)/\Below w.heap.size w w':=by
 have HS:=xH1 hr;have HF:=xH1 hf;obtain⟨kind,on,arg⟩:=o;have Lse:=xH1 hr.se.len;have Lon:=xH1 hr.on.len;have Lgr:=xH1 hr.gr.len;have Lba:=xH1 hr.ba.len;have Lch:=xH1 hr.ch.len;have hm:=zkg hw;unfold want at hm;dsimp only at hm;clear hr hf hw;rcases hm with ⟨rfl,i,hi,rfl,hq⟩|⟨rfl,i,hi,rfl,hq⟩|⟨rfl,i,hi,rfl,hq⟩|⟨rfl,i,hi,rfl,hq⟩|⟨rfl,i,hi,rfl,hq⟩|⟨rfl,i,hi,rfl,hq⟩
 ·have hq':(t,arg)∈(s.sems.getD i zG).queue:=by simpa using hq
  obtain⟨x,q,b1,o1,HX,ea,g0,g1,g2,Q0,QL0,QC0⟩:=HS.out.at_se (j:=i) hi;have hok:=(HF.out.se i hi).1;rw[<-HX.out] at hok hq hq';obtain⟨W0,hW0⟩:∃W0:World,W0=((w.alloc (.cells #[.slice v.pl.a v.pl.n v.pl.c,.slice v.st.a v.st.n v.st.c,.slice v.se.a v.se.n v.se.c,.slice v.on.a v.on.n v.on.c,.slice v.gr.a v.gr.n v.gr.c,.slice v.ba.a v.ba.n v.ba.c,.slice v.ch.a v.ch.n v.ch.c,.slice v.sa.a v.sa.n v.sa.c,.int .i64 v.fl] 33)).alloc (.cells #[.int .i64 2,.int .i64 i,.int .i64 arg] 113)):=⟨_,rfl⟩
  have B0:Below w.heap.size w W0:=by
   rw[hW0];exact((xB1.alloc (by simp) _).alloc (by simp) _)
  have kS:Blk W0 (w.heap.size) #[.slice v.pl.a v.pl.n v.pl.c,.slice v.st.a v.st.n v.st.c,.slice v.se.a v.se.n v.se.c,.slice v.on.a v.on.n v.on.c,.slice v.gr.a v.gr.n v.gr.c,.slice v.ba.a v.ba.n v.ba.c,.slice v.ch.a v.ch.n v.ch.c,.slice v.sa.a v.sa.n v.sa.c,.int .i64 v.fl] 33:=by
   rw[hW0];have h:=Blk.new w #[.slice v.pl.a v.pl.n v.pl.c,.slice v.st.a v.st.n v.st.c,.slice v.se.a v.se.n v.se.c,.slice v.on.a v.on.n v.on.c,.slice v.gr.a v.gr.n v.gr.c,.slice v.ba.a v.ba.n v.ba.c,.slice v.ch.a v.ch.n v.ch.c,.slice v.sa.a v.sa.n v.sa.c,.int .i64 v.fl] 33;exact h|>.alloc _
  have kO:Blk W0 (w.heap.size+1) #[.int .i64 2,.int .i64 i,.int .i64 arg] 113:=by
   rw[hW0];have h:=Blk.new (w.alloc (.cells #[.slice v.pl.a v.pl.n v.pl.c,.slice v.st.a v.st.n v.st.c,.slice v.se.a v.se.n v.se.c,.slice v.on.a v.on.n v.on.c,.slice v.gr.a v.gr.n v.gr.c,.slice v.ba.a v.ba.n v.ba.c,.slice v.ch.a v.ch.n v.ch.c,.slice v.sa.a v.sa.n v.sa.c,.int .i64 v.fl] 33)) #[.int .i64 2,.int .i64 i,.int .i64 arg] 113;simp only[World.size_alloc] at h;exact h
  have hS0:W0.heap.size=w.heap.size+2:=by rw[hW0];simp
  have cq:=kS.cell 2 rfl;have o0:=kO.cell 0 rfl;have o1':=kO.cell 1 rfl;have o2:=kO.cell 2 rfl;rw[ea] at cq;have HB:=xH1 B0;have i0:(0:Int)<=(i:Int):=by omega
  have i1:(i:Int)<v.se.n:=by have:=Lse.out;omega
  replace g0:=zd B0 g0;replace g1:=zd B0 g1;replace g2:=zd B0 g2;replace Q0:=xH1 (Q0.out.below B0);clear kS kO ea hi B0;obtain⟨f,hf,hfi,hfq⟩:=zeo hok.2.2.2.1.2.2 hq';have hq6:=hok.2.2.2.1.1;rw[List.length_map] at hq6;have z6:q.n<=6:=by rw[QL0.out];exact hq6
  obtain⟨b3,o3,eqa,hc⟩:=Q0.out.pair (by omega);have c2:=(hc f hf).2;rw[hfq] at c2;dsimp only at c2;have HFI:=xH1 hfi;have f0:(0:Int)<=(f:Int):=by omega
  have f1:(f:Int)<(q.n:Int):=by have:=QL0.out;omega
  have t0:(arg==arg)=true:=by simp
  rw[eqa] at g2;clear hc hfq hq hq' hok hq6 hfi;go_enter Tryz.func148,Tryz.ntmps148;go_upto_region 1 with fail;rw[<-hW0];clear hW0;go_wp2_with fail;refine(zfe (some ⟨b3,o3,none⟩) q.n q.c x.queue t _ QL0.out.symm (by unfold maxLen;omega) (by rw[<-eqa];exact Q0.out)).mono ?_;rintro e w1 ⟨rfl,hw1⟩;have hw1':=hw1.symm;subst hw1';rw[HFI.out];clear eqa hf;go_wp2
  go_quiet (fail)
  go_wp2;go_ret;exact⟨rfl,below_drewN HB.out _⟩
 ·obtain⟨x,q,b1,o1,HX,ea,g0,g1,g2,g3,Q0,QL0,QC0⟩:=HS.out.at_on (j:=i) hi;have hok:=HF.out.on i hi;rw[<-HX.out] at hok hq;obtain⟨W0,hW0⟩:∃W0:World,W0=((w.alloc (.cells #[.slice v.pl.a v.pl.n v.pl.c,.slice v.st.a v.st.n v.st.c,.slice v.se.a v.se.n v.se.c,.slice v.on.a v.on.n v.on.c,.slice v.gr.a v.gr.n v.gr.c,.slice v.ba.a v.ba.n v.ba.c,.slice v.ch.a v.ch.n v.ch.c,.slice v.sa.a v.sa.n v.sa.c,.int .i64 v.fl] 33)).alloc (.cells #[.int .i64 4,.int .i64 i,.int .i64 arg] 113)):=⟨_,rfl⟩
  have B0:Below w.heap.size w W0:=by
   rw[hW0];exact((xB1.alloc (by simp) _).alloc (by simp) _)
  have kS:Blk W0 (w.heap.size) #[.slice v.pl.a v.pl.n v.pl.c,.slice v.st.a v.st.n v.st.c,.slice v.se.a v.se.n v.se.c,.slice v.on.a v.on.n v.on.c,.slice v.gr.a v.gr.n v.gr.c,.slice v.ba.a v.ba.n v.ba.c,.slice v.ch.a v.ch.n v.ch.c,.slice v.sa.a v.sa.n v.sa.c,.int .i64 v.fl] 33:=by
   rw[hW0];have h:=Blk.new w #[.slice v.pl.a v.pl.n v.pl.c,.slice v.st.a v.st.n v.st.c,.slice v.se.a v.se.n v.se.c,.slice v.on.a v.on.n v.on.c,.slice v.gr.a v.gr.n v.gr.c,.slice v.ba.a v.ba.n v.ba.c,.slice v.ch.a v.ch.n v.ch.c,.slice v.sa.a v.sa.n v.sa.c,.int .i64 v.fl] 33;exact h|>.alloc _
  have kO:Blk W0 (w.heap.size+1) #[.int .i64 4,.int .i64 i,.int .i64 arg] 113:=by
   rw[hW0];have h:=Blk.new (w.alloc (.cells #[.slice v.pl.a v.pl.n v.pl.c,.slice v.st.a v.st.n v.st.c,.slice v.se.a v.se.n v.se.c,.slice v.on.a v.on.n v.on.c,.slice v.gr.a v.gr.n v.gr.c,.slice v.ba.a v.ba.n v.ba.c,.slice v.ch.a v.ch.n v.ch.c,.slice v.sa.a v.sa.n v.sa.c,.int .i64 v.fl] 33)) #[.int .i64 4,.int .i64 i,.int .i64 arg] 113;simp only[World.size_alloc] at h;exact h
  have hS0:W0.heap.size=w.heap.size+2:=by rw[hW0];simp
  have cq:=kS.cell 3 rfl;have o0:=kO.cell 0 rfl;have o1':=kO.cell 1 rfl;have o2:=kO.cell 2 rfl;rw[ea] at cq;have HB:=xH1 B0;have i0:(0:Int)<=(i:Int):=by omega
  have i1:(i:Int)<v.on.n:=by have:=Lon.out;omega
  replace g0:=zd B0 g0;replace g1:=zd B0 g1;replace g2:=zd B0 g2;replace g3:=zd B0 g3;replace Q0:=xH1 (Q0.out.below B0);clear kS kO ea hi B0;have hq6:x.waits.length<=6:=by
   rcases hok with ⟨-,-,-,h⟩|⟨-,-,-,h,-⟩|⟨-,-,-,h⟩
   ·rw[h];simp
   ·exact h.1
   ·rw[h];simp
  have z6:q.n<=6:=by rw[QL0.out];exact hq6
  obtain⟨f,hf⟩:∃f,f=zay x.waits t:=⟨_,rfl⟩
  have f0:0<=f:=by rw[hf];exact(zcx hq).1
  have HFI:=xH1 hf;clear hok hq hq6 hf;go_enter Tryz.func148,Tryz.ntmps148;go_upto_region 1 with fail;rw[<-hW0];clear hW0;go_wp2_with fail;refine(zaV q.a q.n q.c x.waits t _ QL0.out.symm (by unfold maxLen;omega) Q0.out).mono ?_;rintro e w2 ⟨rfl,hw1⟩;have hw1':=hw1.symm;subst hw1';rw[<-HFI.out];go_wp2;go_ret;exact⟨rfl,HB.out⟩
 ·obtain⟨x,q,b1,o1,HX,ea,g0,g1,Q0,QL0,QC0⟩:=HS.out.at_gr (j:=i) hi;have hok:=HF.out.gr i hi;rw[<-HX.out] at hok hq;obtain⟨W0,hW0⟩:∃W0:World,W0=((w.alloc (.cells #[.slice v.pl.a v.pl.n v.pl.c,.slice v.st.a v.st.n v.st.c,.slice v.se.a v.se.n v.se.c,.slice v.on.a v.on.n v.on.c,.slice v.gr.a v.gr.n v.gr.c,.slice v.ba.a v.ba.n v.ba.c,.slice v.ch.a v.ch.n v.ch.c,.slice v.sa.a v.sa.n v.sa.c,.int .i64 v.fl] 33)).alloc (.cells #[.int .i64 6,.int .i64 i,.int .i64 arg] 113)):=⟨_,rfl⟩
  have B0:Below w.heap.size w W0:=by
   rw[hW0];exact((xB1.alloc (by simp) _).alloc (by simp) _)
  have kS:Blk W0 (w.heap.size) #[.slice v.pl.a v.pl.n v.pl.c,.slice v.st.a v.st.n v.st.c,.slice v.se.a v.se.n v.se.c,.slice v.on.a v.on.n v.on.c,.slice v.gr.a v.gr.n v.gr.c,.slice v.ba.a v.ba.n v.ba.c,.slice v.ch.a v.ch.n v.ch.c,.slice v.sa.a v.sa.n v.sa.c,.int .i64 v.fl] 33:=by
   rw[hW0];have h:=Blk.new w #[.slice v.pl.a v.pl.n v.pl.c,.slice v.st.a v.st.n v.st.c,.slice v.se.a v.se.n v.se.c,.slice v.on.a v.on.n v.on.c,.slice v.gr.a v.gr.n v.gr.c,.slice v.ba.a v.ba.n v.ba.c,.slice v.ch.a v.ch.n v.ch.c,.slice v.sa.a v.sa.n v.sa.c,.int .i64 v.fl] 33;exact h|>.alloc _
  have kO:Blk W0 (w.heap.size+1) #[.int .i64 6,.int .i64 i,.int .i64 arg] 113:=by
   rw[hW0];have h:=Blk.new (w.alloc (.cells #[.slice v.pl.a v.pl.n v.pl.c,.slice v.st.a v.st.n v.st.c,.slice v.se.a v.se.n v.se.c,.slice v.on.a v.on.n v.on.c,.slice v.gr.a v.gr.n v.gr.c,.slice v.ba.a v.ba.n v.ba.c,.slice v.ch.a v.ch.n v.ch.c,.slice v.sa.a v.sa.n v.sa.c,.int .i64 v.fl] 33)) #[.int .i64 6,.int .i64 i,.int .i64 arg] 113;simp only[World.size_alloc] at h;exact h
  have hS0:W0.heap.size=w.heap.size+2:=by rw[hW0];simp
  have cq:=kS.cell 4 rfl;have o0:=kO.cell 0 rfl;have o1':=kO.cell 1 rfl;have o2:=kO.cell 2 rfl;rw[ea] at cq;have HB:=xH1 B0;have i0:(0:Int)<=(i:Int):=by omega
  have i1:(i:Int)<v.gr.n:=by have:=Lgr.out;omega
  replace g0:=zd B0 g0;replace g1:=zd B0 g1;replace Q0:=xH1 (Q0.out.below B0);clear kS kO ea hi B0;have hq6:x.waits.length<=6:=hok.2.1.1;have z6:q.n<=6:=by rw[QL0.out];exact hq6
  obtain⟨f,hf⟩:∃f,f=zay x.waits t:=⟨_,rfl⟩
  have f0:0<=f:=by rw[hf];exact(zcx hq).1
  have HFI:=xH1 hf;clear hok hq hq6 hf;go_enter Tryz.func148,Tryz.ntmps148;go_upto_region 1 with fail;rw[<-hW0];clear hW0;go_wp2_with fail;refine(zaV q.a q.n q.c x.waits t _ QL0.out.symm (by unfold maxLen;omega) Q0.out).mono ?_;rintro e w2 ⟨rfl,hw1⟩;have hw1':=hw1.symm;subst hw1';rw[<-HFI.out];go_wp2;go_ret;exact⟨rfl,HB.out⟩
 ·obtain⟨x,q,b1,o1,HX,ea,g0,g1,g2,Q0,QL0,QC0⟩:=HS.out.at_ba (j:=i) hi;have hok:=(HF.out.ba i hi).1;rw[<-HX.out] at hok hq;obtain⟨W0,hW0⟩:∃W0:World,W0=((w.alloc (.cells #[.slice v.pl.a v.pl.n v.pl.c,.slice v.st.a v.st.n v.st.c,.slice v.se.a v.se.n v.se.c,.slice v.on.a v.on.n v.on.c,.slice v.gr.a v.gr.n v.gr.c,.slice v.ba.a v.ba.n v.ba.c,.slice v.ch.a v.ch.n v.ch.c,.slice v.sa.a v.sa.n v.sa.c,.int .i64 v.fl] 33)).alloc (.cells #[.int .i64 7,.int .i64 i,.int .i64 arg] 113)):=⟨_,rfl⟩
  have B0:Below w.heap.size w W0:=by
   rw[hW0];exact((xB1.alloc (by simp) _).alloc (by simp) _)
  have kS:Blk W0 (w.heap.size) #[.slice v.pl.a v.pl.n v.pl.c,.slice v.st.a v.st.n v.st.c,.slice v.se.a v.se.n v.se.c,.slice v.on.a v.on.n v.on.c,.slice v.gr.a v.gr.n v.gr.c,.slice v.ba.a v.ba.n v.ba.c,.slice v.ch.a v.ch.n v.ch.c,.slice v.sa.a v.sa.n v.sa.c,.int .i64 v.fl] 33:=by
   rw[hW0];have h:=Blk.new w #[.slice v.pl.a v.pl.n v.pl.c,.slice v.st.a v.st.n v.st.c,.slice v.se.a v.se.n v.se.c,.slice v.on.a v.on.n v.on.c,.slice v.gr.a v.gr.n v.gr.c,.slice v.ba.a v.ba.n v.ba.c,.slice v.ch.a v.ch.n v.ch.c,.slice v.sa.a v.sa.n v.sa.c,.int .i64 v.fl] 33;exact h|>.alloc _
  have kO:Blk W0 (w.heap.size+1) #[.int .i64 7,.int .i64 i,.int .i64 arg] 113:=by
   rw[hW0];have h:=Blk.new (w.alloc (.cells #[.slice v.pl.a v.pl.n v.pl.c,.slice v.st.a v.st.n v.st.c,.slice v.se.a v.se.n v.se.c,.slice v.on.a v.on.n v.on.c,.slice v.gr.a v.gr.n v.gr.c,.slice v.ba.a v.ba.n v.ba.c,.slice v.ch.a v.ch.n v.ch.c,.slice v.sa.a v.sa.n v.sa.c,.int .i64 v.fl] 33)) #[.int .i64 7,.int .i64 i,.int .i64 arg] 113;simp only[World.size_alloc] at h;exact h
  have hS0:W0.heap.size=w.heap.size+2:=by rw[hW0];simp
  have cq:=kS.cell 5 rfl;have o0:=kO.cell 0 rfl;have o1':=kO.cell 1 rfl;have o2:=kO.cell 2 rfl;rw[ea] at cq;have HB:=xH1 B0;have i0:(0:Int)<=(i:Int):=by omega
  have i1:(i:Int)<v.ba.n:=by have:=Lba.out;omega
  replace g0:=zd B0 g0;replace g1:=zd B0 g1;replace g2:=zd B0 g2;replace Q0:=xH1 (Q0.out.below B0);clear kS kO ea hi B0;have hq6:x.waits.length<=6:=hok.2.2.1.1;have z6:q.n<=6:=by rw[QL0.out];exact hq6
  obtain⟨f,hf⟩:∃f,f=zay x.waits t:=⟨_,rfl⟩
  have f0:0<=f:=by rw[hf];exact(zcx hq).1
  have HFI:=xH1 hf;clear hok hq hq6 hf;go_enter Tryz.func148,Tryz.ntmps148;go_upto_region 1 with fail;rw[<-hW0];clear hW0;go_wp2_with fail;refine(zaV q.a q.n q.c x.waits t _ QL0.out.symm (by unfold maxLen;omega) Q0.out).mono ?_;rintro e w2 ⟨rfl,hw1⟩;have hw1':=hw1.symm;subst hw1';rw[<-HFI.out];go_wp2;go_ret;exact⟨rfl,HB.out⟩
 ·have hq':(t,arg)∈(s.chans.getD i zH).senders:=by simpa using hq
  obtain⟨x,q,b1,o1,HX,ea,g0,g1,g2,g3,g4,Q0,QL0,QC0,Q1,QL1,QC1,Q2,QL2,QC2⟩:=HS.out.at_ch (j:=i) hi;have hok:=(HF.out.ch i hi).1;rw[<-HX.out] at hok hq hq';obtain⟨W0,hW0⟩:∃W0:World,W0=((w.alloc (.cells #[.slice v.pl.a v.pl.n v.pl.c,.slice v.st.a v.st.n v.st.c,.slice v.se.a v.se.n v.se.c,.slice v.on.a v.on.n v.on.c,.slice v.gr.a v.gr.n v.gr.c,.slice v.ba.a v.ba.n v.ba.c,.slice v.ch.a v.ch.n v.ch.c,.slice v.sa.a v.sa.n v.sa.c,.int .i64 v.fl] 33)).alloc (.cells #[.int .i64 8,.int .i64 i,.int .i64 arg] 113)):=⟨_,rfl⟩
  have B0:Below w.heap.size w W0:=by
   rw[hW0];exact((xB1.alloc (by simp) _).alloc (by simp) _)
  have kS:Blk W0 (w.heap.size) #[.slice v.pl.a v.pl.n v.pl.c,.slice v.st.a v.st.n v.st.c,.slice v.se.a v.se.n v.se.c,.slice v.on.a v.on.n v.on.c,.slice v.gr.a v.gr.n v.gr.c,.slice v.ba.a v.ba.n v.ba.c,.slice v.ch.a v.ch.n v.ch.c,.slice v.sa.a v.sa.n v.sa.c,.int .i64 v.fl] 33:=by
   rw[hW0];have h:=Blk.new w #[.slice v.pl.a v.pl.n v.pl.c,.slice v.st.a v.st.n v.st.c,.slice v.se.a v.se.n v.se.c,.slice v.on.a v.on.n v.on.c,.slice v.gr.a v.gr.n v.gr.c,.slice v.ba.a v.ba.n v.ba.c,.slice v.ch.a v.ch.n v.ch.c,.slice v.sa.a v.sa.n v.sa.c,.int .i64 v.fl] 33;exact h|>.alloc _
  have kO:Blk W0 (w.heap.size+1) #[.int .i64 8,.int .i64 i,.int .i64 arg] 113:=by
   rw[hW0];have h:=Blk.new (w.alloc (.cells #[.slice v.pl.a v.pl.n v.pl.c,.slice v.st.a v.st.n v.st.c,.slice v.se.a v.se.n v.se.c,.slice v.on.a v.on.n v.on.c,.slice v.gr.a v.gr.n v.gr.c,.slice v.ba.a v.ba.n v.ba.c,.slice v.ch.a v.ch.n v.ch.c,.slice v.sa.a v.sa.n v.sa.c,.int .i64 v.fl] 33)) #[.int .i64 8,.int .i64 i,.int .i64 arg] 113;simp only[World.size_alloc] at h;exact h
  have hS0:W0.heap.size=w.heap.size+2:=by rw[hW0];simp
  have cq:=kS.cell 6 rfl;have o0:=kO.cell 0 rfl;have o1':=kO.cell 1 rfl;have o2:=kO.cell 2 rfl;rw[ea] at cq;have HB:=xH1 B0;have i0:(0:Int)<=(i:Int):=by omega
  have i1:(i:Int)<v.ch.n:=by have:=Lch.out;omega
  replace g0:=zd B0 g0;replace g1:=zd B0 g1;replace g2:=zd B0 g2;replace g3:=zd B0 g3;replace g4:=zd B0 g4;replace Q0:=xH1 (Q0.out.below B0);replace Q1:=xH1 (Q1.out.below B0);replace Q2:=xH1 (Q2.out.below B0);clear kS kO ea hi B0;obtain⟨f,hf,hfi,hfq⟩:=zeo (List.nodup_append.1 (by have:=hok.2.2.2.2.1.2.2;exact this)).1 hq';have hq6:=hok.2.2.2.2.1.1;rw[List.length_append,List.length_map] at hq6;have z6:q.2.1.n<=6:=by rw[QL1.out];omega
  obtain⟨b3,o3,eqa,hc⟩:=Q1.out.pair (by omega);have c2:=(hc f hf).2;rw[hfq] at c2;dsimp only at c2;have HFI:=xH1 hfi;have f0:(0:Int)<=(f:Int):=by omega
  have f1:(f:Int)<(q.2.1.n:Int):=by have:=QL1.out;omega
  have t0:(arg==arg)=true:=by simp
  rw[eqa] at g2;clear hc hfq hq hq' hok hq6 hfi;go_enter Tryz.func148,Tryz.ntmps148;go_upto_region 1 with fail;rw[<-hW0];clear hW0;go_wp2_with fail;refine(zci x.senders (some ⟨b3,o3,none⟩) q.2.1.n q.2.1.c _ QL1.out.symm (by omega) (by rw[<-eqa];exact Q1.out)).mono ?_;rintro e w1 ⟨a4,c4,rfl,ho,hb⟩;have HO:=xH1 (Rd.of_owns ho);have HB1:=xH1 (HB.out.trans (hb.mono HB.out.size));replace cq:=zd hb cq;replace o0:=zd hb o0;replace o1':=zd hb o1';replace o2:=zd hb o2;replace g2:=zd hb g2;replace c2:=zd hb c2;clear ho hb eqa hf HB g0 g1 g3 g4;go_wp2_with fail;refine(zaV a4 q.2.1.n c4 (x.senders.map (·.1)) t _ (by rw[List.length_map,QL1.out]) (by unfold maxLen;omega) HO.out).mono ?_;rintro e w2 ⟨rfl,hw1⟩;have hw1':=hw1.symm;subst hw1';rw[HFI.out];go_wp2
  go_quiet (fail)
  go_wp2;go_ret;exact⟨rfl,below_drewN HB1.out _⟩
 ·obtain⟨x,q,b1,o1,HX,ea,g0,g1,g2,g3,g4,Q0,QL0,QC0,Q1,QL1,QC1,Q2,QL2,QC2⟩:=HS.out.at_ch (j:=i) hi;have hok:=(HF.out.ch i hi).1;rw[<-HX.out] at hok hq;obtain⟨W0,hW0⟩:∃W0:World,W0=((w.alloc (.cells #[.slice v.pl.a v.pl.n v.pl.c,.slice v.st.a v.st.n v.st.c,.slice v.se.a v.se.n v.se.c,.slice v.on.a v.on.n v.on.c,.slice v.gr.a v.gr.n v.gr.c,.slice v.ba.a v.ba.n v.ba.c,.slice v.ch.a v.ch.n v.ch.c,.slice v.sa.a v.sa.n v.sa.c,.int .i64 v.fl] 33)).alloc (.cells #[.int .i64 9,.int .i64 i,.int .i64 arg] 113)):=⟨_,rfl⟩
  have B0:Below w.heap.size w W0:=by
   rw[hW0];exact((xB1.alloc (by simp) _).alloc (by simp) _)
  have kS:Blk W0 (w.heap.size) #[.slice v.pl.a v.pl.n v.pl.c,.slice v.st.a v.st.n v.st.c,.slice v.se.a v.se.n v.se.c,.slice v.on.a v.on.n v.on.c,.slice v.gr.a v.gr.n v.gr.c,.slice v.ba.a v.ba.n v.ba.c,.slice v.ch.a v.ch.n v.ch.c,.slice v.sa.a v.sa.n v.sa.c,.int .i64 v.fl] 33:=by
   rw[hW0];have h:=Blk.new w #[.slice v.pl.a v.pl.n v.pl.c,.slice v.st.a v.st.n v.st.c,.slice v.se.a v.se.n v.se.c,.slice v.on.a v.on.n v.on.c,.slice v.gr.a v.gr.n v.gr.c,.slice v.ba.a v.ba.n v.ba.c,.slice v.ch.a v.ch.n v.ch.c,.slice v.sa.a v.sa.n v.sa.c,.int .i64 v.fl] 33;exact h|>.alloc _
  have kO:Blk W0 (w.heap.size+1) #[.int .i64 9,.int .i64 i,.int .i64 arg] 113:=by
   rw[hW0];have h:=Blk.new (w.alloc (.cells #[.slice v.pl.a v.pl.n v.pl.c,.slice v.st.a v.st.n v.st.c,.slice v.se.a v.se.n v.se.c,.slice v.on.a v.on.n v.on.c,.slice v.gr.a v.gr.n v.gr.c,.slice v.ba.a v.ba.n v.ba.c,.slice v.ch.a v.ch.n v.ch.c,.slice v.sa.a v.sa.n v.sa.c,.int .i64 v.fl] 33)) #[.int .i64 9,.int .i64 i,.int .i64 arg] 113;simp only[World.size_alloc] at h;exact h
  have hS0:W0.heap.size=w.heap.size+2:=by rw[hW0];simp
  have cq:=kS.cell 6 rfl;have o0:=kO.cell 0 rfl;have o1':=kO.cell 1 rfl;have o2:=kO.cell 2 rfl;rw[ea] at cq;have HB:=xH1 B0;have i0:(0:Int)<=(i:Int):=by omega
  have i1:(i:Int)<v.ch.n:=by have:=Lch.out;omega
  replace g0:=zd B0 g0;replace g1:=zd B0 g1;replace g2:=zd B0 g2;replace g3:=zd B0 g3;replace g4:=zd B0 g4;replace Q0:=xH1 (Q0.out.below B0);replace Q1:=xH1 (Q1.out.below B0);replace Q2:=xH1 (Q2.out.below B0);clear kS kO ea hi B0;have hq6:x.getters.length<=6:=by
   have:=hok.2.2.2.2.1.1;rw[List.length_append] at this;omega
  have z6:q.2.2.n<=6:=by rw[QL2.out];exact hq6
  obtain⟨f,hf⟩:∃f,f=zay x.getters t:=⟨_,rfl⟩
  have f0:0<=f:=by rw[hf];exact(zcx hq).1
  have HFI:=xH1 hf;clear hok hq hq6 hf;go_enter Tryz.func148,Tryz.ntmps148;go_upto_region 1 with fail;rw[<-hW0];clear hW0;go_wp2_with fail;refine(zaV q.2.2.a q.2.2.n q.2.2.c x.getters t _ QL2.out.symm (by unfold maxLen;omega) Q2.out).mono ?_;rintro e w2 ⟨rfl,hw1⟩;have hw1':=hw1.symm;subst hw1';rw[<-HFI.out];go_wp2;go_ret;exact⟨rfl,HB.out⟩
theorem zgL (u:PV) (p:Pg) (v:StV) (L:StL) (s:StD) (t:Nat) (w:World) (hp:RdP w u p) (hr:StR w v L s) (hf:Fits p s) (ht:t<p.threads.length):
  Calls Tryz.prog 98 #[.agg #[.slice u.s u.ns u.cs,.slice u.g u.ng u.cg,.slice u.b u.nb u.cb,.slice u.r u.nr u.cr,.slice u.t u.nt u.ct],.agg #[.slice v.pl.a v.pl.n v.pl.c,.slice v.st.a v.st.n v.st.c,.slice v.se.a v.se.n v.se.c,.slice v.on.a v.on.n v.on.c,.slice v.gr.a v.gr.n v.gr.c,.slice v.ba.a v.ba.n v.ba.c,.slice v.ch.a v.ch.n v.ch.c,.slice v.sa.a v.sa.n v.sa.c,.int .i64 v.fl],.int .i64 t,.int .i64 ((eT s).count (t:Int):Nat)] w λe w'=>e= .returned (.bool true)/\Below w.heap.size w w':=by
 have HS:=xH1 hr;have HF:=xH1 hf;have LT:=xH1 hp.lt;have Lpl:=xH1 hr.pl.len;have Lst:=xH1 hr.st.len;have Lon:=xH1 hr.on.len;obtain⟨z1,z2,z3,z4,⟨z5,z6⟩,z7⟩:=zR hf.prog;obtain⟨bp,op,epl,hpl⟩:=hr.pl.rd.int (by rw[hf.np];omega);obtain⟨bs,os,est,hst⟩:=hr.st.rd.int (by rw[hf.nst];omega);obtain⟨bt,ot,et,hth⟩:=hp.thr (by omega);obtain⟨a2,x2,ct,r2⟩:=hth t ht;have cpl:=hpl t (by rw[hf.np];exact ht);have cst:=hst t (by rw[hf.nst];exact ht);have hz7:=z7 t;have hth':=hf.th t ht;have e1:((t:Nat):Int).toNat=t:=by simp
 unfold thOk at hth';rw[e1,zbj] at hth';obtain⟨pl,epl'⟩:∃x,x=s.places.getD t 0:=⟨_,rfl⟩
 obtain⟨sx,est'⟩:∃x,x=s.status.getD t 0:=⟨_,rfl⟩
 obtain⟨m,em⟩:∃m,m=(p.threads.getD t []).length:=⟨_,rfl⟩
 rw[<-epl'] at cpl hth';rw[<-est'] at cst hth';rw[<-em] at ct hz7 hth';have HPL:=xH1 epl';have HM:=xH1 em;have HT:=xH1 ht;have npl:v.pl.n=u.nt:=by rw[hr.pl.len,hf.np,hp.lt]
 have nst:v.st.n=u.nt:=by rw[hr.st.len,hf.nst,hp.lt]
 have t0:(0:Int)<=(t:Int):=by omega
 have t1:(t:Int)<(u.nt:Int):=by rw[<-hp.lt];omega
 have t2:(t:Int)<(v.pl.n:Int):=by rw[npl];exact t1
 have t3:(t:Int)<(v.st.n:Int):=by rw[nst];exact t1
 have z8:u.nt<=4:=by rw[<-hp.lt];exact z6
 clear hp hr hf ht hpl hst hth z1 z2 z3 z4 z5 z6 z7 e1 npl nst epl' est' em;obtain⟨W0,hW0⟩:∃W0:World,W0=((w.alloc (.cells #[.slice u.s u.ns u.cs,.slice u.g u.ng u.cg,.slice u.b u.nb u.cb,.slice u.r u.nr u.cr,.slice u.t u.nt u.ct] 40)).alloc (.cells #[.slice v.pl.a v.pl.n v.pl.c,.slice v.st.a v.st.n v.st.c,.slice v.se.a v.se.n v.se.c,.slice v.on.a v.on.n v.on.c,.slice v.gr.a v.gr.n v.gr.c,.slice v.ba.a v.ba.n v.ba.c,.slice v.ch.a v.ch.n v.ch.c,.slice v.sa.a v.sa.n v.sa.c,.int .i64 v.fl] 33)):=⟨_,rfl⟩
 have B0:Below w.heap.size w W0:=by
  rw[hW0];exact((xB1.alloc (by simp) _).alloc (by simp) _)
 have kP:Blk W0 (w.heap.size) #[.slice u.s u.ns u.cs,.slice u.g u.ng u.cg,.slice u.b u.nb u.cb,.slice u.r u.nr u.cr,.slice u.t u.nt u.ct] 40:=by
  rw[hW0];have h:=Blk.new w #[.slice u.s u.ns u.cs,.slice u.g u.ng u.cg,.slice u.b u.nb u.cb,.slice u.r u.nr u.cr,.slice u.t u.nt u.ct] 40;exact h|>.alloc _
 have kS:Blk W0 (w.heap.size+1) #[.slice v.pl.a v.pl.n v.pl.c,.slice v.st.a v.st.n v.st.c,.slice v.se.a v.se.n v.se.c,.slice v.on.a v.on.n v.on.c,.slice v.gr.a v.gr.n v.gr.c,.slice v.ba.a v.ba.n v.ba.c,.slice v.ch.a v.ch.n v.ch.c,.slice v.sa.a v.sa.n v.sa.c,.int .i64 v.fl] 33:=by
  rw[hW0];have h:=Blk.new (w.alloc (.cells #[.slice u.s u.ns u.cs,.slice u.g u.ng u.cg,.slice u.b u.nb u.cb,.slice u.r u.nr u.cr,.slice u.t u.nt u.ct] 40)) #[.slice v.pl.a v.pl.n v.pl.c,.slice v.st.a v.st.n v.st.c,.slice v.se.a v.se.n v.se.c,.slice v.on.a v.on.n v.on.c,.slice v.gr.a v.gr.n v.gr.c,.slice v.ba.a v.ba.n v.ba.c,.slice v.ch.a v.ch.n v.ch.c,.slice v.sa.a v.sa.n v.sa.c,.int .i64 v.fl] 33;simp only[World.size_alloc] at h;exact h
 have hS0:W0.heap.size=w.heap.size+2:=by rw[hW0];simp
 have p4:=kP.cell 4 rfl;have q0:=kS.cell 0 rfl;have q1:=kS.cell 1 rfl;have q2:=kS.cell 2 rfl;have q3:=kS.cell 3 rfl;have q4:=kS.cell 4 rfl;have q5:=kS.cell 5 rfl;have q6:=kS.cell 6 rfl;have q7:=kS.cell 7 rfl;have q8:=kS.cell 8 rfl;have HB:=xH1 B0;rw[et] at p4;rw[epl] at q0;rw[est] at q1;replace ct:=zd B0 ct;replace cpl:=zd B0 cpl;replace cst:=zd B0 cst;have R2:=xH1 (r2.below B0);have HS0:=xH1 (HS.out.below B0);have HVP:Hid (∀W,StR W v L s->StR W ⟨⟨some ⟨bp,op,none⟩,v.pl.n,v.pl.c⟩,⟨some ⟨bs,os,none⟩,v.st.n,v.st.c⟩,v.se,v.on,v.gr,v.ba,v.ch,v.sa,v.fl⟩ L s):=xH1 (by intro W h;rw[<-epl,<-est];exact h);clear kP kS B0 r2 et epl est HS;obtain⟨h0,h1,hc⟩:=hth';rcases hc with ⟨c1,c2,c3,c4⟩|⟨c1,⟨c2,c3,c4⟩|⟨c2,c3,c4⟩|⟨c2,c3,c4,c5⟩⟩
 ·have HN:Hid ((eT s).count (t:Int)=0):=xH1 (List.count_eq_zero.2 c3);rw[HN.out];subst c1 c2;have t4:((m:Int)==(m:Int))=true:=by simp
  clear c3 c4 h0 h1;go_enter Tryz.func98,Tryz.ntmps98;go_upto_region 1 with fail;rw[<-hW0];clear hW0;go_wp2;go_ret;exact⟨rfl,HB.out⟩
 ·have HN:Hid ((eT s).count (t:Int)=0):=xH1 (List.count_eq_zero.2 c3);rw[HN.out];subst c2;obtain⟨b2,o2,ea2,g2'⟩:=R2.out.op (by have:=HM.out;omega);obtain⟨g2a,g2b,g2c⟩:=g2' pl.toNat (by have:=HM.out;omega)
  obtain⟨o,ho⟩:∃o,o=(p.threads.getD t []).getD pl.toNat noOp:=⟨_,rfl⟩
  have ho':opAt p s t=o:=by unfold opAt;rw[zbj,show((t:Nat):Int).toNat=t by simp,<-HPL.out,ho]
  rw[<-ho] at g2a g2b g2c;subst ea2;have t4:(pl==(m:Int))=false:=by simp;omega
  clear g2' ho;have bA:Below W0.heap.size W0 (W0.alloc (.cells #[.int .i64 o.kind,.int .i64 o.on,.int .i64 o.arg] 113)):=xA1;have kA:Blk (W0.alloc (.cells #[.int .i64 o.kind,.int .i64 o.on,.int .i64 o.arg] 113)) W0.heap.size #[.int .i64 o.kind,.int .i64 o.on,.int .i64 o.arg] 113:=Blk.new _ _ _;have cstA:=zd bA cst;have qA0:=zd bA q0;have qA1:=zd bA q1;have qA2:=zd bA q2;have qA3:=zd bA q3;have qA4:=zd bA q4;have qA5:=zd bA q5;have qA6:=zd bA q6;have qA7:=zd bA q7;have qA8:=zd bA q8;rw[hS0] at kA;have oA0:=kA.cell 0 rfl;have oA1:=kA.cell 1 rfl;have oA2:=kA.cell 2 rfl;clear bA kA;clear c3 c4;go_enter Tryz.func98,Tryz.ntmps98;go_upto_region 1 with fail;rw[<-hW0];clear hW0;go_wp2;go_ret;exact⟨rfl,HB.out.alloc HB.out.size _⟩
 ·subst c2;obtain⟨b2,o2,ea2,g2'⟩:=R2.out.op (by have:=HM.out;omega);obtain⟨g2a,g2b,g2c⟩:=g2' pl.toNat (by have:=HM.out;omega)
  obtain⟨o,ho⟩:∃o,o=(p.threads.getD t []).getD pl.toNat noOp:=⟨_,rfl⟩
  have ho':opAt p s t=o:=by unfold opAt;rw[zbj,show((t:Nat):Int).toNat=t by simp,<-HPL.out,ho]
  rw[<-ho] at g2a g2b g2c;subst ea2;have t4:(pl==(m:Int))=false:=by simp;omega
  clear g2' ho;rw[ho'] at c3;have HN:Hid ((eT s).count (t:Int)=1):=xH1 (by
   have hm:(t:Int)∈eT s:=List.mem_map.2 ⟨_,c3,rfl⟩;have h1:=List.count_pos_iff.2 hm;have h2:=List.nodup_iff_count.1 HF.out.ne (t:Int);omega)
  rw[HN.out];have HW:=xH1 c3;clear c3 c4;have bA:Below W0.heap.size W0 (W0.alloc (.cells #[.int .i64 o.kind,.int .i64 o.on,.int .i64 o.arg] 113)):=xA1;have kA:Blk (W0.alloc (.cells #[.int .i64 o.kind,.int .i64 o.on,.int .i64 o.arg] 113)) W0.heap.size #[.int .i64 o.kind,.int .i64 o.on,.int .i64 o.arg] 113:=Blk.new _ _ _;have cstA:=zd bA cst;have qA0:=zd bA q0;have qA1:=zd bA q1;have qA2:=zd bA q2;have qA3:=zd bA q3;have qA4:=zd bA q4;have qA5:=zd bA q5;have qA6:=zd bA q6;have qA7:=zd bA q7;have qA8:=zd bA q8;have hcl:=zhI p ⟨⟨some ⟨bp,op,none⟩,v.pl.n,v.pl.c⟩,⟨some ⟨bs,os,none⟩,v.st.n,v.st.c⟩,v.se,v.on,v.gr,v.ba,v.ch,v.sa,v.fl⟩ L s o t (W0.alloc (.cells #[.int .i64 o.kind,.int .i64 o.on,.int .i64 o.arg] 113)) (HVP.out _ (HS0.out.below bA)) HF.out HW.out
  try dsimp only at hcl
  have HCL:=xH1 hcl;clear hcl;rw[hS0] at kA;have oA0:=kA.cell 0 rfl;have oA1:=kA.cell 1 rfl;have oA2:=kA.cell 2 rfl;clear bA kA;go_enter Tryz.func98,Tryz.ntmps98;go_upto_region 1 with fail;rw[<-hW0];clear hW0;go_wp2_with fail;refine HCL.out.mono ?_;rintro e w1 ⟨rfl,hb⟩;go_wp2;go_ret;exact⟨rfl,(HB.out.alloc HB.out.size _).trans (hb.mono (HB.out.alloc HB.out.size _).size)⟩
 ·have HN:Hid ((eT s).count (t:Int)=0):=xH1 (List.count_eq_zero.2 c3);rw[HN.out];subst c2;obtain⟨b2,o2,ea2,g2'⟩:=R2.out.op (by have:=HM.out;omega);obtain⟨g2a,g2b,g2c⟩:=g2' pl.toNat (by have:=HM.out;omega)
  obtain⟨o,ho⟩:∃o,o=(p.threads.getD t []).getD pl.toNat noOp:=⟨_,rfl⟩
  have ho':opAt p s t=o:=by unfold opAt;rw[zbj,show((t:Nat):Int).toNat=t by simp,<-HPL.out,ho]
  rw[<-ho] at g2a g2b g2c;subst ea2;have t4:(pl==(m:Int))=false:=by simp;omega
  clear g2' ho;rw[ho'] at c4 c5;obtain⟨i,hi,hmem⟩:=za9.1 c5;have hx1:(s.onces.getD i zq).state=1/\(t:Int)=(s.onces.getD i zq).owner/\o.on=i:=by
   unfold zaq at hmem;by_cases hs1:(s.onces.getD i zq).state=1
   ·rw[if_pos hs1] at hmem;have:=xS1 hmem;simp only[Prod.mk.injEq] at this;exact⟨hs1,this.1,this.2⟩
   ·rw[if_neg hs1] at hmem;cases hmem
  obtain⟨x1,x2,x3⟩:=hx1;have hok:=HF.out.on i hi;have hov:(s.onces.getD i zq).value=0:=by
   rcases hok with ⟨k1,-⟩|⟨-,-,k3,-⟩|⟨k1,-⟩
   ·omega
   ·exact k3
   ·omega
  obtain⟨x,q,b1,o1,HX,ea,g0,g1,g2,g3,Q0,QL0,QC0⟩:=HS0.out.at_on (j:=i) hi;rw[<-HX.out] at x1 x2 hok hov;rw[x1] at g0;rw[<-x2] at g1;rw[hov] at g2;rw[ea] at q3;have hk2:zbW ⟨1,t,0,x.waits⟩:=by
   have:x=⟨1,t,0,x.waits⟩:=by
    obtain⟨xs,xo,xv,xw⟩:=x;dsimp only at x1 x2 hov;subst x1 x2 hov;rfl
   rw[<-this];exact hok
  have HK2:=xH1 hk2;obtain⟨ok,oo,oa⟩:=o;dsimp only at c4 x3 g2a g2b g2c;subst c4 x3;have i2:(0:Int)<=(i:Int):=by omega
  have i3:(i:Int)<(v.on.n:Int):=by have:=Lon.out;omega
  clear c3 c5 hmem x1 x2 hok hov ea hk2 ho' hi;have bA:Below W0.heap.size W0 (W0.alloc (.cells #[.int .i64 4,.int .i64 i,.int .i64 oa] 113)):=xA1;have kA:Blk (W0.alloc (.cells #[.int .i64 4,.int .i64 i,.int .i64 oa] 113)) W0.heap.size #[.int .i64 4,.int .i64 i,.int .i64 oa] 113:=Blk.new _ _ _;have cstA:=zd bA cst;have qA0:=zd bA q0;have qA1:=zd bA q1;have qA2:=zd bA q2;have qA3:=zd bA q3;have qA4:=zd bA q4;have qA5:=zd bA q5;have qA6:=zd bA q6;have qA7:=zd bA q7;have qA8:=zd bA q8;have g0A:=zd bA g0;have g1A:=zd bA g1;have g2A:=zd bA g2;have g3A:=zd bA g3;have hcl:=zfI x.waits q.a q.n q.c t (W0.alloc (.cells #[.int .i64 4,.int .i64 i,.int .i64 oa] 113)) QL0.out.symm QC0.out (Q0.out.below bA) HK2.out
  try dsimp only at hcl
  have HCL:=xH1 hcl;clear hcl;rw[hS0] at kA;have oA0:=kA.cell 0 rfl;have oA1:=kA.cell 1 rfl;have oA2:=kA.cell 2 rfl;clear bA kA;go_enter Tryz.func98,Tryz.ntmps98;go_upto_region 1 with fail;rw[<-hW0];clear hW0;go_wp2_with fail;refine HCL.out.mono ?_;rintro e w1 ⟨rfl,hb⟩;go_wp2;go_ret;exact⟨rfl,(HB.out.alloc HB.out.size _).trans (hb.mono (HB.out.alloc HB.out.size _).size)⟩
theorem zky {p:Pg} {s:StD} (hf:Fits p s) {i:Nat} (hi:i<s.onces.length) (h1:(s.onces.getD i zq).state=1):
  ∃t:Nat,(s.onces.getD i zq).owner=t/\t<p.threads.length/\s.status.getD t 0=2/\0<=s.places.getD t 0/\s.places.getD t 0<(p.threads.getD t []).length/\(opAt p s t).on=i:=by
 have hm:((s.onces.getD i zq).owner,(i:Int))∈owns s:=zgV hi (by unfold zaq;rw[if_pos h1];simp);have hr:=hf.oe _ hm;obtain⟨t,ht⟩:∃t:Nat,(s.onces.getD i zq).owner=t:=⟨(s.onces.getD i zq).owner.toNat,by have:=hr.1;dsimp only at this;omega⟩
 rw[ht] at hm hr;have htl:t<p.threads.length:=by have:=hr.2;dsimp only at this;omega
 have hth:=hf.th t htl;unfold thOk at hth;rw[show((t:Nat):Int).toNat=t by simp,zbj] at hth;have hto:(t:Int)∈oT s:=xDl.2 ⟨_,hm,rfl⟩;obtain⟨h0,-,hc⟩:=hth;rcases hc with ⟨-,-,-,c4⟩|⟨c1,⟨-,-,c4⟩|⟨-,-,c4⟩|⟨c2,-,-,c5⟩⟩
 ·exact absurd hto c4
 ·exact absurd hto c4
 ·exact absurd hto c4
 ·refine⟨t,ht,htl,c2,h0,c1,?_⟩;have e:∀{l:List (Int×Int)} {a b c:Int},(l.map (·.1)).Nodup->(a,b)∈l->(a,c)∈l->b=c:=by
   intro l a b c hn hb hc;obtain⟨i,-,e1,e2⟩:=zeo hn hb;obtain⟨j,-,e3,e4⟩:=zeo hn hc;rw[e1] at e3;have:i=j:=(by omega);subst this;rw[e2] at e4;exact(Prod.mk.inj e4).2
  exact e hf.no c5 hm
theorem zg4 (u:PV) (p:Pg) (v:StV) (L:StL) (s:StD) (w:World) (hp:RdP w u p) (hr:StR w v L s) (hf:Fits p s):
  Calls Tryz.prog 99 #[.agg #[.slice u.s u.ns u.cs,.slice u.g u.ng u.cg,.slice u.b u.nb u.cb,.slice u.r u.nr u.cr,.slice u.t u.nt u.ct],.agg #[.slice v.pl.a v.pl.n v.pl.c,.slice v.st.a v.st.n v.st.c,.slice v.se.a v.se.n v.se.c,.slice v.on.a v.on.n v.on.c,.slice v.gr.a v.gr.n v.gr.c,.slice v.ba.a v.ba.n v.ba.c,.slice v.ch.a v.ch.n v.ch.c,.slice v.sa.a v.sa.n v.sa.c,.int .i64 v.fl]] w λe w'=>e= .returned (.bool true)/\Below w.heap.size w w':=by
 have HS:=xH1 hr;have HP:=xH1 hp;have HF:=xH1 hf;have LT:=xH1 hp.lt;have Lon:=xH1 hr.on.len;have npl:v.pl.n=u.nt:=by rw[hr.pl.len,hf.np,hp.lt]
 have nst:v.st.n=u.nt:=by rw[hr.st.len,hf.nst,hp.lt]
 have NPL:=xH1 npl;have NST:=xH1 nst;have zon:v.on.n<=3:=by rw[hr.on.len,hf.non];omega
 clear hp hr hf npl nst;obtain⟨W0,hW0⟩:∃W0:World,W0=((w.alloc (.cells #[.slice u.s u.ns u.cs,.slice u.g u.ng u.cg,.slice u.b u.nb u.cb,.slice u.r u.nr u.cr,.slice u.t u.nt u.ct] 40)).alloc (.cells #[.slice v.pl.a v.pl.n v.pl.c,.slice v.st.a v.st.n v.st.c,.slice v.se.a v.se.n v.se.c,.slice v.on.a v.on.n v.on.c,.slice v.gr.a v.gr.n v.gr.c,.slice v.ba.a v.ba.n v.ba.c,.slice v.ch.a v.ch.n v.ch.c,.slice v.sa.a v.sa.n v.sa.c,.int .i64 v.fl] 33)):=⟨_,rfl⟩
 have B0:Below w.heap.size w W0:=by
  rw[hW0];exact((xB1.alloc (by simp) _).alloc (by simp) _)
 have kP:Blk W0 (w.heap.size) #[.slice u.s u.ns u.cs,.slice u.g u.ng u.cg,.slice u.b u.nb u.cb,.slice u.r u.nr u.cr,.slice u.t u.nt u.ct] 40:=by
  rw[hW0];have h:=Blk.new w #[.slice u.s u.ns u.cs,.slice u.g u.ng u.cg,.slice u.b u.nb u.cb,.slice u.r u.nr u.cr,.slice u.t u.nt u.ct] 40;exact h|>.alloc _
 have kS:Blk W0 (w.heap.size+1) #[.slice v.pl.a v.pl.n v.pl.c,.slice v.st.a v.st.n v.st.c,.slice v.se.a v.se.n v.se.c,.slice v.on.a v.on.n v.on.c,.slice v.gr.a v.gr.n v.gr.c,.slice v.ba.a v.ba.n v.ba.c,.slice v.ch.a v.ch.n v.ch.c,.slice v.sa.a v.sa.n v.sa.c,.int .i64 v.fl] 33:=by
  rw[hW0];have h:=Blk.new (w.alloc (.cells #[.slice u.s u.ns u.cs,.slice u.g u.ng u.cg,.slice u.b u.nb u.cb,.slice u.r u.nr u.cr,.slice u.t u.nt u.ct] 40)) #[.slice v.pl.a v.pl.n v.pl.c,.slice v.st.a v.st.n v.st.c,.slice v.se.a v.se.n v.se.c,.slice v.on.a v.on.n v.on.c,.slice v.gr.a v.gr.n v.gr.c,.slice v.ba.a v.ba.n v.ba.c,.slice v.ch.a v.ch.n v.ch.c,.slice v.sa.a v.sa.n v.sa.c,.int .i64 v.fl] 33;simp only[World.size_alloc] at h;exact h
 have hS0:W0.heap.size=w.heap.size+2:=by rw[hW0];simp
 have p4:=kP.cell 4 rfl;have q0:=kS.cell 0 rfl;have q1:=kS.cell 1 rfl;have q3:=kS.cell 3 rfl;have H0:=xH1 (HS.out.below B0);have HP0:=xH1 (HP.out.below B0);have HB:=xH1 B0;clear HS HP B0 kS kP;go_enter Tryz.func99,Tryz.ntmps99;go_wp2;rw[<-hW0];clear hW0
 go_loopw [5] (λi wr=>∃j:Nat,j<=v.on.n/\i= .int .i64 j/\Below W0.heap.size W0 wr) (λi _=>v.on.n-(intOf i).toNat)
 case atStart=>exact⟨0,by omega,rfl,Below.refl _ _⟩
 case round=>
  obtain⟨j,hj,rfl,hb0⟩:=hrel;have cq:=zd hb0 q3;by_cases hlt:j<v.on.n
  rotate_left
  ·obtain rfl:j=v.on.n:=by omega
   go_wp2;go_ret;exact⟨rfl,HB.out.trans (hb0.mono HB.out.size)⟩
  ·have hjs:j<s.onces.length:=by have:=Lon.out;omega
   obtain⟨x,q,b1,o1,HX,ea,g0,g1,g2,g3,Q0,QL0,QC0⟩:=(H0.out.below hb0).at_on (j:=j) hjs;rw[ea] at cq;have i0:(0:Int)<=(j:Int):=(by omega);have i1:(j:Int)<v.on.n:=(by omega);obtain⟨WA,hWA⟩:∃WA:World,WA=wr.alloc (.cells #[.int .i64 x.state,.int .i64 x.owner,.int .i64 x.value,.slice q.a q.n q.c] 78):=⟨_,rfl⟩
   have bA:Below wr.heap.size wr (wr.alloc (.cells #[.int .i64 x.state,.int .i64 x.owner,.int .i64 x.value,.slice q.a q.n q.c] 78)):=xA1;have kA:Blk (wr.alloc (.cells #[.int .i64 x.state,.int .i64 x.owner,.int .i64 x.value,.slice q.a q.n q.c] 78)) wr.heap.size #[.int .i64 x.state,.int .i64 x.owner,.int .i64 x.value,.slice q.a q.n q.c] 78:=Blk.new _ _ _;have a0:=kA.cell 0 rfl;have a1:=kA.cell 1 rfl;by_cases hx1:x.state=1
   rotate_left
   ·have t0:(x.state !=1)=true:=(by simpa using hx1);clear hx1;go_wp2
    go_roundw
    case rel=>exact⟨j+1,by omega,by go_num,hb0.trans (bA.mono hb0.size)⟩
    case measure=>simp[intOf];omega
   ·obtain⟨t,ht,htl,hst2,hp0,hp1,hon⟩:=zky HF.out hjs (by rw[<-HX.out];exact hx1);rw[<-HX.out] at ht;have t0:(x.state !=1)=false:=(by simp[hx1]);obtain⟨pl,epl⟩:∃y,y=s.places.getD t 0:=⟨_,rfl⟩
    rw[<-epl] at hp0 hp1;obtain⟨m,em⟩:∃m,m=(p.threads.getD t []).length:=⟨_,rfl⟩
    have bB:=hb0.trans (bA.mono hb0.size);obtain⟨bp,op,e1,h1⟩:=H0.out.pl.rd.int (by rw[HF.out.np];omega);obtain⟨bs,os,e2,h2⟩:=H0.out.st.rd.int (by rw[HF.out.nst];omega);obtain⟨bt,ot,e3,h3⟩:=HP0.out.thr (by omega);obtain⟨a2,x2,ct,r2⟩:=h3 t htl;obtain⟨b2,o2,e4,h4⟩:=r2.op (by omega);have h4':=(h4 pl.toNat (by omega)).2.1;have eop:(p.threads.getD t []).getD pl.toNat noOp=opAt p s t:=by unfold opAt;rw[zbj,show((t:Nat):Int).toNat=t by simp,<-epl]
    rw[eop,hon] at h4';have cpl:=zd bB (h1 t (by rw[HF.out.np];exact htl));have cst:=zd bB (h2 t (by rw[HF.out.nst];exact htl));rw[<-epl] at cpl;rw[hst2] at cst;rw[<-em] at ct hp1;rw[e4] at ct;replace ct:=zd bB ct;have cop:=zd bB h4';have c0:=zd bB q0;have c1:=zd bB q1;have c4:=zd bB p4;have c3:=zd bA cq;rw[e1] at c0;rw[e2] at c1;rw[e3] at c4;rw[ht] at a1 kA bA c0 c1 c4 ct cop cpl cst bB c3 g1 hWA a0;have t1:(t:Int)<(u.nt:Int):=by rw[<-LT.out];omega
    have t2:(t:Int)<(v.pl.n:Int):=by rw[NPL.out];exact t1
    have t3:(t:Int)<(v.st.n:Int):=by rw[NST.out];exact t1
    have t4:(0:Int)<=(t:Int):=(by omega);have t5:((j:Int) !=(j:Int))=false:=(by simp);have t6:decide (u.nt<=t)=false:=decide_eq_false (by omega);have t7:((2:Int) !=2)=false:=(by decide);rw[hx1] at g0 a0 kA bA c0 c1 c4 ct cop cpl cst bB c3 a1;clear hx1 ht htl hst2 hon epl em e1 h1 e2 h2 e3 h3 r2 e4 h4 h4' eop t0 hWA kA;have t0:((1:Int) !=1)=false:=(by decide);go_wp2
    go_quiet (fail)
    go_wp2
    go_roundw
    case rel=>exact⟨j+1,by omega,by go_num,below_drewN bB _⟩
    case measure=>simp[intOf];omega
theorem zfL (u:PV) (p:Pg) (v:StV) (L:StL) (s:StD) (w:World) (hp:RdP w u p) (hr:StR w v L s) (hf:Fits p s):
  Calls Tryz.prog 57 #[.agg #[.slice u.s u.ns u.cs,.slice u.g u.ng u.cg,.slice u.b u.nb u.cb,.slice u.r u.nr u.cr,.slice u.t u.nt u.ct],.agg #[.slice v.pl.a v.pl.n v.pl.c,.slice v.st.a v.st.n v.st.c,.slice v.se.a v.se.n v.se.c,.slice v.on.a v.on.n v.on.c,.slice v.gr.a v.gr.n v.gr.c,.slice v.ba.a v.ba.n v.ba.c,.slice v.ch.a v.ch.n v.ch.c,.slice v.sa.a v.sa.n v.sa.c,.int .i64 v.fl]] w λe w'=>e= .returned (.bool true)/\Below w.heap.size w w':=by
 have HS:=xH1 hr;have HP:=xH1 hp;have HF:=xH1 hf;have HV:=xH1 hf.prog;have HZ:=xH1 (zbK hf.prog hp);have LT:=xH1 hp.lt;have LSA:=xH1 hr.sa.len;have npl:v.pl.n=u.nt:=by rw[hr.pl.len,hf.np,hp.lt]
 have nst:v.st.n=u.nt:=by rw[hr.st.len,hf.nst,hp.lt]
 have m1:((v.pl.n:Int) !=(u.nt:Int))=false:=by rw[npl];simp
 have m2:((v.st.n:Int) !=(u.nt:Int))=false:=by rw[nst];simp
 have nsa:v.sa.n<=64:=by rw[hr.sa.len];exact hf.nsa
 have f0:0<=v.fl:=by rw[hr.fl];exact hf.flt.1
 have f4:v.fl<=4:=by rw[hr.fl];exact hf.flt.2
 have n4:1<=u.nt/\u.nt<=4:=by rw[<-hp.lt];exact zcn hf.prog
 have n41:=n4.1;have n42:=n4.2;clear hp hr hf npl nst n4;obtain⟨W0,hW0⟩:∃W0:World,W0=((w.alloc (.cells #[.slice u.s u.ns u.cs,.slice u.g u.ng u.cg,.slice u.b u.nb u.cb,.slice u.r u.nr u.cr,.slice u.t u.nt u.ct] 40)).alloc (.cells #[.slice v.pl.a v.pl.n v.pl.c,.slice v.st.a v.st.n v.st.c,.slice v.se.a v.se.n v.se.c,.slice v.on.a v.on.n v.on.c,.slice v.gr.a v.gr.n v.gr.c,.slice v.ba.a v.ba.n v.ba.c,.slice v.ch.a v.ch.n v.ch.c,.slice v.sa.a v.sa.n v.sa.c,.int .i64 v.fl] 33)):=⟨_,rfl⟩
 have B0:Below w.heap.size w W0:=by
  rw[hW0];exact((xB1.alloc (by simp) _).alloc (by simp) _)
 have kP:Blk W0 (w.heap.size) #[.slice u.s u.ns u.cs,.slice u.g u.ng u.cg,.slice u.b u.nb u.cb,.slice u.r u.nr u.cr,.slice u.t u.nt u.ct] 40:=by
  rw[hW0];have h:=Blk.new w #[.slice u.s u.ns u.cs,.slice u.g u.ng u.cg,.slice u.b u.nb u.cb,.slice u.r u.nr u.cr,.slice u.t u.nt u.ct] 40;exact h|>.alloc _
 have kS:Blk W0 (w.heap.size+1) #[.slice v.pl.a v.pl.n v.pl.c,.slice v.st.a v.st.n v.st.c,.slice v.se.a v.se.n v.se.c,.slice v.on.a v.on.n v.on.c,.slice v.gr.a v.gr.n v.gr.c,.slice v.ba.a v.ba.n v.ba.c,.slice v.ch.a v.ch.n v.ch.c,.slice v.sa.a v.sa.n v.sa.c,.int .i64 v.fl] 33:=by
  rw[hW0];have h:=Blk.new (w.alloc (.cells #[.slice u.s u.ns u.cs,.slice u.g u.ng u.cg,.slice u.b u.nb u.cb,.slice u.r u.nr u.cr,.slice u.t u.nt u.ct] 40)) #[.slice v.pl.a v.pl.n v.pl.c,.slice v.st.a v.st.n v.st.c,.slice v.se.a v.se.n v.se.c,.slice v.on.a v.on.n v.on.c,.slice v.gr.a v.gr.n v.gr.c,.slice v.ba.a v.ba.n v.ba.c,.slice v.ch.a v.ch.n v.ch.c,.slice v.sa.a v.sa.n v.sa.c,.int .i64 v.fl] 33;simp only[World.size_alloc] at h;exact h
 have hS0:W0.heap.size=w.heap.size+2:=by rw[hW0];simp
 have p0:=kP.cell 0 rfl;have p1:=kP.cell 1 rfl;have p2:=kP.cell 2 rfl;have p3:=kP.cell 3 rfl;have p4:=kP.cell 4 rfl;have q0:=kS.cell 0 rfl;have q1:=kS.cell 1 rfl;have q2:=kS.cell 2 rfl;have q3:=kS.cell 3 rfl;have q4:=kS.cell 4 rfl;have q5:=kS.cell 5 rfl;have q6:=kS.cell 6 rfl;have q7:=kS.cell 7 rfl;have q8:=kS.cell 8 rfl;have H0:=xH1 (HS.out.below B0);have HP0:=xH1 (HP.out.below B0);have HB:=xH1 B0;clear HS HP B0 kS kP;go_enter Tryz.func57,Tryz.ntmps57;go_wp2_with fail;rw[<-hW0];clear hW0;refine(zcM u p _ HP0.out HZ.out).mono ?_;rintro e w1 ⟨rfl,hb⟩;rw[HV.out];have H1:=xH1 (H0.out.below hb);have HP1:=xH1 (HP0.out.below hb);have HB1:=xH1 (HB.out.trans (hb.mono HB.out.size));replace p0:=zd hb p0;replace p1:=zd hb p1;replace p2:=zd hb p2;replace p3:=zd hb p3;replace p4:=zd hb p4;replace q0:=zd hb q0;replace q1:=zd hb q1;replace q2:=zd hb q2;replace q3:=zd hb q3;replace q4:=zd hb q4;replace q5:=zd hb q5;replace q6:=zd hb q6;replace q7:=zd hb q7;replace q8:=zd hb q8;clear hb H0 HP0 HB;go_wp2_with fail;refine(zhD u p v L s _ HP1.out HV.out H1.out HF.out.things).mono ?_;rintro e w2 ⟨rfl,hb⟩;have H2:=xH1 (H1.out.below hb);have HP2:=xH1 (HP1.out.below hb)
 have HB2:=xH1 (HB1.out.trans (hb.mono HB1.out.size));replace p0:=zd hb p0;replace p1:=zd hb p1;replace p2:=zd hb p2;replace p3:=zd hb p3;replace p4:=zd hb p4;replace q0:=zd hb q0;replace q1:=zd hb q1;replace q2:=zd hb q2;replace q3:=zd hb q3;replace q4:=zd hb q4;replace q5:=zd hb q5;replace q6:=zd hb q6;replace q7:=zd hb q7;replace q8:=zd hb q8;clear hb H1 HP1 HB1;go_wp2
 go_loopw [6] (λi wr=>∃j:Nat,j<=v.sa.n/\i= .int .i64 j/\wr=w2) (λi _=>v.sa.n-(intOf i).toNat)
 case atStart=>exact⟨0,by omega,rfl,rfl⟩
 case round=>
  obtain⟨j,hj,rfl,rfl⟩:=hrel;by_cases hlt:j<v.sa.n
  ·obtain⟨b,o,ea,g'⟩:=H2.out.sa.rd.int (by have:=LSA.out;omega);have g:=g' j (by have:=LSA.out;omega);obtain⟨x,hx⟩:∃x,x=s.said.getD j 0:=⟨_,rfl⟩
   have hxr:0<=x/\x<=99:=by
    rw[hx,List.getD_eq_getElem?_getD,List.getElem?_eq_getElem (by have:=LSA.out;omega)];exact HF.out.sa _ (List.getElem_mem _)
   rw[<-hx] at g;have q7':=q7;rw[ea] at q7';have i0:(0:Int)<=(j:Int):=(by omega);have i1:(j:Int)<(v.sa.n:Int):=(by omega);have HX:=xH1 hxr;clear hx hxr g' ea q7;go_wp2_with fail;refine(zbA x _ HX.out).mono ?_;rintro e wz ⟨rfl,hwz⟩;have hwz':=hwz.symm;subst hwz';go_wp2
   go_roundw
   case rel=>exact⟨j+1,by omega,by go_num,trivial⟩
   case measure=>simp[intOf];omega
  ·obtain rfl:j=v.sa.n:=by omega
   go_wp2_with fail;refine(zhs u p v L s _ HP2.out HV.out H2.out HF.out).mono ?_;rintro e w3 ⟨a,c,rfl,ho,hb⟩;have H3:=xH1 (H2.out.below hb);have HP3:=xH1 (HP2.out.below hb);have HB3:=xH1 (HB2.out.trans (hb.mono HB2.out.size));replace p0:=zd hb p0;replace p1:=zd hb p1;replace p2:=zd hb p2;replace p3:=zd hb p3;replace p4:=zd hb p4;replace q0:=zd hb q0;replace q1:=zd hb q1;replace q2:=zd hb q2;replace q3:=zd hb q3;replace q4:=zd hb q4;replace q5:=zd hb q5;replace q6:=zd hb q6;replace q7:=zd hb q7;replace q8:=zd hb q8;obtain⟨gq,rfl,-,-⟩:=zaf ho (by omega);have HO:=xH1 ho;clear hb H2 HP2 HB2 ho hlt hj;go_wp2
   go_loopw [9] (λi wr=>∃j:Nat,j<=u.nt/\i= .int .i64 j/\Below w3.heap.size w3 wr) (λi _=>u.nt-(intOf i).toNat)
   case atStart=>exact⟨0,by omega,rfl,Below.refl _ _⟩
   case round=>
    obtain⟨j,hj,rfl,hb0⟩:=hrel;by_cases hlt:j<u.nt
    ·have cz:=HO.out.cellAt j (by omega);replace cz:w3.cell? ⟨gq,j,none⟩=some (.int .i64 ((eT s).count (j:Int):Nat)):=by
      rw[cz];have h1:j<(cntL u.nt (eT s)).length:=by rw[zh5];exact hlt
      have h2:=zfR u.nt (eT s) hlt;rw[<-h2];simp[ints,List.getD,h1]
     obtain⟨z,hz⟩:∃z:Int,z=((eT s).count (j:Int):Nat):=⟨_,rfl⟩
     rw[<-hz] at cz;have cV:Hid (∀d os,Calls Tryz.prog 98 #[.agg #[.slice u.s u.ns u.cs,.slice u.g u.ng u.cg,.slice u.b u.nb u.cb,.slice u.r u.nr u.cr,.slice u.t u.nt u.ct],.agg #[.slice v.pl.a v.pl.n v.pl.c,.slice v.st.a v.st.n v.st.c,.slice v.se.a v.se.n v.se.c,.slice v.on.a v.on.n v.on.c,.slice v.gr.a v.gr.n v.gr.c,.slice v.ba.a v.ba.n v.ba.c,.slice v.ch.a v.ch.n v.ch.c,.slice v.sa.a v.sa.n v.sa.c,.int .i64 v.fl],.int .i64 j,.int .i64 z] (grow (redrawn wr d) os) λe w''=>e= .returned (.bool true)/\∃p:Regrown,w''=grow (redrawn wr p.d) p.os):=xH1 (λd os=>Calls.regrown_of (by
      have:=zgL u p v L s j (grow (redrawn wr d) os) ((HP3.out.below hb0).below (below_regrown wr d os)) ((H3.out.below hb0).below (below_regrown wr d os)) HF.out (by rw[LT.out];exact hlt);rw[<-hz] at this;exact this))
     have kz:=cell_regrown (zd hb0 cz);have kp0:=cell_regrown (zd hb0 p0);have kp1:=cell_regrown (zd hb0 p1);have kp2:=cell_regrown (zd hb0 p2);have kp3:=cell_regrown (zd hb0 p3);have kp4:=cell_regrown (zd hb0 p4);have kq0:=cell_regrown (zd hb0 q0);have kq1:=cell_regrown (zd hb0 q1);have kq2:=cell_regrown (zd hb0 q2);have kq3:=cell_regrown (zd hb0 q3);have kq4:=cell_regrown (zd hb0 q4);have kq5:=cell_regrown (zd hb0 q5);have kq6:=cell_regrown (zd hb0 q6);have kq7:=cell_regrown (zd hb0 q7);have kq8:=cell_regrown (zd hb0 q8);have i0:(0:Int)<=(j:Int):=(by omega);have i1:(j:Int)<(u.nt:Int):=(by omega);clear hz cz;go_wp2;refine wp_region_quiet_below (by kernel_rfl) (by kernel_rfl) ?_
     repeat (go_big_quiet_step (exact cV.out _ _))
     refine wpQuiet_nil ?_;intro w6 hw6;have hbq:Below wr.heap.size wr w6:=by
      obtain⟨pq,rfl⟩:=hw6;exact below_regrown _ _ _
     clear hw6;go_wp2
     go_roundw
     case rel=>exact⟨j+1,by omega,by go_num,hb0.trans (hbq.mono hb0.size)⟩
     case measure=>simp[intOf];omega
    ·obtain rfl:j=u.nt:=by omega
     have kp0:=zd hb0 p0;have kp1:=zd hb0 p1;have kp2:=zd hb0 p2;have kp3:=zd hb0 p3;have kp4:=zd hb0 p4;have kq0:=zd hb0 q0;have kq1:=zd hb0 q1;have kq2:=zd hb0 q2;have kq3:=zd hb0 q3;have kq4:=zd hb0 q4;have kq5:=zd hb0 q5;have kq6:=zd hb0 q6;have kq7:=zd hb0 q7;have kq8:=zd hb0 q8;go_wp2_with fail;refine(zg4 u p v L s _ (HP3.out.below hb0) (H3.out.below hb0) HF.out).mono ?_;rintro e w4 ⟨rfl,hb⟩;go_wp2;go_ret;have hb3:=HB3.out.trans (hb0.mono HB3.out.size);exact⟨rfl,hb3.trans (hb.mono hb3.size)⟩
theorem ze4 (v:StV) (L:StL) (s:StD) (w:World) (hr:StR w v L s) (hn:s.status.length<=1048576):
  Calls Tryz.prog 28 #[.agg #[.slice v.pl.a v.pl.n v.pl.c,.slice v.st.a v.st.n v.st.c,.slice v.se.a v.se.n v.se.c,.slice v.on.a v.on.n v.on.c,.slice v.gr.a v.gr.n v.gr.c,.slice v.ba.a v.ba.n v.ba.c,.slice v.ch.a v.ch.n v.ch.c,.slice v.sa.a v.sa.n v.sa.c,.int .i64 v.fl]] w λe w'=>∃(a:Option Addr) (c:Nat),e= .returned (.slice a (zD s).length c)/\w'.ownsRow w.heap.size 3 1 (.slice a (zD s).length c) (zD s).length (ints (zD s))/\Below w.heap.size w w':=by
 have HS:=xH1 hr;have LST:=xH1 hr.st.len;have nst:v.st.n<=1048576:=by rw[hr.st.len];exact hn
 have HFL:=xH1 hr.fl;have HST:=xH1 hr.st.rd;clear hr hn;obtain⟨W0,hW0⟩:∃W0:World,W0=((w.alloc (.cells #[.slice v.pl.a v.pl.n v.pl.c,.slice v.st.a v.st.n v.st.c,.slice v.se.a v.se.n v.se.c,.slice v.on.a v.on.n v.on.c,.slice v.gr.a v.gr.n v.gr.c,.slice v.ba.a v.ba.n v.ba.c,.slice v.ch.a v.ch.n v.ch.c,.slice v.sa.a v.sa.n v.sa.c,.int .i64 v.fl] 33)).alloc (.cells #[] 3)):=⟨_,rfl⟩
 have B0:Below w.heap.size w W0:=by
  rw[hW0];exact((xB1.alloc (by simp) _).alloc (by simp) _)
 have kS:Blk W0 (w.heap.size) #[.slice v.pl.a v.pl.n v.pl.c,.slice v.st.a v.st.n v.st.c,.slice v.se.a v.se.n v.se.c,.slice v.on.a v.on.n v.on.c,.slice v.gr.a v.gr.n v.gr.c,.slice v.ba.a v.ba.n v.ba.c,.slice v.ch.a v.ch.n v.ch.c,.slice v.sa.a v.sa.n v.sa.c,.int .i64 v.fl] 33:=by
  rw[hW0];have h:=Blk.new w #[.slice v.pl.a v.pl.n v.pl.c,.slice v.st.a v.st.n v.st.c,.slice v.se.a v.se.n v.se.c,.slice v.on.a v.on.n v.on.c,.slice v.gr.a v.gr.n v.gr.c,.slice v.ba.a v.ba.n v.ba.c,.slice v.ch.a v.ch.n v.ch.c,.slice v.sa.a v.sa.n v.sa.c,.int .i64 v.fl] 33;exact h|>.alloc _
 have kE:Blk W0 (w.heap.size+1) #[] 3:=by
  rw[hW0];have h:=Blk.new (w.alloc (.cells #[.slice v.pl.a v.pl.n v.pl.c,.slice v.st.a v.st.n v.st.c,.slice v.se.a v.se.n v.se.c,.slice v.on.a v.on.n v.on.c,.slice v.gr.a v.gr.n v.gr.c,.slice v.ba.a v.ba.n v.ba.c,.slice v.ch.a v.ch.n v.ch.c,.slice v.sa.a v.sa.n v.sa.c,.int .i64 v.fl] 33)) #[] 3;simp only[World.size_alloc] at h;exact h
 have hS0:W0.heap.size=w.heap.size+2:=by rw[hW0];simp
 have q1:=kS.cell 1 rfl;have q8:=kS.cell 8 rfl;have H0:=xH1 (HS.out.below B0);have HE:=xH1 (zb5 (B:=w.heap.size+1) kE xL1 (sz:=1) (m:=0) rfl (Nat.zero_le _));have HB:=xH1 B0;clear HS B0 kS kE;by_cases hf:v.fl=0
 rotate_left
 ·have t0:(v.fl==0)=false:=by simpa using hf
  have HRD:Hid (zD s=[]):=xH1 (by rw[zcl,if_neg (by rw[<-HFL.out];exact hf)]);clear hf;rw[HRD.out];go_enter Tryz.func28,Tryz.ntmps28;go_wp2;rw[<-hW0];clear hW0
  go_loopw [4,3] (λi z wr=>i= .int .i64 0/\z= .slice (some ⟨w.heap.size+1,0,none⟩) 0 0/\wr=W0) (λ_ _ _=>0)
  case atStart=>exact⟨rfl,rfl,rfl⟩
  case round=>
   obtain⟨rfl,rfl,rfl⟩:=hrel;by_cases h0:0<v.st.n
   ·have d0:decide ((0:Int)<(v.st.n:Int))=true:=decide_eq_true (by omega);go_wp2;go_ret;exact⟨_,_,rfl,zl HE.out (by omega),HB.out⟩
   ·have d0:decide ((0:Int)<(v.st.n:Int))=false:=decide_eq_false (by omega);go_wp2;go_ret;exact⟨_,_,rfl,zl HE.out (by omega),HB.out⟩
 ·have t0:(v.fl==0)=true:=by simpa using hf
  have HRD:Hid (zD s=zbH s v.st.n):=xH1 (by rw[zcl,if_pos (by rw[<-HFL.out];exact hf),LST.out]);clear hf;rw[HRD.out];go_enter Tryz.func28,Tryz.ntmps28;go_wp2;rw[<-hW0];clear hW0
  go_loopw [4,3] (λi z wr=>∃(j:Nat) (a:Option Addr) (l c:Nat),j<=v.st.n/\i= .int .i64 j/\z= .slice a l c/\Hid (wr.ownsRow (w.heap.size+1) 3 1 (.slice a l c) l (ints (zbH s j)))/\l<=j/\Below (w.heap.size+1) W0 wr) (λi _ _=>v.st.n-(intOf i).toNat)
  case atStart=>exact⟨0,_,0,0,by omega,rfl,rfl,HE,by omega,Below.refl _ _⟩
  case round=>
   obtain⟨j,a,l,c,hj,rfl,rfl,ho,hl,hb0⟩:=hrel;have c1:=zdm hb0 (by show w.heap.size<w.heap.size+1;omega) q1;have c8:=zdm hb0 (by show w.heap.size<w.heap.size+1;omega) q8;have hbw:=HB.out.trans (hb0.mono (by omega));have hsw:w.heap.size+1<=wr.heap.size:=by have:=hb0.size;omega
   by_cases hlt:j<v.st.n
   ·obtain⟨b,o,ea,g'⟩:=(HST.out.below hbw).int (by have:=LST.out;omega);have g:=g' j (by have:=LST.out;omega);obtain⟨x,hx⟩:∃x,x=s.status.getD j 0:=⟨_,rfl⟩
    rw[<-hx] at g;rw[ea] at c1;have HX:=xH1 hx;have i0:(0:Int)<=(j:Int):=(by omega);have i1:(j:Int)<(v.st.n:Int):=(by omega);have hsu:=zdZ s j;rw[<-hx] at hsu;clear hx ea g';by_cases hx0:x=0\/x=2
    ·rw[if_pos hx0] at hsu;have HSU:=xH1 hsu;clear hsu;rcases hx0 with rfl|rfl
     ·go_wp2_with (at_builtin;refine zav (m:=1) (cm:=1) (news:=[.int .i64 j]) rfl _ _ 22 rfl Tryz.underlying22 zM rfl (by decide) rfl ho.out rfl rfl rfl (by simp[Value.oneCell']) (by omega) (by decide) hsw ?_;intro a3 c3 w3 ho3 hg3;have HO3:=xH1 ho3;have HG3:=xH1 hg3;clear ho3 hg3)
      go_roundw
      case rel=>exact⟨j+1,a3,l+1,c3,by omega,by go_num,rfl,xH1 (by rw[HSU.out];simpa[ints] using HO3.out),by omega,hb0.trans (zA HG3.out hsw (λq hq=>(zp ho.out q hq).1))⟩
      case measure=>simp[intOf];omega
     ·go_wp2_with (at_builtin;refine zav (m:=1) (cm:=1) (news:=[.int .i64 j]) rfl _ _ 22 rfl Tryz.underlying22 zM rfl (by decide) rfl ho.out rfl rfl rfl (by simp[Value.oneCell']) (by omega) (by decide) hsw ?_;intro a3 c3 w3 ho3 hg3;have HO3:=xH1 ho3;have HG3:=xH1 hg3;clear ho3 hg3)
      go_roundw
      case rel=>exact⟨j+1,a3,l+1,c3,by omega,by go_num,rfl,xH1 (by rw[HSU.out];simpa[ints] using HO3.out),by omega,hb0.trans (zA HG3.out hsw (λq hq=>(zp ho.out q hq).1))⟩
      case measure=>simp[intOf];omega
    ·rw[if_neg hx0] at hsu;have HSU:=xH1 hsu;have t1:(x==0)=false:=by simp;omega
     have t2:(x==2)=false:=by simp;omega
     clear hsu hx0;go_wp2
     go_roundw
     case rel=>exact⟨j+1,a,l,c,by omega,by go_num,rfl,by rw[HSU.out];exact ho,by omega,hb0⟩
     case measure=>simp[intOf];omega
   ·obtain rfl:j=v.st.n:=by omega
    go_wp2;have hll:l=(zbH s v.st.n).length:=by have:=ho.out.1;rw[List.length_map] at this;omega
    have ho':=ho.out;rw[hll] at ho'⊢;go_ret;exact⟨a,c,rfl,zl ho' (by omega),hbw⟩
theorem ze8 (u:PV) (p:Pg) (v:StV) (L:StL) (s:StD) (w:World) (hp:RdP w u p) (hr:StR w v L s) (hf:Fits p s):
  Calls Tryz.prog 54 #[.agg (pvC u),v.val] w λe w'=>∃(a:Option Addr) (c:Nat),e= .returned (.slice a (zD s).length c)/\w'.ownsRow w.heap.size 3 1 (.slice a (zD s).length c) (zD s).length (ints (zD s))/\xW w w':=by
 have HS:=xH1 hr;have HP:=xH1 hp;have HF:=xH1 hf;clear hp hr hf;obtain⟨W0,hW0⟩:∃W0:World,W0=((w.alloc (.cells (pvC u) 40)).alloc (.cells (svC v) 33)):=⟨_,rfl⟩
 have B0:xW w W0:=by
  rw[hW0];exact((xB1.alloc (by simp) _).alloc (by simp) _)
 have kP:Blk W0 (w.heap.size) (pvC u) 40:=by
  rw[hW0];have h:=Blk.new w (pvC u) 40;exact h|>.alloc _
 have kS:Blk W0 (w.heap.size+1) (svC v) 33:=by
  rw[hW0];have h:=Blk.new (w.alloc (.cells (pvC u) 40)) (svC v) 33;simp only[xDe] at h;exact h
 have hS0:W0.heap.size=w.heap.size+2:=by rw[hW0];simp
 have p0:=kP.cell 0 rfl;have p1:=kP.cell 1 rfl;have p2:=kP.cell 2 rfl;have p3:=kP.cell 3 rfl;have p4:=kP.cell 4 rfl;have q0:=kS.cell 0 rfl;have q1:=kS.cell 1 rfl;have q2:=kS.cell 2 rfl;have q3:=kS.cell 3 rfl;have q4:=kS.cell 4 rfl;have q5:=kS.cell 5 rfl;have q6:=kS.cell 6 rfl;have q7:=kS.cell 7 rfl;have q8:=kS.cell 8 rfl;have H0:=xH1 (HS.out.below B0);have HP0:=xH1 (HP.out.below B0);have HB:=xH1 B0;clear HS HP B0 kS kP;go_enter Tryz.func54,Tryz.ntmps54;go_wp2_with fail;rw[<-hW0];clear hW0;refine(zfL u p v L s _ HP0.out H0.out HF.out).mono ?_;rintro e w1 ⟨rfl,hb⟩;have H1:=xH1 (H0.out.below hb);have HB1:=xH1 (HB.out.trans (hb.mono HB.out.size));replace p0:=zd hb p0;replace p1:=zd hb p1;replace p2:=zd hb p2;replace p3:=zd hb p3;replace p4:=zd hb p4;replace q0:=zd hb q0;replace q1:=zd hb q1;replace q2:=zd hb q2;replace q3:=zd hb q3;replace q4:=zd hb q4;replace q5:=zd hb q5;replace q6:=zd hb q6;replace q7:=zd hb q7;replace q8:=zd hb q8;clear hb H0 HP0 HB;go_wp2_with fail;refine(ze4 v L s _ H1.out (by rw[HF.out.nst];have:=(zcn HF.out.prog).2;omega)).mono ?_;rintro e w2 ⟨a,c,rfl,ho,hb⟩;have HO:=xH1 (zl ho HB1.out.size);clear ho;go_wp2;go_ret
 exact⟨a,c,rfl,HO.out,HB1.out.trans (hb.mono HB1.out.size)⟩
theorem zfl (u:PV) (p:Pg) (t x:Int) (w:World) (hp:RdP w u p) (ht:0<=t/\t<p.threads.length) (hz:zbB u p):
  Calls Tryz.prog 49 #[.agg #[.slice u.s u.ns u.cs,.slice u.g u.ng u.cg,.slice u.b u.nb u.cb,.slice u.r u.nr u.cr,.slice u.t u.nt u.ct],.int .i64 t,.int .i64 x] w λe w'=>e= .returned (.int .i64 (rest p t x))/\Below w.heap.size w w':=by
 obtain⟨bt,ot,et,hth⟩:=hp.thr (by omega);obtain⟨a2,x2,ct,-⟩:=hth t.toNat (by omega)
 obtain⟨m,em⟩:∃m,m=(p.threads.getD t.toNat []).length:=⟨_,rfl⟩
 rw[<-em] at ct;have hm:=hz.inn t.toNat
 rw[<-em] at hm;have hn:=hz.lt;have t0:=ht.1;have t1:t<(u.nt:Int):=by rw[<-hp.lt];exact ht.2
 have HM:Hid (rest p t x=if x=(m:Int) then 3 else 0):=xH1 (by unfold rest zbY;rw[em]);clear hth hz ht em hp;obtain⟨W0,hW0⟩:∃W0:World,W0=(w.alloc (.cells #[.slice u.s u.ns u.cs,.slice u.g u.ng u.cg,.slice u.b u.nb u.cb,.slice u.r u.nr u.cr,.slice u.t u.nt u.ct] 40)):=⟨_,rfl⟩
 have B0:Below w.heap.size w W0:=by
  rw[hW0];exact(xB1.alloc (by simp) _)
 have kP:Blk W0 (w.heap.size) #[.slice u.s u.ns u.cs,.slice u.g u.ng u.cg,.slice u.b u.nb u.cb,.slice u.r u.nr u.cr,.slice u.t u.nt u.ct] 40:=by
  rw[hW0];have h:=Blk.new w #[.slice u.s u.ns u.cs,.slice u.g u.ng u.cg,.slice u.b u.nb u.cb,.slice u.r u.nr u.cr,.slice u.t u.nt u.ct] 40;exact h
 have hS0:W0.heap.size=w.heap.size+1:=by rw[hW0];simp
 have p4:=kP.cell 4 rfl;rw[et] at p4;replace ct:=zd B0 ct;have HB:=xH1 B0;clear kP B0 et;rw[HM.out];by_cases hx:x=(m:Int)
 ·rw[if_pos hx];have h0:(x==(m:Int))=true:=by simpa using hx
  clear hx;go_enter Tryz.func49,Tryz.ntmps49;go_upto_region 1 with fail;rw[<-hW0];clear hW0;go_wp2;go_ret;exact⟨rfl,HB.out⟩
 ·rw[if_neg hx];have h0:(x==(m:Int))=false:=by simpa using hx
  clear hx;go_enter Tryz.func49,Tryz.ntmps49;go_upto_region 1 with fail;rw[<-hW0];clear hW0;go_wp2;go_ret;exact⟨rfl,HB.out⟩
theorem zi.extra {S S':List Nat} {w a b:World} (h:zi S w a) (k:zi S' a b) (hs:∀q∈S',w.heap.size<=q):zi S w b:=
 ⟨k.os.trans h.os,k.tape.trans h.tape,k.output.trans h.output,Nat.le_trans h.size k.size,λq hq hn=>(k.block q (Nat.lt_of_lt_of_le hq h.size) (λhm=>by have:=hs q hm;omega)).trans (h.block q hq hn)⟩
theorem zjp (X:List Nat) (B:Nat) (u:PV) (p:Pg) (v:StV) (L:StL) (s:StD) (a:Option Addr) (n c:Nat) (l:List Int) (w0 w:World) (hp:RdP w0 u p) (h0:w0.heap.size<=B) (hb0:Below w0.heap.size w0 w) (hz:zbB u p) (hB:B<=w.heap.size)
  (hs:StO X B w v L s) (hw:SlR v.blks w ⟨a,n,c⟩ (ints l) l.length) (hl:l.length<=9) (hn:0<s.places.length/\s.places.length<=8/\s.places.length=s.status.length) (ht:∀t∈l,0<=t/\t<p.threads.length/\t<s.places.length) (hpl:∀i,0<=s.places.getD i 0/\s.places.getD i 0<=8):
  Calls Tryz.prog 90 #[.agg #[.slice u.s u.ns u.cs,.slice u.g u.ng u.cg,.slice u.b u.nb u.cb,.slice u.r u.nr u.cr,.slice u.t u.nt u.ct],.agg #[.slice v.pl.a v.pl.n v.pl.c,.slice v.st.a v.st.n v.st.c,.slice v.se.a v.se.n v.se.c,.slice v.on.a v.on.n v.on.c,.slice v.gr.a v.gr.n v.gr.c,.slice v.ba.a v.ba.n v.ba.c,.slice v.ch.a v.ch.n v.ch.c,.slice v.sa.a v.sa.n v.sa.c,.int .i64 v.fl],.slice a n c] w λe w'=>e= .returned v.val/\StO X B w' v L (goAll p s l)/\Below B w w'/\zi v.blks w w':=by
 have hln:=hw.len;dsimp only at hln;have HWH:=xH1 hw;have HS:=xH1 hs;have HP:=xH1 hp;have HZ:=xH1 hz;have HT:=xH1 ht;have HPL:=xH1 hpl;have HLN:=xH1 hln;have NPL:=xH1 hs.npl;have NST:=xH1 hs.nst;have npl:v.pl.n=v.st.n:=by rw[hs.npl,hs.nst];exact hn.2.2
 have z1:0<v.pl.n:=by rw[hs.npl];exact hn.1
 have z2:v.pl.n<=8:=by rw[hs.npl];exact hn.2.1
 obtain⟨gp,ep,hgp,-⟩:=zaf hs.pl z1;obtain⟨gs,es,hgs,-⟩:=zaf hs.st (by omega);have n8:n<=9:=by omega
 have HFR:=xH1 hs.from
 have NB:Hid (w.heap.size∉v.blks/\w.heap.size+1∉v.blks/\w.heap.size+1+1∉v.blks):=xH1 ⟨λh=>by have:=(hs.from _ h).2;omega,λh=>by have:=(hs.from _ h).2;omega,λh=>by have:=(hs.from _ h).2;omega⟩;have GP:Hid (gp∈v.blks):=xH1 (StV.mem_pl (by rw[ep];rfl));have GS:Hid (gs∈v.blks):=xH1 (StV.mem_st (by rw[es];rfl));have NEQ:=xH1 npl;clear hp hz hs hw ht hpl hn hln hl npl;obtain⟨W0,hW0⟩:∃W0:World,W0=(((w.alloc (.cells #[.slice u.s u.ns u.cs,.slice u.g u.ng u.cg,.slice u.b u.nb u.cb,.slice u.r u.nr u.cr,.slice u.t u.nt u.ct] 40)).alloc (.cells #[.slice v.pl.a v.pl.n v.pl.c,.slice v.st.a v.st.n v.st.c,.slice v.se.a v.se.n v.se.c,.slice v.on.a v.on.n v.on.c,.slice v.gr.a v.gr.n v.gr.c,.slice v.ba.a v.ba.n v.ba.c,.slice v.ch.a v.ch.n v.ch.c,.slice v.sa.a v.sa.n v.sa.c,.int .i64 v.fl] 33)).alloc (.cells #[.slice none 0 0,.slice none 0 0,.slice none 0 0,.slice none 0 0,.slice none 0 0,.slice none 0 0,.slice none 0 0,.slice none 0 0,.int .i64 0] 33)):=⟨_,rfl⟩
 have B0:Below w.heap.size w W0:=by
  rw[hW0];exact(((xB1.alloc (by simp) _).alloc (by simp) _).alloc (by simp;omega) _)
 have kP:Blk W0 (w.heap.size) #[.slice u.s u.ns u.cs,.slice u.g u.ng u.cg,.slice u.b u.nb u.cb,.slice u.r u.nr u.cr,.slice u.t u.nt u.ct] 40:=by
  rw[hW0];have h:=Blk.new w #[.slice u.s u.ns u.cs,.slice u.g u.ng u.cg,.slice u.b u.nb u.cb,.slice u.r u.nr u.cr,.slice u.t u.nt u.ct] 40;exact h|>.alloc _|>.alloc _
 have kS:Blk W0 (w.heap.size+1) #[.slice v.pl.a v.pl.n v.pl.c,.slice v.st.a v.st.n v.st.c,.slice v.se.a v.se.n v.se.c,.slice v.on.a v.on.n v.on.c,.slice v.gr.a v.gr.n v.gr.c,.slice v.ba.a v.ba.n v.ba.c,.slice v.ch.a v.ch.n v.ch.c,.slice v.sa.a v.sa.n v.sa.c,.int .i64 v.fl] 33:=by
  rw[hW0];have h:=Blk.new (w.alloc (.cells #[.slice u.s u.ns u.cs,.slice u.g u.ng u.cg,.slice u.b u.nb u.cb,.slice u.r u.nr u.cr,.slice u.t u.nt u.ct] 40)) #[.slice v.pl.a v.pl.n v.pl.c,.slice v.st.a v.st.n v.st.c,.slice v.se.a v.se.n v.se.c,.slice v.on.a v.on.n v.on.c,.slice v.gr.a v.gr.n v.gr.c,.slice v.ba.a v.ba.n v.ba.c,.slice v.ch.a v.ch.n v.ch.c,.slice v.sa.a v.sa.n v.sa.c,.int .i64 v.fl] 33;simp only[World.size_alloc] at h;exact h|>.alloc _
 have kR:Blk W0 (w.heap.size+2) #[.slice none 0 0,.slice none 0 0,.slice none 0 0,.slice none 0 0,.slice none 0 0,.slice none 0 0,.slice none 0 0,.slice none 0 0,.int .i64 0] 33:=by
  rw[hW0];have h:=Blk.new ((w.alloc (.cells #[.slice u.s u.ns u.cs,.slice u.g u.ng u.cg,.slice u.b u.nb u.cb,.slice u.r u.nr u.cr,.slice u.t u.nt u.ct] 40)).alloc (.cells #[.slice v.pl.a v.pl.n v.pl.c,.slice v.st.a v.st.n v.st.c,.slice v.se.a v.se.n v.se.c,.slice v.on.a v.on.n v.on.c,.slice v.gr.a v.gr.n v.gr.c,.slice v.ba.a v.ba.n v.ba.c,.slice v.ch.a v.ch.n v.ch.c,.slice v.sa.a v.sa.n v.sa.c,.int .i64 v.fl] 33)) #[.slice none 0 0,.slice none 0 0,.slice none 0 0,.slice none 0 0,.slice none 0 0,.slice none 0 0,.slice none 0 0,.slice none 0 0,.int .i64 0] 33;simp only[World.size_alloc,Nat.add_assoc,Nat.reduceAdd] at h;exact h
 have hS0:W0.heap.size=w.heap.size+3:=by rw[hW0];simp
 have p0:=kP.cell 0 rfl;have p1:=kP.cell 1 rfl;have p2:=kP.cell 2 rfl;have p3:=kP.cell 3 rfl;have p4:=kP.cell 4 rfl;have q0:=kS.cell 0 rfl;have q1:=kS.cell 1 rfl;have q2:=kS.cell 2 rfl;have q3:=kS.cell 3 rfl;have q4:=kS.cell 4 rfl;have q5:=kS.cell 5 rfl;have q6:=kS.cell 6 rfl;have q7:=kS.cell 7 rfl;have q8:=kS.cell 8 rfl;rw[ep] at q0;rw[es] at q1;have HS0:=xH1 (show StO ((w.heap.size+1+1)::X) B W0 v L (goAll p s (l.take 0)) from(HS.out.box B0 (k:=w.heap.size+1+1) (by omega) (by omega)));have HW0:=xH1 ((HWH.out.below B0));have kR1:Blk W0 (w.heap.size+1+1) #[.slice none 0 0,.slice none 0 0,.slice none 0 0,.slice none 0 0,.slice none 0 0,.slice none 0 0,.slice none 0 0,.slice none 0 0,.int .i64 0] 33:=kR;have HKR:=xH1 kR1;have HB:=xH1 (B0.mono hB);have HTW:=xH1 (zi.of_below (S:=v.blks) B0);have hbW:Below w0.heap.size w0 W0:=hb0.trans (B0.mono hb0.size);have HBW:=xH1 hbW;have EP:=xH1 ep;have ES0:=xH1 es;clear HS HWH B0 kS kP kR kR1 hbW hb0 ep es;go_enter Tryz.func90,Tryz.ntmps90;go_upto_region 1 with fail;rw[<-hW0];clear hW0;go_wp2
 go_loopw [7] (λi wr=>∃k:Nat,k<=n/\i= .int .i64 k/\Hid (StO ((w.heap.size+1+1)::X) B wr v L (goAll p s (l.take k)))/\zi v.blks W0 wr) (λi _=>n-(intOf i).toNat)
 case atStart=>exact⟨0,by omega,rfl,HS0,zi.refl _ _⟩
 case round=>
  obtain⟨k,hk,rfl,HC,hT0⟩:=hrel;have cp0:=zB hT0 p0 NB.out.1;have cp1:=zB hT0 p1 NB.out.1;have cp2:=zB hT0 p2 NB.out.1;have cp3:=zB hT0 p3 NB.out.1;have cp4:=zB hT0 p4 NB.out.1;have cq0:=zB hT0 q0 NB.out.2.1;have cq1:=zB hT0 q1 NB.out.2.1;have cq2:=zB hT0 q2 NB.out.2.1;have cq3:=zB hT0 q3 NB.out.2.1;have cq4:=zB hT0 q4 NB.out.2.1;have cq5:=zB hT0 q5 NB.out.2.1;have cq6:=zB hT0 q6 NB.out.2.1;have cq7:=zB hT0 q7 NB.out.2.1;have cq8:=zB hT0 q8 NB.out.2.1;have hBr:Below B W0 wr:=hT0.below (by have:=HB.out.size;omega) (λb hb=>(HFR.out b hb).1);by_cases hlt:k<n
  ·obtain⟨bw,ow,ea,g'⟩:=((HW0.out.touch hT0 (λ_ h=>h)).rd).int (by have:=HLN.out;omega);dsimp only at ea;have g:=g' k (by have:=HLN.out;omega);obtain⟨t,et⟩:∃t,t=l.getD k 0:=⟨_,rfl⟩
   rw[<-et] at g;have hmt:t∈l:=by rw[et,List.getD_eq_getElem?_getD,List.getElem?_eq_getElem (by have:=HLN.out;omega)];exact List.getElem_mem _
   obtain⟨t0,t1,t2⟩:=HT.out t hmt;obtain⟨s',es'⟩:∃s',s'=goAll p s (l.take k):=⟨_,rfl⟩
   rw[<-es'] at HC;have hnp:s'.places.length=v.pl.n:=(by rw[es',zaB,NPL.out]);have hns:s'.status.length=v.st.n:=(by rw[es',zbn,NST.out]);have hbd:=zaC (p:=p) (l.take k) s t.toNat
   rw[<-es',List.length_take] at hbd;have hb1:=HPL.out t.toNat
   obtain⟨x,ex⟩:∃x,x=s'.places.getD t.toNat 0:=⟨_,rfl⟩
   rw[<-ex] at hbd;have hx:0<=x/\x<=16:=(by omega);have hwr:IntKind.i64.wrap (x+1)=x+1:=Go.IntWalk.i64_in _ (by omega);have t3:t<(v.pl.n:Int):=by rw[NPL.out];exact t2
   have t4:t<(v.st.n:Int):=by have:=NEQ.out;omega
   have own:=HC.out.pl;rw[show v.pl.val= .slice (some ⟨gp,0,none⟩) v.pl.n v.pl.c by rw[<-EP.out]] at own;have cx:=own.cellAt t.toNat (by omega)
   replace cx:wr.cell? ⟨gp,t.toNat,none⟩=some (.int .i64 x):=by
    rw[cx,ex];simp[ints,List.getD,show t.toNat<s'.places.length by omega]
   have hfz:=own.frozenAt t.toNat
   have R:=zak own t.toNat (.int .i64 (x+1)) (cs':=ints (s'.places.set t.toNat (x+1))) (by simp[ints,List.map_set])
   have HC4:=HC.out.set_pl (g:=gp) (by rw[EP.out];rfl) ((zi.refl [gp] wr).set (v:= .int .i64 (x+1)) (b:=gp) (j:=t.toNat) (by simp)) (ps:=s'.places.set t.toNat (x+1)) (by rw[List.length_set];omega) (by have:=R.1;rw[show v.pl.val= .slice (some ⟨gp,0,none⟩) v.pl.n v.pl.c by rw[<-EP.out]];exact this);have bD:Below (wr.setCell ⟨gp,t.toNat,none⟩ (.int .i64 (x+1))).heap.size (wr.setCell ⟨gp,t.toNat,none⟩ (.int .i64 (x+1))) (wr.setCell ⟨gp,t.toNat,none⟩ (.int .i64 (x+1))).drew:=xB1.drew;have HC5:=HC4.below bD;have hT5:zi v.blks wr (wr.setCell ⟨gp,t.toNat,none⟩ (.int .i64 (x+1))).drew:=((zi.refl v.blks wr).set GP.out).trans (zi.of_below bD);have cx5:(wr.setCell ⟨gp,t.toNat,none⟩ (.int .i64 (x+1))).drew.cell? ⟨gp,t.toNat,none⟩=some (.int .i64 (x+1)):=by
    refine zd bD ?_;have:=R.1.cellAt t.toNat (by omega)
    rw[this];simp[ints,show t.toNat<s'.places.length by omega]
   have HR5:=xH1 HC5;have HT5:=xH1 hT5;have HCX:=xH1 cx5;have ET:=xH1 et;have ES:=xH1 es';have EX:=xH1 ex;have HNP:=xH1 hnp;have HNS:=xH1 hns;have i0:(0:Int)<=(k:Int):=(by omega);have i1:(k:Int)<(n:Int):=(by omega);have TP:Hid (0<=t/\t<p.threads.length):=xH1 ⟨t0,t1⟩;subst ea;clear g' et hmt t1 t2 hbd hb1 ex own R HC4 bD HC5 hT5 cx5 es' hnp hns;go_wp2;go_still_tail 9,(by kernel_rfl)
   go_wp2;obtain⟨WB,hWB⟩:∃WB:World,WB=(wr.setCell ⟨gp,t.toNat,none⟩ (.int .i64 (x+1))).drew:=⟨_,rfl⟩
   rw[<-hWB] at HR5 HT5 HCX⊢;have hT6:=hT0.trans HT5.out;have cx6:=HCX.out;replace cp0:=zB HT5.out cp0 NB.out.1;replace cp1:=zB HT5.out cp1 NB.out.1;replace cp2:=zB HT5.out cp2 NB.out.1;replace cp3:=zB HT5.out cp3 NB.out.1;replace cp4:=zB HT5.out cp4 NB.out.1;replace cq0:=zB HT5.out cq0 NB.out.2.1;replace cq1:=zB HT5.out cq1 NB.out.2.1;replace cq2:=zB HT5.out cq2 NB.out.2.1;replace cq3:=zB HT5.out cq3 NB.out.2.1;replace cq4:=zB HT5.out cq4 NB.out.2.1;replace cq5:=zB HT5.out cq5 NB.out.2.1;replace cq6:=zB HT5.out cq6 NB.out.2.1;replace cq7:=zB HT5.out cq7 NB.out.2.1;replace cq8:=zB HT5.out cq8 NB.out.2.1;have hBB:Below w0.heap.size w0 WB:=HBW.out.trans ((hT6.below (B:=B) (by have:=HB.out.size;omega) (λb hb=>(HFR.out b hb).1)).mono h0);have HPB:=xH1 (HP.out.below hBB);clear cx hfz hwr hWB hBB g
   refine zaJ 11 (by kernel_rfl) (by kernel_rfl) [λdz uz wz=>uz= .pointer (some ⟨w.heap.size+1,1,none⟩),λdz uz wz=>uz= .slice (some ⟨gs,0,none⟩) v.st.n v.st.c,λdz uz wz=>uz= .int .i64 t,λdz uz wz=>uz= .agg #[.slice u.s u.ns u.cs,.slice u.g u.ng u.cg,.slice u.b u.nb u.cb,.slice u.r u.nr u.cr,.slice u.t u.nt u.ct],λdz uz wz=>uz= .int .i64 t,λdz uz wz=>uz= .pointer (some ⟨w.heap.size+1,0,none⟩),λdz uz wz=>uz= .slice (some ⟨gp,0,none⟩) v.pl.n v.pl.c,λdz uz wz=>uz= .int .i64 t,λdz uz wz=>uz= .pointer (some ⟨gp,t.toNat,none⟩),λdz uz wz=>uz= .int .i64 (x+1),λdz uz wz=>uz= .int .i64 (rest p t (x+1))] (λi=>match i with|_=>λ_=>none) (λw'=>Below WB.heap.size WB w') xB1.drew (zbT ⟨λ_ _ _ _ _ h=>h,λ_ _ _ _ _ h=>h,λ_ _ _ _ _ h=>h,λ_ _ _ _ _ h=>h,λ_ _ _ _ _ h=>h,λ_ _ _ _ _ h=>h,λ_ _ _ _ _ h=>h,λ_ _ _ _ _ h=>h,λ_ _ _ _ _ h=>h,λ_ _ _ _ _ h=>h,λ_ _ _ _ _ h=>h,trivial⟩) ?_ ?_
   ·simp only[List.take_succ_cons,List.take_zero];refine⟨?_,?_,?_,?_,?_,?_,?_,?_,?_,?_,?_,trivial⟩
    ·intro ρ w1 hG hfr hd;obtain⟨fc,ff⟩:=xF1 hfr;have f4:ρ (.tmp 4)= .pointer (some ⟨w.heap.size+1,0,none⟩):=hfr _ rfl;refine zh (u:= .pointer (some ⟨w.heap.size+1,1,none⟩)) (w':=w1) (by go_simp) ⟨Below.refl _ _,rfl,xN1,hG⟩
    ·intro ρ w1 hG hfr hd;obtain⟨fc,ff⟩:=xF1 hfr;obtain⟨d0,-⟩:=hd;have d0:(ρ (.tmp 29))= .pointer (some ⟨w.heap.size+1,1,none⟩):=d0;have cq1:=zd hG cq1;refine zh (u:= .slice (some ⟨gs,0,none⟩) v.st.n v.st.c) (w':=w1) (by go_simp) ⟨Below.refl _ _,rfl,xN1,hG⟩
    ·intro ρ w1 hG hfr hd;obtain⟨fc,ff⟩:=xF1 hfr;have f8:ρ (.tmp 8)= .int .i64 t:=hfr _ rfl;refine zh (u:= .int .i64 t) (w':=w1) (by go_simp) ⟨Below.refl _ _,rfl,xN1,hG⟩
    ·intro ρ w1 hG hfr hd;obtain⟨fc,ff⟩:=xF1 hfr;have f3:ρ (.tmp 3)= .pointer (some ⟨w.heap.size,0,none⟩):=hfr _ rfl;have cp0:=zd hG cp0;have cp1:=zd hG cp1;have cp2:=zd hG cp2;have cp3:=zd hG cp3;have cp4:=zd hG cp4;refine zh (u:= .agg #[.slice u.s u.ns u.cs,.slice u.g u.ng u.cg,.slice u.b u.nb u.cb,.slice u.r u.nr u.cr,.slice u.t u.nt u.ct]) (w':=w1) (by go_simp) ⟨Below.refl _ _,rfl,xN1,hG⟩
    ·intro ρ w1 hG hfr hd;obtain⟨fc,ff⟩:=xF1 hfr;have f8:ρ (.tmp 8)= .int .i64 t:=hfr _ rfl;refine zh (u:= .int .i64 t) (w':=w1) (by go_simp) ⟨Below.refl _ _,rfl,xN1,hG⟩
    ·intro ρ w1 hG hfr hd;obtain⟨fc,ff⟩:=xF1 hfr;have f4:ρ (.tmp 4)= .pointer (some ⟨w.heap.size+1,0,none⟩):=hfr _ rfl;refine zh (u:= .pointer (some ⟨w.heap.size+1,0,none⟩)) (w':=w1) (by go_simp) ⟨Below.refl _ _,rfl,xN1,hG⟩
    ·intro ρ w1 hG hfr hd;obtain⟨fc,ff⟩:=xF1 hfr;obtain⟨d0,-⟩:=hd;have d0:(ρ (.tmp 34))= .pointer (some ⟨w.heap.size+1,0,none⟩):=d0;have cq0:=zd hG cq0;refine zh (u:= .slice (some ⟨gp,0,none⟩) v.pl.n v.pl.c) (w':=w1) (by go_simp) ⟨Below.refl _ _,rfl,xN1,hG⟩
    ·intro ρ w1 hG hfr hd;obtain⟨fc,ff⟩:=xF1 hfr;have f8:ρ (.tmp 8)= .int .i64 t:=hfr _ rfl;refine zh (u:= .int .i64 t) (w':=w1) (by go_simp) ⟨Below.refl _ _,rfl,xN1,hG⟩
    ·intro ρ w1 hG hfr hd;obtain⟨fc,ff⟩:=xF1 hfr;obtain⟨d0,d1,-⟩:=hd;have d0:(ρ (.tmp 35))= .slice (some ⟨gp,0,none⟩) v.pl.n v.pl.c:=d0;have d1:(ρ (.tmp 36))= .int .i64 t:=d1;refine zh (u:= .pointer (some ⟨gp,t.toNat,none⟩)) (w':=w1) (by go_simp) ⟨Below.refl _ _,rfl,xN1,hG⟩
    ·intro ρ w1 hG hfr hd;obtain⟨fc,ff⟩:=xF1 hfr;obtain⟨d0,-⟩:=hd;have d0:(ρ (.tmp 37))= .pointer (some ⟨gp,t.toNat,none⟩):=d0;have cx6:=zd hG cx6;refine zh (u:= .int .i64 (x+1)) (w':=w1) (by go_simp) ⟨Below.refl _ _,rfl,xN1,hG⟩
    ·intro ρ w1 hG hfr hd;obtain⟨fc,ff⟩:=xF1 hfr;obtain⟨d0,d1,d2,-⟩:=hd;have d0:(ρ (.tmp 32))= .agg #[.slice u.s u.ns u.cs,.slice u.g u.ng u.cg,.slice u.b u.nb u.cb,.slice u.r u.nr u.cr,.slice u.t u.nt u.ct]:=d0;have d1:(ρ (.tmp 33))= .int .i64 t:=d1;have d2:(ρ (.tmp 38))= .int .i64 (x+1):=d2;refine zac (by go_simp;exact⟨⟨rfl,rfl⟩,rfl⟩) ?_;refine(zfl u p t (x+1) w1 (HPB.out.below hG) TP.out HZ.out).mono ?_;rintro e w2 ⟨rfl,hb⟩;exact⟨_,rfl,hb,rfl,xN1,hG.trans (hb.mono hG.size)⟩
   intro vs w2 hG hlen hall hap hbd;obtain⟨xv0,vs0,rfl,hl0⟩:=zk hlen;obtain⟨xv1,vs1,rfl,hl1⟩:=zk hl0;obtain⟨xv2,vs2,rfl,hl2⟩:=zk hl1;obtain⟨xv3,vs3,rfl,hl3⟩:=zk hl2;obtain⟨xv4,vs4,rfl,hl4⟩:=zk hl3;obtain⟨xv5,vs5,rfl,hl5⟩:=zk hl4;obtain⟨xv6,vs6,rfl,hl6⟩:=zk hl5;obtain⟨xv7,vs7,rfl,hl7⟩:=zk hl6;obtain⟨xv8,vs8,rfl,hl8⟩:=zk hl7;obtain⟨xv9,vs9,rfl,hl9⟩:=zk hl8;obtain⟨xv10,vs10,rfl,hl10⟩:=zk hl9;obtain rfl:=zcD hl10;clear hlen hl0 hl1 hl2 hl3 hl4 hl5 hl6 hl7 hl8 hl9 hl10;simp only[List.take_succ_cons,List.take_zero,List.drop_succ_cons,List.drop_zero] at hall⊢;obtain⟨t0',t1',t2',t3',t4',t5',t6',t7',t8',t9',t10',-⟩:=hall;have hv0:xv0= .pointer (some ⟨w.heap.size+1,1,none⟩):=t0';have hv1:xv1= .slice (some ⟨gs,0,none⟩) v.st.n v.st.c:=t1';have hv2:xv2= .int .i64 t:=t2';have hv3:xv3= .agg #[.slice u.s u.ns u.cs,.slice u.g u.ng u.cg,.slice u.b u.nb u.cb,.slice u.r u.nr u.cr,.slice u.t u.nt u.ct]:=t3';have hv4:xv4= .int .i64 t:=t4';have hv5:xv5= .pointer (some ⟨w.heap.size+1,0,none⟩):=t5';have hv6:xv6= .slice (some ⟨gp,0,none⟩) v.pl.n v.pl.c:=t6';have hv7:xv7= .int .i64 t:=t7';have hv8:xv8= .pointer (some ⟨gp,t.toNat,none⟩):=t8';have hv9:xv9= .int .i64 (x+1):=t9'
   have hv10:xv10= .int .i64 (rest p t (x+1)):=t10';clear t0' t1' t2' t3' t4' t5' t6' t7' t8' t9' t10';clear hap hbd;subst hv0 hv1 hv2 hv3 hv4 hv5 hv6 hv7 hv8 hv9 hv10;simp only[zap,Act.put,List.setIfInBounds_toArray,List.set_cons_succ,List.set_cons_zero];have HC7:=HR5.out.below hG;have own:=HC7.st;rw[show v.st.val= .slice (some ⟨gs,0,none⟩) v.st.n v.st.c by rw[<-ES0.out]] at own;have hfz:=own.frozenAt t.toNat
   obtain⟨yo,cyo⟩:∃yo,w2.cell? ⟨gs,t.toNat,none⟩=some yo:=by
    have h:=own.cellAt t.toNat (by omega)
    rw[h];have:t.toNat<(ints s'.status).length:=by rw[List.length_map,HNS.out];omega
    exact⟨_,List.getElem?_eq_getElem this⟩
   have R:=zak own t.toNat (.int .i64 (rest p t (x+1))) (cs':=ints (s'.status.set t.toNat (rest p t (x+1)))) (by simp[ints,List.map_set])
   have hTs:zi [gs] w2 (w2.setCell ⟨gs,t.toNat,none⟩ (.int .i64 (rest p t (x+1)))):=(zi.refl [gs] w2).set (by simp);have HC8:=HC7.set_st (g:=gs) (by rw[ES0.out];rfl) hTs (ps:=s'.status.set t.toNat (rest p t (x+1))) (by rw[List.length_set,HNS.out]) (by have:=R.1;rw[show v.st.val= .slice (some ⟨gs,0,none⟩) v.st.n v.st.c by rw[<-ES0.out]];exact this);have egr:({({s' with places:=s'.places.set t.toNat (x+1)}:StD) with status:=s'.status.set t.toNat (rest p t (x+1))}:StD)=goAll p s (l.take (k+1)):=by
    rw[<-zas l 0 (show k<l.length by have:=HLN.out;omega),<-ET.out,<-zdS,<-ES.out];unfold goOn;rw[<-EX.out]
   rw[egr] at HC8;have HC9:=xH1 HC8;have hT9:zi v.blks W0 (w2.setCell ⟨gs,t.toNat,none⟩ (.int .i64 (rest p t (x+1)))):=(hT6.trans (zi.of_below hG)).trans ((zi.refl v.blks w2).set GS.out);clear HC7 own R hTs HC8 egr;go_wp2
   go_roundw
   case rel=>exact⟨k+1,by omega,by go_num,HC9,hT9⟩
   case measure=>simp[intOf];omega
  ·obtain rfl:k=n:=by omega
   have hfin:=HC.out;rw[show l.take k=l by rw[HLN.out];exact List.take_length] at hfin;have kR2:=hT0.blk HKR.out NB.out.2.2;have hRl:=HKR.out.lt;have y0:=kR2.cell 0 rfl;have yz0:=kR2.fz 0;have y1:=kR2.cell 1 rfl;have yz1:=kR2.fz 1;have y2:=kR2.cell 2 rfl;have yz2:=kR2.fz 2;have y3:=kR2.cell 3 rfl;have yz3:=kR2.fz 3;have y4:=kR2.cell 4 rfl;have yz4:=kR2.fz 4;have y5:=kR2.cell 5 rfl;have yz5:=kR2.fz 5;have y6:=kR2.cell 6 rfl;have yz6:=kR2.fz 6;have y7:=kR2.cell 7 rfl;have yz7:=kR2.fz 7;have y8:=kR2.cell 8 rfl;have yz8:=kR2.fz 8;have HFI:=xH1 hfin;clear kR2 hfin HC;go_wp2
   have hTT:=((((((((((zi.refl [w.heap.size+1+1] wr).set (v:= .slice (some ⟨gp,0,none⟩) v.pl.n v.pl.c) (b:=w.heap.size+1+1) (j:=0) (by simp)).set (v:= .slice (some ⟨gs,0,none⟩) v.st.n v.st.c) (b:=w.heap.size+1+1) (j:=1) (by simp)).set (v:= .slice v.se.a v.se.n v.se.c) (b:=w.heap.size+1+1) (j:=2) (by simp)).set (v:= .slice v.on.a v.on.n v.on.c) (b:=w.heap.size+1+1) (j:=3) (by simp)).set (v:= .slice v.gr.a v.gr.n v.gr.c) (b:=w.heap.size+1+1) (j:=4) (by simp)).set (v:= .slice v.ba.a v.ba.n v.ba.c) (b:=w.heap.size+1+1) (j:=5) (by simp)).set (v:= .slice v.ch.a v.ch.n v.ch.c) (b:=w.heap.size+1+1) (j:=6) (by simp)).set (v:= .slice v.sa.a v.sa.n v.sa.c) (b:=w.heap.size+1+1) (j:=7) (by simp)).set (v:= .int .i64 v.fl) (b:=w.heap.size+1+1) (j:=8) (by simp))
   refine bodyPost_ret (v:= .agg #[.slice (some ⟨gp,0,none⟩) v.pl.n v.pl.c,.slice (some ⟨gs,0,none⟩) v.st.n v.st.c,.slice v.se.a v.se.n v.se.c,.slice v.on.a v.on.n v.on.c,.slice v.gr.a v.gr.n v.gr.c,.slice v.ba.a v.ba.n v.ba.c,.slice v.ch.a v.ch.n v.ch.c,.slice v.sa.a v.sa.n v.sa.c,.int .i64 v.fl]) (by simp[results,Tryz.results90,go_sem,y0,y1,y2,y3,y4,y5,y6,y7,y8]) rfl ⟨by rw[<-EP.out,<-ES0.out],?_,?_,?_⟩
   ·exact(HFI.out.other (hTT.mono (by simp))).sub (λq hq=>List.mem_cons_of_mem _ hq)
   ·exact(HB.out.trans hBr).trans (hTT.below (by have:=hBr.size;have:=HB.out.size;omega) (λq hq=>by obtain rfl:=xS1 hq;omega))
   ·exact((HTW.out.trans hT0).extra hTT (λq hq=>by obtain rfl:=xS1 hq;omega))
end Go.Proofs.YtnlijgjpgdjpiaaGreat
