/- Part of a proof: MDel IWait. -/
import Derived.Test.YtjmpejaifmopnaaGreatQIClone
set_option maxRecDepth 100000
set_option maxHeartbeats 16000000
namespace Go.Proofs.YtjmpejaifmopnaaGreat
open Go.RowKit
theorem mdel_erase:∀(L:List (Int×Value)) (k:Int) (i j:Nat) (v:Value),mfind L k i=some (j,v)→i≤j∧mdel L k=L.eraseIdx (j-i)
 |[],k,i,j,v,h=>by simp[mfind] at h
 |(a,u)::r,k,i,j,v,h=>by
  by_cases e:k=a
  ·simp only[mfind,e,if_true,Option.some.injEq,Prod.mk.injEq] at h
   obtain⟨rfl,rfl⟩:=h
   simp[mdel,e]
  ·simp only[mfind,e,if_false] at h
   obtain⟨h1,h2⟩:=mdel_erase r k (i+1) j v h
   refine⟨by omega,?_⟩
   rw[show j-i=(j-(i+1))+1 by omega]
   simp[mdel,e,h2]
theorem mdel_none:∀(L:List (Int×Value)) (k:Int) (i:Nat),mfind L k i=none→mdel L k=L
 |[],_,_,_=>rfl
 |(a,u)::r,k,i,h=>by
  by_cases e:k=a
  ·simp[mfind,e] at h
  ·simp only[mfind,e,if_false] at h
   simp[mdel,e,mdel_none r k (i+1) h]
theorem mdel_filter:∀(L:List (Int×Value)) (k:Int),(L.map Prod.fst).Nodup→mdel L k=L.filter fun e=>decide (e.1≠k)
 |[],_,_=>rfl
 |(a,u)::r,k,h=>by
  simp only[List.map_cons,List.nodup_cons] at h
  by_cases e:k=a
  ·subst e
   have h2:r.filter (fun e=>decide (e.1≠k))=r:=List.filter_eq_self.2 fun x hx=>decide_eq_true fun hh=>h.1 (hh▸List.mem_map.2 ⟨x,hx,rfl⟩)
   simp only[mdel,if_true,List.filter_cons,ne_eq,not_true_eq_false,decide_false,Bool.false_eq_true,if_false]
   exact h2.symm
  ·have h3:¬a=k:=fun hh=>e hh.symm
   simp only[mdel,e,if_false,List.filter_cons,ne_eq,h3,not_false_eq_true,decide_true,if_true,mdel_filter r k h.2]
section
variable {P:Program} {w:World} {B:Nat} {L:List (Int×Value)}
theorem eraseIdx_map {α β:Type} (f:α→β):∀(l:List α) (j:Nat),(l.eraseIdx j).map f=(l.map f).eraseIdx j
 |[],_=>rfl
 |_::_,0=>rfl
 |a::l,j+1=>by simp[eraseIdx_map f l j]
theorem run_delete_mapI {T K E:TypeId} {q:IntKind} (ty:TypeId) (hT:P.underlying T=some (.map K E)) (hK:P.underlying K=some (.int q)) (h:MapI w B L) (k:Int):
  ∃w',(Builtin.delete_ #[T,K] ty #[.map (some B),.int .i64 k]).run P w= .ok (.tuple #[]) w'∧MapI w' B (mdel L k)∧w.grownBy w' (some B)∧w'.heap.size=w.heap.size:=by
 have hlt:=h.lt
 obtain⟨es,clock,hb,he,hnd,hbn,hcl⟩:=h
 have hf:=findNow_eq q k es.toList L 0 he
 cases hm:mfind L k 0 with
 |none=>
  rw[hm] at hf
  refine⟨World.setMap w B (.map es clock),?_,?_,grown_setMap _ _ _,size_setMap _ _ _⟩
  ·simp[Builtin.delete_,Sem.run_bind,run_underlying hT,getObj,setObj,Sem.run,hb,run_checkKey_int _ 9999 K q hK,Instr.findKey,run_underlying hK,hf,World.setMap,Result.andThen]
  ·rw[mdel_none L k 0 hm]
   exact⟨_,_,at_setMap _ _ _ hlt,he,hnd,hbn,hcl⟩
 |some p=>
  obtain⟨j,u⟩:=p
  rw[hm] at hf
  obtain⟨_,h3⟩:=mdel_erase L k 0 j u hm
  rw[Nat.sub_zero] at h3
  refine⟨World.setMap w B (.map (es.eraseIdxIfInBounds j) clock),?_,?_,grown_setMap _ _ _,size_setMap _ _ _⟩
  ·simp[Builtin.delete_,Sem.run_bind,run_underlying hT,getObj,setObj,Sem.run,hb,run_checkKey_int _ 9999 K q hK,Instr.findKey,run_underlying hK,hf,World.setMap,Result.andThen]
  ·have hl:(es.eraseIdxIfInBounds j).toList=es.toList.eraseIdx j:=by simp
   refine⟨_,_,at_setMap _ _ _ hlt,?_,?_,?_,?_⟩
   ·rw[hl,h3,eraseIdx_map,eraseIdx_map,he]
   ·rw[h3,eraseIdx_map]
    exact hnd.sublist (List.eraseIdx_sublist _ _)
   ·rw[hl,eraseIdx_map]
    exact hbn.sublist (List.eraseIdx_sublist _ _)
   ·rw[hl]
    exact fun e hm'=>hcl e (List.mem_of_mem_eraseIdx hm')
end
section
variable {P:Program} {w:World} {ops:Array Oper} {rest:List Oper} {o:Oper} {a:Act} {Q:Exit→Act→World→Prop} {B:Nat} {L:List (Int×Value)} {T K E:TypeId} {q:IntKind}
theorem wpList_delete_mapI (hg:o.guard=none) (m x:Operand) (hop:o.op=Op.call {callee:=Callee.builtin Builtin.delete,args:= #[m,x],argTypes:= #[T,K]}) (hT:P.underlying T=some (.map K E)) (hK:P.underlying K=some (.int q))
  (hm:a.eval m= .map (some B)) (hown:MapI w B L) {k:Int} (hx:a.eval x= .int .i64 k)
  (h:∀w',MapI w' B (mdel L k)→w.grownBy w' (some B)→w'.heap.size=w.heap.size→wpList P ops Q rest (a.put o.dst (.tuple #[])) w'):wpList P ops Q (o::rest) a w:=by
 refine wpList_plain hg fun K' hK''=> ?_
 obtain⟨w',hrun,h1,h2,h3⟩:=run_delete_mapI (P:=P) o.type hT hK hown k
 unfold Oper.wp
 simp[execOp,hop,resolve,invoke,builtin,hm,hx,hrun,Result.andThen]
 exact hK'' _ _ (h w' h1 h2 h3)
end
def WMap {α:Type} (f:α→List Value) (W:World) (B:Nat) (es:List (Int×α)):Prop:=
 ∃Z:List ((Int×α)×Option Addr×Nat),Z.map (·.1)=es∧MapI W B (Z.map fun z=>(z.1.1,.slice z.2.1 1 z.2.2))∧∀z∈Z,Rd W z.2.1 (f z.1.2)∧1≤z.2.2
theorem rd_no_map {W:World} {B:Nat} {L:List (Int×Value)} (h:MapI W B L) {a:Option Addr} {cs:List Value} (hr:Rd W a cs) (hne:cs≠[]):∀b,rowOf a=some b→b≠B:=by
 intro b hb e
 subst e
 obtain⟨es,clock,hB,_⟩:=h
 rcases hr with h0|⟨b',o,rfl,hc⟩
 ·exact hne h0
 ·obtain rfl:b'=b:=by simpa[rowOf] using hb
  have:=hc 0 (List.length_pos_iff.2 hne)
  unfold World.cell? at this
  simp[hB] at this
section
variable {α:Type} {f:α→List Value} {W W':World} {B:Nat} {es:List (Int×α)}
theorem WMap.made (W:World):WMap f (W.alloc (.map #[] 0)) W.heap.size []:=⟨[],rfl,MapI.made W,by simp⟩
theorem WMap.below (h:WMap f W B es) (hb:Below W.heap.size W W'):WMap f W' B es:=by
 obtain⟨Z,h1,h2,h3⟩:=h
 exact⟨Z,h1,h2.below hb,fun z hz=>⟨(h3 z hz).1.below hb,(h3 z hz).2⟩⟩
theorem WMap.grown (h:WMap f W B es) {g:Nat} (hg:W.grownBy W' (some g)) (hne:g≠B) (hr:∀x,f x≠[]) {L:List (Int×Value)} (hm:MapI W g L):WMap f W' B es:=by
 obtain⟨Z,h1,h2,h3⟩:=h
 refine⟨Z,h1,h2.grown hg (fun e=>hne (by simpa using e)),fun z hz=>⟨(h3 z hz).1.grown hg (.inr fun e=> ?_),(h3 z hz).2⟩⟩
 exact rd_no_map hm (h3 z hz).1 (hr _) g e rfl
theorem WMap.put {Z:List ((Int×α)×Option Addr×Nat)} (h1:Z.map (·.1)=es) (h2:MapI W B (Z.map fun z=>(z.1.1,.slice z.2.1 1 z.2.2))) (h3:∀z∈Z,Rd W z.2.1 (f z.1.2)∧1≤z.2.2) {t:Int} {x:α} (ht:t∉es.map (·.1)) {a:Option Addr} {c:Nat} (hr:Rd W a (f x)) (hc:1≤c) (hf:∀x,f x≠[]) (hg:W.grownBy W' (some B)) (h4:MapI W' B (mput (Z.map fun z=>(z.1.1,.slice z.2.1 1 z.2.2)) t (.slice a 1 c))):WMap f W' B (es++[(t,x)]):=by
 have hk:t∉(Z.map fun z=>(z.1.1,Value.slice z.2.1 1 z.2.2)).map Prod.fst:=by
  rw[List.map_map]
  intro hm'
  apply ht
  rw[←h1,List.map_map]
  exact hm'
 rw[mput_new _ _ _ hk] at h4
 refine⟨Z++[((t,x),a,c)],by rw[List.map_append,h1];rfl,by rw[List.map_append];exact h4,fun z hz=> ?_⟩
 have key:∀{a':Option Addr} {y:α},Rd W a' (f y)→Rd W' a' (f y):=fun hr'=>hr'.grown hg (.inr fun e=>rd_no_map h2 hr' (hf _) B e rfl)
 rcases xP1 hz with hz|hz
 ·exact⟨key (h3 z hz).1,(h3 z hz).2⟩
 ·obtain rfl:=xS1 hz
  exact⟨key hr,hc⟩
theorem WMap.absent {Z:List ((Int×α)×Option Addr×Nat)} (h1:Z.map (·.1)=es) {t:Int} (ht:t∉es.map (·.1)):mget (Z.map fun z=>(z.1.1,Value.slice z.2.1 1 z.2.2)) t=none:=by
 rw[mget_none,List.map_map]
 intro hm'
 apply ht
 rw[←h1,List.map_map]
 exact hm'
end
abbrev entC (x:Int×Int×Int):List Value:=[.int .i64 x.1,.int .i64 x.2.1,.int .i64 x.2.2]
theorem info_wtg:(Tryz.prog.info? 104).map (fun i=>(i.zero,i.size,i.bytes))=some (some (.agg #[.int .i64 0,.int .i64 0,.int .i64 0]),3,24):=by kernel_rfl
theorem zero_wtgs (w:World):(zeroValue 102).run Tryz.prog w= .ok (.slice none 0 0) w:=by kernel_rfl
theorem zero_ints' (w:World):(zeroValue 23).run Tryz.prog w= .ok (.slice none 0 0) w:=by kernel_rfl
theorem implAdd_ok (t k on arg:Int) (C B:Nat) (es:List Ent) (W:World) (hc:W.cell? ⟨C,0,none⟩=some (.map (some B))) (hm:WMap entC W B es) (ht:t∉es.map (·.1)):
  Calls Tryz.prog 83 (#[.int .i64 t,.int .i64 k,.int .i64 on,.int .i64 arg]++ #[.pointer (some ⟨C,0,none⟩)]) W fun e W'=>e= .returned (.tuple #[])∧WMap entC W' B (es++[(t,k,on,arg)])∧W.grownBy W' (some B):=by
 obtain⟨Z,z1,z2,z3⟩:=hm
 have HT:=xH1 ht
 have HL:Hid (∀w1,Below W.heap.size W w1→(Instr.lookup 98 (.map (some B)) (.int .i64 t) false).run Tryz.prog w1= .ok (.slice none 0 0) w1):=xH1 (fun w1 hb=>by
  have h:=run_lookup_mapI (P:=Tryz.prog) Tryz.underlying98 Tryz.underlying3 zero_wtgs (z2.below hb) t
  rw[WMap.absent z1 HT.out] at h
  exact h)
 clear ht
 go_enter Tryz.func83,Tryz.ntmps83
 go_wp2_with fail
 apply wp_rk 11 [.k _,.k _,.k _,.k _,.k (.slice none 0 0),.k _,.k _,.k _,.k _,.r fun dz uz wz=>∃gz:Nat,uz= .slice (some ⟨gz,0,none⟩) 1 1∧Blk wz gz #[.int .i64 k,.int .i64 on,.int .i64 arg] 104,.r fun dz uz wz=>∃(az:Option Addr) (cz:Nat),uz= .slice az 1 cz∧wz.ownsRow W.heap.size 104 3 (.slice az 1 cz) 1 (entC (k,on,arg))] ⟨fun _ _ _ _ hb ⟨g,e,h⟩=>⟨g,e,h.below hb⟩,fun _ _ _ _ hb ⟨a,c,e,h⟩=>⟨a,c,e,owns_below h hb⟩,trivial⟩ ?s1 ?e1
 case s1=>
  repeat' apply And.intro
  all_goals first|trivial|(intro ρ w1 hG hfr hd;obtain⟨fc,ff⟩:=fcff hfr;have f4:=hfr (.tmp 4) rfl;have f0:=hfr (.tmp 0) rfl;have f1:=hfr (.tmp 1) rfl;have f2:=hfr (.tmp 2) rfl;have f3:=hfr (.tmp 3) rfl;have cc:=keepc hG hc)
  exact rk0;exact rk0;exact rk0;exact rk0
  ·obtain⟨d0,d1,-⟩:=hd
   have d0:ρ (.tmp 11)=_:=d0
   have d1:ρ (.tmp 12)=_:=d1
   have hlk:=HL.out w1 hG
   exact gvF hG (by go_simp) rfl xN1
  exact rk0;exact rk0;exact rk0;exact rk3
  ·obtain⟨d0,-⟩:=hd
   have d0:ρ (.tmp 17)=_:=d0
   refine gives_val (u:= .slice (some ⟨w1.heap.size,0,none⟩) 1 1) (w':=w1.alloc (.cells #[.int .i64 k,.int .i64 on,.int .i64 arg] 104)) (by go_simp) ⟨xA1,⟨_,rfl,Blk.new _ _ _⟩,xN1,hG.alloc hG.size _⟩
  ·obtain⟨d0,d1,-⟩:=hd
   have d0:ρ (.tmp 13)=_:=d0
   have d1:∃gz:Nat,(ρ (.tmp 18))= .slice (some ⟨gz,0,none⟩) 1 1∧Blk w1 gz #[.int .i64 k,.int .i64 on,.int .i64 arg] 104:=d1
   obtain⟨gz,d1,hgz⟩:=d1
   refine gives_append_new (m:=1) (news:=entC (k,on,arg)) _ _ 102 rfl Tryz.underlying102 info_wtg rfl (by decide) d0 (World.ownsRow_nil _ _ _ _) d1 rfl (Rd.of_blk hgz) (by intro u hu;simp only[entC,List.mem_cons,List.not_mem_nil,or_false] at hu;rcases hu with rfl|rfl|rfl<;>rfl) (by omega) (by decide) hG.size ?_
   intro a' c' w2 hown2 hb hf h0
   exact⟨hb,⟨a',c',rfl,hown2⟩,xN1,hG.trans (hb.mono hG.size)⟩
 intro w2 hG
 refine rk_end ?_
 intro xv9 hv9 xv10 hv10
 obtain⟨az,cz,rfl,ho⟩:=hv10
 clear hv9
 have y2:=z2.below hG
 have y3:∀z∈Z,Rd w2 z.2.1 (entC z.1.2)∧1≤z.2.2:=fun z hz=>⟨(z3 z hz).1.below hG,(z3 z hz).2⟩
 clear z2 z3
 go_wp2_with (at_mapUpdate;refine wpList_update_mapI rfl _ _ _ rfl Tryz.underlying98 Tryz.underlying3 rfl y2 rfl rfl ?_;intro w5 hm5 hg5 hs5)
 exact bodyPost_end (v:= .tuple #[]) (by simp[results,Tryz.results83,go_sem]) rfl ⟨rfl,WMap.put z1 y2 y3 HT.out (Rd.of_owns ho) (owns_cap ho).1 (fun _=>by simp[entC]) hg5 hm5,grown_trans (grown_below hG) hg5⟩
end Go.Proofs.YtjmpejaifmopnaaGreat
