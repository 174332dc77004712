/- Part of a proof: IFitsK. -/
import Derived.Test.YtjmpejaifmopnaaGreatQPMachK
import Derived.Test.YtjmpejaifmopnaaGreatQIWait2
set_option maxRecDepth 100000
set_option maxHeartbeats 16000000
namespace Go.Proofs.YtjmpejaifmopnaaGreat
open Go.RowKit Go.Sort
section
variable {P:Program} {α:Type} {f:α→List Value} {W W':World} {B:Nat} {es:List (Int×α)} {T K E:TypeId} {q:IntKind}
theorem WMap.row (h:WMap f W B es) (hn:(es.map (·.1)).Nodup) {k:Int} {x:α} (hx:(k,x)∈es):∃a c,∀Z:List (Int×Value),MapI W B Z→mget Z k=some (.slice a 1 c)∧Rd W a (f x):=by
 obtain⟨Z,rfl,h2,h3⟩:=h
 obtain⟨z,hz,e⟩:=List.mem_map.1 hx
 refine⟨z.2.1,z.2.2,fun Z' hZ'=>⟨?_,by have:=(h3 z hz).1;rw[e] at this;exact this⟩⟩
 obtain⟨es,clock,hb,he,_⟩:=h2
 obtain⟨es',clock',hb',he',_⟩:=hZ'
 rw[hb] at hb'
 cases hb'
 have hZ:Z'=Z.map fun z=>(z.1.1,Value.slice z.2.1 1 z.2.2):=by
  rw[he] at he'
  have hinj:∀{a b:List (Int×Value)},a.map (fun p=>(Value.int .i64 p.1,p.2))=b.map (fun p=>(Value.int .i64 p.1,p.2))→a=b:=by
   intro a
   induction a with
   |nil=>intro b h;cases b with|nil=>rfl|cons _ _=>simp at h
   |cons a l ih=>
    intro b h
    cases b with
    |nil=>simp at h
    |cons b m=>
     simp only[List.map_cons,List.cons.injEq,Prod.mk.injEq,Value.int.injEq,true_and] at h
     rw[Prod.ext h.1.1 h.1.2,ih h.2]
  exact(hinj he').symm
 rw[hZ]
 exact mget_of_mem (by rw[List.map_map];rw[List.map_map] at hn;exact hn) (List.mem_map.2 ⟨z,hz,by rw[e]⟩)
theorem WMap.look (hT:P.underlying T=some (.map K E)) (hK:P.underlying K=some (.int q)) (hz:∀w,(zeroValue E).run P w= .ok (.slice none 0 0) w) (h:WMap f W B es) (hn:(es.map (·.1)).Nodup) (k:Int):
  ∃a n c,(∀w1,Below W.heap.size W w1→(Instr.lookup T (.map (some B)) (.int .i64 k) false).run P w1= .ok (.slice a n c) w1)∧((n=0∧k∉es.map (·.1))∨(n=1∧∃x,(k,x)∈es∧Rd W a (f x))):=by
 by_cases hk:k∈es.map (·.1)
 ·obtain⟨⟨k',x⟩,hx,rfl⟩:=List.mem_map.1 hk
  obtain⟨a,c,hr⟩:=h.row hn hx
  obtain⟨Z,h1,h2,h3⟩:=h
  refine⟨a,1,c,fun w1 hb=> ?_,.inr ⟨rfl,x,hx,(hr _ h2).2⟩⟩
  have h9:=run_lookup_mapI (P:=P) hT hK hz (h2.below hb) k'
  rw[(hr _ h2).1] at h9
  exact h9
 ·obtain⟨Z,h1,h2,h3⟩:=h
  refine⟨none,0,0,fun w1 hb=> ?_,.inl ⟨rfl,hk⟩⟩
  have h9:=run_lookup_mapI (P:=P) hT hK hz (h2.below hb) k
  rw[WMap.absent h1 hk] at h9
  exact h9
theorem WMap.keep {a:Option Addr} {cs:List Value} (h:WMap f W B es) (hr:Rd W a cs) (hne:cs≠[]) (hg:W.grownBy W' (some B)):Rd W' a cs:=by
 obtain⟨Z,h1,h2,h3⟩:=h
 exact hr.grown hg (.inr fun e=>rd_no_map h2 hr hne B e rfl)
theorem WMap.len0 (h:WMap f W B []) (hT:P.underlying T=some (.map K E)) (t:TypeId):(Builtin.len_ #[T] t #[.map (some B)]).run P W= .ok (.int .i64 0) W:=by
 obtain⟨Z,h1,h2,h3⟩:=h
 obtain rfl:Z=[]:=by simpa using h1
 exact run_len_mapI h2 t hT
end
section
variable {P:Program} {w:World} {ops:Array Oper} {rest:List Oper} {o:Oper} {a:Act} {Q:Exit→Act→World→Prop} {B:Nat} {T K E:TypeId} {q:IntKind} {α:Type} {f:α→List Value} {es:List (Int×α)}
theorem wpList_delete_wmap (hg:o.guard=none) (m x:Operand) (hop:o.op=Op.call {callee:=Callee.builtin Builtin.delete,args:= #[m,x],argTypes:= #[T,K]}) (hT:P.underlying T=some (.map K E)) (hK:P.underlying K=some (.int q))
  (hm:a.eval m= .map (some B)) (hown:WMap f w B es) (hne:∀x,f x≠[]) {k:Int} (hx:a.eval x= .int .i64 k)
  (h:∀w',WMap f w' B (es.filter fun e=>decide (e.1≠k))→w.grownBy w' (some B)→w'.heap.size=w.heap.size→wpList P ops Q rest (a.put o.dst (.tuple #[])) w'):wpList P ops Q (o::rest) a w:=by
 obtain⟨Z,h1,h2,h3⟩:=hown
 refine wpList_delete_mapI hg m x hop hT hK hm h2 hx fun w' hm' hg' hs'=>h w' ?_ hg' hs'
 rw[mdel_filter _ _ h2.nodup,List.filter_map] at hm'
 refine⟨Z.filter fun z=>decide (z.1.1≠k),?_,hm',fun z hz=> ?_⟩
 ·rw[←h1,List.filter_map];rfl
 ·have h9:=h3 z ((List.mem_filter.1 hz).1)
  exact⟨h9.1.grown hg' (.inr fun e=>rd_no_map h2 h9.1 (hne _) B e rfl),h9.2⟩
end
def from_ {α:Type} (es:List (Int×α)) (k:Nat):List (Int×α):=es.filter fun e=>decide ((k:Int)≤e.1)
theorem from_next {α:Type} (es:List (Int×α)) (k:Nat):(from_ es k).filter (fun e=>decide (e.1≠(k:Int)))=from_ es (k+1):=by
 unfold from_
 rw[List.filter_filter]
 congr 1
 funext e
 rw[←Bool.decide_and]
 exact decide_eq_decide.2 (by omega)
theorem from_zero {α:Type} {es:List (Int×α)} (h:∀e∈es,0≤e.1):from_ es 0=es:=List.filter_eq_self.2 fun e he=>decide_eq_true (by have:=h e he;omega)
theorem from_end {α:Type} {es:List (Int×α)} {n:Nat} (h:∀e∈es,e.1<n):from_ es n=[]:=List.filter_eq_nil_iff.2 fun e he=>by have:=h e he;simp;omega
theorem from_mem {α:Type} {es:List (Int×α)} {k:Nat} {x:α}:((k:Int),x)∈from_ es k↔((k:Int),x)∈es:=by simp[from_]
theorem from_key {α:Type} {es:List (Int×α)} {k:Nat}:(k:Int)∈(from_ es k).map (·.1)↔(k:Int)∈es.map (·.1):=by simp[from_]
theorem from_nodup {α:Type} {es:List (Int×α)} {k:Nat} (h:(es.map (·.1)).Nodup):((from_ es k).map (·.1)).Nodup:=h.sublist (List.filter_sublist.map _)
theorem key_one {α:Type} {es:List (Int×α)} (h:(es.map (·.1)).Nodup) {k:Int} {x y:α} (h1:(k,x)∈es) (h2:(k,y)∈es):x=y:=by
 have:=nodup_map_inj h h1 h2 rfl
 exact congrArg Prod.snd this
theorem neq_wtg (w:World) (a0 a1 a2 b0 b1 b2:Int):(binOp .neq 104 (.agg #[.int .i64 a0,.int .i64 a1,.int .i64 a2]) (.agg #[.int .i64 b0,.int .i64 b1,.int .i64 b2])).run Tryz.prog w= .ok (.bool (!(a0==b0&&a1==b1&&a2==b2))) w:=by
 have u3:=Tryz.underlying3
 have a3:=Tryz.isAgg3
 have z3:=Tryz.sizeOf3
 have hS:Tryz.prog.underlying 104=some (.struct (Tryz.prog.fieldsOf 104)):=by kernel_rfl
 have hp:Tryz.prog.stoodInHeld 104=false:=by kernel_rfl
 rw[run_neq_struct,show(10000:Nat)=9999+1 from rfl,run_equalIn_agg w 9999 _ _ _ hS hp]
 simp only[Program.fieldsOf,Tryz.underlying104]
 go_simp
 by_cases h0:a0=b0<;>by_cases h1:a1=b1<;>by_cases h2:a2=b2<;>simp[h0,h1,h2]
theorem guard_wtg (w:World) (x y:Operand) (xs ys:Array Value):(eqGuard .neq 104 x y (.agg xs) (.agg ys)).run Tryz.prog w= .ok () w:=
 run_eqGuard_agg w .neq _ x y xs ys (by kernel_rfl)
structure FW (w W:World) (l:List It) (N:Nat) (s:StD) (i j:Nat):Prop where
 fr:Fr w W l
 hN:w.heap.size≤N∧N+1∉foots l∧N+3∉foots l
 wm:WMap entC W (N+1) (from_ (ents s) i)
 om:WMap oneC W (N+3) (from_ (owns s) j)
theorem FW.call {w W W':World} {l:List It} {N i j:Nat} {s:StD} (h:FW w W l N s i j) (hb:Below W.heap.size W W'):FW w W' l N s i j:=⟨h.fr.call hb,h.hN,h.wm.below hb,h.om.below hb⟩
theorem FW.delW {w W W':World} {l:List It} {N k j:Nat} {s:StD} (h:FW w W l N s k j) (hw:WMap entC W' (N+1) ((from_ (ents s) k).filter fun e=>decide (e.1≠(k:Int)))) (hg:W.grownBy W' (some (N+1))):FW w W' l N s (k+1) j:=by
 obtain⟨Z,_,h2,_⟩:=h.wm
 exact⟨h.fr.other (Touch.of_grown (S:=[N+1]) hg fun k hk=>by cases hk;simp) (fun k hk=>by obtain rfl:=xS1 hk;exact⟨by have:=h.hN.1;omega,h.hN.2.1⟩),h.hN,by rw[←from_next];exact hw,h.om.grown hg (by omega) (fun _=>by simp) h2⟩
theorem FW.delO {w W W':World} {l:List It} {N k j:Nat} {s:StD} (h:FW w W l N s j k) (hw:WMap oneC W' (N+3) ((from_ (owns s) k).filter fun e=>decide (e.1≠(k:Int)))) (hg:W.grownBy W' (some (N+3))):FW w W' l N s j (k+1):=by
 obtain⟨Z,_,h2,_⟩:=h.om
 exact⟨h.fr.other (Touch.of_grown (S:=[N+3]) hg fun k hk=>by cases hk;simp) (fun k hk=>by obtain rfl:=xS1 hk;exact⟨by have:=h.hN.1;omega,h.hN.2.2⟩),h.hN,h.wm.grown hg (by omega) (fun _=>by simp) h2,by rw[←from_next];exact hw⟩
end Go.Proofs.YtjmpejaifmopnaaGreat
