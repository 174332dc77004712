/- Part of a proof: MState MPut AppHn MTail. -/
import Derived.Test.YtjmpejaifmopnaaGreatQPMach
import Derived.Test.YtjmpejaifmopnaaGreatQBaseD
set_option maxRecDepth 100000
set_option maxHeartbeats 16000000
namespace Go.Proofs.YtjmpejaifmopnaaGreat
open Go.RowKit
structure StV where
 pl:SlV
 st:SlV
 se:SlV
 on:SlV
 gr:SlV
 ba:SlV
 ch:SlV
 sa:SlV
 fl:Int
abbrev StV.val (v:StV):Value:= .agg #[v.pl.val,v.st.val,v.se.val,v.on.val,v.gr.val,v.ba.val,v.ch.val,v.sa.val,.int .i64 v.fl]
structure StL where
 se:List (SemD×SlV)
 on:List (OnceD×SlV)
 gr:List (GrpD×SlV)
 ba:List (BarD×SlV)
 ch:List (ChnD×SlV×SlV×SlV)
def semC (x:SemD×SlV):List Value:=[.int .i64 x.1.free,.int .i64 x.1.limit,x.2.val]
def onceC (x:OnceD×SlV):List Value:=[.int .i64 x.1.state,.int .i64 x.1.owner,.int .i64 x.1.value,x.2.val]
def grpC (x:GrpD×SlV):List Value:=[.int .i64 x.1.count,x.2.val]
def barC (x:BarD×SlV):List Value:=[.int .i64 x.1.parties,.int .i64 x.1.round,x.2.val]
def chnC (x:ChnD×SlV×SlV×SlV):List Value:=[.int .i64 x.1.room,x.2.1.val,x.2.2.1.val,x.2.2.2.val,.bool x.1.closed]
theorem semC_len (x:SemD×SlV):(semC x).length=3:=rfl
theorem onceC_len (x:OnceD×SlV):(onceC x).length=4:=rfl
theorem grpC_len (x:GrpD×SlV):(grpC x).length=2:=rfl
theorem barC_len (x:BarD×SlV):(barC x).length=3:=rfl
theorem chnC_len (x:ChnD×SlV×SlV×SlV):(chnC x).length=5:=rfl
abbrev noSemP:SemD×SlV:=(noSem,nilV)
abbrev noOnceP:OnceD×SlV:=(noOnce,nilV)
abbrev noGrpP:GrpD×SlV:=(noGrp,nilV)
abbrev noBarP:BarD×SlV:=(noBar,nilV)
abbrev noChnP:ChnD×SlV×SlV×SlV:=(noChn,nilV,nilV,nilV)
structure InL {α β:Type} (R:World→α→β→Prop) (w:World) (L:List (α×β)) (xs:List α):Prop where
 e:L.map (·.1)=xs
 r:∀x∈L,R w x.1 x.2
section
variable {α β:Type} {R R':World→α→β→Prop} {w w':World} {L:List (α×β)} {xs:List α}
theorem InL.mono (h:InL R w L xs) (hm:∀x s,R w x s→R' w' x s):InL R' w' L xs:=⟨h.e,fun x hx=>hm _ _ (h.r x hx)⟩
theorem InL.len (h:InL R w L xs):L.length=xs.length:=by rw[←h.e,List.length_map]
theorem InL.fst (h:InL R w L xs) (d:α) (s:β) (i:Nat):(L.getD i (d,s)).1=xs.getD i d:=by
 rw[←h.e]
 simp only[List.getD_eq_getElem?_getD,List.getElem?_map]
 cases L[i]? <;>rfl
theorem InL.at (h:InL R w L xs) (d:α) (s:β) {i:Nat} (hi:i<xs.length):R w (xs.getD i d) (L.getD i (d,s)).2:=by
 rw[←h.fst d s i]
 refine h.r _ ?_
 rw[←h.len] at hi
 rw[List.getD_eq_getElem?_getD,List.getElem?_eq_getElem hi]
 exact List.getElem_mem hi
theorem InL.set (h:InL R w L xs) (i:Nat) {x:α} {s:β} (hx:R w x s):InL R w (L.set i (x,s)) (xs.set i x):=by
 refine⟨by rw[List.map_set,h.e],fun y hy=> ?_⟩
 rcases List.mem_or_eq_of_mem_set hy with hy|rfl
 ·exact h.r y hy
 ·exact hx
theorem InL.snoc (h:InL R w L xs) {x:α} {s:β} (hx:R w x s):InL R w (L++[(x,s)]) (xs++[x]):=by
 refine⟨by rw[List.map_append,h.e];rfl,fun y hy=> ?_⟩
 rcases xP1 hy with hy|hy
 ·exact h.r y hy
 ·obtain rfl:=xS1 hy
  exact hx
theorem InL.nil:InL R w [] []:=⟨rfl,by simp⟩
end
def semR (S:List Nat) (w:World) (x:SemD) (s:SlV):Prop:=SlR S w s (pairs x.queue) x.queue.length
def onceR (S:List Nat) (w:World) (x:OnceD) (s:SlV):Prop:=SlR S w s (ints x.waits) x.waits.length
def grpR (S:List Nat) (w:World) (x:GrpD) (s:SlV):Prop:=SlR S w s (ints x.waits) x.waits.length
def barR (S:List Nat) (w:World) (x:BarD) (s:SlV):Prop:=SlR S w s (ints x.waits) x.waits.length
def chnR (S:List Nat) (w:World) (x:ChnD) (s:SlV×SlV×SlV):Prop:=SlR S w s.1 (ints x.items) x.items.length∧SlR S w s.2.1 (pairs x.senders) x.senders.length∧SlR S w s.2.2 (ints x.getters) x.getters.length
structure StIn (S:List Nat) (w:World) (L:StL) (s:StD):Prop where
 se:InL (semR S) w L.se s.sems
 on:InL (onceR S) w L.on s.onces
 gr:InL (grpR S) w L.gr s.groups
 ba:InL (barR S) w L.ba s.bars
 ch:InL (chnR S) w L.ch s.chans
theorem StIn.map {S S':List Nat} {w w':World} {L:StL} {s:StD} (h:StIn S w L s) (hm:∀(x:SlV) (cs:List Value) (k:Nat),SlR S w x cs k→SlR S' w' x cs k):StIn S' w' L s:=
 ⟨h.se.mono fun _ _=>hm _ _ _,h.on.mono fun _ _=>hm _ _ _,h.gr.mono fun _ _=>hm _ _ _,h.ba.mono fun _ _=>hm _ _ _,h.ch.mono fun _ _ hx=>⟨hm _ _ _ hx.1,hm _ _ _ hx.2.1,hm _ _ _ hx.2.2⟩⟩
theorem StIn.to {S:List Nat} {w:World} {L:StL} {s s':StD} (h:StIn S w L s) (e:s'.sems=s.sems∧s'.onces=s.onces∧s'.groups=s.groups∧s'.bars=s.bars∧s'.chans=s.chans):StIn S w L s':=
 ⟨by rw[e.1];exact h.se,by rw[e.2.1];exact h.on,by rw[e.2.2.1];exact h.gr,by rw[e.2.2.2.1];exact h.ba,by rw[e.2.2.2.2];exact h.ch⟩
theorem SlR.wider {S S':List Nat} {w:World} {s:SlV} {cs:List Value} {k:Nat} (h:SlR S w s cs k) (hs:cs=[]∨∀b,rowOf s.a=some b→b<w.heap.size→b∈S'→b∈S):SlR S' w s cs k:=by
 refine⟨h.len,h.rd,?_,h.cap⟩
 rcases h.far with h0|hf
 ·exact .inl h0
 ·rcases hs with h0|hs
  ·exact .inl h0
  ·rcases h.rd with h0|⟨b,o,e,hc⟩
   ·exact .inl h0
   ·by_cases hn:cs=[]
    ·exact .inl hn
    ·refine .inr fun b' hb' hm=>hf b' hb' (hs b' hb' ?_ hm)
     rw[e] at hb'
     obtain rfl:b=b':=by simpa[rowOf] using hb'
     have:=hc 0 (List.length_pos_iff.2 hn)
     unfold World.cell? at this
     rcases Nat.lt_or_ge b w.heap.size with hl|hl
     ·exact hl
     ·rw[Array.getElem?_eq_none hl] at this
      simp at this
structure StR (w:World) (v:StV) (L:StL) (s:StD):Prop where
 pl:SlR [] w v.pl (ints s.places) s.places.length
 st:SlR [] w v.st (ints s.status) s.status.length
 se:SlR [] w v.se (L.se.flatMap semC) s.sems.length
 on:SlR [] w v.on (L.on.flatMap onceC) s.onces.length
 gr:SlR [] w v.gr (L.gr.flatMap grpC) s.groups.length
 ba:SlR [] w v.ba (L.ba.flatMap barC) s.bars.length
 ch:SlR [] w v.ch (L.ch.flatMap chnC) s.chans.length
 sa:SlR [] w v.sa (ints s.said) s.said.length
 fl:v.fl=s.fault
 inn:StIn [] w L s
theorem StR.below {w w':World} {v:StV} {L:StL} {s:StD} (h:StR w v L s) (hb:Below w.heap.size w w'):StR w' v L s:=
 ⟨h.pl.below hb,h.st.below hb,h.se.below hb,h.on.below hb,h.gr.below hb,h.ba.below hb,h.ch.below hb,h.sa.below hb,h.fl,h.inn.map fun _ _ _ hx=>hx.below hb⟩
def StV.blks (v:StV):List Nat:=[v.pl.a,v.st.a,v.se.a,v.on.a,v.gr.a,v.ba.a,v.ch.a,v.sa.a].filterMap rowOf
structure StO (X:List Nat) (B:Nat) (w:World) (v:StV) (L:StL) (s:StD):Prop where
 pl:w.ownsRow B 3 1 v.pl.val v.pl.n (ints s.places)
 npl:v.pl.n=s.places.length
 st:w.ownsRow B 3 1 v.st.val v.st.n (ints s.status)
 nst:v.st.n=s.status.length
 se:w.ownsRow B 83 3 v.se.val v.se.n (L.se.flatMap semC)
 nse:v.se.n=s.sems.length
 on:w.ownsRow B 96 4 v.on.val v.on.n (L.on.flatMap onceC)
 non:v.on.n=s.onces.length
 gr:w.ownsRow B 86 2 v.gr.val v.gr.n (L.gr.flatMap grpC)
 ngr:v.gr.n=s.groups.length
 ba:w.ownsRow B 89 3 v.ba.val v.ba.n (L.ba.flatMap barC)
 nba:v.ba.n=s.bars.length
 ch:w.ownsRow B 93 5 v.ch.val v.ch.n (L.ch.flatMap chnC)
 nch:v.ch.n=s.chans.length
 sa:w.ownsRow B 3 1 v.sa.val v.sa.n (ints s.said)
 nsa:v.sa.n=s.said.length
 fl:v.fl=s.fault
 dps:∀k,rowOf v.pl.a=some k→rowOf v.st.a≠some k
 dpa:∀k,rowOf v.pl.a=some k→rowOf v.sa.a≠some k
 dsa:∀k,rowOf v.st.a=some k→rowOf v.sa.a≠some k
 xs:∀k∈X,k<w.heap.size∧k∉v.blks
 inn:StIn (X++v.blks) w L s
theorem SlR.of_owns {w:World} {B:Nat} {e:TypeId} {sz:Nat} {s:SlV} {cs:List Value} {k:Nat} (h:w.ownsRow B e sz s.val s.n cs) (hk:s.n=k):SlR [] w s cs k:=
 ⟨hk,Rd.of_owns h,.inr (by simp),(owns_cap h).1⟩
theorem StO.rd {X:List Nat} {B:Nat} {w:World} {v:StV} {L:StL} {s:StD} (h:StO X B w v L s):StR w v L s:=
 ⟨SlR.of_owns h.pl h.npl,SlR.of_owns h.st h.nst,SlR.of_owns h.se h.nse,SlR.of_owns h.on h.non,SlR.of_owns h.gr h.ngr,SlR.of_owns h.ba h.nba,SlR.of_owns h.ch h.nch,SlR.of_owns h.sa h.nsa,h.fl,h.inn.map fun _ _ _ hx=>hx.free⟩
theorem StO.below {X:List Nat} {B:Nat} {w w':World} {v:StV} {L:StL} {s:StD} (h:StO X B w v L s) (hb:Below w.heap.size w w'):StO X B w' v L s:=
 ⟨owns_below h.pl hb,h.npl,owns_below h.st hb,h.nst,owns_below h.se hb,h.nse,owns_below h.on hb,h.non,owns_below h.gr hb,h.ngr,owns_below h.ba hb,h.nba,owns_below h.ch hb,h.nch,owns_below h.sa hb,h.nsa,h.fl,h.dps,h.dpa,h.dsa,fun k hk=>⟨Nat.lt_of_lt_of_le (h.xs k hk).1 hb.size,(h.xs k hk).2⟩,h.inn.map fun _ _ _ hx=>hx.below hb⟩
theorem StO.lower {X:List Nat} {B B':Nat} {w:World} {v:StV} {L:StL} {s:StD} (h:StO X B w v L s) (hb:B'≤B):StO X B' w v L s:=
 ⟨owns_mono h.pl hb,h.npl,owns_mono h.st hb,h.nst,owns_mono h.se hb,h.nse,owns_mono h.on hb,h.non,owns_mono h.gr hb,h.ngr,owns_mono h.ba hb,h.nba,owns_mono h.ch hb,h.nch,owns_mono h.sa hb,h.nsa,h.fl,h.dps,h.dpa,h.dsa,h.xs,h.inn⟩
theorem StO.from {X:List Nat} {B:Nat} {w:World} {v:StV} {L:StL} {s:StD} (h:StO X B w v L s):∀k∈v.blks,B≤k∧k<w.heap.size:=by
 intro k hk
 unfold StV.blks at hk
 obtain⟨x,hx,hxk⟩:=List.mem_filterMap.1 hk
 simp only[List.mem_cons,List.not_mem_nil,or_false] at hx
 rcases hx with rfl|rfl|rfl|rfl|rfl|rfl|rfl|rfl
 ·exact owns_row h.pl k hxk
 ·exact owns_row h.st k hxk
 ·exact owns_row h.se k hxk
 ·exact owns_row h.on k hxk
 ·exact owns_row h.gr k hxk
 ·exact owns_row h.ba k hxk
 ·exact owns_row h.ch k hxk
 ·exact owns_row h.sa k hxk
theorem StV.mem_pl {v:StV} {k:Nat} (h:rowOf v.pl.a=some k):k∈v.blks:=List.mem_filterMap.2 ⟨v.pl.a,by simp,h⟩
theorem StV.mem_st {v:StV} {k:Nat} (h:rowOf v.st.a=some k):k∈v.blks:=List.mem_filterMap.2 ⟨v.st.a,by simp,h⟩
theorem StV.mem_se {v:StV} {k:Nat} (h:rowOf v.se.a=some k):k∈v.blks:=List.mem_filterMap.2 ⟨v.se.a,by simp,h⟩
theorem StV.mem_on {v:StV} {k:Nat} (h:rowOf v.on.a=some k):k∈v.blks:=List.mem_filterMap.2 ⟨v.on.a,by simp,h⟩
theorem StV.mem_gr {v:StV} {k:Nat} (h:rowOf v.gr.a=some k):k∈v.blks:=List.mem_filterMap.2 ⟨v.gr.a,by simp,h⟩
theorem StV.mem_ba {v:StV} {k:Nat} (h:rowOf v.ba.a=some k):k∈v.blks:=List.mem_filterMap.2 ⟨v.ba.a,by simp,h⟩
theorem StV.mem_ch {v:StV} {k:Nat} (h:rowOf v.ch.a=some k):k∈v.blks:=List.mem_filterMap.2 ⟨v.ch.a,by simp,h⟩
theorem StV.mem_sa {v:StV} {k:Nat} (h:rowOf v.sa.a=some k):k∈v.blks:=List.mem_filterMap.2 ⟨v.sa.a,by simp,h⟩
theorem Xs.size {X:List Nat} {w w':World} {b:List Nat} (h:∀k∈X,k<w.heap.size∧k∉b) (hs:w.heap.size≤w'.heap.size):∀k∈X,k<w'.heap.size∧k∉b:=fun k hk=>⟨Nat.lt_of_lt_of_le (h k hk).1 hs,(h k hk).2⟩
theorem StO.set_pl {X:List Nat} {B g:Nat} {w w':World} {v:StV} {L:StL} {s:StD} (h:StO X B w v L s) (hg:rowOf v.pl.a=some g) (T:Touch [g] w w') {ps:List Int} (hl:v.pl.n=ps.length) (ho:w'.ownsRow B 3 1 v.pl.val v.pl.n (ints ps)):StO X B w' v L {s with places:=ps}:=
 ⟨ho,hl,owns_touch h.st T (fun q hq hm=>by obtain rfl:=xS1 hm;exact h.dps _ hg hq),h.nst,owns_touch h.se T (fun q hq hm=>by obtain rfl:=xS1 hm;exact owns_owns h.pl h.se (by decide) _ hg hq),h.nse,owns_touch h.on T (fun q hq hm=>by obtain rfl:=xS1 hm;exact owns_owns h.pl h.on (by decide) _ hg hq),h.non,owns_touch h.gr T (fun q hq hm=>by obtain rfl:=xS1 hm;exact owns_owns h.pl h.gr (by decide) _ hg hq),h.ngr,owns_touch h.ba T (fun q hq hm=>by obtain rfl:=xS1 hm;exact owns_owns h.pl h.ba (by decide) _ hg hq),h.nba,owns_touch h.ch T (fun q hq hm=>by obtain rfl:=xS1 hm;exact owns_owns h.pl h.ch (by decide) _ hg hq),h.nch,owns_touch h.sa T (fun q hq hm=>by obtain rfl:=xS1 hm;exact h.dpa _ hg hq),h.nsa,h.fl,h.dps,h.dpa,h.dsa,Xs.size h.xs T.size,(h.inn.map fun _ _ _ hx=>hx.touch T (fun b hb=>by obtain rfl:=xS1 hb;exact xQ1 (.inr (StV.mem_pl hg)))).to ⟨rfl,rfl,rfl,rfl,rfl⟩⟩
theorem StO.set_st {X:List Nat} {B g:Nat} {w w':World} {v:StV} {L:StL} {s:StD} (h:StO X B w v L s) (hg:rowOf v.st.a=some g) (T:Touch [g] w w') {ps:List Int} (hl:v.st.n=ps.length) (ho:w'.ownsRow B 3 1 v.st.val v.st.n (ints ps)):StO X B w' v L {s with status:=ps}:=
 ⟨owns_touch h.pl T (fun q hq hm=>by obtain rfl:=xS1 hm;exact h.dps _ hq hg),h.npl,ho,hl,owns_touch h.se T (fun q hq hm=>by obtain rfl:=xS1 hm;exact owns_owns h.st h.se (by decide) _ hg hq),h.nse,owns_touch h.on T (fun q hq hm=>by obtain rfl:=xS1 hm;exact owns_owns h.st h.on (by decide) _ hg hq),h.non,owns_touch h.gr T (fun q hq hm=>by obtain rfl:=xS1 hm;exact owns_owns h.st h.gr (by decide) _ hg hq),h.ngr,owns_touch h.ba T (fun q hq hm=>by obtain rfl:=xS1 hm;exact owns_owns h.st h.ba (by decide) _ hg hq),h.nba,owns_touch h.ch T (fun q hq hm=>by obtain rfl:=xS1 hm;exact owns_owns h.st h.ch (by decide) _ hg hq),h.nch,owns_touch h.sa T (fun q hq hm=>by obtain rfl:=xS1 hm;exact h.dsa _ hg hq),h.nsa,h.fl,h.dps,h.dpa,h.dsa,Xs.size h.xs T.size,(h.inn.map fun _ _ _ hx=>hx.touch T (fun b hb=>by obtain rfl:=xS1 hb;exact xQ1 (.inr (StV.mem_st hg)))).to ⟨rfl,rfl,rfl,rfl,rfl⟩⟩
theorem StO.set_se {X:List Nat} {B g:Nat} {w w':World} {v:StV} {L:StL} {s:StD} (h:StO X B w v L s) (hg:rowOf v.se.a=some g) (T:Touch [g] w w') (i:Nat) {x:SemD} {q:SlV} (hx:semR (X++v.blks) w' x q) (ho:w'.ownsRow B 83 3 v.se.val v.se.n ((L.se.set i (x,q)).flatMap semC)):StO X B w' v {L with se:=L.se.set i (x,q)} {s with sems:=s.sems.set i x}:=by
 have hT:∀b∈[g],b∈X++v.blks:=fun b hb=>by obtain rfl:=xS1 hb;exact xQ1 (.inr (StV.mem_se hg))
 exact⟨owns_touch h.pl T (fun q hq hm=>by obtain rfl:=xS1 hm;exact owns_owns h.se h.pl (by decide) _ hg hq),h.npl,owns_touch h.st T (fun q hq hm=>by obtain rfl:=xS1 hm;exact owns_owns h.se h.st (by decide) _ hg hq),h.nst,ho,by rw[List.length_set];exact h.nse,owns_touch h.on T (fun q hq hm=>by obtain rfl:=xS1 hm;exact owns_owns h.se h.on (by decide) _ hg hq),h.non,owns_touch h.gr T (fun q hq hm=>by obtain rfl:=xS1 hm;exact owns_owns h.se h.gr (by decide) _ hg hq),h.ngr,owns_touch h.ba T (fun q hq hm=>by obtain rfl:=xS1 hm;exact owns_owns h.se h.ba (by decide) _ hg hq),h.nba,owns_touch h.ch T (fun q hq hm=>by obtain rfl:=xS1 hm;exact owns_owns h.se h.ch (by decide) _ hg hq),h.nch,owns_touch h.sa T (fun q hq hm=>by obtain rfl:=xS1 hm;exact owns_owns h.se h.sa (by decide) _ hg hq),h.nsa,h.fl,h.dps,h.dpa,h.dsa,Xs.size h.xs T.size,⟨(h.inn.se.mono fun _ _ hx=>hx.touch T hT).set i hx,h.inn.on.mono fun _ _ hx=>hx.touch T hT,h.inn.gr.mono fun _ _ hx=>hx.touch T hT,h.inn.ba.mono fun _ _ hx=>hx.touch T hT,h.inn.ch.mono fun _ _ hx=>⟨hx.1.touch T hT,hx.2.1.touch T hT,hx.2.2.touch T hT⟩⟩⟩
theorem StO.set_on {X:List Nat} {B g:Nat} {w w':World} {v:StV} {L:StL} {s:StD} (h:StO X B w v L s) (hg:rowOf v.on.a=some g) (T:Touch [g] w w') (i:Nat) {x:OnceD} {q:SlV} (hx:onceR (X++v.blks) w' x q) (ho:w'.ownsRow B 96 4 v.on.val v.on.n ((L.on.set i (x,q)).flatMap onceC)):StO X B w' v {L with on:=L.on.set i (x,q)} {s with onces:=s.onces.set i x}:=by
 have hT:∀b∈[g],b∈X++v.blks:=fun b hb=>by obtain rfl:=xS1 hb;exact xQ1 (.inr (StV.mem_on hg))
 exact⟨owns_touch h.pl T (fun q hq hm=>by obtain rfl:=xS1 hm;exact owns_owns h.on h.pl (by decide) _ hg hq),h.npl,owns_touch h.st T (fun q hq hm=>by obtain rfl:=xS1 hm;exact owns_owns h.on h.st (by decide) _ hg hq),h.nst,owns_touch h.se T (fun q hq hm=>by obtain rfl:=xS1 hm;exact owns_owns h.on h.se (by decide) _ hg hq),h.nse,ho,by rw[List.length_set];exact h.non,owns_touch h.gr T (fun q hq hm=>by obtain rfl:=xS1 hm;exact owns_owns h.on h.gr (by decide) _ hg hq),h.ngr,owns_touch h.ba T (fun q hq hm=>by obtain rfl:=xS1 hm;exact owns_owns h.on h.ba (by decide) _ hg hq),h.nba,owns_touch h.ch T (fun q hq hm=>by obtain rfl:=xS1 hm;exact owns_owns h.on h.ch (by decide) _ hg hq),h.nch,owns_touch h.sa T (fun q hq hm=>by obtain rfl:=xS1 hm;exact owns_owns h.on h.sa (by decide) _ hg hq),h.nsa,h.fl,h.dps,h.dpa,h.dsa,Xs.size h.xs T.size,⟨h.inn.se.mono fun _ _ hx=>hx.touch T hT,(h.inn.on.mono fun _ _ hx=>hx.touch T hT).set i hx,h.inn.gr.mono fun _ _ hx=>hx.touch T hT,h.inn.ba.mono fun _ _ hx=>hx.touch T hT,h.inn.ch.mono fun _ _ hx=>⟨hx.1.touch T hT,hx.2.1.touch T hT,hx.2.2.touch T hT⟩⟩⟩
theorem StO.set_gr {X:List Nat} {B g:Nat} {w w':World} {v:StV} {L:StL} {s:StD} (h:StO X B w v L s) (hg:rowOf v.gr.a=some g) (T:Touch [g] w w') (i:Nat) {x:GrpD} {q:SlV} (hx:grpR (X++v.blks) w' x q) (ho:w'.ownsRow B 86 2 v.gr.val v.gr.n ((L.gr.set i (x,q)).flatMap grpC)):StO X B w' v {L with gr:=L.gr.set i (x,q)} {s with groups:=s.groups.set i x}:=by
 have hT:∀b∈[g],b∈X++v.blks:=fun b hb=>by obtain rfl:=xS1 hb;exact xQ1 (.inr (StV.mem_gr hg))
 exact⟨owns_touch h.pl T (fun q hq hm=>by obtain rfl:=xS1 hm;exact owns_owns h.gr h.pl (by decide) _ hg hq),h.npl,owns_touch h.st T (fun q hq hm=>by obtain rfl:=xS1 hm;exact owns_owns h.gr h.st (by decide) _ hg hq),h.nst,owns_touch h.se T (fun q hq hm=>by obtain rfl:=xS1 hm;exact owns_owns h.gr h.se (by decide) _ hg hq),h.nse,owns_touch h.on T (fun q hq hm=>by obtain rfl:=xS1 hm;exact owns_owns h.gr h.on (by decide) _ hg hq),h.non,ho,by rw[List.length_set];exact h.ngr,owns_touch h.ba T (fun q hq hm=>by obtain rfl:=xS1 hm;exact owns_owns h.gr h.ba (by decide) _ hg hq),h.nba,owns_touch h.ch T (fun q hq hm=>by obtain rfl:=xS1 hm;exact owns_owns h.gr h.ch (by decide) _ hg hq),h.nch,owns_touch h.sa T (fun q hq hm=>by obtain rfl:=xS1 hm;exact owns_owns h.gr h.sa (by decide) _ hg hq),h.nsa,h.fl,h.dps,h.dpa,h.dsa,Xs.size h.xs T.size,⟨h.inn.se.mono fun _ _ hx=>hx.touch T hT,h.inn.on.mono fun _ _ hx=>hx.touch T hT,(h.inn.gr.mono fun _ _ hx=>hx.touch T hT).set i hx,h.inn.ba.mono fun _ _ hx=>hx.touch T hT,h.inn.ch.mono fun _ _ hx=>⟨hx.1.touch T hT,hx.2.1.touch T hT,hx.2.2.touch T hT⟩⟩⟩
theorem StO.set_ba {X:List Nat} {B g:Nat} {w w':World} {v:StV} {L:StL} {s:StD} (h:StO X B w v L s) (hg:rowOf v.ba.a=some g) (T:Touch [g] w w') (i:Nat) {x:BarD} {q:SlV} (hx:barR (X++v.blks) w' x q) (ho:w'.ownsRow B 89 3 v.ba.val v.ba.n ((L.ba.set i (x,q)).flatMap barC)):StO X B w' v {L with ba:=L.ba.set i (x,q)} {s with bars:=s.bars.set i x}:=by
 have hT:∀b∈[g],b∈X++v.blks:=fun b hb=>by obtain rfl:=xS1 hb;exact xQ1 (.inr (StV.mem_ba hg))
 exact⟨owns_touch h.pl T (fun q hq hm=>by obtain rfl:=xS1 hm;exact owns_owns h.ba h.pl (by decide) _ hg hq),h.npl,owns_touch h.st T (fun q hq hm=>by obtain rfl:=xS1 hm;exact owns_owns h.ba h.st (by decide) _ hg hq),h.nst,owns_touch h.se T (fun q hq hm=>by obtain rfl:=xS1 hm;exact owns_owns h.ba h.se (by decide) _ hg hq),h.nse,owns_touch h.on T (fun q hq hm=>by obtain rfl:=xS1 hm;exact owns_owns h.ba h.on (by decide) _ hg hq),h.non,owns_touch h.gr T (fun q hq hm=>by obtain rfl:=xS1 hm;exact owns_owns h.ba h.gr (by decide) _ hg hq),h.ngr,ho,by rw[List.length_set];exact h.nba,owns_touch h.ch T (fun q hq hm=>by obtain rfl:=xS1 hm;exact owns_owns h.ba h.ch (by decide) _ hg hq),h.nch,owns_touch h.sa T (fun q hq hm=>by obtain rfl:=xS1 hm;exact owns_owns h.ba h.sa (by decide) _ hg hq),h.nsa,h.fl,h.dps,h.dpa,h.dsa,Xs.size h.xs T.size,⟨h.inn.se.mono fun _ _ hx=>hx.touch T hT,h.inn.on.mono fun _ _ hx=>hx.touch T hT,h.inn.gr.mono fun _ _ hx=>hx.touch T hT,(h.inn.ba.mono fun _ _ hx=>hx.touch T hT).set i hx,h.inn.ch.mono fun _ _ hx=>⟨hx.1.touch T hT,hx.2.1.touch T hT,hx.2.2.touch T hT⟩⟩⟩
theorem StO.set_ch {X:List Nat} {B g:Nat} {w w':World} {v:StV} {L:StL} {s:StD} (h:StO X B w v L s) (hg:rowOf v.ch.a=some g) (T:Touch [g] w w') (i:Nat) {x:ChnD} {q:SlV×SlV×SlV} (hx:chnR (X++v.blks) w' x q) (ho:w'.ownsRow B 93 5 v.ch.val v.ch.n ((L.ch.set i (x,q)).flatMap chnC)):StO X B w' v {L with ch:=L.ch.set i (x,q)} {s with chans:=s.chans.set i x}:=by
 have hT:∀b∈[g],b∈X++v.blks:=fun b hb=>by obtain rfl:=xS1 hb;exact xQ1 (.inr (StV.mem_ch hg))
 exact⟨owns_touch h.pl T (fun q hq hm=>by obtain rfl:=xS1 hm;exact owns_owns h.ch h.pl (by decide) _ hg hq),h.npl,owns_touch h.st T (fun q hq hm=>by obtain rfl:=xS1 hm;exact owns_owns h.ch h.st (by decide) _ hg hq),h.nst,owns_touch h.se T (fun q hq hm=>by obtain rfl:=xS1 hm;exact owns_owns h.ch h.se (by decide) _ hg hq),h.nse,owns_touch h.on T (fun q hq hm=>by obtain rfl:=xS1 hm;exact owns_owns h.ch h.on (by decide) _ hg hq),h.non,owns_touch h.gr T (fun q hq hm=>by obtain rfl:=xS1 hm;exact owns_owns h.ch h.gr (by decide) _ hg hq),h.ngr,owns_touch h.ba T (fun q hq hm=>by obtain rfl:=xS1 hm;exact owns_owns h.ch h.ba (by decide) _ hg hq),h.nba,ho,by rw[List.length_set];exact h.nch,owns_touch h.sa T (fun q hq hm=>by obtain rfl:=xS1 hm;exact owns_owns h.ch h.sa (by decide) _ hg hq),h.nsa,h.fl,h.dps,h.dpa,h.dsa,Xs.size h.xs T.size,⟨h.inn.se.mono fun _ _ hx=>hx.touch T hT,h.inn.on.mono fun _ _ hx=>hx.touch T hT,h.inn.gr.mono fun _ _ hx=>hx.touch T hT,h.inn.ba.mono fun _ _ hx=>hx.touch T hT,(h.inn.ch.mono fun _ _ hx=>⟨hx.1.touch T hT,hx.2.1.touch T hT,hx.2.2.touch T hT⟩).set i hx⟩⟩
theorem SlR.wide {S S':List Nat} {w w':World} {q:SlV} {cs:List Value} {k:Nat} (hx:SlR S w q cs k) (T:Touch S w w') (hb:∀b∈S',b∈S∨w.heap.size≤b):SlR S' w' q cs k:=by
 refine SlR.wider (S:=S) (hx.touch T (fun _ h=>h)) ?_
 rcases hx.rd with h0|⟨b,o,e,hc⟩
 ·exact .inl h0
 ·by_cases he:cs=[]
  ·exact .inl he
  ·refine .inr fun b' hb' _ hm=> ?_
   have hbl:b'<w.heap.size:=by
    rw[e] at hb'
    obtain rfl:b=b':=by simpa[rowOf] using hb'
    have:=hc 0 (List.length_pos_iff.2 he)
    unfold World.cell? at this
    rcases Nat.lt_or_ge b w.heap.size with hl|hl
    ·exact hl
    ·rw[Array.getElem?_eq_none hl] at this
     simp at this
   rcases hb b' hm with h1|h1
   ·exact h1
   ·omega
theorem StIn.wide {S S':List Nat} {w w':World} {L:StL} {s:StD} (h:StIn S w L s) (T:Touch S w w') (hb:∀b∈S',b∈S∨w.heap.size≤b):StIn S' w' L s:=h.map fun _ _ _ hx=>hx.wide T hb
theorem StO.say {X:List Nat} {B:Nat} {w w':World} {v:StV} {L:StL} {s:StD} (h:StO X B w v L s) {s8:SlV} (G:w.grownBy w' (rowOf v.sa.a)) (hn:∀k,rowOf s8.a=some k→rowOf v.sa.a=some k∨w.heap.size≤k) {ps:List Int} (hl:s8.n=ps.length) (ho:w'.ownsRow B 3 1 s8.val s8.n (ints ps)):StO X B w' {v with sa:=s8} L {s with said:=ps}:=by
 have hB0:∀b∈StV.blks {v with sa:=s8},b∈v.blks∨w.heap.size≤b:=by
  intro b hm
  unfold StV.blks at hm⊢
  obtain⟨y,hy,hyk⟩:=List.mem_filterMap.1 hm
  simp only[List.mem_cons,List.not_mem_nil,or_false] at hy
  rcases hy with rfl|rfl|rfl|rfl|rfl|rfl|rfl|rfl
  ·exact .inl (List.mem_filterMap.2 ⟨_,by simp,hyk⟩)
  ·exact .inl (List.mem_filterMap.2 ⟨_,by simp,hyk⟩)
  ·exact .inl (List.mem_filterMap.2 ⟨_,by simp,hyk⟩)
  ·exact .inl (List.mem_filterMap.2 ⟨_,by simp,hyk⟩)
  ·exact .inl (List.mem_filterMap.2 ⟨_,by simp,hyk⟩)
  ·exact .inl (List.mem_filterMap.2 ⟨_,by simp,hyk⟩)
  ·exact .inl (List.mem_filterMap.2 ⟨_,by simp,hyk⟩)
  ·rcases hn b hyk with h1|h1
   ·exact .inl (List.mem_filterMap.2 ⟨v.sa.a,by simp,h1⟩)
   ·exact .inr h1
 have hB:∀b∈X++StV.blks {v with sa:=s8},b∈X++v.blks∨w.heap.size≤b:=by
  intro b hm
  rcases xP1 hm with hm|hm
  ·exact .inl (xQ1 (.inl hm))
  ·exact(hB0 b hm).imp (fun h=>xQ1 (.inr h)) id
 have hT:Touch (X++v.blks) w w':=Touch.of_grown G fun k hk=>xQ1 (.inr (StV.mem_sa hk))
 have hX:∀k∈X,k<w'.heap.size∧k∉StV.blks {v with sa:=s8}:=fun k hk=>⟨Nat.lt_of_lt_of_le (h.xs k hk).1 G.size,fun hm=>by
  rcases hB0 k hm with h1|h1
  ·exact(h.xs k hk).2 h1
  ·have:=(h.xs k hk).1;omega⟩
 refine⟨owns_grown h.pl G (fun k hk hq=>h.dpa _ hk hq),h.npl,owns_grown h.st G (fun k hk hq=>h.dsa _ hk hq),h.nst,owns_grown h.se G (fun k hk hq=>owns_owns h.se h.sa (by decide) _ hk hq),h.nse,owns_grown h.on G (fun k hk hq=>owns_owns h.on h.sa (by decide) _ hk hq),h.non,owns_grown h.gr G (fun k hk hq=>owns_owns h.gr h.sa (by decide) _ hk hq),h.ngr,owns_grown h.ba G (fun k hk hq=>owns_owns h.ba h.sa (by decide) _ hk hq),h.nba,owns_grown h.ch G (fun k hk hq=>owns_owns h.ch h.sa (by decide) _ hk hq),h.nch,ho,hl,h.fl,h.dps,?_,?_,hX,(h.inn.wide hT hB).to ⟨rfl,rfl,rfl,rfl,rfl⟩⟩
 ·intro k hk hq
  rcases hn k hq with h1|h1
  ·exact h.dpa k hk h1
  ·have:=(owns_row h.pl k hk).2;omega
 ·intro k hk hq
  rcases hn k hq with h1|h1
  ·exact h.dsa k hk h1
  ·have:=(owns_row h.st k hk).2;omega
theorem StO.push_se {X:List Nat} {B:Nat} {w w':World} {v:StV} {L:StL} {s:StD} (h:StO X B w v L s) {r:SlV} (G:w.grownBy w' (rowOf v.se.a)) (hn:∀k,rowOf r.a=some k→rowOf v.se.a=some k∨w.heap.size≤k) {x:SemD} {q:SlV} (hx:semR (X++v.blks) w x q) (hl:r.n=s.sems.length+1) (ho:w'.ownsRow B 83 3 r.val r.n ((L.se++[(x,q)]).flatMap semC)):StO X B w' {v with se:=r} {L with se:=L.se++[(x,q)]} {s with sems:=s.sems++[x]}:=by
 have hB0:∀b∈StV.blks {v with se:=r},b∈v.blks∨w.heap.size≤b:=by
  intro b hm
  unfold StV.blks at hm⊢
  obtain⟨y,hy,hyk⟩:=List.mem_filterMap.1 hm
  simp only[List.mem_cons,List.not_mem_nil,or_false] at hy
  rcases hy with rfl|rfl|rfl|rfl|rfl|rfl|rfl|rfl
  ·exact .inl (List.mem_filterMap.2 ⟨_,by simp,hyk⟩)
  ·exact .inl (List.mem_filterMap.2 ⟨_,by simp,hyk⟩)
  ·rcases hn b hyk with h1|h1
   ·exact .inl (List.mem_filterMap.2 ⟨v.se.a,by simp,h1⟩)
   ·exact .inr h1
  ·exact .inl (List.mem_filterMap.2 ⟨_,by simp,hyk⟩)
  ·exact .inl (List.mem_filterMap.2 ⟨_,by simp,hyk⟩)
  ·exact .inl (List.mem_filterMap.2 ⟨_,by simp,hyk⟩)
  ·exact .inl (List.mem_filterMap.2 ⟨_,by simp,hyk⟩)
  ·exact .inl (List.mem_filterMap.2 ⟨_,by simp,hyk⟩)
 have hB:∀b∈X++StV.blks {v with se:=r},b∈X++v.blks∨w.heap.size≤b:=by
  intro b hm
  rcases xP1 hm with hm|hm
  ·exact .inl (xQ1 (.inl hm))
  ·exact(hB0 b hm).imp (fun h=>xQ1 (.inr h)) id
 have hT:Touch (X++v.blks) w w':=Touch.of_grown G fun k hk=>xQ1 (.inr (StV.mem_se hk))
 have hX:∀k∈X,k<w'.heap.size∧k∉StV.blks {v with se:=r}:=fun k hk=>⟨Nat.lt_of_lt_of_le (h.xs k hk).1 G.size,fun hm=>by
  rcases hB0 k hm with h1|h1
  ·exact(h.xs k hk).2 h1
  ·have:=(h.xs k hk).1;omega⟩
 have hI:=h.inn.wide hT hB
 exact⟨owns_grown h.pl G (fun k hk hq=>owns_owns h.pl h.se (by decide) _ hk hq),h.npl,owns_grown h.st G (fun k hk hq=>owns_owns h.st h.se (by decide) _ hk hq),h.nst,ho,by rw[hl,List.length_append];rfl,owns_grown h.on G (fun k hk hq=>owns_owns h.on h.se (by decide) _ hk hq),h.non,owns_grown h.gr G (fun k hk hq=>owns_owns h.gr h.se (by decide) _ hk hq),h.ngr,owns_grown h.ba G (fun k hk hq=>owns_owns h.ba h.se (by decide) _ hk hq),h.nba,owns_grown h.ch G (fun k hk hq=>owns_owns h.ch h.se (by decide) _ hk hq),h.nch,owns_grown h.sa G (fun k hk hq=>owns_owns h.sa h.se (by decide) _ hk hq),h.nsa,h.fl,h.dps,h.dpa,h.dsa,hX,⟨hI.se.snoc (hx.wide hT hB),hI.on,hI.gr,hI.ba,hI.ch⟩⟩
theorem StO.push_on {X:List Nat} {B:Nat} {w w':World} {v:StV} {L:StL} {s:StD} (h:StO X B w v L s) {r:SlV} (G:w.grownBy w' (rowOf v.on.a)) (hn:∀k,rowOf r.a=some k→rowOf v.on.a=some k∨w.heap.size≤k) {x:OnceD} {q:SlV} (hx:onceR (X++v.blks) w x q) (hl:r.n=s.onces.length+1) (ho:w'.ownsRow B 96 4 r.val r.n ((L.on++[(x,q)]).flatMap onceC)):StO X B w' {v with on:=r} {L with on:=L.on++[(x,q)]} {s with onces:=s.onces++[x]}:=by
 have hB0:∀b∈StV.blks {v with on:=r},b∈v.blks∨w.heap.size≤b:=by
  intro b hm
  unfold StV.blks at hm⊢
  obtain⟨y,hy,hyk⟩:=List.mem_filterMap.1 hm
  simp only[List.mem_cons,List.not_mem_nil,or_false] at hy
  rcases hy with rfl|rfl|rfl|rfl|rfl|rfl|rfl|rfl
  ·exact .inl (List.mem_filterMap.2 ⟨_,by simp,hyk⟩)
  ·exact .inl (List.mem_filterMap.2 ⟨_,by simp,hyk⟩)
  ·exact .inl (List.mem_filterMap.2 ⟨_,by simp,hyk⟩)
  ·rcases hn b hyk with h1|h1
   ·exact .inl (List.mem_filterMap.2 ⟨v.on.a,by simp,h1⟩)
   ·exact .inr h1
  ·exact .inl (List.mem_filterMap.2 ⟨_,by simp,hyk⟩)
  ·exact .inl (List.mem_filterMap.2 ⟨_,by simp,hyk⟩)
  ·exact .inl (List.mem_filterMap.2 ⟨_,by simp,hyk⟩)
  ·exact .inl (List.mem_filterMap.2 ⟨_,by simp,hyk⟩)
 have hB:∀b∈X++StV.blks {v with on:=r},b∈X++v.blks∨w.heap.size≤b:=by
  intro b hm
  rcases xP1 hm with hm|hm
  ·exact .inl (xQ1 (.inl hm))
  ·exact(hB0 b hm).imp (fun h=>xQ1 (.inr h)) id
 have hT:Touch (X++v.blks) w w':=Touch.of_grown G fun k hk=>xQ1 (.inr (StV.mem_on hk))
 have hX:∀k∈X,k<w'.heap.size∧k∉StV.blks {v with on:=r}:=fun k hk=>⟨Nat.lt_of_lt_of_le (h.xs k hk).1 G.size,fun hm=>by
  rcases hB0 k hm with h1|h1
  ·exact(h.xs k hk).2 h1
  ·have:=(h.xs k hk).1;omega⟩
 have hI:=h.inn.wide hT hB
 exact⟨owns_grown h.pl G (fun k hk hq=>owns_owns h.pl h.on (by decide) _ hk hq),h.npl,owns_grown h.st G (fun k hk hq=>owns_owns h.st h.on (by decide) _ hk hq),h.nst,owns_grown h.se G (fun k hk hq=>owns_owns h.se h.on (by decide) _ hk hq),h.nse,ho,by rw[hl,List.length_append];rfl,owns_grown h.gr G (fun k hk hq=>owns_owns h.gr h.on (by decide) _ hk hq),h.ngr,owns_grown h.ba G (fun k hk hq=>owns_owns h.ba h.on (by decide) _ hk hq),h.nba,owns_grown h.ch G (fun k hk hq=>owns_owns h.ch h.on (by decide) _ hk hq),h.nch,owns_grown h.sa G (fun k hk hq=>owns_owns h.sa h.on (by decide) _ hk hq),h.nsa,h.fl,h.dps,h.dpa,h.dsa,hX,⟨hI.se,hI.on.snoc (hx.wide hT hB),hI.gr,hI.ba,hI.ch⟩⟩
theorem StO.push_gr {X:List Nat} {B:Nat} {w w':World} {v:StV} {L:StL} {s:StD} (h:StO X B w v L s) {r:SlV} (G:w.grownBy w' (rowOf v.gr.a)) (hn:∀k,rowOf r.a=some k→rowOf v.gr.a=some k∨w.heap.size≤k) {x:GrpD} {q:SlV} (hx:grpR (X++v.blks) w x q) (hl:r.n=s.groups.length+1) (ho:w'.ownsRow B 86 2 r.val r.n ((L.gr++[(x,q)]).flatMap grpC)):StO X B w' {v with gr:=r} {L with gr:=L.gr++[(x,q)]} {s with groups:=s.groups++[x]}:=by
 have hB0:∀b∈StV.blks {v with gr:=r},b∈v.blks∨w.heap.size≤b:=by
  intro b hm
  unfold StV.blks at hm⊢
  obtain⟨y,hy,hyk⟩:=List.mem_filterMap.1 hm
  simp only[List.mem_cons,List.not_mem_nil,or_false] at hy
  rcases hy with rfl|rfl|rfl|rfl|rfl|rfl|rfl|rfl
  ·exact .inl (List.mem_filterMap.2 ⟨_,by simp,hyk⟩)
  ·exact .inl (List.mem_filterMap.2 ⟨_,by simp,hyk⟩)
  ·exact .inl (List.mem_filterMap.2 ⟨_,by simp,hyk⟩)
  ·exact .inl (List.mem_filterMap.2 ⟨_,by simp,hyk⟩)
  ·rcases hn b hyk with h1|h1
   ·exact .inl (List.mem_filterMap.2 ⟨v.gr.a,by simp,h1⟩)
   ·exact .inr h1
  ·exact .inl (List.mem_filterMap.2 ⟨_,by simp,hyk⟩)
  ·exact .inl (List.mem_filterMap.2 ⟨_,by simp,hyk⟩)
  ·exact .inl (List.mem_filterMap.2 ⟨_,by simp,hyk⟩)
 have hB:∀b∈X++StV.blks {v with gr:=r},b∈X++v.blks∨w.heap.size≤b:=by
  intro b hm
  rcases xP1 hm with hm|hm
  ·exact .inl (xQ1 (.inl hm))
  ·exact(hB0 b hm).imp (fun h=>xQ1 (.inr h)) id
 have hT:Touch (X++v.blks) w w':=Touch.of_grown G fun k hk=>xQ1 (.inr (StV.mem_gr hk))
 have hX:∀k∈X,k<w'.heap.size∧k∉StV.blks {v with gr:=r}:=fun k hk=>⟨Nat.lt_of_lt_of_le (h.xs k hk).1 G.size,fun hm=>by
  rcases hB0 k hm with h1|h1
  ·exact(h.xs k hk).2 h1
  ·have:=(h.xs k hk).1;omega⟩
 have hI:=h.inn.wide hT hB
 exact⟨owns_grown h.pl G (fun k hk hq=>owns_owns h.pl h.gr (by decide) _ hk hq),h.npl,owns_grown h.st G (fun k hk hq=>owns_owns h.st h.gr (by decide) _ hk hq),h.nst,owns_grown h.se G (fun k hk hq=>owns_owns h.se h.gr (by decide) _ hk hq),h.nse,owns_grown h.on G (fun k hk hq=>owns_owns h.on h.gr (by decide) _ hk hq),h.non,ho,by rw[hl,List.length_append];rfl,owns_grown h.ba G (fun k hk hq=>owns_owns h.ba h.gr (by decide) _ hk hq),h.nba,owns_grown h.ch G (fun k hk hq=>owns_owns h.ch h.gr (by decide) _ hk hq),h.nch,owns_grown h.sa G (fun k hk hq=>owns_owns h.sa h.gr (by decide) _ hk hq),h.nsa,h.fl,h.dps,h.dpa,h.dsa,hX,⟨hI.se,hI.on,hI.gr.snoc (hx.wide hT hB),hI.ba,hI.ch⟩⟩
theorem StO.push_ba {X:List Nat} {B:Nat} {w w':World} {v:StV} {L:StL} {s:StD} (h:StO X B w v L s) {r:SlV} (G:w.grownBy w' (rowOf v.ba.a)) (hn:∀k,rowOf r.a=some k→rowOf v.ba.a=some k∨w.heap.size≤k) {x:BarD} {q:SlV} (hx:barR (X++v.blks) w x q) (hl:r.n=s.bars.length+1) (ho:w'.ownsRow B 89 3 r.val r.n ((L.ba++[(x,q)]).flatMap barC)):StO X B w' {v with ba:=r} {L with ba:=L.ba++[(x,q)]} {s with bars:=s.bars++[x]}:=by
 have hB0:∀b∈StV.blks {v with ba:=r},b∈v.blks∨w.heap.size≤b:=by
  intro b hm
  unfold StV.blks at hm⊢
  obtain⟨y,hy,hyk⟩:=List.mem_filterMap.1 hm
  simp only[List.mem_cons,List.not_mem_nil,or_false] at hy
  rcases hy with rfl|rfl|rfl|rfl|rfl|rfl|rfl|rfl
  ·exact .inl (List.mem_filterMap.2 ⟨_,by simp,hyk⟩)
  ·exact .inl (List.mem_filterMap.2 ⟨_,by simp,hyk⟩)
  ·exact .inl (List.mem_filterMap.2 ⟨_,by simp,hyk⟩)
  ·exact .inl (List.mem_filterMap.2 ⟨_,by simp,hyk⟩)
  ·exact .inl (List.mem_filterMap.2 ⟨_,by simp,hyk⟩)
  ·rcases hn b hyk with h1|h1
   ·exact .inl (List.mem_filterMap.2 ⟨v.ba.a,by simp,h1⟩)
   ·exact .inr h1
  ·exact .inl (List.mem_filterMap.2 ⟨_,by simp,hyk⟩)
  ·exact .inl (List.mem_filterMap.2 ⟨_,by simp,hyk⟩)
 have hB:∀b∈X++StV.blks {v with ba:=r},b∈X++v.blks∨w.heap.size≤b:=by
  intro b hm
  rcases xP1 hm with hm|hm
  ·exact .inl (xQ1 (.inl hm))
  ·exact(hB0 b hm).imp (fun h=>xQ1 (.inr h)) id
 have hT:Touch (X++v.blks) w w':=Touch.of_grown G fun k hk=>xQ1 (.inr (StV.mem_ba hk))
 have hX:∀k∈X,k<w'.heap.size∧k∉StV.blks {v with ba:=r}:=fun k hk=>⟨Nat.lt_of_lt_of_le (h.xs k hk).1 G.size,fun hm=>by
  rcases hB0 k hm with h1|h1
  ·exact(h.xs k hk).2 h1
  ·have:=(h.xs k hk).1;omega⟩
 have hI:=h.inn.wide hT hB
 exact⟨owns_grown h.pl G (fun k hk hq=>owns_owns h.pl h.ba (by decide) _ hk hq),h.npl,owns_grown h.st G (fun k hk hq=>owns_owns h.st h.ba (by decide) _ hk hq),h.nst,owns_grown h.se G (fun k hk hq=>owns_owns h.se h.ba (by decide) _ hk hq),h.nse,owns_grown h.on G (fun k hk hq=>owns_owns h.on h.ba (by decide) _ hk hq),h.non,owns_grown h.gr G (fun k hk hq=>owns_owns h.gr h.ba (by decide) _ hk hq),h.ngr,ho,by rw[hl,List.length_append];rfl,owns_grown h.ch G (fun k hk hq=>owns_owns h.ch h.ba (by decide) _ hk hq),h.nch,owns_grown h.sa G (fun k hk hq=>owns_owns h.sa h.ba (by decide) _ hk hq),h.nsa,h.fl,h.dps,h.dpa,h.dsa,hX,⟨hI.se,hI.on,hI.gr,hI.ba.snoc (hx.wide hT hB),hI.ch⟩⟩
theorem StO.push_ch {X:List Nat} {B:Nat} {w w':World} {v:StV} {L:StL} {s:StD} (h:StO X B w v L s) {r:SlV} (G:w.grownBy w' (rowOf v.ch.a)) (hn:∀k,rowOf r.a=some k→rowOf v.ch.a=some k∨w.heap.size≤k) {x:ChnD} {q:SlV×SlV×SlV} (hx:chnR (X++v.blks) w x q) (hl:r.n=s.chans.length+1) (ho:w'.ownsRow B 93 5 r.val r.n ((L.ch++[(x,q)]).flatMap chnC)):StO X B w' {v with ch:=r} {L with ch:=L.ch++[(x,q)]} {s with chans:=s.chans++[x]}:=by
 have hB0:∀b∈StV.blks {v with ch:=r},b∈v.blks∨w.heap.size≤b:=by
  intro b hm
  unfold StV.blks at hm⊢
  obtain⟨y,hy,hyk⟩:=List.mem_filterMap.1 hm
  simp only[List.mem_cons,List.not_mem_nil,or_false] at hy
  rcases hy with rfl|rfl|rfl|rfl|rfl|rfl|rfl|rfl
  ·exact .inl (List.mem_filterMap.2 ⟨_,by simp,hyk⟩)
  ·exact .inl (List.mem_filterMap.2 ⟨_,by simp,hyk⟩)
  ·exact .inl (List.mem_filterMap.2 ⟨_,by simp,hyk⟩)
  ·exact .inl (List.mem_filterMap.2 ⟨_,by simp,hyk⟩)
  ·exact .inl (List.mem_filterMap.2 ⟨_,by simp,hyk⟩)
  ·exact .inl (List.mem_filterMap.2 ⟨_,by simp,hyk⟩)
  ·rcases hn b hyk with h1|h1
   ·exact .inl (List.mem_filterMap.2 ⟨v.ch.a,by simp,h1⟩)
   ·exact .inr h1
  ·exact .inl (List.mem_filterMap.2 ⟨_,by simp,hyk⟩)
 have hB:∀b∈X++StV.blks {v with ch:=r},b∈X++v.blks∨w.heap.size≤b:=by
  intro b hm
  rcases xP1 hm with hm|hm
  ·exact .inl (xQ1 (.inl hm))
  ·exact(hB0 b hm).imp (fun h=>xQ1 (.inr h)) id
 have hT:Touch (X++v.blks) w w':=Touch.of_grown G fun k hk=>xQ1 (.inr (StV.mem_ch hk))
 have hX:∀k∈X,k<w'.heap.size∧k∉StV.blks {v with ch:=r}:=fun k hk=>⟨Nat.lt_of_lt_of_le (h.xs k hk).1 G.size,fun hm=>by
  rcases hB0 k hm with h1|h1
  ·exact(h.xs k hk).2 h1
  ·have:=(h.xs k hk).1;omega⟩
 have hI:=h.inn.wide hT hB
 exact⟨owns_grown h.pl G (fun k hk hq=>owns_owns h.pl h.ch (by decide) _ hk hq),h.npl,owns_grown h.st G (fun k hk hq=>owns_owns h.st h.ch (by decide) _ hk hq),h.nst,owns_grown h.se G (fun k hk hq=>owns_owns h.se h.ch (by decide) _ hk hq),h.nse,owns_grown h.on G (fun k hk hq=>owns_owns h.on h.ch (by decide) _ hk hq),h.non,owns_grown h.gr G (fun k hk hq=>owns_owns h.gr h.ch (by decide) _ hk hq),h.ngr,owns_grown h.ba G (fun k hk hq=>owns_owns h.ba h.ch (by decide) _ hk hq),h.nba,ho,by rw[hl,List.length_append];rfl,owns_grown h.sa G (fun k hk hq=>owns_owns h.sa h.ch (by decide) _ hk hq),h.nsa,h.fl,h.dps,h.dpa,h.dsa,hX,⟨hI.se,hI.on,hI.gr,hI.ba,hI.ch.snoc (⟨hx.1.wide hT hB,hx.2.1.wide hT hB,hx.2.2.wide hT hB⟩)⟩⟩
theorem StO.other {X:List Nat} {B:Nat} {w w':World} {v:StV} {L:StL} {s:StD} (h:StO X B w v L s) (T:Touch X w w'):StO X B w' v L s:=
 ⟨owns_touch h.pl T (fun q hq hm=>(h.xs q hm).2 (StV.mem_pl hq)),h.npl,owns_touch h.st T (fun q hq hm=>(h.xs q hm).2 (StV.mem_st hq)),h.nst,owns_touch h.se T (fun q hq hm=>(h.xs q hm).2 (StV.mem_se hq)),h.nse,owns_touch h.on T (fun q hq hm=>(h.xs q hm).2 (StV.mem_on hq)),h.non,owns_touch h.gr T (fun q hq hm=>(h.xs q hm).2 (StV.mem_gr hq)),h.ngr,owns_touch h.ba T (fun q hq hm=>(h.xs q hm).2 (StV.mem_ba hq)),h.nba,owns_touch h.ch T (fun q hq hm=>(h.xs q hm).2 (StV.mem_ch hq)),h.nch,owns_touch h.sa T (fun q hq hm=>(h.xs q hm).2 (StV.mem_sa hq)),h.nsa,h.fl,h.dps,h.dpa,h.dsa,Xs.size h.xs T.size,h.inn.map fun _ _ _ hx=>hx.touch T fun _ hb=>xQ1 (.inl hb)⟩
theorem StO.sub {X X':List Nat} {B:Nat} {w:World} {v:StV} {L:StL} {s:StD} (h:StO X B w v L s) (hs:∀k∈X',k∈X):StO X' B w v L s:=
 ⟨h.pl,h.npl,h.st,h.nst,h.se,h.nse,h.on,h.non,h.gr,h.ngr,h.ba,h.nba,h.ch,h.nch,h.sa,h.nsa,h.fl,h.dps,h.dpa,h.dsa,fun k hk=>h.xs k (hs k hk),h.inn.map fun _ _ _ hx=>hx.wide (Touch.refl _ _) fun b hb=>by
  rcases xP1 hb with hb|hb
  ·exact .inl (xQ1 (.inl (hs b hb)))
  ·exact .inl (xQ1 (.inr hb))⟩
theorem flat_set {α:Type} {f:α→List Value} {sz:Nat} (hf:∀x,(f x).length=sz) (l:List α) (i:Nat) (x:α) (hi:i<l.length):puts (l.flatMap f) (i*sz) (f x)=(l.set i x).flatMap f:=by
 have e2:((l.take i).flatMap f).length=i*sz:=by rw[flat_len hf];simp[Nat.min_eq_left (Nat.le_of_lt hi)]
 have e1:l=l.take i++l[i]::l.drop (i+1):=by rw[←List.drop_eq_getElem_cons hi,List.take_append_drop]
 have e3:l.set i x=l.take i++x::l.drop (i+1):=by rw[List.set_eq_take_append_cons_drop,if_pos hi]
 rw[e3]
 have:=puts_mid (f x) ((l.take i).flatMap f) (f l[i]) ((l.drop (i+1)).flatMap f) (by rw[hf,hf])
 rw[e2] at this
 conv=>lhs;rw[e1]
 simp only[List.flatMap_append,List.flatMap_cons] at this⊢
 rw[←List.append_assoc,this,List.append_assoc]
def setAll (w:World) (g:Nat):Nat→List Value→World
 |_,[]=>w
 |i,v::vs=>setAll (w.setCell ⟨g,i,none⟩ v) g (i+1) vs
theorem owns_setAll {B:Nat} {e:TypeId} {sz n c g:Nat}:∀(vs:List Value) (i:Nat) {w:World} {cs:List Value},w.ownsRow B e sz (.slice (some ⟨g,0,none⟩) n c) n cs→(setAll w g i vs).ownsRow B e sz (.slice (some ⟨g,0,none⟩) n c) n (puts cs i vs)
 |[],_,_,_,h=>h
 |v::vs,i,_,_,h=>owns_setAll vs (i+1) (owns_store h i v rfl).1
theorem touch_setAll {g:Nat}:∀(vs:List Value) (i:Nat) (w:World),Touch [g] w (setAll w g i vs)
 |[],_,w=>Touch.refl _ w
 |v::vs,i,w=>((Touch.refl [g] w).set (by simp)).trans (touch_setAll vs (i+1) (w.setCell ⟨g,i,none⟩ v))
theorem StO.put_se {X:List Nat} {B g:Nat} {w:World} {v:StV} {L:StL} {s:StD} (h:StO X B w v L s) (hg:v.se.a=some ⟨g,0,none⟩) (i:Nat) (hi:i<s.sems.length) {x:SemD} {q:SlV} (hx:semR (X++v.blks) w x q):
  StO X B (((w.setCell ⟨g,i*3,none⟩ (.int .i64 x.free)).setCell ⟨g,i*3+1,none⟩ (.int .i64 x.limit)).setCell ⟨g,i*3+2,none⟩ (q.val)) v {L with se:=L.se.set i (x,q)} {s with sems:=s.sems.set i x}∧Touch [g] w (((w.setCell ⟨g,i*3,none⟩ (.int .i64 x.free)).setCell ⟨g,i*3+1,none⟩ (.int .i64 x.limit)).setCell ⟨g,i*3+2,none⟩ (q.val)):=by
 have e:(((w.setCell ⟨g,i*3,none⟩ (.int .i64 x.free)).setCell ⟨g,i*3+1,none⟩ (.int .i64 x.limit)).setCell ⟨g,i*3+2,none⟩ (q.val))=setAll w g (i*3) (semC (x,q)):=rfl
 rw[e]
 have T:=touch_setAll (g:=g) (semC (x,q)) (i*3) w
 have hm:∀b∈[g],b∈X++v.blks:=fun b hb=>by
  obtain rfl:=xS1 hb
  exact xQ1 (.inr (StV.mem_se (by rw[hg];rfl)))
 have hlen:v.se.n=s.sems.length:=h.nse
 have hll:i<L.se.length:=by rw[h.inn.se.len];exact hi
 have own:=h.se
 rw[show v.se.val= .slice (some ⟨g,0,none⟩) v.se.n v.se.c by rw[←hg]] at own
 have own2:=owns_setAll (semC (x,q)) (i*3) own
 rw[flat_set semC_len L.se i (x,q) hll] at own2
 rw[show(.slice (some ⟨g,0,none⟩) v.se.n v.se.c:Value)=v.se.val by rw[←hg]] at own2
 exact⟨h.set_se (by rw[hg];rfl) T i (SlR.touch hx T hm) own2,T⟩
theorem StO.put_on {X:List Nat} {B g:Nat} {w:World} {v:StV} {L:StL} {s:StD} (h:StO X B w v L s) (hg:v.on.a=some ⟨g,0,none⟩) (i:Nat) (hi:i<s.onces.length) {x:OnceD} {q:SlV} (hx:onceR (X++v.blks) w x q):
  StO X B ((((w.setCell ⟨g,i*4,none⟩ (.int .i64 x.state)).setCell ⟨g,i*4+1,none⟩ (.int .i64 x.owner)).setCell ⟨g,i*4+2,none⟩ (.int .i64 x.value)).setCell ⟨g,i*4+3,none⟩ (q.val)) v {L with on:=L.on.set i (x,q)} {s with onces:=s.onces.set i x}∧Touch [g] w ((((w.setCell ⟨g,i*4,none⟩ (.int .i64 x.state)).setCell ⟨g,i*4+1,none⟩ (.int .i64 x.owner)).setCell ⟨g,i*4+2,none⟩ (.int .i64 x.value)).setCell ⟨g,i*4+3,none⟩ (q.val)):=by
 have e:((((w.setCell ⟨g,i*4,none⟩ (.int .i64 x.state)).setCell ⟨g,i*4+1,none⟩ (.int .i64 x.owner)).setCell ⟨g,i*4+2,none⟩ (.int .i64 x.value)).setCell ⟨g,i*4+3,none⟩ (q.val))=setAll w g (i*4) (onceC (x,q)):=rfl
 rw[e]
 have T:=touch_setAll (g:=g) (onceC (x,q)) (i*4) w
 have hm:∀b∈[g],b∈X++v.blks:=fun b hb=>by
  obtain rfl:=xS1 hb
  exact xQ1 (.inr (StV.mem_on (by rw[hg];rfl)))
 have hlen:v.on.n=s.onces.length:=h.non
 have hll:i<L.on.length:=by rw[h.inn.on.len];exact hi
 have own:=h.on
 rw[show v.on.val= .slice (some ⟨g,0,none⟩) v.on.n v.on.c by rw[←hg]] at own
 have own2:=owns_setAll (onceC (x,q)) (i*4) own
 rw[flat_set onceC_len L.on i (x,q) hll] at own2
 rw[show(.slice (some ⟨g,0,none⟩) v.on.n v.on.c:Value)=v.on.val by rw[←hg]] at own2
 exact⟨h.set_on (by rw[hg];rfl) T i (SlR.touch hx T hm) own2,T⟩
theorem StO.put_gr {X:List Nat} {B g:Nat} {w:World} {v:StV} {L:StL} {s:StD} (h:StO X B w v L s) (hg:v.gr.a=some ⟨g,0,none⟩) (i:Nat) (hi:i<s.groups.length) {x:GrpD} {q:SlV} (hx:grpR (X++v.blks) w x q):
  StO X B ((w.setCell ⟨g,i*2,none⟩ (.int .i64 x.count)).setCell ⟨g,i*2+1,none⟩ (q.val)) v {L with gr:=L.gr.set i (x,q)} {s with groups:=s.groups.set i x}∧Touch [g] w ((w.setCell ⟨g,i*2,none⟩ (.int .i64 x.count)).setCell ⟨g,i*2+1,none⟩ (q.val)):=by
 have e:((w.setCell ⟨g,i*2,none⟩ (.int .i64 x.count)).setCell ⟨g,i*2+1,none⟩ (q.val))=setAll w g (i*2) (grpC (x,q)):=rfl
 rw[e]
 have T:=touch_setAll (g:=g) (grpC (x,q)) (i*2) w
 have hm:∀b∈[g],b∈X++v.blks:=fun b hb=>by
  obtain rfl:=xS1 hb
  exact xQ1 (.inr (StV.mem_gr (by rw[hg];rfl)))
 have hlen:v.gr.n=s.groups.length:=h.ngr
 have hll:i<L.gr.length:=by rw[h.inn.gr.len];exact hi
 have own:=h.gr
 rw[show v.gr.val= .slice (some ⟨g,0,none⟩) v.gr.n v.gr.c by rw[←hg]] at own
 have own2:=owns_setAll (grpC (x,q)) (i*2) own
 rw[flat_set grpC_len L.gr i (x,q) hll] at own2
 rw[show(.slice (some ⟨g,0,none⟩) v.gr.n v.gr.c:Value)=v.gr.val by rw[←hg]] at own2
 exact⟨h.set_gr (by rw[hg];rfl) T i (SlR.touch hx T hm) own2,T⟩
theorem StO.put_ba {X:List Nat} {B g:Nat} {w:World} {v:StV} {L:StL} {s:StD} (h:StO X B w v L s) (hg:v.ba.a=some ⟨g,0,none⟩) (i:Nat) (hi:i<s.bars.length) {x:BarD} {q:SlV} (hx:barR (X++v.blks) w x q):
  StO X B (((w.setCell ⟨g,i*3,none⟩ (.int .i64 x.parties)).setCell ⟨g,i*3+1,none⟩ (.int .i64 x.round)).setCell ⟨g,i*3+2,none⟩ (q.val)) v {L with ba:=L.ba.set i (x,q)} {s with bars:=s.bars.set i x}∧Touch [g] w (((w.setCell ⟨g,i*3,none⟩ (.int .i64 x.parties)).setCell ⟨g,i*3+1,none⟩ (.int .i64 x.round)).setCell ⟨g,i*3+2,none⟩ (q.val)):=by
 have e:(((w.setCell ⟨g,i*3,none⟩ (.int .i64 x.parties)).setCell ⟨g,i*3+1,none⟩ (.int .i64 x.round)).setCell ⟨g,i*3+2,none⟩ (q.val))=setAll w g (i*3) (barC (x,q)):=rfl
 rw[e]
 have T:=touch_setAll (g:=g) (barC (x,q)) (i*3) w
 have hm:∀b∈[g],b∈X++v.blks:=fun b hb=>by
  obtain rfl:=xS1 hb
  exact xQ1 (.inr (StV.mem_ba (by rw[hg];rfl)))
 have hlen:v.ba.n=s.bars.length:=h.nba
 have hll:i<L.ba.length:=by rw[h.inn.ba.len];exact hi
 have own:=h.ba
 rw[show v.ba.val= .slice (some ⟨g,0,none⟩) v.ba.n v.ba.c by rw[←hg]] at own
 have own2:=owns_setAll (barC (x,q)) (i*3) own
 rw[flat_set barC_len L.ba i (x,q) hll] at own2
 rw[show(.slice (some ⟨g,0,none⟩) v.ba.n v.ba.c:Value)=v.ba.val by rw[←hg]] at own2
 exact⟨h.set_ba (by rw[hg];rfl) T i (SlR.touch hx T hm) own2,T⟩
theorem StO.put_ch {X:List Nat} {B g:Nat} {w:World} {v:StV} {L:StL} {s:StD} (h:StO X B w v L s) (hg:v.ch.a=some ⟨g,0,none⟩) (i:Nat) (hi:i<s.chans.length) {x:ChnD} {q:SlV×SlV×SlV} (hx:chnR (X++v.blks) w x q):
  StO X B (((((w.setCell ⟨g,i*5,none⟩ (.int .i64 x.room)).setCell ⟨g,i*5+1,none⟩ (q.1.val)).setCell ⟨g,i*5+2,none⟩ (q.2.1.val)).setCell ⟨g,i*5+3,none⟩ (q.2.2.val)).setCell ⟨g,i*5+4,none⟩ (.bool x.closed)) v {L with ch:=L.ch.set i (x,q)} {s with chans:=s.chans.set i x}∧Touch [g] w (((((w.setCell ⟨g,i*5,none⟩ (.int .i64 x.room)).setCell ⟨g,i*5+1,none⟩ (q.1.val)).setCell ⟨g,i*5+2,none⟩ (q.2.1.val)).setCell ⟨g,i*5+3,none⟩ (q.2.2.val)).setCell ⟨g,i*5+4,none⟩ (.bool x.closed)):=by
 have e:(((((w.setCell ⟨g,i*5,none⟩ (.int .i64 x.room)).setCell ⟨g,i*5+1,none⟩ (q.1.val)).setCell ⟨g,i*5+2,none⟩ (q.2.1.val)).setCell ⟨g,i*5+3,none⟩ (q.2.2.val)).setCell ⟨g,i*5+4,none⟩ (.bool x.closed))=setAll w g (i*5) (chnC (x,q)):=rfl
 rw[e]
 have T:=touch_setAll (g:=g) (chnC (x,q)) (i*5) w
 have hm:∀b∈[g],b∈X++v.blks:=fun b hb=>by
  obtain rfl:=xS1 hb
  exact xQ1 (.inr (StV.mem_ch (by rw[hg];rfl)))
 have hlen:v.ch.n=s.chans.length:=h.nch
 have hll:i<L.ch.length:=by rw[h.inn.ch.len];exact hi
 have own:=h.ch
 rw[show v.ch.val= .slice (some ⟨g,0,none⟩) v.ch.n v.ch.c by rw[←hg]] at own
 have own2:=owns_setAll (chnC (x,q)) (i*5) own
 rw[flat_set chnC_len L.ch i (x,q) hll] at own2
 rw[show(.slice (some ⟨g,0,none⟩) v.ch.n v.ch.c:Value)=v.ch.val by rw[←hg]] at own2
 exact⟨h.set_ch (by rw[hg];rfl) T i (⟨hx.1.touch T hm,hx.2.1.touch T hm,hx.2.2.touch T hm⟩) own2,T⟩
theorem StO.stat {X:List Nat} {B g:Nat} {w:World} {v:StV} {L:StL} {s:StD} (h:StO X B w v L s) (hg:v.st.a=some ⟨g,0,none⟩) (t y:Int):StO X B (w.setCell ⟨g,t.toNat,none⟩ (.int .i64 y)) v L (setStat s t y)∧Touch [g] w (w.setCell ⟨g,t.toNat,none⟩ (.int .i64 y)):=by
 have T:Touch [g] w (w.setCell ⟨g,t.toNat,none⟩ (.int .i64 y)):=(Touch.refl [g] w).set (by simp)
 have own:=h.st
 rw[show v.st.val= .slice (some ⟨g,0,none⟩) v.st.n v.st.c by rw[←hg]] at own
 have R:=(owns_store own t.toNat (.int .i64 y) (cs':=ints (s.status.set t.toNat y)) (by simp[ints,List.map_set])).1
 rw[show(.slice (some ⟨g,0,none⟩) v.st.n v.st.c:Value)=v.st.val by rw[←hg]] at R
 exact⟨h.set_st (by rw[hg];rfl) T (by rw[List.length_set];exact h.nst) R,T⟩
theorem StO.boxAll {X A:List Nat} {B:Nat} {w w':World} {v:StV} {L:StL} {s:StD} (h:StO X B w v L s) (hb:Below w.heap.size w w') (hA:∀k∈A,w.heap.size≤k∧k<w'.heap.size):StO (A++X) B w' v L s:=by
 have h':=h.below hb
 refine⟨h'.pl,h'.npl,h'.st,h'.nst,h'.se,h'.nse,h'.on,h'.non,h'.gr,h'.ngr,h'.ba,h'.nba,h'.ch,h'.nch,h'.sa,h'.nsa,h'.fl,h'.dps,h'.dpa,h'.dsa,fun q hq=> ?_,h.inn.map fun _ _ _ hx=>hx.wide (Touch.of_below hb) fun b hm=> ?_⟩
 ·rcases xP1 hq with hq|hq
  ·exact⟨(hA q hq).2,fun hm=>by have:=(h.from _ hm).2;have:=(hA q hq).1;omega⟩
  ·exact h'.xs q hq
 ·rcases xP1 hm with hm|hm
  ·rcases xP1 hm with hm|hm
   ·exact .inr (hA b hm).1
   ·exact .inl (xQ1 (.inl hm))
  ·exact .inl (xQ1 (.inr hm))
theorem run_append_hn {P:Program} {w:World} (t ty:TypeId) {B:Nat} {e:TypeId} {z:Value} {size bytes:Nat} (ht:P.underlying t=some (.slice e)) (hinfo:(P.info? e).map (fun i=>(i.zero,i.size,i.bytes))=some (some z,size,bytes))
  (hzs:z.cells.size=size) (hsz:0<size) {a:Option Addr} {n c:Nat} {xs:List Value} (hown:w.ownsRow B e size (.slice a n c) n xs)
  {a2:Option Addr} {m c2:Nat} {news:List Value} (hl:news.length=m*size) (hsrc:Rd w a2 news) (h1:∀u∈news,u.oneCell'=true) (hbytes:(n+m)*bytes≤140737488355328) (hby:0<bytes) (hbase:B≤w.heap.size):
  ∃a' c' w',(Builtin.append_ #[t,t] ty #[.slice a n c,.slice a2 m c2]).run P w= .ok (.slice a' (n+m) c') w'∧w'.ownsRow B e size (.slice a' (n+m) c') (n+m) (xs++news)∧w.grownBy w' (rowOf a)∧(∀k,rowOf a'=some k→rowOf a=some k∨w.heap.size≤k):=by
 obtain⟨i,hi,hz0,hz1,hz2⟩:=info_parts hinfo
 have h63:n+m≤maxLen:=by
  have:=Nat.le_trans (Nat.le_mul_of_pos_right (n+m) hby) hbytes
  simp only[maxLen];omega
 cases a2 with
 |none=>
  have hn0:news=[]:=by
   rcases hsrc with h|⟨b,o,e',_⟩
   ·exact h
   ·cases e'
  subst hn0
  have hm:m=0:=by
   simp only[List.length_nil] at hl
   rcases Nat.mul_eq_zero.1 hl.symm with h|h
   ·exact h
   ·omega
  subst hm
  refine⟨a,c,w,run_append_owned_none' (P:=P) (w:=w) B t ty e i size ht hi _ n xs hown c2,by simpa using hown,World.grownBy.refl _ _,fun k hk=> .inl hk⟩
 |some ad=>
  have hnews:∀j u,news[j]? =some u→w.cell? (ad.add j)=some u:=by
   intro j u hj
   have hjl:j<news.length:=(List.getElem?_eq_some_iff.1 hj).1
   obtain⟨b,o',e',hc⟩:=hsrc.at (by omega)
   cases e'
   rw[Addr.add_lit,hc j hjl]
   rw[List.getD_eq_getElem?_getD,hj];rfl
  have grew:∀v' w',(Builtin.append_ #[t,t] ty #[.slice a n c,.slice (some ad) m c2]).run P w= .ok v' w'→w'.ownsRow w.heap.size e size v' (n+m) (xs++news)→w.grownBy w' none→∃a' c' w',(Builtin.append_ #[t,t] ty #[.slice a n c,.slice (some ad) m c2]).run P w= .ok (.slice a' (n+m) c') w'∧w'.ownsRow B e size (.slice a' (n+m) c') (n+m) (xs++news)∧w.grownBy w' (rowOf a)∧(∀k,rowOf a'=some k→rowOf a=some k∨w.heap.size≤k):=by
   intro v' w' hrun r1 r2
   obtain⟨a',c',rfl⟩:=owns_slice r1
   exact⟨a',c',w',hrun,owns_mono r1 hbase,⟨r2.os,r2.tape,r2.output,r2.size,fun k hk _=>r2.block k hk (by simp)⟩,fun k hk=> .inr (owns_row r1 k hk).1⟩
  rcases hown.2 with ⟨h',h0⟩|⟨g,cap,cur,h',hb,hg,hnc,hcm,hcs,htake⟩
  ·simp only[Value.slice.injEq] at h'
   obtain⟨rfl,rfl,rfl⟩:=h'
   obtain⟨v',w',hrun,r1,r2,_⟩:=run_append_own (P:=P) w w.heap.size t ty e i z size bytes ht hi hz0 hz1 hz2 hzs hsz (.slice none 0 0) 0 xs (by have:=hown.1;simp only[Nat.zero_mul] at this;rw[List.eq_nil_of_length_eq_zero this];exact World.ownsRow_nil w _ e size) ad m c2 news hl hnews h1 h63 hbytes xL1
   exact grew v' w' hrun r1 r2
  ·simp only[Value.slice.injEq,true_and] at h'
   obtain⟨rfl,rfl⟩:=h'
   by_cases hroom:n+m≤c
   ·obtain⟨curL,hfull,htk,-,-,hcl⟩:=owns_full hown
    have hmul:n*size+news.length≤c*size:=by
     rw[hl,←Nat.add_mul];exact Nat.mul_le_mul_right size hroom
    have hrun:=run_append_room_cells (P:=P) (w:=w) t ty e i ht hi g 0 n c ad m c2 news (by rw[hz1];exact hl) hnews h1 hroom
     (fun j hj=>by rw[hz1,Nat.zero_add,hfull.cellAt _ (by omega),List.getElem?_eq_getElem (by omega)];rfl) (fun j _=>hfull.frozenAt _)
    rw[hz1,Nat.zero_add] at hrun
    have R:=owns_setCells news (n*size) w curL hfull (by omega)
    have R2:=owns_cut R.1 hroom
    have e5:(over (n*size) news curL).take ((n+m)*size)=xs++news:=by
     unfold over
     have hx:xs.length=n*size:=hown.1
     rw[htk,Nat.add_mul,←hl,←hx,←List.length_append,List.take_left' rfl]
    rw[e5] at R2
    exact⟨_,_,_,hrun,R2,R.2,fun k hk=> .inl hk⟩
   ·obtain⟨v',w',hrun,r1,r2⟩:=run_append_arg_grows (P:=P) w t ty e i z size bytes ht hi hz0 hz1 hz2 hzs hsz ⟨g,0,none⟩ n c xs hown.1 (fun j u hj=>by
     have hjl:j<xs.length:=(List.getElem?_eq_some_iff.1 hj).1
     rw[Addr.add_lit,Nat.zero_add,hown.cellAt j (by have:=hown.1;omega)];exact hj) ad m c2 news hl hnews (by omega) h63 hbytes
    exact grew v' w' hrun r1 r2
theorem wpList_append_hn {P:Program} {wr:World} {ops:Array Oper} {rest:List Oper} {o:Oper} {ac:Act} {Q:Exit→Act→World→Prop} (hgd:o.guard=none) (s x:Operand) (t:TypeId)
  (ho:o.op= .call {callee:= .builtin .append,args:= #[s,x],argTypes:= #[t,t]})
  {B:Nat} {e:TypeId} {z:Value} {size bytes:Nat} (ht:P.underlying t=some (.slice e)) (hinfo:(P.info? e).map (fun i=>(i.zero,i.size,i.bytes))=some (some z,size,bytes))
  (hzs:z.cells.size=size) (hsz:0<size)
  {a:Option Addr} {n c:Nat} {xs:List Value} (hs:ac.eval s= .slice a n c) (hown:wr.ownsRow B e size (.slice a n c) n xs)
  {a2:Option Addr} {m c2:Nat} {news:List Value} (hx:ac.eval x= .slice a2 m c2) (hl:news.length=m*size) (hsrc:Rd wr a2 news) (h1:∀u∈news,u.oneCell'=true)
  (hbytes:(n+m)*bytes≤140737488355328) (hby:0<bytes) (hbase:B≤wr.heap.size)
  (h:∀a' c' w',w'.ownsRow B e size (.slice a' (n+m) c') (n+m) (xs++news)→wr.grownBy w' (rowOf a)→(∀k,rowOf a'=some k→rowOf a=some k∨wr.heap.size≤k)→wpList P ops Q rest (ac.put o.dst (.slice a' (n+m) c')) w'):wpList P ops Q (o::rest) ac wr:=by
 obtain⟨a',c',w',hrun,k1,k2,k3⟩:=run_append_hn (P:=P) (c2:=c2) t o.type ht hinfo hzs hsz hown hl hsrc h1 hbytes hby hbase
 refine wpList_plain hgd fun K hK'=> ?_
 unfold Oper.wp
 simp[execOp,ho,resolve,invoke,builtin,hs,hx,hrun,Result.andThen]
 exact hK' _ _ (h a' c' w' k1 k2 k3)
theorem rd_tail {w:World} {b o k:Nat} {h t:List Value} (hr:Rd w (some ⟨b,o,none⟩) (h++t)) (hk:h.length=k):Rd w (some ⟨b,o+k,none⟩) t:=by
 rcases hr with h0|⟨b',o',e,hc⟩
 ·simp only[List.append_eq_nil_iff] at h0
  exact .inl h0.2
 ·simp only[Option.some.injEq,Addr.mk.injEq,and_true] at e
  obtain⟨rfl,rfl⟩:=e
  refine .inr ⟨b,o+k,rfl,fun j hj=> ?_⟩
  have:=hc (k+j) (by rw[List.length_append,hk];omega)
  rw[Nat.add_assoc,this,List.getD_eq_getElem?_getD,List.getD_eq_getElem?_getD,List.getElem?_append_right (by omega),show k+j-h.length=j by omega]
theorem tail1 {w0:World} {a:Option Addr} {n c:Nat} {x:Value} {xs:List Value} (h0:Rd w0 a (x::xs)) (hl:xs.length+1=n) (hc:n≤c):
  ∃A:Option Addr,(∀W:World,(Instr.slice 23 (.slice a n c) (some (.int .i64 1)) none none).run Tryz.prog W= .ok (.slice A (n-1) (c-1)) W)∧(∀W:World,Rd W a (x::xs)→Rd W A xs)∧rowOf A=rowOf a:=by
 rcases h0 with h0|⟨b,o,rfl,h0⟩
 ·cases h0
 refine⟨some (if c=1 then (⟨b,o,none⟩:Addr) else ⟨b,o+1,none⟩),fun W=> ?_,fun W h=> ?_,?_⟩
 ·have u1:(1:Int)≤(n:Int):=by omega
  have u2:(n:Int)≤(c:Int):=by omega
  have u3:(1:Int)≤(c:Int):=by omega
  go_simp
  split<;>rfl
 ·by_cases h1:c=1
  ·have:xs=[]:=List.eq_nil_of_length_eq_zero (by omega)
   exact .inl this
  ·rw[if_neg h1]
   exact rd_tail (h:=[x]) h rfl
 ·by_cases h1:c=1
  ·rw[if_pos h1]
  ·rw[if_neg h1];rfl
theorem tail2 {w0:World} {a:Option Addr} {n c:Nat} {x y:Value} {xs:List Value} (h0:Rd w0 a (x::y::xs)) (hl:xs.length+2=n*2) (hc:n≤c):
  ∃A:Option Addr,(∀W:World,(Instr.slice 91 (.slice a n c) (some (.int .i64 1)) none none).run Tryz.prog W= .ok (.slice A (n-1) (c-1)) W)∧(∀W:World,Rd W a (x::y::xs)→Rd W A xs)∧rowOf A=rowOf a:=by
 rcases h0 with h0|⟨b,o,rfl,h0⟩
 ·cases h0
 refine⟨some (if c=1 then (⟨b,o,none⟩:Addr) else ⟨b,o+2,none⟩),fun W=> ?_,fun W h=> ?_,?_⟩
 ·have u1:(1:Int)≤(n:Int):=by omega
  have u2:(n:Int)≤(c:Int):=by omega
  have u3:(1:Int)≤(c:Int):=by omega
  go_simp
  split<;>rfl
 ·by_cases h1:c=1
  ·have:xs=[]:=List.eq_nil_of_length_eq_zero (by omega)
   exact .inl this
  ·rw[if_neg h1]
   exact rd_tail (h:=[x,y]) h rfl
 ·by_cases h1:c=1
  ·rw[if_pos h1]
  ·rw[if_neg h1];rfl
end Go.Proofs.YtjmpejaifmopnaaGreat
