/- Part of a proof: RepR. -/
import Derived.Test.YtjmpejaifmopnaaGreatQIRepl
import Derived.Test.YtjmpejaifmopnaaGreatQRinv
set_option maxRecDepth 100000
set_option maxHeartbeats 16000000
namespace Go.Proofs.YtjmpejaifmopnaaGreat
open Go.RowKit
structure RunQ where
 s:StV
 L:StL
 d:StD
 a:Option Addr
 c:Nat
 tr:List Int
abbrev RunQ.cs (q:RunQ):Array Value:=rC q.s q.a q.tr.length q.c
def RunQ.tup (q:RunQ):Value:= .tuple #[.agg q.cs,.bool true]
abbrev RunQ.it (q:RunQ):It:= .row q.a q.tr.length q.c 3 1 (ints q.tr)
structure rpI (W0:World) (P0 A1 Tr X Y:Value) (N:Nat) (T:List Int) (G:RunQ→Prop) (L:Nat→Bool) (σ:Nat→Value) (w:World):Prop where
 k0:L 0=true→σ 0=P0
 k1:L 1=true→σ 1=A1
 k2:L 2=true→σ 2=Tr
 k3:L 3=true→σ 3=X
 k4:L 4=true→σ 4=Y
 k5:L 5=true→L 6=false→∃a c,σ 5= .slice a N c∧Rd w a (ints T)
 k9:L 9=true→σ 9= .bool true
 k12:L 12=true→σ 12= .bool true
 d7:L 7=true→L 6=true
 d8:L 8=true∨L 9=true∨L 11=true→L 7=true
 d11:L 11=true→L 10=true
 q:∃(q:RunQ) (bx:List It),(L 6=true→σ 6=q.tup∧G q)∧(L 7=true→σ 7=q.tup)∧(L 8=true→σ 8= .agg q.cs)∧(L 10=true→∃g,σ 10= .pointer (some ⟨g,0,none⟩)∧bx=[.blk g (if L 11=true then q.cs else z10) 40])∧(L 10=false→bx=[])∧(L 6=false→Fr W0 w bx)∧(L 6=true→Sf W0 w (q.it::bx) q.s q.L q.d)
section
variable {W0:World} {P0 A1 Tr X Y:Value} {N:Nat} {T:List Int} {G:RunQ→Prop} {L:Nat→Bool} {σ:Nat→Value} {w:World}
theorem rpI.cong:∀L L' σ σ' w,(∀j,j<13→L j=L' j)→(∀j,j<13→L j=true→σ j=σ' j)→rpI W0 P0 A1 Tr X Y N T G L σ w→rpI W0 P0 A1 Tr X Y N T G L' σ' w:=by
 intro L L' σ σ' w hL hs h
 obtain⟨k0,k1,k2,k3,k4,k5,k9,k12,d7,d8,d11,q,bx,q6,q7,q8,q10,q11,q12,q13⟩:=h
 have e:∀j,j<13→L' j=L j:=fun j hj=>(hL j hj).symm
 have e6:=e 6 (by omega)
 have e7:=e 7 (by omega)
 have e10:=e 10 (by omega)
 have e11:=e 11 (by omega)
 refine⟨fun h=> ?_,fun h=> ?_,fun h=> ?_,fun h=> ?_,fun h=> ?_,fun h h'=> ?_,fun h=> ?_,fun h=> ?_,?_,?_,?_,q,bx,fun h=> ?_,fun h=> ?_,fun h=> ?_,fun h=> ?_,?_,?_,?_⟩
 ·rw[e 0 (by omega)] at h;rw[←hs 0 (by omega) h];exact k0 h
 ·rw[e 1 (by omega)] at h;rw[←hs 1 (by omega) h];exact k1 h
 ·rw[e 2 (by omega)] at h;rw[←hs 2 (by omega) h];exact k2 h
 ·rw[e 3 (by omega)] at h;rw[←hs 3 (by omega) h];exact k3 h
 ·rw[e 4 (by omega)] at h;rw[←hs 4 (by omega) h];exact k4 h
 ·rw[e 5 (by omega)] at h;rw[e6] at h';rw[←hs 5 (by omega) h];exact k5 h h'
 ·rw[e 9 (by omega)] at h;rw[←hs 9 (by omega) h];exact k9 h
 ·rw[e 12 (by omega)] at h;rw[←hs 12 (by omega) h];exact k12 h
 ·rw[e6,e7];exact d7
 ·rw[e 8 (by omega),e 9 (by omega),e11,e7];exact d8
 ·rw[e10,e11];exact d11
 ·rw[e6] at h;rw[←hs 6 (by omega) h];exact q6 h
 ·rw[e7] at h;rw[←hs 7 (by omega) h];exact q7 h
 ·rw[e 8 (by omega)] at h;rw[←hs 8 (by omega) h];exact q8 h
 ·rw[e10] at h;rw[e11,←hs 10 (by omega) h];exact q10 h
 ·rw[e10];exact q11
 ·rw[e6];exact q12
 ·rw[e6];exact q13
theorem rpI.start (σ:Nat→Value):rpI W0 P0 A1 Tr X Y N T G (fun _=>false) σ W0.drew:=
 ⟨nofun,nofun,nofun,nofun,nofun,nofun,nofun,nofun,nofun,by simp,nofun,⟨⟨nilV,nilV,nilV,nilV,nilV,nilV,nilV,nilV,0⟩,⟨[],[],[],[],[]⟩,⟨[],[],[],[],[],[],[],[],0⟩,none,0,[]⟩,[],nofun,nofun,nofun,nofun,fun _=>rfl,fun _=>(Fr.start W0).drew,nofun⟩
theorem rpI.bel (h:rpI W0 P0 A1 Tr X Y N T G L σ w):Below W0.heap.size W0 w:=by
 obtain⟨-,-,-,-,-,-,-,-,-,-,-,q,bx,-,-,-,-,-,q12,q13⟩:=h
 cases e:L 6 with
 |false=>exact(q12 e).bel
 |true=>exact(q13 e).bel
theorem rpI.val (h:rpI W0 P0 A1 Tr X Y N T G L σ w) (k:Nat) (u:Value) (hk:(k=0∧u=P0)∨(k=1∧u=A1)∨(k=2∧u=Tr)∨(k=3∧u=X)∨(k=4∧u=Y)∨(k=12∧u= .bool true)):rpI W0 P0 A1 Tr X Y N T G (fun j=>decide (j=k)||L j) (fun j=>if j=k then u else σ j) w:=by
 obtain⟨k0,k1,k2,k3,k4,k5,k9,k12,d7,d8,d11,q⟩:=h
 rcases hk with ⟨rfl,rfl⟩|⟨rfl,rfl⟩|⟨rfl,rfl⟩|⟨rfl,rfl⟩|⟨rfl,rfl⟩|⟨rfl,rfl⟩
 ·exact⟨by simp,by simpa using k1,by simpa using k2,by simpa using k3,by simpa using k4,by simpa using k5,by simpa using k9,by simpa using k12,by simpa using d7,by simpa using d8,by simpa using d11,by simpa using q⟩
 ·exact⟨by simpa using k0,by simp,by simpa using k2,by simpa using k3,by simpa using k4,by simpa using k5,by simpa using k9,by simpa using k12,by simpa using d7,by simpa using d8,by simpa using d11,by simpa using q⟩
 ·exact⟨by simpa using k0,by simpa using k1,by simp,by simpa using k3,by simpa using k4,by simpa using k5,by simpa using k9,by simpa using k12,by simpa using d7,by simpa using d8,by simpa using d11,by simpa using q⟩
 ·exact⟨by simpa using k0,by simpa using k1,by simpa using k2,by simp,by simpa using k4,by simpa using k5,by simpa using k9,by simpa using k12,by simpa using d7,by simpa using d8,by simpa using d11,by simpa using q⟩
 ·exact⟨by simpa using k0,by simpa using k1,by simpa using k2,by simpa using k3,by simp,by simpa using k5,by simpa using k9,by simpa using k12,by simpa using d7,by simpa using d8,by simpa using d11,by simpa using q⟩
 ·exact⟨by simpa using k0,by simpa using k1,by simpa using k2,by simpa using k3,by simpa using k4,by simpa using k5,by simpa using k9,by simp,by simpa using d7,by simpa using d8,by simpa using d11,by simpa using q⟩
theorem rpI.sw (h:rpI W0 P0 A1 Tr X Y N T G L σ w) (e6:L 6=false) (a:Option Addr) (c:Nat) (w':World) (hr:Rd w' a (ints T)) (hb:Below w.heap.size w w'):rpI W0 P0 A1 Tr X Y N T G (fun j=>decide (j=5)||L j) (fun j=>if j=5 then .slice a N c else σ j) w':=by
 obtain⟨k0,k1,k2,k3,k4,k5,k9,k12,d7,d8,d11,q,bx,q6,q7,q8,q10,q11,q12,q13⟩:=h
 exact⟨by simpa using k0,by simpa using k1,by simpa using k2,by simpa using k3,by simpa using k4,fun _ _=>⟨a,c,by simp,hr⟩,by simpa using k9,by simpa using k12,by simpa using d7,by simpa using d8,by simpa using d11,q,bx,by simpa using q6,by simpa using q7,by simpa using q8,by simpa using q10,by simpa using q11,fun _=>(q12 e6).call hb,by simp[e6]⟩
theorem rpI.rp (h:rpI W0 P0 A1 Tr X Y N T G L σ w) (e5:L 5=true) (e6:L 6=false):∃(a:Option Addr) (c:Nat),σ 5= .slice a N c∧Rd w a (ints T)∧∀(q:RunQ) (w':World),G q→Below w.heap.size w w'→RunO w.heap.size w' q.s q.L q.a q.c q.d q.tr→rpI W0 P0 A1 Tr X Y N T G (fun j=>decide (j=6)||L j) (fun j=>if j=6 then q.tup else σ j) w':=by
 obtain⟨k0,k1,k2,k3,k4,k5,k9,k12,d7,d8,d11,q,bx,q6,q7,q8,q10,q11,q12,q13⟩:=h
 obtain⟨a,c,es,hd⟩:=k5 e5 e6
 have e7:L 7=false:=by cases h:L 7 with
  |false=>rfl
  |true=>rw[d7 h] at e6;cases e6
 have e8:∀P:Prop,L 8=true∨L 9=true∨L 11=true→P:=fun P h=>by rw[d8 h] at e7;cases e7
 refine⟨a,c,es,hd,fun q' w' hG hb ho=>⟨by simpa using k0,by simpa using k1,by simpa using k2,by simpa using k3,by simpa using k4,by simp,by simpa using k9,by simpa using k12,by simp,?_,by simpa using d11,q',bx,fun _=>⟨by simp,hG⟩,by simp[e7],?_,?_,by simpa using q11,by simp,fun _=>Sf.gainR (q12 e6) hb ho.tr ho.st ho.nw⟩⟩
 ·intro h;exact e8 _ (by simpa using h)
 ·intro h;exact e8 _ (.inl (by simpa using h))
 ·intro h
  have e11:L 11=false:=by cases h:L 11 with
   |false=>rfl
   |true=>exact e8 _ (.inr (.inr h))
  have:=q10 (by simpa using h)
  simpa[e11] using this
theorem rpI.mv (h:rpI W0 P0 A1 Tr X Y N T G L σ w) (e:L 6=true):∃q:RunQ,σ 6=q.tup∧rpI W0 P0 A1 Tr X Y N T G (fun j=>decide (j=7)||L j) (fun j=>if j=7 then q.tup else σ j) w:=by
 obtain⟨k0,k1,k2,k3,k4,k5,k9,k12,d7,d8,d11,q,bx,q6,q7,q8,q10,q11,q12,q13⟩:=h
 exact⟨q,(q6 e).1,by simpa using k0,by simpa using k1,by simpa using k2,by simpa using k3,by simpa using k4,by simpa using k5,by simpa using k9,by simpa using k12,by simp[e],by simp,by simpa using d11,q,bx,by simpa using q6,by simp,by simpa using q8,by simpa using q10,by simpa using q11,by simpa using q12,by simpa using q13⟩
theorem rpI.ex (h:rpI W0 P0 A1 Tr X Y N T G L σ w) (e:L 7=true):∃q:RunQ,σ 7=q.tup∧rpI W0 P0 A1 Tr X Y N T G (fun j=>decide (j=8)||L j) (fun j=>if j=8 then .agg q.cs else σ j) w∧rpI W0 P0 A1 Tr X Y N T G (fun j=>decide (j=9)||L j) (fun j=>if j=9 then .bool true else σ j) w:=by
 obtain⟨k0,k1,k2,k3,k4,k5,k9,k12,d7,d8,d11,q,bx,q6,q7,q8,q10,q11,q12,q13⟩:=h
 refine⟨q,q7 e,?_,?_⟩
 ·exact⟨by simpa using k0,by simpa using k1,by simpa using k2,by simpa using k3,by simpa using k4,by simpa using k5,by simpa using k9,by simpa using k12,by simpa using d7,by simp[e],by simpa using d11,q,bx,by simpa using q6,by simpa using q7,by simp,by simpa using q10,by simpa using q11,by simpa using q12,by simpa using q13⟩
 ·exact⟨by simpa using k0,by simpa using k1,by simpa using k2,by simpa using k3,by simpa using k4,by simpa using k5,by simp,by simpa using k12,by simpa using d7,by simp[e],by simpa using d11,q,bx,by simpa using q6,by simpa using q7,by simpa using q8,by simpa using q10,by simpa using q11,by simpa using q12,by simpa using q13⟩
theorem rpI.al (h:rpI W0 P0 A1 Tr X Y N T G L σ w) (e10:L 10=false) (e11:L 11=false):rpI W0 P0 A1 Tr X Y N T G (fun j=>decide (j=10)||L j) (fun j=>if j=10 then .pointer (some ⟨w.heap.size,0,none⟩) else σ j) (w.alloc (.cells z10 40)):=by
 obtain⟨k0,k1,k2,k3,k4,k5,k9,k12,d7,d8,d11,q,bx,q6,q7,q8,q10,q11,q12,q13⟩:=h
 obtain rfl:=q11 e10
 have hb:Below w.heap.size w (w.alloc (.cells z10 40)):=xA1
 refine⟨by simpa using k0,by simpa using k1,by simpa using k2,by simpa using k3,by simpa using k4,?_,by simpa using k9,by simpa using k12,by simpa using d7,by simpa using d8,by simp,q,[.blk w.heap.size z10 40],by simpa using q6,by simpa using q7,by simpa using q8,fun _=>⟨w.heap.size,by simp,by simp[e11]⟩,by simp,?_,?_⟩
 ·intro h5 h6
  obtain⟨a,c,es,hd⟩:=k5 (by simpa using h5) (by simpa using h6)
  exact⟨a,c,by simpa using es,hd.below hb⟩
 ·intro h6;exact(q12 (by simpa using h6)).alloc _ _
 ·intro h6;exact((q13 (by simpa using h6)).alloc _ _).pull 1 rfl
theorem rpI.st (h:rpI W0 P0 A1 Tr X Y N T G L σ w) (e8:L 8=true) (e10:L 10=true) (e11:L 11=false):∃(q:RunQ) (g:Nat),σ 8= .agg q.cs∧σ 10= .pointer (some ⟨g,0,none⟩)∧Blk w g z10 40∧∀u,rpI W0 P0 A1 Tr X Y N T G (fun j=>decide (j=11)||L j) (fun j=>if j=11 then u else σ j) (w.setRow g q.cs):=by
 obtain⟨k0,k1,k2,k3,k4,k5,k9,k12,d7,d8,d11,q,bx,q6,q7,q8,q10,q11,q12,q13⟩:=h
 obtain⟨g,hg,rfl⟩:=q10 e10
 have e7:=d8 (.inl e8)
 have e6:=d7 e7
 have hF:=q13 e6
 rw[if_neg (by simp[e11])] at hF
 have kb:Blk w g z10 40:=hF.fr.blk 1 rfl
 have hT:Touch [g] w (w.setRow g q.cs):=⟨rfl,rfl,rfl,by simp,fun k _ hn=>setRow_other _ _ _ _ fun e=>hn (by simp[e])⟩
 refine⟨q,g,q8 e8,hg,kb,fun u=>⟨by simpa using k0,by simpa using k1,by simpa using k2,by simpa using k3,by simpa using k4,by simp[e6],by simpa using k9,by simpa using k12,by simp[e6],by simp[e7],by simp[e10],q,[.blk g q.cs 40],by simpa using q6,by simpa using q7,by simpa using q8,fun _=>⟨g,by simpa using hg,by simp⟩,by simp[e10],by simp[e6],fun _=> ?_⟩⟩
 exact hF.step 1 rfl hT ⟨(hF.fr.has _ (List.mem_of_getElem? (show(q.it::[It.blk g z10 40])[1]? =_ from rfl))).1,setRow_heap _ _ _ _ _ _ kb⟩ rfl
end
end Go.Proofs.YtjmpejaifmopnaaGreat
