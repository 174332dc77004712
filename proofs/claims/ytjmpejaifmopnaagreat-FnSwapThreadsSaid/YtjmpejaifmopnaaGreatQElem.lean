/- Part of a proof: Elem. -/
import Derived.Test.YtjmpejaifmopnaaGreatQPState
set_option maxRecDepth 100000
set_option maxHeartbeats 16000000
namespace Go.Proofs.YtjmpejaifmopnaaGreat
open Go.RowKit
theorem StR.at_se {w:World} {v:StV} {L:StL} {s:StD} (h:StR w v L s) {j:Nat} (hj:j<s.sems.length):∃(x:SemD) (q:SlV) (b o:Nat),Hid (x=s.sems.getD j noSem)∧v.se.a=some ⟨b,o,none⟩∧w.cell? ⟨b,o+j*3,none⟩=some (.int .i64 x.free)∧w.cell? ⟨b,o+j*3+1,none⟩=some (.int .i64 x.limit)∧w.cell? ⟨b,o+j*3+2,none⟩=some (.slice q.a q.n q.c)∧Hid (Rd w q.a (pairs x.queue))∧Hid (q.n=x.queue.length)∧Hid (q.n≤q.c):=by
 obtain⟨b1,o1,ea,g'⟩:=h.se.rd.flat semC_len noSemP (by rw[h.inn.se.len];omega) (by decide)
 obtain⟨⟨x,q⟩,hxq⟩:∃y,y=L.se.getD j noSemP:=⟨_,rfl⟩
 have hx:x=s.sems.getD j noSem:=by have:=h.inn.se.fst noSem nilV j;rw[←this];exact congrArg Prod.fst hxq
 have hR:=h.inn.se.at noSem nilV (i:=j) hj
 replace g':=g' j (by rw[h.inn.se.len];exact hj)
 rw[←hxq] at g'
 rw[show L.se.getD j (noSem,_)=(x,q) from hxq.symm,←hx] at hR
 exact⟨x,q,b1,o1,xH1 hx,ea,by have:=g' 0 (by decide);simpa[semC] using this,by have:=g' 1 (by decide);simpa[semC] using this,by have:=g' 2 (by decide);simpa[semC] using this,xH1 (SlR.rd hR),xH1 (SlR.len hR),xH1 (SlR.cap hR)⟩
theorem StR.at_on {w:World} {v:StV} {L:StL} {s:StD} (h:StR w v L s) {j:Nat} (hj:j<s.onces.length):∃(x:OnceD) (q:SlV) (b o:Nat),Hid (x=s.onces.getD j noOnce)∧v.on.a=some ⟨b,o,none⟩∧w.cell? ⟨b,o+j*4,none⟩=some (.int .i64 x.state)∧w.cell? ⟨b,o+j*4+1,none⟩=some (.int .i64 x.owner)∧w.cell? ⟨b,o+j*4+2,none⟩=some (.int .i64 x.value)∧w.cell? ⟨b,o+j*4+3,none⟩=some (.slice q.a q.n q.c)∧Hid (Rd w q.a (ints x.waits))∧Hid (q.n=x.waits.length)∧Hid (q.n≤q.c):=by
 obtain⟨b1,o1,ea,g'⟩:=h.on.rd.flat onceC_len noOnceP (by rw[h.inn.on.len];omega) (by decide)
 obtain⟨⟨x,q⟩,hxq⟩:∃y,y=L.on.getD j noOnceP:=⟨_,rfl⟩
 have hx:x=s.onces.getD j noOnce:=by have:=h.inn.on.fst noOnce nilV j;rw[←this];exact congrArg Prod.fst hxq
 have hR:=h.inn.on.at noOnce nilV (i:=j) hj
 replace g':=g' j (by rw[h.inn.on.len];exact hj)
 rw[←hxq] at g'
 rw[show L.on.getD j (noOnce,_)=(x,q) from hxq.symm,←hx] at hR
 exact⟨x,q,b1,o1,xH1 hx,ea,by have:=g' 0 (by decide);simpa[onceC] using this,by have:=g' 1 (by decide);simpa[onceC] using this,by have:=g' 2 (by decide);simpa[onceC] using this,by have:=g' 3 (by decide);simpa[onceC] using this,xH1 (SlR.rd hR),xH1 (SlR.len hR),xH1 (SlR.cap hR)⟩
theorem StR.at_gr {w:World} {v:StV} {L:StL} {s:StD} (h:StR w v L s) {j:Nat} (hj:j<s.groups.length):∃(x:GrpD) (q:SlV) (b o:Nat),Hid (x=s.groups.getD j noGrp)∧v.gr.a=some ⟨b,o,none⟩∧w.cell? ⟨b,o+j*2,none⟩=some (.int .i64 x.count)∧w.cell? ⟨b,o+j*2+1,none⟩=some (.slice q.a q.n q.c)∧Hid (Rd w q.a (ints x.waits))∧Hid (q.n=x.waits.length)∧Hid (q.n≤q.c):=by
 obtain⟨b1,o1,ea,g'⟩:=h.gr.rd.flat grpC_len noGrpP (by rw[h.inn.gr.len];omega) (by decide)
 obtain⟨⟨x,q⟩,hxq⟩:∃y,y=L.gr.getD j noGrpP:=⟨_,rfl⟩
 have hx:x=s.groups.getD j noGrp:=by have:=h.inn.gr.fst noGrp nilV j;rw[←this];exact congrArg Prod.fst hxq
 have hR:=h.inn.gr.at noGrp nilV (i:=j) hj
 replace g':=g' j (by rw[h.inn.gr.len];exact hj)
 rw[←hxq] at g'
 rw[show L.gr.getD j (noGrp,_)=(x,q) from hxq.symm,←hx] at hR
 exact⟨x,q,b1,o1,xH1 hx,ea,by have:=g' 0 (by decide);simpa[grpC] using this,by have:=g' 1 (by decide);simpa[grpC] using this,xH1 (SlR.rd hR),xH1 (SlR.len hR),xH1 (SlR.cap hR)⟩
theorem StR.at_ba {w:World} {v:StV} {L:StL} {s:StD} (h:StR w v L s) {j:Nat} (hj:j<s.bars.length):∃(x:BarD) (q:SlV) (b o:Nat),Hid (x=s.bars.getD j noBar)∧v.ba.a=some ⟨b,o,none⟩∧w.cell? ⟨b,o+j*3,none⟩=some (.int .i64 x.parties)∧w.cell? ⟨b,o+j*3+1,none⟩=some (.int .i64 x.round)∧w.cell? ⟨b,o+j*3+2,none⟩=some (.slice q.a q.n q.c)∧Hid (Rd w q.a (ints x.waits))∧Hid (q.n=x.waits.length)∧Hid (q.n≤q.c):=by
 obtain⟨b1,o1,ea,g'⟩:=h.ba.rd.flat barC_len noBarP (by rw[h.inn.ba.len];omega) (by decide)
 obtain⟨⟨x,q⟩,hxq⟩:∃y,y=L.ba.getD j noBarP:=⟨_,rfl⟩
 have hx:x=s.bars.getD j noBar:=by have:=h.inn.ba.fst noBar nilV j;rw[←this];exact congrArg Prod.fst hxq
 have hR:=h.inn.ba.at noBar nilV (i:=j) hj
 replace g':=g' j (by rw[h.inn.ba.len];exact hj)
 rw[←hxq] at g'
 rw[show L.ba.getD j (noBar,_)=(x,q) from hxq.symm,←hx] at hR
 exact⟨x,q,b1,o1,xH1 hx,ea,by have:=g' 0 (by decide);simpa[barC] using this,by have:=g' 1 (by decide);simpa[barC] using this,by have:=g' 2 (by decide);simpa[barC] using this,xH1 (SlR.rd hR),xH1 (SlR.len hR),xH1 (SlR.cap hR)⟩
theorem StR.at_ch {w:World} {v:StV} {L:StL} {s:StD} (h:StR w v L s) {j:Nat} (hj:j<s.chans.length):∃(x:ChnD) (q:SlV×SlV×SlV) (b o:Nat),Hid (x=s.chans.getD j noChn)∧v.ch.a=some ⟨b,o,none⟩∧w.cell? ⟨b,o+j*5,none⟩=some (.int .i64 x.room)∧w.cell? ⟨b,o+j*5+1,none⟩=some (.slice q.1.a q.1.n q.1.c)∧w.cell? ⟨b,o+j*5+2,none⟩=some (.slice q.2.1.a q.2.1.n q.2.1.c)∧w.cell? ⟨b,o+j*5+3,none⟩=some (.slice q.2.2.a q.2.2.n q.2.2.c)∧w.cell? ⟨b,o+j*5+4,none⟩=some (.bool x.closed)∧Hid (Rd w q.1.a (ints x.items))∧Hid (q.1.n=x.items.length)∧Hid (q.1.n≤q.1.c)∧Hid (Rd w q.2.1.a (pairs x.senders))∧Hid (q.2.1.n=x.senders.length)∧Hid (q.2.1.n≤q.2.1.c)∧Hid (Rd w q.2.2.a (ints x.getters))∧Hid (q.2.2.n=x.getters.length)∧Hid (q.2.2.n≤q.2.2.c):=by
 obtain⟨b1,o1,ea,g'⟩:=h.ch.rd.flat chnC_len noChnP (by rw[h.inn.ch.len];omega) (by decide)
 obtain⟨⟨x,q⟩,hxq⟩:∃y,y=L.ch.getD j noChnP:=⟨_,rfl⟩
 have hx:x=s.chans.getD j noChn:=by have:=h.inn.ch.fst noChn (nilV,nilV,nilV) j;rw[←this];exact congrArg Prod.fst hxq
 have hR:=h.inn.ch.at noChn (nilV,nilV,nilV) (i:=j) hj
 replace g':=g' j (by rw[h.inn.ch.len];exact hj)
 rw[←hxq] at g'
 rw[show L.ch.getD j (noChn,_)=(x,q) from hxq.symm,←hx] at hR
 exact⟨x,q,b1,o1,xH1 hx,ea,by have:=g' 0 (by decide);simpa[chnC] using this,by have:=g' 1 (by decide);simpa[chnC] using this,by have:=g' 2 (by decide);simpa[chnC] using this,by have:=g' 3 (by decide);simpa[chnC] using this,by have:=g' 4 (by decide);simpa[chnC] using this,xH1 (SlR.rd hR.1),xH1 (SlR.len hR.1),xH1 (SlR.cap hR.1),xH1 (SlR.rd hR.2.1),xH1 (SlR.len hR.2.1),xH1 (SlR.cap hR.2.1),xH1 (SlR.rd hR.2.2),xH1 (SlR.len hR.2.2),xH1 (SlR.cap hR.2.2)⟩
end Go.Proofs.YtjmpejaifmopnaaGreat
