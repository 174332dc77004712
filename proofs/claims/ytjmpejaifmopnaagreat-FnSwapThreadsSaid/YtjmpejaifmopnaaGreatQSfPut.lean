/- Part of a proof: SfPut. -/
import Derived.Test.YtjmpejaifmopnaaGreatQPMachK
import Derived.Test.YtjmpejaifmopnaaGreatQElem
set_option maxRecDepth 100000
set_option maxHeartbeats 16000000
namespace Go.Proofs.YtjmpejaifmopnaaGreat
open Go.RowKit
theorem Sf.putf_se {w W:World} {l:List It} {v:StV} {L:StL} {s:StD} (h:Sf w W l v L s) {i:Nat} (hi:i<s.sems.length) {x:SemD} {q:SlV} (hq:semR (foots l++v.blks) W x q):∃g:Nat,v.se.a=some ⟨g,0,none⟩∧g∈v.blks∧(i:Int)<(v.se.n:Int)∧(0:Int)≤(i:Int)∧Sf w (((W.setCell ⟨g,i*3,none⟩ (.int .i64 x.free)).setCell ⟨g,i*3+1,none⟩ (.int .i64 x.limit)).setCell ⟨g,i*3+2,none⟩ (q.val)) l v {L with se:=L.se.set i (x,q)} {s with sems:=s.sems.set i x}∧Touch [g] W (((W.setCell ⟨g,i*3,none⟩ (.int .i64 x.free)).setCell ⟨g,i*3+1,none⟩ (.int .i64 x.limit)).setCell ⟨g,i*3+2,none⟩ (q.val))∧W.frozen? ⟨g,i*3,none⟩=false∧(∃y,W.cell? ⟨g,i*3,none⟩=some y)∧W.frozen? ⟨g,i*3+1,none⟩=false∧(∃y,W.cell? ⟨g,i*3+1,none⟩=some y)∧W.frozen? ⟨g,i*3+2,none⟩=false∧(∃y,W.cell? ⟨g,i*3+2,none⟩=some y):=by
 obtain⟨g,eg,-,-⟩:=owns_at h.st.se (by rw[h.st.nse];omega)
 have own:=h.st.se
 rw[show v.se.val= .slice (some ⟨g,0,none⟩) v.se.n v.se.c by rw[←eg]] at own
 have hP:=h.st.put_se eg i hi (x:=x) (q:=q) hq
 have hm:g∈v.blks:=StV.mem_se (by rw[eg];rfl)
 have hn:=h.st.nse
 exact⟨g,eg,hm,by omega,by omega,h.upd (hP.2.mono (fun k hk=>by obtain rfl:=xS1 hk;exact hm)) hP.1,hP.2,own.frozenAt _,owns_some own _ (by omega),own.frozenAt _,owns_some own _ (by omega),own.frozenAt _,owns_some own _ (by omega)⟩
theorem Sf.putf_on {w W:World} {l:List It} {v:StV} {L:StL} {s:StD} (h:Sf w W l v L s) {i:Nat} (hi:i<s.onces.length) {x:OnceD} {q:SlV} (hq:onceR (foots l++v.blks) W x q):∃g:Nat,v.on.a=some ⟨g,0,none⟩∧g∈v.blks∧(i:Int)<(v.on.n:Int)∧(0:Int)≤(i:Int)∧Sf w ((((W.setCell ⟨g,i*4,none⟩ (.int .i64 x.state)).setCell ⟨g,i*4+1,none⟩ (.int .i64 x.owner)).setCell ⟨g,i*4+2,none⟩ (.int .i64 x.value)).setCell ⟨g,i*4+3,none⟩ (q.val)) l v {L with on:=L.on.set i (x,q)} {s with onces:=s.onces.set i x}∧Touch [g] W ((((W.setCell ⟨g,i*4,none⟩ (.int .i64 x.state)).setCell ⟨g,i*4+1,none⟩ (.int .i64 x.owner)).setCell ⟨g,i*4+2,none⟩ (.int .i64 x.value)).setCell ⟨g,i*4+3,none⟩ (q.val))∧W.frozen? ⟨g,i*4,none⟩=false∧(∃y,W.cell? ⟨g,i*4,none⟩=some y)∧W.frozen? ⟨g,i*4+1,none⟩=false∧(∃y,W.cell? ⟨g,i*4+1,none⟩=some y)∧W.frozen? ⟨g,i*4+2,none⟩=false∧(∃y,W.cell? ⟨g,i*4+2,none⟩=some y)∧W.frozen? ⟨g,i*4+3,none⟩=false∧(∃y,W.cell? ⟨g,i*4+3,none⟩=some y):=by
 obtain⟨g,eg,-,-⟩:=owns_at h.st.on (by rw[h.st.non];omega)
 have own:=h.st.on
 rw[show v.on.val= .slice (some ⟨g,0,none⟩) v.on.n v.on.c by rw[←eg]] at own
 have hP:=h.st.put_on eg i hi (x:=x) (q:=q) hq
 have hm:g∈v.blks:=StV.mem_on (by rw[eg];rfl)
 have hn:=h.st.non
 exact⟨g,eg,hm,by omega,by omega,h.upd (hP.2.mono (fun k hk=>by obtain rfl:=xS1 hk;exact hm)) hP.1,hP.2,own.frozenAt _,owns_some own _ (by omega),own.frozenAt _,owns_some own _ (by omega),own.frozenAt _,owns_some own _ (by omega),own.frozenAt _,owns_some own _ (by omega)⟩
theorem Sf.putf_gr {w W:World} {l:List It} {v:StV} {L:StL} {s:StD} (h:Sf w W l v L s) {i:Nat} (hi:i<s.groups.length) {x:GrpD} {q:SlV} (hq:grpR (foots l++v.blks) W x q):∃g:Nat,v.gr.a=some ⟨g,0,none⟩∧g∈v.blks∧(i:Int)<(v.gr.n:Int)∧(0:Int)≤(i:Int)∧Sf w ((W.setCell ⟨g,i*2,none⟩ (.int .i64 x.count)).setCell ⟨g,i*2+1,none⟩ (q.val)) l v {L with gr:=L.gr.set i (x,q)} {s with groups:=s.groups.set i x}∧Touch [g] W ((W.setCell ⟨g,i*2,none⟩ (.int .i64 x.count)).setCell ⟨g,i*2+1,none⟩ (q.val))∧W.frozen? ⟨g,i*2,none⟩=false∧(∃y,W.cell? ⟨g,i*2,none⟩=some y)∧W.frozen? ⟨g,i*2+1,none⟩=false∧(∃y,W.cell? ⟨g,i*2+1,none⟩=some y):=by
 obtain⟨g,eg,-,-⟩:=owns_at h.st.gr (by rw[h.st.ngr];omega)
 have own:=h.st.gr
 rw[show v.gr.val= .slice (some ⟨g,0,none⟩) v.gr.n v.gr.c by rw[←eg]] at own
 have hP:=h.st.put_gr eg i hi (x:=x) (q:=q) hq
 have hm:g∈v.blks:=StV.mem_gr (by rw[eg];rfl)
 have hn:=h.st.ngr
 exact⟨g,eg,hm,by omega,by omega,h.upd (hP.2.mono (fun k hk=>by obtain rfl:=xS1 hk;exact hm)) hP.1,hP.2,own.frozenAt _,owns_some own _ (by omega),own.frozenAt _,owns_some own _ (by omega)⟩
theorem Sf.putf_ba {w W:World} {l:List It} {v:StV} {L:StL} {s:StD} (h:Sf w W l v L s) {i:Nat} (hi:i<s.bars.length) {x:BarD} {q:SlV} (hq:barR (foots l++v.blks) W x q):∃g:Nat,v.ba.a=some ⟨g,0,none⟩∧g∈v.blks∧(i:Int)<(v.ba.n:Int)∧(0:Int)≤(i:Int)∧Sf w (((W.setCell ⟨g,i*3,none⟩ (.int .i64 x.parties)).setCell ⟨g,i*3+1,none⟩ (.int .i64 x.round)).setCell ⟨g,i*3+2,none⟩ (q.val)) l v {L with ba:=L.ba.set i (x,q)} {s with bars:=s.bars.set i x}∧Touch [g] W (((W.setCell ⟨g,i*3,none⟩ (.int .i64 x.parties)).setCell ⟨g,i*3+1,none⟩ (.int .i64 x.round)).setCell ⟨g,i*3+2,none⟩ (q.val))∧W.frozen? ⟨g,i*3,none⟩=false∧(∃y,W.cell? ⟨g,i*3,none⟩=some y)∧W.frozen? ⟨g,i*3+1,none⟩=false∧(∃y,W.cell? ⟨g,i*3+1,none⟩=some y)∧W.frozen? ⟨g,i*3+2,none⟩=false∧(∃y,W.cell? ⟨g,i*3+2,none⟩=some y):=by
 obtain⟨g,eg,-,-⟩:=owns_at h.st.ba (by rw[h.st.nba];omega)
 have own:=h.st.ba
 rw[show v.ba.val= .slice (some ⟨g,0,none⟩) v.ba.n v.ba.c by rw[←eg]] at own
 have hP:=h.st.put_ba eg i hi (x:=x) (q:=q) hq
 have hm:g∈v.blks:=StV.mem_ba (by rw[eg];rfl)
 have hn:=h.st.nba
 exact⟨g,eg,hm,by omega,by omega,h.upd (hP.2.mono (fun k hk=>by obtain rfl:=xS1 hk;exact hm)) hP.1,hP.2,own.frozenAt _,owns_some own _ (by omega),own.frozenAt _,owns_some own _ (by omega),own.frozenAt _,owns_some own _ (by omega)⟩
theorem Sf.putf_ch {w W:World} {l:List It} {v:StV} {L:StL} {s:StD} (h:Sf w W l v L s) {i:Nat} (hi:i<s.chans.length) {x:ChnD} {q:SlV×SlV×SlV} (hq:chnR (foots l++v.blks) W x q):∃g:Nat,v.ch.a=some ⟨g,0,none⟩∧g∈v.blks∧(i:Int)<(v.ch.n:Int)∧(0:Int)≤(i:Int)∧Sf w (((((W.setCell ⟨g,i*5,none⟩ (.int .i64 x.room)).setCell ⟨g,i*5+1,none⟩ (q.1.val)).setCell ⟨g,i*5+2,none⟩ (q.2.1.val)).setCell ⟨g,i*5+3,none⟩ (q.2.2.val)).setCell ⟨g,i*5+4,none⟩ (.bool x.closed)) l v {L with ch:=L.ch.set i (x,q)} {s with chans:=s.chans.set i x}∧Touch [g] W (((((W.setCell ⟨g,i*5,none⟩ (.int .i64 x.room)).setCell ⟨g,i*5+1,none⟩ (q.1.val)).setCell ⟨g,i*5+2,none⟩ (q.2.1.val)).setCell ⟨g,i*5+3,none⟩ (q.2.2.val)).setCell ⟨g,i*5+4,none⟩ (.bool x.closed))∧W.frozen? ⟨g,i*5,none⟩=false∧(∃y,W.cell? ⟨g,i*5,none⟩=some y)∧W.frozen? ⟨g,i*5+1,none⟩=false∧(∃y,W.cell? ⟨g,i*5+1,none⟩=some y)∧W.frozen? ⟨g,i*5+2,none⟩=false∧(∃y,W.cell? ⟨g,i*5+2,none⟩=some y)∧W.frozen? ⟨g,i*5+3,none⟩=false∧(∃y,W.cell? ⟨g,i*5+3,none⟩=some y)∧W.frozen? ⟨g,i*5+4,none⟩=false∧(∃y,W.cell? ⟨g,i*5+4,none⟩=some y):=by
 obtain⟨g,eg,-,-⟩:=owns_at h.st.ch (by rw[h.st.nch];omega)
 have own:=h.st.ch
 rw[show v.ch.val= .slice (some ⟨g,0,none⟩) v.ch.n v.ch.c by rw[←eg]] at own
 have hP:=h.st.put_ch eg i hi (x:=x) (q:=q) hq
 have hm:g∈v.blks:=StV.mem_ch (by rw[eg];rfl)
 have hn:=h.st.nch
 exact⟨g,eg,hm,by omega,by omega,h.upd (hP.2.mono (fun k hk=>by obtain rfl:=xS1 hk;exact hm)) hP.1,hP.2,own.frozenAt _,owns_some own _ (by omega),own.frozenAt _,owns_some own _ (by omega),own.frozenAt _,owns_some own _ (by omega),own.frozenAt _,owns_some own _ (by omega),own.frozenAt _,owns_some own _ (by omega)⟩
end Go.Proofs.YtjmpejaifmopnaaGreat
