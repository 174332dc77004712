/- Part of a proof: ICount. -/
import Derived.Test.YtfclolgfegdfjaaGreatVRunV
import Derived.Test.YtfclolgfegdfjaaGreatVGoD
import Derived.Test.YtfclolgfegdfjaaGreatVIPlay
set_option maxRecDepth 100000
set_option maxHeartbeats 16000000
namespace Go.Proofs.YtfclolgfegdfjaaGreat
open Go.RowKit
variable {k:Nat}
theorem fZ {T:List Int} (h:k<T.length) (i:Int):(T.take (k+1)).count i=(T.take k).count i+if T.getD k 0=i then 1 else 0:=by
 rw[show T.take (k+1)=T.take k++[T.getD k 0] by rw[List.take_succ_eq_append_getElem h,xm,xV h];rfl,List.count_append,List.count_singleton];simp[beq_iff_eq]
theorem V5 (u:PV) (p:Pg) (a:uQ) (n c:Nat) (T:List Int) (s:zp) (w:World) (hp:yK w u p) (hz:xH u p) (hr:Rd w a (zf T)) (hl:T.length=n) (c0:xx p T=some (s,T)):
  Calls Tryz.prog 25 #[.agg (zF u),.slice a n c] w λe w'=>∃(a':uQ) (c':Nat) (l:List Int),e= .returned (.tuple #[.slice a' u.nt c',.bool true])/\w'.ownsRow w.heap.size 3 1 (.slice a' u.nt c') u.nt (zf l)/\l.length=u.nt/\(∀i:Nat,i<u.nt->l.getD i 0=(T.count (i:Int):Int))/\xW w w':=by
 have F:=(Fr.start w).alloc (zF u) 26;have HP:=zd hp;have HR:=zd hr;have HZ:=zd hz;have HL:=zd hl;have q0:=zd c0;have hn:n<=100:=by have:=(xf c0).2.1;omega
 have x0:=hp.lt;have F0:u.nt<=16:=by have:=(yf (xf c0).2.2.1).2.2.2.2.1;omega
 have r0:uH (∀k,k<n->0<=T.getD k 0/\T.getD k 0<u.nt):=zd (λk hk=>by
  obtain⟨y,hy,g⟩:=Zk c0 k;rw[List.drop_eq_getElem_cons jq] at g;unfold qz at g;split at g
  ·next ht=>
   have:=((uA (T.take k) (xF.start (xf c0).2.2.1) (xf hy).2.2.2).fits.turn ht).rg;rw[xm,xV jq];show 0<=T[k]/\T[k]<_;omega
  ·cases g)
 clear hp hr hz hl c0 x0;obtain⟨i0,s0,y0,z0,A0⟩:=info_parts yb;have E0:∀w',(Instr.makeSlice 23 (uy (u.nt:Nat)) (uy (u.nt:Nat))).run Tryz.prog w'= .ok (.slice (some ⟨w'.heap.size,0,none⟩) u.nt u.nt) (w'.alloc (.cells (madeCells #[uy 0] u.nt) 3)):=λw'=>by
  have:=run_make (P:=Tryz.prog) w' 23 3 i0 (uy 0) Tryz.underlying23 s0 y0 .i64 .i64 (u.nt:Nat) (u.nt:Nat) jq jq (by rw[A0];omega) jq;rw[z0,show(Value.int .i64 0).cells= #[uy 0] from rfl] at this;simpa using this
 have m0:(madeCells #[uy 0] u.nt).toList=zf (List.replicate u.nt 0):=by rw[toList_madeCells_one];simp[zf]
 have p0:=zd m0;clear m0;have q:=F.c5 0 rfl;go_enter Tryz.func25,Tryz.ntmps25;go_wp2_with fail;refine(jA u p a n c T _ (HP.o.below F.bel) HZ.o (HR.o.below F.bel) HL.o jq).mono ?_;rintro e w1 hq;rw[q0.out] at hq;obtain⟨hb,⟨h,-⟩|⟨p2,s2,B0,x,M,ax,cx,h,-,rfl,hx,-⟩⟩:=hq
 ·cases h
 have F1:=((F.call hb).alloc (rC x ax B0.length cx) 40).sub (l':=[.blk w.heap.size (zF u) 26]) (.cons _ (.refl _));clear hb F q h hx;go_upto_region 2 with fail;obtain⟨W1,hW,F1⟩:=F1.named;rw[<-hW];clear hW;have q:=F1.c5 0 rfl;have b0:(W1.alloc (.cells (madeCells #[uy 0] u.nt) 3)).ownsRow w.heap.size 3 1 (.slice (some ⟨W1.heap.size,0,none⟩) u.nt u.nt) u.nt (zf (List.replicate u.nt 0)):=by
  have h:=World.ownsRow_lit (base:=w.heap.size) (e:=3) (size:=1) W1 (madeCells #[uy 0] u.nt) u.nt F1.bel.size (by unfold maxLen;omega) (by simp[madeCells]);rw[p0.out] at h;exact h
 have h0:=F1.bel.alloc F1.bel.size (.cells (madeCells #[uy 0] u.nt) 3);have k0:=F1.bel.size;clear F1;go_wp2;obtain⟨B,hB⟩:=jy W1.heap.size;rw[<-hB] at b0 k0⊢;clear hB
 go_loopw [25] (λi wr=>∃(k:Nat) (l:List Int),k<=n/\i=uy k/\wr.ownsRow w.heap.size 3 1 (.slice (some ⟨B,0,none⟩) u.nt u.nt) u.nt (zf l)/\l.length=u.nt/\uH (∀i:Nat,i<u.nt->l.getD i 0=((T.take k).count (i:Int):Int))/\xW w wr) (λi _=>n-(intOf i).toNat)
 case atStart=>exact⟨0,List.replicate u.nt 0,jq,rfl,b0,jv,zd (λi hi=>by simp[hi]),h0⟩
 case round=>
  clear b0 h0 q;obtain⟨k,l,hk,rfl,ho,l0,a0,hb⟩:=hrel;by_cases v0:k<n
  ·obtain⟨b1,o1,rfl,g'⟩:=HR.o.int (jQ HL.o);have g:=ze hb (g' k (jQ HL.o));obtain⟨t0,t1⟩:=r0.out k v0;obtain⟨x,hx⟩:∃x:Nat,T.getD k 0=x:=⟨(T.getD k 0).toNat,jq⟩
   rw[hx] at g t0 t1;have HX:=zd hx;have o0:x<u.nt:=jq;have i0:(0:Int)<=(k:Int):=jq;have i1:(k:Int)<(n:Int):=jq;obtain⟨y,hy⟩:=jy (l.getD x 0);have hc:wr.cell? ⟨B,x,none⟩=some (uy y):=by
    rw[ho.cellAt x jq,hy];simp[zf,List.getD,show x<l.length by omega]
   have C0:=ho.frozenAt x;obtain⟨n0,-⟩:=vR ho x (uy (y+1)) (show(zf l).set x (uy (y+1))=zf (l.set x (y+1)) by simp[zf,List.map_set]);have j0:xW w (wr.setCell ⟨B,x,none⟩ (uy (y+1))):=hb.setCell k0 _;have g0:=zd n0;have d0:=zd j0;have H0:y<=1000:=by
    have h1:=a0.out x o0;have h2:=List.count_le_length (a:=(x:Int)) (l:=T.take k);rw[jO] at h2;omega
   have G0:0<=y:=by have h1:=a0.out x o0;omega
   have f0:uH (∀i:Nat,i<u.nt->(l.set x (y+1)).getD i 0=((T.take (k+1)).count (i:Int):Int)):=zd (λi hi=>by
    rw[fZ (jQ HL.o),HX.o,jo];by_cases e:i=x
    ·subst e;rw[if_pos ⟨rfl,jq⟩,if_pos rfl,hy,a0.out i hi];omega
    ·rw[if_neg (λh=>e h.1),if_neg jq,a0.out i hi];omega)
   have u0:(l.set x (y+1)).length=u.nt:=by rw[List.length_set];exact l0
   clear hb ho n0 j0 hy a0;go_wp2
   go_roundw
   case rel=>exact⟨k+1,_,jq,by go_num,g0.out,u0,f0,d0.out⟩
   case measure=>exact uq
  ·have D0:¬((k:Int)<(n:Int)):=jq;have g0:=zd ho;have d0:=zd hb;rw[Jh (jQ HL.o)] at a0;clear ho hb;go_wp2;exact zM (v:= .tuple #[.slice (some ⟨B,0,none⟩) u.nt u.nt,.bool true]) (by simp[results,Tryz.results25,go_sem]) rfl ⟨_,_,rfl,l,g0.out,l0,a0.out,d0.out⟩
end Go.Proofs.YtfclolgfegdfjaaGreat
