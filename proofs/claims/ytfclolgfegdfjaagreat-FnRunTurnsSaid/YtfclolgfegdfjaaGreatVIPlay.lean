/- Part of a proof: IPlay. -/
import Derived.Test.YtfclolgfegdfjaaGreatVIRw
set_option maxRecDepth 100000
set_option maxHeartbeats 16000000
namespace Go.Proofs.YtfclolgfegdfjaaGreat
open Go.RowKit
variable {s:zp} {p:Pg} {tr:List Int}
theorem KL (T:List Int) (B N c0:Nat) (a0:uQ) (w:World) (p:Pg) (hb:w.cell? ⟨B,0,none⟩=some (.slice a0 N c0)) (hT:Rd w a0 (zf T)) (f0:T.length=N) (hN:N<=100):Qx w 43 #[.pointer (some ⟨B,0,none⟩)] p (jW T) (λtr=>tr.length<=N):=by
 intro v L s a b n c m d tr W d0 hs hr hl g0 hJ i0 hm h0 j0;show Calls Tryz.prog 43 #[.agg (rC v a n c),.slice b m d,.pointer (some ⟨B,0,none⟩)] W _;have F:=(Fr.start W).alloc (rC v a n c) 40;have cr:=F.c10 0 rfl;have HB:=zd F.bel;have hc:=ze HB.o (ze d0 hb);have HT:=zd ((hT.below d0).below HB.o);have HL:=zd hl;have b0:=zd f0;clear hs hr i0 hm j0 h0 hb hT d0 hl f0 F;replace hJ:tr.length<=N:=hJ;go_enter Tryz.func43,Tryz.ntmps43;by_cases hn:n=N
 ·have t1:((n:Int)==(N:Int))=true:=by simp;omega
  have HN:=zd hn;clear hn;go_wp2;exact zM (v:= .tuple #[uy 0,.bool false]) (by simp[results,Tryz.results43,go_sem]) rfl ⟨by unfold jW;rw[if_pos (by rw[HL.o,b0.out,HN.o])];rfl,HB.o⟩
 ·have t1:((n:Int)==(N:Int))=false:=by simp;omega
  have k0:n<N:=by have:=HL.o;omega
  obtain⟨b1,o1,rfl,g'⟩:=HT.o.int (jQ b0.out);have g:World.cell? _ ⟨b1,o1+n,none⟩=some (uy (T.getD n 0)):=g' n (jQ b0.out);have l0:(0:Int)<=(n:Int):=jq;have l1:(n:Int)<(N:Int):=jq;obtain⟨x,hx⟩:=jy (T.getD n 0);rw[<-hx] at g;have HX:=zd hx;have HN:=zd hn;clear hx g' hn;go_wp2;exact zM (v:= .tuple #[uy x,.bool true]) (by simp[results,Tryz.results43,go_sem]) rfl ⟨by unfold jW;rw[HL.o,b0.out,if_neg HN.o,HX.o];rfl,HB.o⟩
theorem gm {T:List Int} (hT:T.length<=100) (h:xg p (jW T) 101 (zI p) []=some (s,tr)):tr.length<=100:=by
 have key:∀(n:Nat) (s0:zp) (t0:List Int),xg p (jW T) n s0 t0=some (s,tr)->t0.length<=T.length->tr.length<=T.length:=by
  intro n
  induction n with
  |zero=>intro s0 t0 h;cases h
  |succ n ih=>
   intro s0 t0 h hl;unfold xg at h;split at h
   ·obtain⟨-,rfl⟩:=Prod.mk.inj (Option.some.inj h);exact hl
   ·next t e=>
    split at h
    ·refine ih _ _ h ?_;unfold jW at e;split at e
     ·cases e
     ·next hq=>rw[xp];show t0.length+1<=T.length;omega
    ·cases h
 exact Nat.le_trans (key 101 _ _ h (Nat.zero_le _)) hT
theorem jA (u:PV) (p:Pg) (a0:uQ) (N c0:Nat) (T:List Int) (w:World) (hp:yK w u p) (hz:xH u p) (hT:Rd w a0 (zf T)) (hl:T.length=N) (hN:N<=1048576):
  Calls Tryz.prog 16 #[.agg (zF u),.slice a0 N c0] w (De (xx p T) w):=by
 have HP:=zd hp;have HZ:=zd hz;have F:=(((Fr.start w).alloc (zF u) 26).alloc #[.slice a0 N c0] 23).alloc yS 40;simp only[yY] at F;have HT:=zd (hT.below F.bel);have HL:=zd hl;have cp:=F.c5 2 rfl;have ct:=F.cell 1 0 rfl rfl;clear hp hz hT hl;by_cases i0:100<N
 ·have t1:decide ((100:Int)<(N:Int))=true:=xK jq;have b0:uH (xx p T=none):=zd (if_neg (jQ HL.o));go_enter Tryz.func16,Tryz.ntmps16;go_wp2;exact zM (v:= .tuple #[.agg yS,.bool false]) (by simp[results,Tryz.results16,go_sem,F.c10 0 rfl]) rfl ⟨F.bel,.inl ⟨b0.out,rfl⟩⟩
 have t1:decide ((100:Int)<(N:Int))=false:=xr jq;go_enter Tryz.func16,Tryz.ntmps16;go_wp2_with fail
 cases hv:zD p with
 |false=>
  have b0:uH (xx p T=none):=zd (by unfold xx xn;rw[hv];simp);have HV:=zd hv;clear hv;refine(XK u p _ _ (HP.o.below F.bel) HZ.o HV.o).mono ?_;rintro e w1 ⟨rfl,hb⟩;have F1:=F.call hb;clear F hb cp ct;have cz:=F1.c10 0 rfl;have F0:=F1.setY 0 rfl;go_wp2;exact zM (v:= .tuple #[.agg yS,.bool false]) (by simp[results,Tryz.results16,go_sem,F0.c10 0 rfl]) rfl ⟨F0.bel,.inl ⟨b0.out,rfl⟩⟩
 |true=>
  have HW:uH (xx p T=xg p (jW T) 101 (zI p) []):=zd (by unfold xx xn;rw[if_pos (jQ HL.o),if_pos hv]);have HV:=zd hv;clear hv;refine(XG u p _ 43 #[.pointer (some ⟨w.heap.size+1,0,none⟩)] (jW T) (HP.o.below F.bel) HV.o (λ_ _=>rfl) (λtr=>tr.length<=N) (Nat.zero_le _) (λs tr t h1 h2=> ?_) (KL T _ N c0 a0 _ p ct HT.o HL.o jq) (λs tr h1 h2=>if_pos (by have:=HL.o;replace h1:tr.length<=N:=h1;omega))).mono ?_
  ·replace h1:tr.length<=N:=h1;show(tr++[t]).length<=N;have:=HL.o;unfold jW at h2;split at h2
   ·cases h2
   ·next hq=>rw[xp];show tr.length+1<=N;omega
  rintro e w1 ⟨hb,⟨hn,rfl⟩|⟨s,tr,v,L,a,c,d0,rfl,ho,hr⟩⟩
  ·have b0:=zd (HW.o.trans hn);have F1:=F.call hb;clear F hb hn cp ct;have cz:=F1.c10 0 rfl;have F0:=F1.setY 0 rfl;go_wp2;exact zM (v:= .tuple #[.agg yS,.bool false]) (by simp[results,Tryz.results16,go_sem,F0.c10 0 rfl]) rfl ⟨F0.bel,.inl ⟨b0.out,rfl⟩⟩
  have h0:=zd (HW.o.trans d0);have HR:=zd hr;have g0:=zd (gm (jQ HL.o) d0);have HN:=zd (yz.lower ho.nw F.bel.size);have G:=Sf.gainR F hb ho.tr ho.st ho.nw;have f0:=zd ((ho.inn.lower F.bel.size).set (G.fr.blk 1 rfl) ⟨jk,jk,jk⟩ (((((((((((zo.refl _ _).set (j:=0) (v:= .slice v.pl.a v.pl.n v.pl.c) yl).set (j:=1) (v:= .slice v.st.a v.st.n v.st.c) yl).set (j:=2) (v:= .slice v.se.a v.se.n v.se.c) yl).set (j:=3) (v:= .slice v.on.a v.on.n v.on.c) yl).set (j:=4) (v:= .slice v.gr.a v.gr.n v.gr.c) yl).set (j:=5) (v:= .slice v.ba.a v.ba.n v.ba.c) yl).set (j:=6) (v:= .slice v.ch.a v.ch.n v.ch.c) yl).set (j:=7) (v:= .slice v.sa.a v.sa.n v.sa.c) yl).set (j:=8) (v:=uy v.fl) yl).set (j:=9) (v:= .slice a tr.length c) yl));clear hb d0 ho hr F cp ct;have cz:=G.fr.c10 1 rfl;have G2:=G.setR 1 rfl v a tr.length c;go_wp2;exact zM (v:= .tuple #[.agg (rC v a tr.length c),.bool true]) (by simp[results,Tryz.results16,go_sem,G2.fr.c10 1 rfl]) rfl ⟨G2.bel,.inr ⟨p,s,tr,v,L,a,c,h0.out,g0.out,rfl,⟨G2.st.sub λq hq=>yW (.inl hq),HN.o,G2.fr.own 0 rfl,f0.out⟩,HR.o⟩⟩
end Go.Proofs.YtfclolgfegdfjaaGreat
