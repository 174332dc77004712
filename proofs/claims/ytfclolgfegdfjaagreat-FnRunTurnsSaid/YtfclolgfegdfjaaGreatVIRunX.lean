/- Part of a proof: IRunX. -/
import Derived.Test.YtfclolgfegdfjaaGreatVIRw
import Derived.Test.YtfclolgfegdfjaaGreatVIRun
set_option maxRecDepth 100000
set_option maxHeartbeats 16000000
namespace Go.Proofs.YtfclolgfegdfjaaGreat
open Go.RowKit
variable {p:Pg}
theorem Ki {x:Int}:∀(l:List Int),uv x l=ja (x+1) l
 |[]=>rfl
 |t::l=>by
  unfold uv ja;rw[Ki l];by_cases h:x<t
  ·rw[if_pos h,if_pos jq]
  ·rw[if_neg h,if_neg jq]
theorem fx:Yk=xh false:=by
 funext s tr;unfold Yk xh;split<;>rfl
theorem tv {x:Int} {l:List Int} (h:l.length≠0) (h0:∀t∈l,x<=t):ja x l=some (l.getD 0 0):=by
 cases l with
 |nil=>exact absurd rfl h
 |cons a l=>unfold ja;rw[if_pos (h0 a jv)];rfl
theorem fy:Yf=xh true:=by
 funext s tr;unfold Yf xh tc Xe;split
 ·rfl
 ·next hn=>
  congr 1;show _=(ja _ (zq s)).getD _;split
  ·rw[tv jq λt ht=>(by obtain⟨-,i,rfl,-,-⟩:=mem_ready ht;omega)];rfl
  ·rw[Ki]
theorem UW (u:PV) (p:Pg) (w:World) (hp:yK w u p) (hz:xH u p) (hv:zD p=false):
  Calls Tryz.prog 19 #[.agg (zF u)] w λe w'=>e= .returned (.tuple #[.agg yS,.bool false])/\xW w w':=by
 have HP:=zd hp;have HV:=zd hv;have HZ:=zd hz;clear hp hv hz;have F:=((Fr.start w).alloc (zF u) 26).alloc yS 40;simp only[yY] at F;have cp:=F.c5 1 rfl;go_enter Tryz.func19,Tryz.ntmps19;go_wp2_with fail;refine(XK u p _ _ (HP.o.below F.bel) HZ.o HV.o).mono ?_;rintro e w1 ⟨rfl,hb⟩;have F2:=F.call hb;clear F hb cp;have c10:=F2.c10 0 rfl;have F3:=F2.setY 0 rfl;go_wp2;exact zM (v:= .tuple #[.agg yS,.bool false]) (by simp[results,Tryz.results19,go_sem,F3.c10 0 rfl]) rfl ⟨rfl,F3.bel⟩
theorem Um {ch:zp->List Int->Option Int} (a0:∀s tr,100<=tr.length->ch s tr=none) {r:zp×List Int} (h:xg p ch 101 (zI p) []=some r):r.2.length<=100:=by
 have key:∀(n:Nat) (s:zp) (tr:List Int),xg p ch n s tr=some r->tr.length<=100->r.2.length<=100:=by
  intro n
  induction n with
  |zero=>intro s tr h;cases h
  |succ n ih=>
   intro s tr h hl;unfold xg at h;split at h
   ·obtain rfl:=Option.some.inj h;exact hl
   ·next t e=>
    split at h
    ·refine ih _ _ h ?_;have:tr.length<100:=Nat.lt_of_not_le λh1=>by rw[a0 s tr h1] at e;cases e
     rw[xp];show tr.length+1<=100;omega
    ·cases h
 exact key 101 _ _ h jv
theorem Xx (u:PV) (p:Pg) (w:World) (hp:yK w u p) (hz:xH u p):
  Calls Tryz.prog 19 #[.agg (zF u)] w (De (xn p (xh false)) w):=by
 cases hv:zD p with
 |true=>
  refine(UZ u p w hp hv).mono ?_;rintro e w' ⟨hb,s,tr,v,L,a,c,hw,rfl,ho,hr⟩;refine⟨hb,.inr ⟨p,s,tr,v,L,a,c,?_,Um Qp hw,rfl,ho,hr⟩⟩;unfold xn;rw[if_pos hv,<-fx];exact hw
 |false=>
  refine(UW u p w hp hz hv).mono ?_;rintro e w' ⟨rfl,hb⟩;exact⟨hb,.inl ⟨by unfold xn;rw[hv];rfl,rfl⟩⟩
theorem Kk (u:PV) (p:Pg) (w:World) (hp:yK w u p) (hz:xH u p) (hv:zD p=false):
  Calls Tryz.prog 22 #[.agg (zF u)] w λe w'=>e= .returned (.tuple #[.agg yS,.bool false])/\xW w w':=by
 have HP:=zd hp;have HV:=zd hv;have HZ:=zd hz;clear hp hv hz;have F:=((Fr.start w).alloc (zF u) 26).alloc yS 40;simp only[yY] at F;have cp:=F.c5 1 rfl;go_enter Tryz.func22,Tryz.ntmps22;go_wp2_with fail;refine(XK u p _ _ (HP.o.below F.bel) HZ.o HV.o).mono ?_;rintro e w1 ⟨rfl,hb⟩;have F2:=F.call hb;clear F hb cp;have c10:=F2.c10 0 rfl;have F3:=F2.setY 0 rfl;go_wp2;exact zM (v:= .tuple #[.agg yS,.bool false]) (by simp[results,Tryz.results22,go_sem,F3.c10 0 rfl]) rfl ⟨rfl,F3.bel⟩
theorem Yj (u:PV) (p:Pg) (w:World) (hp:yK w u p) (hz:xH u p):
  Calls Tryz.prog 22 #[.agg (zF u)] w (De (xn p (xh true)) w):=by
 cases hv:zD p with
 |true=>
  refine(Kq u p w hp hv).mono ?_;rintro e w' ⟨hb,s,tr,v,L,a,c,hw,rfl,ho,hr⟩;refine⟨hb,.inr ⟨p,s,tr,v,L,a,c,?_,Um Qo hw,rfl,ho,hr⟩⟩;unfold xn;rw[if_pos hv,<-fy];exact hw
 |false=>
  refine(Kk u p w hp hz hv).mono ?_;rintro e w' ⟨rfl,hb⟩;exact⟨hb,.inl ⟨by unfold xn;rw[hv];rfl,rfl⟩⟩
end Go.Proofs.YtfclolgfegdfjaaGreat
