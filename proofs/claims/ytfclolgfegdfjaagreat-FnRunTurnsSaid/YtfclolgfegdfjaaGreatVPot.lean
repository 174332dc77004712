/- Part of a proof: Pot. -/
import Derived.Test.YtfclolgfegdfjaaGreatVGoD
set_option maxRecDepth 100000
set_option maxHeartbeats 16000000
namespace Go.Proofs.YtfclolgfegdfjaaGreat
open Go.RowKit
variable {s:zp} {i:Nat} {p:Pg} {t:Int}
def YF (x:Int):Int:=if x=1\/x=2 then 1 else 0
theorem VQ (x:Int):0<=YF x/\YF x<=1:=by unfold YF;split<;>omega
theorem QC {x:Int} (h:x=0\/x=3):YF x=0:=by unfold YF;rw[if_neg jq]
theorem tF {x:Int} (h:x=1\/x=2):YF x=1:=by unfold YF;rw[if_pos h]
def QH (s:zp):Nat->Int
 |0=>0
 |n+1=>QH s n+(2*s.places.getD n 0+YF (s.status.getD n 0))
theorem kF {s':zp} (h:ZE p s t s') (hf:s'.fault=0):∀n,n<=p.threads.length->QH s n+(if t.toNat<n then 1 else 0)<=QH s' n
 |0,_=>by simp[QH]
 |n+1,hn=>by
  have ih:=kF h hf n jq;have h0:=VQ (s.status.getD n 0);show QH s n+(2*s.places.getD n 0+YF (s.status.getD n 0))+_<=QH s' n+(2*s'.places.getD n 0+YF (s'.status.getD n 0));rcases h n jq with ⟨a,b,c⟩|⟨a,b,c⟩|⟨a,b,c,d⟩
  ·have:t.toNat≠n:=λe=>c e hf;rw[a,b];split at ih<;>split<;>omega
  ·rw[a,QC b];split at ih<;>split<;>omega
  ·rw[b,c,tF d,QC (.inl rfl)];split at ih<;>split<;>omega
theorem dD (h:yp p s):∀n,n<=p.threads.length->QH s n<=17*n
 |0,_=>by simp[QH]
 |n+1,hn=>by
  have ih:=dD h n jq;have h0:=VQ (s.status.getD n 0);have h1:s.places.getD n 0<=8:=h.places8 _ (by
   rw[xm,xV (by rw[h.np];omega)];exact List.getElem_mem _)
  show QH s n+(2*s.places.getD n 0+YF (s.status.getD n 0))<=_;omega
theorem Dd:∀(T:List Int) {s x:zp},xF p s->qz p s T=some x->x.fault=0->QH s p.threads.length+T.length<=QH x p.threads.length
 |[],s,x,_,g,_=>by
  obtain rfl:=Option.some.inj g;simp
 |t::T,s,x,hr,g,hf=>by
  unfold qz at g;split at g
  ·next ht=>
   have h1:=hr.stepS (hr.fits.turn ht);have ih:=Dd T h1.1 g hf;have h2:(zJ p s t).fault=0:=by
    cases T with
    |nil=>obtain rfl:=Option.some.inj g;exact hf
    |cons u T=>
     unfold qz at g;split at g
     ·next hu=>exact(mem_ready hu).1
     ·cases g
   have h3:=kF h1.2 h2 p.threads.length yk;have h4:=(hr.fits.turn ht).rg;rw[if_pos jq] at h3;rw[List.length_cons];omega
  ·cases g
theorem Dk {T:List Int} {x:zp} (hv:zD p=true) (g:qz p (zI p) T=some x) (hf:x.fault=0):T.length<=68:=by
 have hr:=xF.start hv;have h1:=Dd T hr g hf;have h2:=dD (uA T hr g).fits _ yk;have h3:=(vM hv).2;have h4:∀n,0<=QH (zI p) n:=λn=>by
  induction n with
  |zero=>exact Int.le_refl _
  |succ n ih=>
   have h0:=VQ ((zI p).status.getD n 0);have h5:0<=(zI p).places.getD n 0:=(hr.fits.place_le n).1;show 0<=QH (zI p) n+(2*(zI p).places.getD n 0+YF ((zI p).status.getD n 0));omega
 have:=h4 p.threads.length;omega
theorem kH (hi:i<p.threads.length):∀(T:List Int) {s x:zp},xF p s->qz p s T=some x->x.places.getD i 0+YF (x.status.getD i 0)<=s.places.getD i 0+YF (s.status.getD i 0)+T.count (i:Int)
 |[],s,x,_,g=>by
  obtain rfl:=Option.some.inj g;simp
 |t::T,s,x,hr,g=>by
  unfold qz at g;split at g
  ·next ht=>
   have h1:=hr.stepS (hr.fits.turn ht);have ih:=kH hi T h1.1 g;have h4:=(hr.fits.turn ht).rg;have h0:=VQ (s.status.getD i 0);have hc:T.count (i:Int)<=(t::T).count (i:Int)/\(t.toNat=i->(t::T).count (i:Int)=T.count (i:Int)+1):=by
    refine⟨List.count_le_count_cons ..,λe=> ?_⟩;rw[show t=(i:Int) by omega,List.count_cons_self]
   rcases h1.2 i hi with ⟨a,b,c⟩|⟨a,b,c⟩|⟨a,b,c,d⟩
   ·rw[a,b] at ih;omega
   ·rw[a,QC b] at ih;rcases c with c|c
    ·have:=hc.2 c;omega
    ·rw[tF (.inl c)] at h0⊢;omega
   ·have:=hc.2 a;rw[b,tF d] at ih;rw[c,QC (.inl rfl)] at h0⊢;omega
  ·cases g
theorem dk {T:List Int} {x:zp} (hv:zD p=true) (g:qz p (zI p) T=some x) (hi:i<p.threads.length) (hd:x.status.getD i 0=3):(vJ p i).length<=T.count (i:Int):=by
 have hr:=xF.start hv;have h1:=kH hi T hr g;have h2:=(uA T hr g).fits.th i hi;have h3:=hr.fits.th i hi;unfold JF at h2 h3;rw[Int.toNat_natCast] at h2 h3;have h5:(zI p).places.getD i 0=0:=by
  show(p.threads.map λ_=>(0:Int)).getD i 0=0;rw[YL (λ_=>(0:Int)) p.threads [] 0 hi]
 have h6:YF ((zI p).status.getD i 0)=0:=by
  refine QC ?_;show(p.threads.map λt=>if t.length=0 then (3:Int) else 0).getD i 0=0\/(p.threads.map λt=>if t.length=0 then (3:Int) else 0).getD i 0=3;rw[YL (λt=>if t.length=0 then (3:Int) else 0) p.threads [] 0 hi];split
  ·exact .inr rfl
  ·exact .inl rfl
 rw[h5,h6,hd,QC (.inr rfl)] at h1;rcases h2.2.2 with ⟨a,-⟩|⟨-,⟨b,-⟩|⟨b,-⟩|⟨b,-⟩⟩
 ·omega
 ·omega
 ·omega
 ·omega
end Go.Proofs.YtfclolgfegdfjaaGreat
