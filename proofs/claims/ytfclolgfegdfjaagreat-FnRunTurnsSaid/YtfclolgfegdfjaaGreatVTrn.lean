/- Part of a proof: Trn. -/
import Derived.Deep.RegionHeld3
import Derived.Deep.AppendLies
import Derived.Test.YtfclolgfegdfjaaGreatVFst
set_option maxRecDepth 100000
set_option maxHeartbeats 16000000
namespace Go.Proofs.YtfclolgfegdfjaaGreat
open Go.RowKit
variable {s:zp} {k j:Nat} {p:Pg} {tr:List Int}
theorem fp {ch:zp->List Int->Option Int}:∀(n:Nat) (s:zp) (A:List Int) (r:zp×List Int),xg p ch n s A=some r->∃B,r.2=A++B/\∀i,i<B.length->∀y,qz p s (B.take i)=some y->ch y (A++B.take i)=some (B.getD i 0)
 |0,_,_,_,h=>by cases h
 |n+1,s,A,r,h=>by
  unfold xg at h;split at h
  ·obtain rfl:=Option.some.inj h;exact⟨[],jv,λi hi=>by simp at hi⟩
  ·next t e=>
   split at h
   ·next ht=>
    obtain⟨B,e1,g⟩:=fp n _ _ r h;refine⟨t::B,by rw[e1];simp,λi hi y hy=> ?_⟩
    cases i with
    |zero=>
     obtain rfl:=Option.some.inj hy;simpa using e
    |succ i=>
     rw[List.take_succ_cons] at hy⊢;unfold qz at hy;rw[if_pos ht] at hy;simpa using g i (by simpa using hi) y hy
   ·cases h
theorem DA (s:zp):(zq s).Pairwise λa b=>a<b:=by
 unfold zq;split
 ·exact List.Pairwise.map _ (λa b h=>Int.ofNat_lt.2 h) (List.pairwise_lt_range.filter _)
 ·exact .nil
theorem VH {x:Int}:∀{l:List Int},ja x l=none->∀t∈l,t<x
 |[],_,t,h=>by cases h
 |y::l,h,t,ht=>by
  unfold ja at h;split at h
  ·cases h
  ·rcases List.mem_cons.1 ht with rfl|ht
   ·omega
   ·exact VH h t ht
theorem Ko {x:Int}:∀{l:List Int} {t:Int},ja x l=some t->x<=t
 |[],_,h=>by cases h
 |y::l,t,h=>by
  unfold ja at h;split at h
  ·next hy=>obtain rfl:=Option.some.inj h;exact hy
  ·exact Ko h
theorem pV:∀{l:List Int} {t:Int},l.Pairwise (λa b=>a<b)->(∀x∈l,x<t+1)->l.length≠0->l.getD 0 0=t->l.length=1
 |[],_,_,_,h,_=>absurd rfl h
 |[_],_,_,_,_,_=>rfl
 |a::b::l,t,h,h1,_,h2=>by
  have e:a=t:=h2;have h3:=(List.pairwise_cons.1 h).1 b jv;have h4:=h1 b jv;omega
theorem DU {T:List Int} (h:k<T.length):T.take (k+1)=T.take k++[T.getD k 0]:=by
 rw[List.take_succ_eq_append_getElem h,xm,xV h];rfl
theorem Dc {y:zp} (h:xn p (xh true)=some (s,tr)) (hj:j+1<tr.length) (he:tr.getD (j+1) 0=tr.getD j 0) (hy:qz p (zI p) (tr.take (j+1))=some y):(zq y).length=1:=by
 unfold xn at h;split at h
 ·obtain⟨B,e,k⟩:=fp 101 _ [] _ h;obtain rfl:tr=B:=by simpa using e
  have c:=k (j+1) hj y hy;unfold xh at c;split at c
  ·cases c
  ·next hn=>
   replace c:=Option.some.inj c;rw[if_pos rfl,qZ,DU jq,Qn,he] at c
   cases e2:ja (tr.getD j 0+1) (zq y) with
   |some t=>
    rw[e2] at c;have h1:=Ko e2;have h2:t=tr.getD j 0:=c;omega
   |none=>
    rw[e2] at c;exact pV (DA y) (VH e2) (λe0=>hn (.inl e0)) c
 ·cases h
theorem dS {b:Bool} (h:xn p (xh b)=some (s,tr)) (i:Int):xx p (tr++[i])=none:=by
 have h0:=List.eq_nil_of_length_eq_zero (UD h);rw[VV,Jr,(QB h).2.2];split
 ·show(Option.map _ (qz p s [i]))=none;unfold qz;rw[if_neg (by rw[h0];simp)];rfl
 ·rfl
end Go.Proofs.YtfclolgfegdfjaaGreat
