/- Part of a proof: RunV. -/
import Derived.Test.YtfclolgfegdfjaaGreatVRRun
import Derived.Test.YtfclolgfegdfjaaGreatVIRw
set_option maxRecDepth 100000
set_option maxHeartbeats 16000000
namespace Go.Proofs.YtfclolgfegdfjaaGreat
open Go.RowKit
variable {w w':World} {s:zp} {B k c:Nat} {a:uQ} {v:zu} {L:zQ} {p:Pg} {q:zP} {S:List Nat} {cs:uZ} {tr:List Int}
theorem yc.kept {S':List Nat} (h:yc S w q cs k) (hn:jT B cs q) (T:zo S' w w') (hS:∀k∈S',k<B):yc S w' q cs k:=by
 refine⟨h.len,?_,h.far,h.cap⟩;rcases h.rd with h0|⟨b,o,e,hc⟩
 ·exact .inl h0
 ·rcases hn with h0|hf
  ·exact .inl h0
  ·exact .inr ⟨b,o,e,λj hj=>zZ T (hc j hj) (λhb=>by have:=hf b (by rw[e];rfl);have:=hS b hb;omega)⟩
theorem Jb.keep {B':Nat} (h:Jb B w v L a c s tr) (T:zo S w w') (hS:∀k∈S,k<B) (hB:B'<=B):Jb B' w' v L a c s tr:=by
 have ow:∀{e:TypeId} {sz n c:Nat} {a:uQ} {cs:uZ},w.ownsRow B e sz (.slice a n c) n cs->w'.ownsRow B' e sz (.slice a n c) n cs:=λh=>zw (zE h T λk hk hm=>by have:=(zy h k hk).1;have:=hS k hm;omega) hB;refine⟨⟨ow h.st.pl,h.st.npl,ow h.st.st,h.st.nst,ow h.st.se,h.st.nse,ow h.st.on,h.st.non,ow h.st.gr,h.st.ngr,ow h.st.ba,h.st.nba,ow h.st.ch,h.st.nch,ow h.st.sa,h.st.nsa,h.st.fl,h.st.dps,h.st.dpa,h.st.dsa,λk hk=>⟨Nat.lt_of_lt_of_le (h.st.xs k hk).1 T.size,(h.st.xs k hk).2⟩,⟨⟨h.st.inn.se.e,λz hz=>yc.kept (h.st.inn.se.r z hz) (h.nw.se z hz) T hS⟩,⟨h.st.inn.on.e,λz hz=>yc.kept (h.st.inn.on.r z hz) (h.nw.on z hz) T hS⟩,⟨h.st.inn.gr.e,λz hz=>yc.kept (h.st.inn.gr.r z hz) (h.nw.gr z hz) T hS⟩,⟨h.st.inn.ba.e,λz hz=>yc.kept (h.st.inn.ba.r z hz) (h.nw.ba z hz) T hS⟩,⟨h.st.inn.ch.e,λz hz=>⟨yc.kept (h.st.inn.ch.r z hz).1 (h.nw.ch z hz).1 T hS,yc.kept (h.st.inn.ch.r z hz).2.1 (h.nw.ch z hz).2.1 T hS,yc.kept (h.st.inn.ch.r z hz).2.2 (h.nw.ch z hz).2.2 T hS⟩⟩⟩⟩,h.nw.lower hB,ow h.tr,⟨λi hi=> ?_,h.inn.ap⟩⟩;have hh:=h.inn.has i hi;have hk:=It.keep hh λk hk=>T.block k (It.inside hh k hk).2 λhm=>by have:=(It.inside hh k hk).1;have:=hS k hm;omega
 obtain⟨a,n,c,E,sz,xs,rfl,-⟩:=fO hi;exact zw (show w'.ownsRow B E sz (.slice a n c) n xs from hk) hB
def zS:zp:=⟨[],[],[],[],[],[],[],[],0⟩
def zV:zu:=⟨zR,zR,zR,zR,zR,zR,zR,zR,0⟩
def zL:zQ:=⟨[],[],[],[],[]⟩
theorem Jb.zero (w:World):Jb w.heap.size w zV zL none 0 zS []:=
 ⟨⟨jf _ _ _ _,rfl,jf _ _ _ _,rfl,jf _ _ _ _,rfl,jf _ _ _ _,rfl,jf _ _ _ _,rfl,jf _ _ _ _,rfl,jf _ _ _ _,rfl,jf _ _ _ _,rfl,rfl,λ_ h=>by(cases h),λ_ h=>by(cases h),λ_ h=>by(cases h),λ_ h=>by(cases h),⟨⟨rfl,λ_ h=>by(cases h)⟩,⟨rfl,λ_ h=>by(cases h)⟩,⟨rfl,λ_ h=>by(cases h)⟩,⟨rfl,λ_ h=>by(cases h)⟩,⟨rfl,λ_ h=>by(cases h)⟩⟩⟩,yz.nil _,jf _ _ _ _,⟨λi hi=>by
  have e:i= .row none 0 0 3 1 []:=by
   rcases List.mem_cons.1 hi with rfl|hi
   ·rfl
   rcases List.mem_cons.1 hi with rfl|hi
   ·rfl
   rcases List.mem_cons.1 hi with rfl|hi
   ·rfl
   rcases List.mem_cons.1 hi with rfl|hi
   ·rfl
   cases hi
  subst e;exact jf _ _ _ _,List.nodup_nil⟩⟩
def qN (o:Option (zp×List Int)):zp×List Int:=o.getD (zS,[])
theorem Yc {o:Option (zp×List Int)} {e:Ending} {b:Bool} (h:Vz o w [] e w') (hb:o.isSome=b) (hs:(qN o).1=s) (ht:(qN o).2=tr):∃(v:zu) (L:zQ) (a:uQ) (c:Nat),e= .returned (.tuple #[.agg (rC v a tr.length c),.bool b])/\xW w w'/\yZ w' v L s/\Rd w' a (zf tr):=by
 subst hb hs ht;rcases h with ⟨rfl,rfl,F⟩|⟨s,tr,v,L,a,c,rfl,rfl,h⟩
 ·exact⟨zV,zL,none,0,rfl,F.bel,(Jb.zero w').st.rd,.inl rfl⟩
 ·exact⟨v,L,a,c,rfl,h.fr.bel,h.st.rd,h.fr.rdRow 0 rfl⟩
theorem ud {o:Option (zp×List Int)} {e:Ending} {b:Bool} (h:De o w e w') (hb:o.isSome=b) (hs:(qN o).1=s) (ht:(qN o).2=tr):∃(v:zu) (L:zQ) (a:uQ) (c:Nat),e= .returned (.tuple #[.agg (rC v a tr.length c),.bool b])/\xW w w'/\Jb w.heap.size w' v L a c s tr/\tr.length<=100:=by
 subst hb hs ht;obtain⟨hb,⟨rfl,rfl⟩|⟨p,s,tr,v,L,a,c,rfl,hl,rfl,h,hr⟩⟩:=h
 ·exact⟨zV,zL,none,0,rfl,hb,(Jb.zero w').keep (zo.refl [] _) jv hb.size,jk⟩
 ·exact⟨v,L,a,c,rfl,hb,h,hl⟩
theorem KE {ch:zp->List Int->Option Int}:∀(n:Nat) (s:zp) (tr:List Int) (r:zp×List Int),xF p s->xg p ch n s tr=some r->xF p r.1
 |0,_,_,_,_,h=>by cases h
 |n+1,s,tr,r,hr,h=>by
  unfold xg at h;split at h
  ·obtain rfl:=Option.some.inj h;exact hr
  ·split at h
   ·next t _ ht=>exact KE n _ _ r (hr.step (hr.fits.turn ht)) h
   ·cases h
theorem vN {ch:zp->List Int->Option Int} {r:zp×List Int} (h:xn p ch=some r):zD p=true/\xF p r.1:=by
 unfold xn at h;split at h
 ·next hv=>exact⟨hv,KE _ _ _ r (xF.start hv) h⟩
 ·cases h
end Go.Proofs.YtfclolgfegdfjaaGreat
