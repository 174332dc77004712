/- Part of a proof: RunS. -/
import Derived.Test.YtfclolgfegdfjaaGreatVRunV
import Derived.Test.YtfclolgfegdfjaaGreatVGoD
import Derived.Test.YtfclolgfegdfjaaGreatVEqZ
set_option maxRecDepth 100000
set_option maxHeartbeats 16000000
namespace Go.Proofs.YtfclolgfegdfjaaGreat
open Go.RowKit
variable {s:zp} {p:Pg} {tr:List Int}
theorem tJ:X5 zS:=⟨jk,jk,jk,jk,jk,jk,jk,jk,λi=>by simp[zS,yi],λi=>by simp[zS,zH],λi=>by simp[zS,yH],λi=>by simp[zS,ye],λi=>by simp[zS,yq]⟩
theorem Zm {o:Option (zp×List Int)} (h:o.isSome=true):o=some ((qN o).1,(qN o).2):=by
 cases o with
 |none=>cases h
 |some x=>rfl
theorem Yg {ch:zp->List Int->Option Int} {o:Option (zp×List Int)} (h:o=xn p ch) (hs:(qN o).1=s) (ht:(qN o).2=tr):X5 s/\tr.length<=100:=by
 subst hs ht
 cases o with
 |none=>exact⟨tJ,jk⟩
 |some x=>
  obtain⟨s,tr⟩:=x;exact⟨(vN h.symm).2.fits.sm.e,(QB h.symm).2.1⟩
theorem dX {o:Option (zp×List Int)} (h:∀r,o=some r->(zD p=true/\xF p r.1)/\r.2.length<=100) (hs:(qN o).1=s) (ht:(qN o).2=tr):X5 s/\tr.length<=100:=by
 subst hs ht
 cases o with
 |none=>exact⟨tJ,jk⟩
 |some x=>exact⟨(h x rfl).1.2.fits.sm.e,(h x rfl).2⟩
theorem Yw {T:List Int} {r:zp×List Int} (h:xx p T=some r):zD p=true/\xF p r.1:=by
 obtain⟨-,-,hv,g⟩:=xf (s:=r.1) (U:=r.2) h;exact⟨hv,uA T (xF.start hv) g⟩
theorem Up {T:List Int} {o:Option (zp×List Int)} (h:o=xx p T) (hs:(qN o).1=s) (ht:(qN o).2=tr):X5 s/\tr.length<=100:=
 dX (p:=p) (λr e=>⟨Yw (h.symm.trans e),by have:=xf (s:=r.1) (U:=r.2) (h.symm.trans e);rw[this.1];exact this.2.1⟩) hs ht
theorem UG {T:List Int} {r:zp×List Int} (h:qL p T=some r):xn p (qo T)=some r:=by
 unfold qL at h;split at h
 ·exact h
 ·cases h
theorem Qr {T:List Int} {r:zp×List Int} (h:qL p T=some r):zD p=true/\xF p r.1:=vN (UG h)
theorem gx {T:List Int} {o:Option (zp×List Int)} (h:o=qL p T) (hs:(qN o).1=s) (ht:(qN o).2=tr):X5 s/\tr.length<=100:=
 dX (p:=p) (λr e=>⟨Qr (h.symm.trans e),(QB (s:=r.1) (tr:=r.2) (UG (h.symm.trans e))).2.1⟩) hs ht
end Go.Proofs.YtfclolgfegdfjaaGreat
