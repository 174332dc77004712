/- Part of a proof: IRdT. -/
import Derived.Test.YtfclolgfegdfjaaGreatVPIFit
set_option maxRecDepth 100000
set_option maxHeartbeats 16000000
namespace Go.Proofs.YtfclolgfegdfjaaGreat
open Go.RowKit
theorem Xu (u:PV) (p:Pg) (v:zu) (L:zQ) (s:zp) (w:World) (hp:yK w u p) (hr:yZ w v L s) (hf:yp p s):
  Calls Tryz.prog 17 #[.agg (zF u),v.val] w λe w'=>∃(a:uQ) (c:Nat),e= .returned (.slice a (zq s).length c)/\w'.ownsRow w.heap.size 3 1 (.slice a (zq s).length c) (zq s).length (zf (zq s))/\xW w w':=by
 have HS:=zd hr;have HP:=zd hp;have HF:=zd hf;have N8:uH (s.status.length<=8):=zd (by have h1:=hf.nst;have h2:=(yf hf.prog).2.2.2.2.1;omega);clear hr hp hf;have F:=((Fr.start w).alloc (zF u) 26).alloc (yN v) 38;simp only[yY] at F;have cs:=F.c9 0 rfl;have cp:=F.c5 1 rfl;go_enter Tryz.func17,Tryz.ntmps17;go_wp2_with fail;refine(qE u p v L s _ (HP.o.below F.bel) (HS.o.below F.bel) HF.o).mono ?_;rintro e w1 ⟨rfl,hb⟩;replace F:=F.call hb;replace cs:=F.c9 0 rfl;replace cp:=F.c5 1 rfl;clear hb;go_wp2_with fail;refine(uY v L s _ (HS.o.below F.bel) N8.o).mono ?_;rintro e w2 ⟨a1,c1,rfl,ho,hb⟩;have HO:=zd (zw ho F.bel.size);have HB:=zd (F.call hb).bel;clear F hb cs cp ho;go_wp2;exact zM (v:= .slice a1 (zq s).length c1) (by simp[results,Tryz.results17,go_sem]) rfl ⟨_,_,rfl,HO.o,HB.o⟩
end Go.Proofs.YtfclolgfegdfjaaGreat
