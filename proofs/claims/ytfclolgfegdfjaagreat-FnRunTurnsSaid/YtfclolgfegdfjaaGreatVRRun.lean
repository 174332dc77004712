/- Part of a proof: RRun. -/
import Derived.Test.YtfclolgfegdfjaaGreatVPRunC
import Derived.Test.YtfclolgfegdfjaaGreatVPRA
set_option maxRecDepth 100000
set_option maxHeartbeats 16000000
namespace Go.Proofs.YtfclolgfegdfjaaGreat
open Go.RowKit
abbrev Qu (w:World) (M:Nat) (v:zu) (a:uQ) (n c:Nat) (tr:List Int) (u:PV):List It:=[.blk M (yN v) 38,.row a n c 3 1 (zf tr),.blk (w.heap.size+1) yS 40,.blk w.heap.size (zF u) 26]
theorem Xa (v:zu) (a:uQ) (n c:Nat) (w:World):(Instr.build 40 #[(0,v.val),(1,.slice a n c)]).run Tryz.prog w= .ok (.agg (rC v a n c)) w:=run_build w 40 _ _ (by kernel_rfl)
theorem gk (u:PV) (p:Pg) (v:zu) (L:zQ) (s:zp) (t:Int) (w:World) (hp:yK w u p) (hr:yZ w v L s) (hf:yp p s) (ht:t∉zq s):
  Calls Tryz.prog 41 #[.agg (zF u),v.val,uy t] w λe w'=>e= .returned (.tuple #[.agg zC,.bool false])/\xW w w':=by
 have HS:=zd hr;have HP:=zd hp;have HF:=zd hf;have r8:(zq s).length<=8:=by
  have h1:=hf.nst;have h2:=(yf hf.prog).2.2.2.2.1;rw[vh];split
  ·have:=vW s s.status.length;omega
  ·simp
 have a0:yO (zq s) t= -1:=uJ ht;have F:=(((Fr.start w).alloc (zF u) 26).alloc (yN v) 38).alloc zC 38;simp only[yY] at F;clear hp hr hf ht;go_enter Tryz.func41,Tryz.ntmps41;go_upto_region 1 with fail;obtain⟨W,hw,F⟩:=F.named;rw[<-hw];clear hw;have cs:=F.c9 1 rfl;have cp:=F.c5 2 rfl;go_wp2_with fail;refine(Xt u p v L s _ (HP.o.below F.bel) (HS.o.below F.bel) HF.o).mono ?_;rintro e w1 ⟨a1,c1,rfl,ho,hb⟩;replace F:=F.row hb ho;clear hb ho cs cp;go_wp2_with fail;refine(jM a1 _ c1 (zq s) t _ rfl (by unfold maxLen;omega) (F.rdRow 0 rfl)).mono ?_;rintro e wz ⟨rfl,hw⟩;obtain rfl:=hw;rw[a0];have cz:=F.c9 1 rfl;have F2:=F.setZ 1 rfl;go_wp2;exact zM (v:= .tuple #[.agg zC,.bool false]) (by simp[results,Tryz.results41,go_sem,F2.c9 1 rfl]) rfl ⟨rfl,F2.bel⟩
def Vz (o:Option (zp×List Int)) (w0:World) (l0:List It) (e:Ending) (w':World):Prop:=(o=none/\e= .returned (.tuple #[.agg yS,.bool false])/\Fr w0 w' l0)\/∃(s:zp) (tr:List Int) (v:zu) (L:zQ) (a:uQ) (c:Nat),o=some (s,tr)/\e= .returned (.tuple #[.agg (rC v a tr.length c),.bool true])/\Sf w0 w' (.row a tr.length c 3 1 (zf tr)::l0) v L s
end Go.Proofs.YtfclolgfegdfjaaGreat
