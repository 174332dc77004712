/- Part of a proof: IRw. -/
import Derived.Test.YtfclolgfegdfjaaGreatVPRunC
import Derived.Test.YtfclolgfegdfjaaGreatVPIRunC
set_option maxRecDepth 100000
set_option maxHeartbeats 16000000
namespace Go.Proofs.YtfclolgfegdfjaaGreat
open Go.RowKit
def De (o:Option (zp×List Int)) (w:World) (e:Ending) (w':World):Prop:=xW w w'/\((o=none/\e= .returned (.tuple #[.agg yS,.bool false]))\/∃(p:Pg) (s:zp) (tr:List Int) (v:zu) (L:zQ) (a:uQ) (c:Nat),o=some (s,tr)/\tr.length<=100/\e= .returned (.tuple #[.agg (rC v a tr.length c),.bool true])/\Jb w.heap.size w' v L a c s tr/\xF p s)
theorem XK (u:PV) (p:Pg) (w:World) (g:Value) (hp:yK w u p) (hz:xH u p) (hv:zD p=false):
  Calls Tryz.prog 42 #[.agg (zF u),g] w λe w'=>e= .returned (.tuple #[.agg yS,.bool false])/\xW w w':=by
 have HP:=zd hp;have HV:=zd hv;have HZ:=zd hz;clear hp hv hz;have F:=((Fr.start w).alloc (zF u) 26).alloc yS 40;simp only[yY] at F;have cp:=F.c5 1 rfl;go_enter Tryz.func42,Tryz.ntmps42;go_wp2_with fail;refine(tW u p _ (HP.o.below F.bel) HZ.o HV.o).mono ?_;rintro e w1 ⟨rfl,hb⟩;have F1:=(F.call hb).alloc zC 38;clear F hb cp;go_upto_region 2 with fail;obtain⟨W1,hw,F2⟩:=F1.named;rw[<-hw];clear hw F1;have c10:=F2.c10 1 rfl;have F3:=F2.setY 1 rfl;go_wp2;exact zM (v:= .tuple #[.agg yS,.bool false]) (by simp[results,Tryz.results42,go_sem,F3.c10 1 rfl]) rfl ⟨rfl,F3.bel⟩
end Go.Proofs.YtfclolgfegdfjaaGreat
