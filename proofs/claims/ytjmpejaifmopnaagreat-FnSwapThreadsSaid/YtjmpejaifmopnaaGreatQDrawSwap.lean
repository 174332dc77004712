/- Part of a proof: DrawSwap. -/
import Derived.Test.YtjmpejaifmopnaaGreatQBaseD
set_option maxRecDepth 100000
set_option maxHeartbeats 16000000
namespace Go.Proofs.YtjmpejaifmopnaaGreat
open Go.RowKit Go.Sort
theorem drawSwapThreads_any (a:Option Addr) (n c:Nat) (bs:List Int) (w:World) (hC:Code13 w a n c bs):
  Calls Tryz.prog 4 #[.slice a n c] w fun e w'=>∃(v:PV) (vs:List Value) (p:Pg) (x y:Int),e= .returned (.tuple #[.agg #[.slice v.s v.ns v.cs,.slice v.g v.ng v.cg,.slice v.b v.nb v.cb,.slice v.r v.nr v.cr,.slice v.t v.nt v.ct],.int .i64 x,.int .i64 y])∧(-1≤x∧x≤4∧-1≤y∧y≤3)∧Own w' w.heap.size v vs p 10∧Below w.heap.size w w':=by
 have b0:Below w.heap.size w (w.alloc (.cells #[.slice none 0 0,.slice none 0 0,.slice none 0 0,.slice none 0 0,.slice none 0 0] 26)):=xA1
 have k0:Blk (w.alloc (.cells #[.slice none 0 0,.slice none 0 0,.slice none 0 0,.slice none 0 0,.slice none 0 0] 26)) w.heap.size #[.slice none 0 0,.slice none 0 0,.slice none 0 0,.slice none 0 0,.slice none 0 0] 26:=Blk.new _ _ _
 have s0:(w.alloc (.cells #[.slice none 0 0,.slice none 0 0,.slice none 0 0,.slice none 0 0,.slice none 0 0] 26)).heap.size=w.heap.size+1:=by simp
 have hC0:=hC.below b0
 go_enter Tryz.func4,Tryz.ntmps4
 go_wp2_with fail
 refine(l11Case_any a n c bs _ hC0).mono ?_
 rintro e w1 ⟨v,vs,p,x,y,rfl,hxy,o1,b1⟩
 have k1:=k0.below b1
 have hz:=b1.size
 rw[s0] at hz o1
 have HO:=xH1 o1
 have HXY:=xH1 hxy
 have HB1:=xH1 (b0.trans (b1.mono b0.size))
 clear b0 k0 b1 hC hC0 o1 s0 hxy
 have y0:=k1.cell 0 rfl
 have x0:=k1.fz 0
 have y1:=k1.cell 1 rfl
 have x1:=k1.fz 1
 have y2:=k1.cell 2 rfl
 have x2:=k1.fz 2
 have y3:=k1.cell 3 rfl
 have x3:=k1.fz 3
 have y4:=k1.cell 4 rfl
 have x4:=k1.fz 4
 have hz5:w1.grownBy ((((((w1).setCell ⟨w.heap.size,0,none⟩ (.slice v.s v.ns v.cs)).setCell ⟨w.heap.size,1,none⟩ (.slice v.g v.ng v.cg)).setCell ⟨w.heap.size,2,none⟩ (.slice v.b v.nb v.cb)).setCell ⟨w.heap.size,3,none⟩ (.slice v.r v.nr v.cr)).setCell ⟨w.heap.size,4,none⟩ (.slice v.t v.nt v.ct)) (some (w.heap.size)):=grown_trans (grown_trans (grown_trans (grown_trans (grown_set _ _ _ _) (grown_set _ _ _ _)) (grown_set _ _ _ _)) (grown_set _ _ _ _)) (grown_set _ _ _ _)
 have HZ5:=xH1 hz5
 clear hz5
 go_wp2
 refine bodyPost_ret (v:= .tuple #[.agg #[.slice v.s v.ns v.cs,.slice v.g v.ng v.cg,.slice v.b v.nb v.cb,.slice v.r v.nr v.cr,.slice v.t v.nt v.ct],.int .i64 x,.int .i64 y]) (by simp[results,Tryz.results4,go_sem,y0,y1,y2,y3,y4]) rfl ⟨v,vs,p,x,y,rfl,HXY.out,(HO.out.gr HZ5.out (by omega)).mono (by omega),HB1.out.trans (below_of_grown HZ5.out (by omega) (fun i e=>by cases e;omega))⟩
end Go.Proofs.YtjmpejaifmopnaaGreat
