/- Part of a proof: Draws2. -/
import Derived.Test.YtppoohbkkdgljaaVBaseD
set_option maxRecDepth 100000
set_option maxHeartbeats 16000000
namespace Go.Proofs.Ytppoohbkkdgljaa
open Go.RowKit Go.Sort
theorem zfv (a : Option Addr) (n c : Nat) (bs : List Int) (w : World) (hC : zdT w a n c bs) :
  Calls Try.prog 4 #[.slice a n c] w fun e w' => ∃ (v : PV) (vs : List Value) (p : Pg), e = .returned (.agg #[.slice v.s v.ns v.cs, .slice v.g v.ng v.cg, .slice v.b v.nb v.cb, .slice v.r v.nr v.cr, .slice v.t v.nt v.ct]) ∧ Own w' w.heap.size v vs p 10 ∧ Below w.heap.size w w' := by
 have b0 : Below w.heap.size w (w.alloc (.cells #[.slice none 0 0, .slice none 0 0, .slice none 0 0, .slice none 0 0, .slice none 0 0] 26)) := xA1
 have k0 : Blk (w.alloc (.cells #[.slice none 0 0, .slice none 0 0, .slice none 0 0, .slice none 0 0, .slice none 0 0] 26)) w.heap.size #[.slice none 0 0, .slice none 0 0, .slice none 0 0, .slice none 0 0, .slice none 0 0] 26 := Blk.new _ _ _
 have s0 : (w.alloc (.cells #[.slice none 0 0, .slice none 0 0, .slice none 0 0, .slice none 0 0, .slice none 0 0] 26)).heap.size = w.heap.size + 1 := by simp
 have hC0 := hC.below b0
 go_enter Try.func4, Try.ntmps4
 go_wp2_with fail
 refine (zi0 a n c bs _ hC0).mono ?_
 rintro e w1 ⟨v, vs, p, rfl, o1, b1⟩
 have k1 := k0.below b1
 have hz := b1.size
 rw [s0] at hz o1
 have HO := xH1 o1
 have HB1 := xH1 (b0.trans (b1.mono b0.size))
 clear b0 k0 b1 hC hC0 o1 s0
 have y0 := k1.cell 0 rfl
 have x0 := k1.fz 0
 have y1 := k1.cell 1 rfl
 have x1 := k1.fz 1
 have y2 := k1.cell 2 rfl
 have x2 := k1.fz 2
 have y3 := k1.cell 3 rfl
 have x3 := k1.fz 3
 have y4 := k1.cell 4 rfl
 have x4 := k1.fz 4
 have hz5 : w1.grownBy ((((((w1).setCell ⟨w.heap.size, 0, none⟩ (.slice v.s v.ns v.cs)).setCell ⟨w.heap.size, 1, none⟩ (.slice v.g v.ng v.cg)).setCell ⟨w.heap.size, 2, none⟩ (.slice v.b v.nb v.cb)).setCell ⟨w.heap.size, 3, none⟩ (.slice v.r v.nr v.cr)).setCell ⟨w.heap.size, 4, none⟩ (.slice v.t v.nt v.ct)) (some (w.heap.size)) := zh (zh (zh (zh (zo _ _ _ _) (zo _ _ _ _)) (zo _ _ _ _)) (zo _ _ _ _)) (zo _ _ _ _)
 have HZ5 := xH1 hz5
 clear hz5
 go_wp2
 refine bodyPost_ret (v := .agg #[.slice v.s v.ns v.cs, .slice v.g v.ng v.cg, .slice v.b v.nb v.cb, .slice v.r v.nr v.cr, .slice v.t v.nt v.ct]) (by simp [results, Try.results4, go_sem, y0, y1, y2, y3, y4]) rfl ⟨v, vs, p, rfl, (HO.out.gr HZ5.out (by omega)).mono (by omega), HB1.out.trans (z8 HZ5.out (by omega) (fun i e => by cases e; omega))⟩
end Go.Proofs.Ytppoohbkkdgljaa
