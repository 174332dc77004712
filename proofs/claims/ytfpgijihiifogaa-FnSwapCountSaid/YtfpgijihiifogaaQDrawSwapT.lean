/- Part of a proof: DrawSwapT. -/
import Derived.Test.YtfpgijihiifogaaQRL8T
set_option maxRecDepth 100000
set_option maxHeartbeats 16000000
namespace Go.Proofs.Ytfpgijihiifogaa
open Go.RowKit
theorem drawSwapTrace_any (a : Option Addr) (n c : Nat) (bs : List Int) (w : World) (hC : Code13 w a n c bs) :
  Calls Try.prog 5 #[.slice a n c] w fun e w' => ∃ (a2 : Option Addr) (m c2 : Nat) (xs : List Int) (x y : Nat), e = .returned (.tuple #[.slice a2 m c2, .int .i64 x, .int .i64 y]) ∧ w'.ownsRow w.heap.size 3 1 (.slice a2 m c2) m (ints xs) ∧ m ≤ 16 ∧ Below w.heap.size w w' := by
 have HC := xH1 hC
 clear hC
 go_enter Try.func5, Try.ntmps5
 go_wp2_with fail
 refine (l8Trace_any a n c bs w HC.out).mono ?_
 rintro e w1 ⟨v, vs, p, a2, m, c2, xs, rfl, -, ow, hm, b1⟩
 have b2 : Below w1.heap.size w1 (w1.alloc (.cells #[.slice v.s v.ns v.cs, .slice v.g v.ng v.cg, .slice v.b v.nb v.cb, .slice v.r v.nr v.cr, .slice v.t v.nt v.ct] 31)) := xA1
 have HC2 := xH1 ((HC.out.below b1).below b2)
 have O2 := owns_below ow b2
 have hb := b1.trans (b2.mono b1.size)
 clear ow b1 b2 HC
 go_wp2_with fail
 refine HC2.out.open.mono ?_
 rintro e w2 ⟨rfl, n', bs', r2, b2, s2⟩
 have hq := fun q h => (owns_row O2 q h).2
 have O3 := owns_below O2 b2
 have hb2 := hb.trans (b2.mono hb.size)
 have hs := hb.size
 generalize (w1.alloc (.cells #[.slice v.s v.ns v.cs, .slice v.g v.ng v.cg, .slice v.b v.nb v.cb, .slice v.r v.nr v.cr, .slice v.t v.nt v.ct] 31)).heap.size = R at *
 clear O2 b2 HC2 hb
 go_wp2_with fail
 refine (pick_some R a n' c bs' 0 3 w2 r2 (by omega) (by omega)).mono ?_
 rintro e w3 ⟨x, rfl, hx, r3, g3, -⟩
 have O4 := owns_grown O3 g3 (fun q h1 h3 => by have := hq q h1; cases h3; omega)
 go_wp2_with fail
 refine (pick_some R a n' c bs' _ 3 w3 r3 (by omega) (by omega)).mono ?_
 rintro e w4 ⟨y, rfl, hy, r4, g4, -⟩
 have O5 := owns_grown O4 g4 (fun q h1 h3 => by have := hq q h1; cases h3; omega)
 go_wp2
 refine bodyPost_ret (v := .tuple #[.slice a2 m c2, .int .i64 x, .int .i64 y]) (by simp [results, Try.results5, go_sem]) rfl ⟨a2, m, c2, xs, x, y, rfl, O5, hm, hb2.trans (below_of_grown (grown_trans g3 g4) hb2.size (fun i e => by cases e; omega))⟩
end Go.Proofs.Ytfpgijihiifogaa
