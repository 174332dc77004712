/- The law FnExactHasCircle: its walk. -/
import Derived.Test.YtklbjnphfpjgeaaEdgesLaw
import Derived.Test.YtklbjnphfpjgeaaSpecCircle
import Derived.Test.YtklbjnphfpjgeaaImplCircle
namespace Go.Proofs.Ytklbjnphfpjgeaa
open Go.RowKit

set_option maxHeartbeats 1000000 in
theorem circleLaw (n c1 : Nat) (a1 : Option Addr) (xs : List (Int × Int)) (w : World) (hl1 : xs.length = n) (h1 : Rd w a1 (edges xs)) (hn : n ≤ maxLen) :
    Calls Try.prog 6 #[.slice a1 n c1] w fun e w' => e = .returned (.bool true) ∧ Below w.heap.size w w' := by
  have HL1 := Lib.hid hl1
  clear hl1
  by_cases hc1 : (1048576 : Int) < n
  · go_enter Try.func6, Try.ntmps6
    go_wp2_with fail
    refine (szEdgeS_far a1 n c1 _ _ hn (by omega) (by omega) hc1).mono ?_
    rintro e w1 ⟨rfl, rfl⟩
    go_wp2
    go_ret
    exact ⟨rfl, Below.refl _ _⟩
  · have hn0 : ¬ (1048576 : Int) - n < 0 := by omega
    go_enter Try.func6, Try.ntmps6
    go_wp2_with fail
    refine (szEdgeS_near a1 n c1 _ _ hn (by omega) (by omega) (by omega)).mono ?_
    rintro e w1 ⟨rfl, rfl⟩
    go_wp2_with fail
    refine (toEdgeS_any n c1 a1 xs _ HL1.out (by omega) h1).mono ?_
    rintro e w1 ⟨p1, q1, rfl, o1, b1⟩
    have B1 := b1
    go_wp2_with fail
    refine (specCircle_any p1 n q1 xs _ (by omega) HL1.out (Rd.of_owns o1)).mono ?_
    rintro e w2 ⟨rfl, b2⟩
    have B2 := B1.trans (b2.mono B1.size)
    replace o1 := owns_below o1 b2
    clear o1
    go_wp2_with fail
    refine (toEdgeS_any n c1 a1 xs _ HL1.out (by omega) (h1.below B2)).mono ?_
    rintro e w3 ⟨p3, q3, rfl, o3, b3⟩
    have B3 := B2.trans (b3.mono B2.size)
    go_wp2_with fail
    refine (implCircle_any p3 n q3 xs _ (by omega) HL1.out (Rd.of_owns o3)).mono ?_
    rintro e w4 ⟨rfl, b4⟩
    have B4 := B3.trans (b4.mono B3.size)
    replace o3 := owns_below o3 b4
    go_wp2_with fail
    refine (toEdgeS_any n c1 a1 xs _ HL1.out (by omega) (h1.below B4)).mono ?_
    rintro e w5 ⟨p5, q5, rfl, o5, b5⟩
    have B5 := B4.trans (b5.mono B4.size)
    replace o3 := owns_below o3 b5
    go_wp2_with fail
    refine (eqEdgeS_yes p3 p5 n q3 q5 xs _ (by omega) HL1.out (Rd.of_owns o3) (Rd.of_owns o5)).mono ?_
    rintro e w6 ⟨rfl, b6⟩
    have B6 := B5.trans (b6.mono B5.size)
    replace o3 := owns_below o3 b6
    replace o5 := owns_below o5 b6
    go_wp2
    go_ret
    exact ⟨rfl, B6⟩

end Go.Proofs.Ytklbjnphfpjgeaa
