/- The law FnExactEdgesSame: its walk. -/
import Derived.Test.YtklbjnphfpjgeaaEdgeS
namespace Go.Proofs.Ytklbjnphfpjgeaa
open Go.RowKit

theorem szEdgeS_far (a : Option Addr) (n c : Nat) (left : Int) (w : World) (hn : n ≤ maxLen) (h0 : 0 ≤ left) (h1 : left ≤ 1048576) (h : left < n) :
    Calls Try.prog 15 #[.slice a n c, .int .i64 left] w fun e w' => e = .returned (.int .i64 (-1)) ∧ w' = w := by
  have := szEdgeS_any a n c left w hn h0 h1
  rwa [if_pos h] at this
theorem szEdgeS_near (a : Option Addr) (n c : Nat) (left : Int) (w : World) (hn : n ≤ maxLen) (h0 : 0 ≤ left) (h1 : left ≤ 1048576) (h : ¬ left < n) :
    Calls Try.prog 15 #[.slice a n c, .int .i64 left] w fun e w' => e = .returned (.int .i64 (left - n)) ∧ w' = w := by
  have := szEdgeS_any a n c left w hn h0 h1
  rwa [if_neg h] at this

set_option maxHeartbeats 1000000 in
theorem edgesSameLaw (n m c1 c2 : Nat) (a1 a2 : Option Addr) (xs ys : List (Int × Int)) (w : World) (hl1 : xs.length = n) (hl2 : ys.length = m) (h1 : Rd w a1 (edges xs)) (h2 : Rd w a2 (edges ys))
    (hn : n ≤ maxLen) (hm : m ≤ maxLen) :
    Calls Try.prog 4 #[.slice a1 n c1, .slice a2 m c2] w fun e w' => e = .returned (.bool true) ∧ Below w.heap.size w w' := by
  have HL1 := Lib.hid hl1
  have HL2 := Lib.hid hl2
  clear hl1 hl2
  by_cases hc1 : (1048576 : Int) < n
  · go_enter Try.func4, Try.ntmps4
    go_wp2_with fail
    refine (szEdgeS_far a1 n c1 _ _ hn (by omega) (by omega) (by omega)).mono ?_
    rintro e w1 ⟨rfl, rfl⟩
    go_wp2
    go_ret
    exact ⟨rfl, Below.refl _ _⟩
  · by_cases hc2 : (1048576 : Int) - n < m
    · have hn0 : ¬ (1048576 : Int) - n < 0 := by omega
      go_enter Try.func4, Try.ntmps4
      go_wp2_with fail
      refine (szEdgeS_near a1 n c1 _ _ hn (by omega) (by omega) (by omega)).mono ?_
      rintro e w1 ⟨rfl, rfl⟩
      go_wp2_with fail
      refine (szEdgeS_far a2 m c2 _ _ hm (by omega) (by omega) (by omega)).mono ?_
      rintro e w1 ⟨rfl, rfl⟩
      go_wp2
      go_ret
      exact ⟨rfl, Below.refl _ _⟩
    · have hn0 : ¬ (1048576 : Int) - n < 0 := by omega
      have hn1 : ¬ (1048576 : Int) - n - m < 0 := by omega
      go_enter Try.func4, Try.ntmps4
      go_wp2_with fail
      refine (szEdgeS_near a1 n c1 _ _ hn (by omega) (by omega) (by omega)).mono ?_
      rintro e w1 ⟨rfl, rfl⟩
      go_wp2_with fail
      refine (szEdgeS_near a2 m c2 _ _ hm (by omega) (by omega) (by omega)).mono ?_
      rintro e w1 ⟨rfl, rfl⟩
      go_wp2_with fail
      refine (toEdgeS_any n c1 a1 xs _ HL1.out (by omega) h1).mono ?_
      rintro e w1 ⟨p1, q1, rfl, o1, b1⟩
      have B1 := b1
      go_wp2_with fail
      refine (toEdgeS_any m c2 a2 ys _ HL2.out (by omega) (h2.below B1)).mono ?_
      rintro e w2 ⟨p2, q2, rfl, o2, b2⟩
      have B2 := B1.trans (b2.mono B1.size)
      replace o1 := owns_below o1 b2
      go_wp2_with fail
      refine (specEdges_any p1 p2 n m q1 q2 xs ys _ (by omega) HL1.out HL2.out (Rd.of_owns o1) (Rd.of_owns o2)).mono ?_
      rintro e w3 ⟨rfl, d3⟩
      have b3 : Below w2.heap.size w2 w3 := below_of_drewN d3
      have B3 := B2.trans (b3.mono B2.size)
      replace o1 := owns_below o1 b3
      replace o2 := owns_below o2 b3
      clear o1 o2
      go_wp2_with fail
      refine (toEdgeS_any n c1 a1 xs _ HL1.out (by omega) (h1.below B3)).mono ?_
      rintro e w4 ⟨p3, q3, rfl, o3, b4⟩
      have B4 := B3.trans (b4.mono B3.size)
      go_wp2_with fail
      refine (toEdgeS_any m c2 a2 ys _ HL2.out (by omega) (h2.below B4)).mono ?_
      rintro e w5 ⟨p4, q4, rfl, o4, b5⟩
      have B5 := B4.trans (b5.mono B4.size)
      replace o3 := owns_below o3 b5
      go_wp2_with fail
      refine (implEdges_any p3 p4 n m q3 q4 xs ys _ (by omega) HL1.out HL2.out (Rd.of_owns o3) (Rd.of_owns o4)).mono ?_
      rintro e w6 ⟨rfl, d6⟩
      have b6 : Below w5.heap.size w5 w6 := below_of_drewN d6
      have B6 := B5.trans (b6.mono B5.size)
      replace o3 := owns_below o3 b6
      replace o4 := owns_below o4 b6
      go_wp2_with fail
      refine (toEdgeS_any n c1 a1 xs _ HL1.out (by omega) (h1.below B6)).mono ?_
      rintro e w7 ⟨p5, q5, rfl, o5, b7⟩
      have B7 := B6.trans (b7.mono B6.size)
      replace o3 := owns_below o3 b7
      replace o4 := owns_below o4 b7
      go_wp2_with fail
      refine (eqEdgeS_yes p3 p5 n q3 q5 xs _ (by omega) HL1.out (Rd.of_owns o3) (Rd.of_owns o5)).mono ?_
      rintro e w8 ⟨rfl, b8⟩
      have B8 := B7.trans (b8.mono B7.size)
      replace o3 := owns_below o3 b8
      replace o4 := owns_below o4 b8
      replace o5 := owns_below o5 b8
      go_wp2_with fail
      refine (toEdgeS_any m c2 a2 ys _ HL2.out (by omega) (h2.below B8)).mono ?_
      rintro e w9 ⟨p6, q6, rfl, o6, b9⟩
      have B9 := B8.trans (b9.mono B8.size)
      replace o3 := owns_below o3 b9
      replace o4 := owns_below o4 b9
      replace o5 := owns_below o5 b9
      go_wp2_with fail
      refine (eqEdgeS_yes p4 p6 m q4 q6 ys _ (by omega) HL2.out (Rd.of_owns o4) (Rd.of_owns o6)).mono ?_
      rintro e w10 ⟨rfl, b10⟩
      have B10 := B9.trans (b10.mono B9.size)
      replace o3 := owns_below o3 b10
      replace o4 := owns_below o4 b10
      replace o5 := owns_below o5 b10
      replace o6 := owns_below o6 b10
      go_wp2
      go_ret
      exact ⟨rfl, B10⟩

end Go.Proofs.Ytklbjnphfpjgeaa
