/- The law of SwapTrace: its walk. -/
import Derived.Test.YtklbjnphfpjgeaaSwapTr
namespace Go.Proofs.Ytklbjnphfpjgeaa
open Go.RowKit

set_option maxHeartbeats 1000000 in
theorem swapLaw (n c : Nat) (ad : Option Addr) (xs : List Int) (a b : Int) (w : World) (hl : xs.length = n) (h1 : n ≤ 1048576 → Rd w ad (ints xs)) (hmx : n ≤ maxLen) :
    Calls Try.prog 3 #[.slice ad n c, .int .i64 a, .int .i64 b] w fun e w' => e = .returned (.bool true) ∧ Below w.heap.size w w' := by
  unfold maxLen at hmx
  by_cases hn : n ≤ 1048576
  · have h0 := h1 hn
    clear h1
    have HL := Lib.hid hl
    have HM : Hid ((xs.map (swp a b)).length = n) := Lib.hid (by simp [hl])
    clear hl
    go_enter Try.func3, Try.ntmps3
    go_wp2_with fail
    refine (toIntS_any n c ad xs _ HL.out (by omega) h0).mono ?_
    rintro e w1 ⟨a1, c1, rfl, o1, b1⟩
    go_wp2_with fail
    refine (specSwap_any n c1 a1 xs a b _ HL.out (by omega) (Rd.of_owns o1)).mono ?_
    rintro e w2 ⟨aw, cw, rfl, ow, b2⟩
    have rw2 := Lib.hid (owns_row ow)
    have B2 : Below w.heap.size w w2 := b1.trans (b2.mono b1.size)
    clear o1
    go_wp2_with fail
    refine (toIntS_any n c ad xs _ HL.out (by omega) (h0.below B2)).mono ?_
    rintro e w3 ⟨ax, cx, rfl, ox, b3⟩
    have rx := Lib.hid (owns_row ox)
    have B3 : Below w.heap.size w w3 := B2.trans (b3.mono B2.size)
    replace ow := owns_below ow b3
    go_wp2_with fail
    refine (implSwap_any n cx ax xs a b _ HL.out (by omega) (Rd.of_owns ox)).mono ?_
    rintro e w4 ⟨ag, cg, rfl, og, b4⟩
    have rg := Lib.hid (owns_row og)
    have B4 : Below w.heap.size w w4 := B3.trans (b4.mono B3.size)
    replace ow := owns_below ow b4
    replace ox := owns_below ox b4
    go_wp2_with fail
    refine (eqIntS_yes ag aw n cg cw _ _ HM.out (by omega) (Rd.of_owns og) (Rd.of_owns ow)).mono ?_
    rintro e w5 ⟨rfl, d5⟩
    have b5 : Below w4.heap.size w4 w5 := below_of_drewN d5
    have B5 : Below w.heap.size w w5 := B4.trans (b5.mono B4.size)
    replace ow := owns_below ow b5
    replace ox := owns_below ox b5
    replace og := owns_below og b5
    clear d5
    go_wp2_with fail
    refine (toIntS_any n c ad xs _ HL.out (by omega) (h0.below B5)).mono ?_
    rintro e w6 ⟨ay, cy, rfl, oy, b6⟩
    have B6 : Below w.heap.size w w6 := B5.trans (b6.mono B5.size)
    replace ow := owns_below ow b6
    replace ox := owns_below ox b6
    replace og := owns_below og b6
    go_wp2_with fail
    refine (eqIntS_yes ax ay n cx cy _ _ HL.out (by omega) (Rd.of_owns ox) (Rd.of_owns oy)).mono ?_
    rintro e w7 ⟨rfl, d7⟩
    have b7 : Below w6.heap.size w6 w7 := below_of_drewN d7
    have B7 : Below w.heap.size w w7 := B6.trans (b7.mono B6.size)
    replace ow := owns_below ow b7
    replace ox := owns_below ox b7
    replace og := owns_below og b7
    clear d7 oy
    go_wp2_with fail
    refine (markIntS_any _ n cx ax xs 1 _ HL.out (by omega) (by omega) (by omega) ox).mono ?_
    rintro e w8 ⟨rfl, ox8, g8⟩
    have hz1 := b1.size
    have hz2 := b2.size
    have hz3 := b3.size
    have B8 : Below w.heap.size w w8 := B7.trans (below_of_grown g8 B7.size (fun k hk => by have := owns_row ox k hk; omega))
    replace ow := owns_grown ow g8 (fun k e1 e2 => by have := rw2.out k e1; have := rx.out k e2; omega)
    replace og := owns_grown og g8 (fun k e1 e2 => by have := rg.out k e1; have := rx.out k e2; omega)
    clear ox8 ox g8
    have hn0 : decide ((1 + (n : Int)) < 0) = false := by simp; omega
    go_wp2_with fail
    refine (eqIntS_yes ag aw n cg cw _ _ HM.out (by omega) (Rd.of_owns og) (Rd.of_owns ow)).mono ?_
    rintro e w9 ⟨rfl, d9⟩
    have b9 : Below w8.heap.size w8 w9 := below_of_drewN d9
    have B9 : Below w.heap.size w w9 := B8.trans (b9.mono B8.size)
    replace ow := owns_below ow b9
    replace og := owns_below og b9
    clear d9
    go_wp2_with fail
    refine (markIntS_any _ n cg ag _ 1 _ HM.out (by omega) (by omega) (by omega) og).mono ?_
    rintro e w10 ⟨rfl, og10, g10⟩
    have hz4 := B3.size
    have B10 : Below w.heap.size w w10 := B9.trans (below_of_grown g10 B9.size (fun k hk => by have := owns_row og k hk; omega))
    replace ow := owns_grown ow g10 (fun k e1 e2 => by have := rw2.out k e1; have := rg.out k e2; omega)
    clear og g10
    go_wp2_with fail
    refine (heldIntS_yes ag cg n 1 _ (by omega) (by omega) (by omega) (Rd.of_owns og10)).mono ?_
    rintro e w11 ⟨rfl, rfl⟩
    go_wp2_with fail
    refine (toIntS_any n c ad xs _ HL.out (by omega) (h0.below B10)).mono ?_
    rintro e w12 ⟨az, cz, rfl, oz, b12⟩
    have B12 : Below w.heap.size w w12 := B10.trans (b12.mono B10.size)
    replace ow := owns_below ow b12
    replace og10 := owns_below og10 b12
    go_wp2_with fail
    refine (implSwap_any n cz az xs a b _ HL.out (by omega) (Rd.of_owns oz)).mono ?_
    rintro e w13 ⟨ah, ch, rfl, oh, b13⟩
    have B13 : Below w.heap.size w w13 := B12.trans (b13.mono B12.size)
    replace ow := owns_below ow b13
    replace og10 := owns_below og10 b13
    go_wp2_with fail
    refine (eqIntS_yes ah aw n ch cw _ _ HM.out (by omega) (Rd.of_owns oh) (Rd.of_owns ow)).mono ?_
    rintro e w14 ⟨rfl, d14⟩
    have b14 : Below w13.heap.size w13 w14 := below_of_drewN d14
    have B14 : Below w.heap.size w w14 := B13.trans (b14.mono B13.size)
    replace og10 := owns_below og10 b14
    clear d14
    go_wp2_with fail
    refine (heldIntS_yes ag cg n 1 _ (by omega) (by omega) (by omega) (Rd.of_owns og10)).mono ?_
    rintro e w15 ⟨rfl, rfl⟩
    go_wp2
    go_ret
    exact ⟨rfl, B14⟩
  · go_enter Try.func3, Try.ntmps3
    go_wp2
    go_ret
    exact ⟨rfl, Below.refl _ _⟩

end Go.Proofs.Ytklbjnphfpjgeaa
