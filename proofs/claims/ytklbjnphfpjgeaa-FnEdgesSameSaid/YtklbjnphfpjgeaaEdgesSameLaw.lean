/- The law FnEdgesSame: its walk. -/
import Derived.Test.YtklbjnphfpjgeaaDrawEdges
import Derived.Test.YtklbjnphfpjgeaaImplCircle
namespace Go.Proofs.Ytklbjnphfpjgeaa
open Go.RowKit

set_option maxHeartbeats 1000000 in
theorem fnEdgesSameLaw (n c : Nat) (a : Option Addr) (bs : List Int) (w : World) (hl : bs.length = n) (h1 : Rd w a (bytesV bs)) (hmx : n ≤ maxLen) (hcap : n ≤ c) (hby : ∀ b ∈ bs, 0 ≤ b ∧ b ≤ 255) :
    Calls Try.prog 5 #[.slice a n c] w fun e w' => e = .returned (.bool true) ∧ Below w.heap.size w w' := by
  unfold maxLen at hmx
  have HL := Lib.hid hl
  have HB := Lib.hid hby
  clear hl hby
  by_cases hn : n ≤ 1048576
  · go_enter Try.func5, Try.ntmps5
    go_wp2_with fail
    refine (drawEdgesSame_any a n c bs _ HL.out h1 hcap HB.out hn).mono ?_
    rintro e w1 ⟨es, fs, m1, m2, a1, a2, c1, c2, rfl, l1, l2, hm1, hm2, r1, r2, b1⟩
    have L1 := Lib.hid l1
    have L2 := Lib.hid l2
    clear l1 l2
    by_cases hef : es = fs
    · subst hef
      have hd : decide (es = es) = true := by simp
      go_wp2_with fail
      refine (implEdges_any a1 a2 m1 m2 c1 c2 es es _ (by omega) L1.out L2.out r1 r2).mono ?_
      rintro e w2 ⟨rfl, d2⟩
      replace r1 := rd_drewN r1 d2
      replace r2 := rd_drewN r2 d2
      replace b1 := b1.trans (below_of_drewN d2)
      clear d2
      go_wp2_with fail
      refine (specEdges_any a1 a2 m1 m2 c1 c2 es es _ (by omega) L1.out L2.out r1 r2).mono ?_
      rintro e w3 ⟨rfl, d2⟩
      replace r1 := rd_drewN r1 d2
      replace r2 := rd_drewN r2 d2
      replace b1 := b1.trans (below_of_drewN d2)
      clear d2
      go_wp2_with fail
      refine (implEdges_any a2 a1 m2 m1 c2 c1 es es _ (by omega) L2.out L1.out r2 r1).mono ?_
      rintro e w4 ⟨rfl, d2⟩
      replace r1 := rd_drewN r1 d2
      replace r2 := rd_drewN r2 d2
      replace b1 := b1.trans (below_of_drewN d2)
      clear d2
      go_wp2_with fail
      refine (implEdges_any a1 a1 m1 m1 c1 c1 es es _ (by omega) L1.out L1.out r1 r1).mono ?_
      rintro e w5 ⟨rfl, d2⟩
      replace r1 := rd_drewN r1 d2
      replace r2 := rd_drewN r2 d2
      replace b1 := b1.trans (below_of_drewN d2)
      clear d2
      go_wp2_with fail
      refine (implCircle_any a1 m1 c1 es _ (by omega) L1.out r1).mono ?_
      rintro e w6 ⟨rfl, b6⟩
      replace r2 := r2.below b6
      replace b1 := b1.trans (b6.mono b1.size)
      go_wp2_with fail
      refine (implCircle_any a2 m2 c2 es _ (by omega) L2.out r2).mono ?_
      rintro e w7 ⟨rfl, b7⟩
      replace b1 := b1.trans (b7.mono b1.size)
      go_wp2
      go_ret
      exact ⟨rfl, b1⟩
    · have hd : decide (es = fs) = false := by simpa using hef
      have hd2 : decide (fs = es) = false := by simp; exact fun e => hef e.symm
      have hd3 : decide (es = es) = true := by simp
      clear hef
      go_wp2_with fail
      refine (implEdges_any a1 a2 m1 m2 c1 c2 es fs _ (by omega) L1.out L2.out r1 r2).mono ?_
      rintro e w2 ⟨rfl, d2⟩
      replace r1 := rd_drewN r1 d2
      replace r2 := rd_drewN r2 d2
      replace b1 := b1.trans (below_of_drewN d2)
      clear d2
      go_wp2_with fail
      refine (specEdges_any a1 a2 m1 m2 c1 c2 es fs _ (by omega) L1.out L2.out r1 r2).mono ?_
      rintro e w3 ⟨rfl, d2⟩
      replace r1 := rd_drewN r1 d2
      replace r2 := rd_drewN r2 d2
      replace b1 := b1.trans (below_of_drewN d2)
      clear d2
      go_wp2_with fail
      refine (implEdges_any a2 a1 m2 m1 c2 c1 fs es _ (by omega) L2.out L1.out r2 r1).mono ?_
      rintro e w4 ⟨rfl, d2⟩
      replace r1 := rd_drewN r1 d2
      replace b1 := b1.trans (below_of_drewN d2)
      clear d2
      go_wp2_with fail
      refine (implEdges_any a1 a1 m1 m1 c1 c1 es es _ (by omega) L1.out L1.out r1 r1).mono ?_
      rintro e w5 ⟨rfl, d2⟩
      replace b1 := b1.trans (below_of_drewN d2)
      clear d2
      go_wp2
      go_ret
      exact ⟨rfl, b1⟩
  · go_enter Try.func5, Try.ntmps5
    go_wp2
    go_ret
    exact ⟨rfl, Below.refl _ _⟩

end Go.Proofs.Ytklbjnphfpjgeaa
