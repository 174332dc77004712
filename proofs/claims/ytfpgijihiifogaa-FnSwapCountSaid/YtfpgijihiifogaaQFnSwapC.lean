/- Part of a proof: FnSwapC. -/
import Derived.Lib.QuietBelow
import Derived.BigQuiet
import Derived.IntWalk
import Derived.Test.YtfpgijihiifogaaQPSwap
import Derived.Test.YtfpgijihiifogaaQDrawSwapT
import Derived.Test.YtfpgijihiifogaaQEFnSwapC
set_option maxRecDepth 100000
set_option maxHeartbeats 16000000
namespace Go.Proofs.Ytfpgijihiifogaa
open Go.RowKit Go.Sort
theorem fnSwapCountLaw (a : Option Addr) (n c : Nat) (bs : List Int) (w : World) (hl : bs.length = n) (h1 : Rd w a (bytesV bs)) (hmx : n ≤ maxLen) (hcap : n ≤ c) (hby : ∀ b ∈ bs, 0 ≤ b ∧ b ≤ 255) :
  Calls Try.prog 3 #[.slice a n c] w fun e w' => e = .returned (.bool true) ∧ Below w.heap.size w w' := by
 unfold maxLen at hmx
 have HL := xH1 hl
 have HBY := xH1 hby
 clear hl hby
 by_cases hn : n ≤ 1048576
 ·have hC := xH1 (Code13.mk HL.out h1 hcap HBY.out hn)
  clear HL HBY h1
  go_enter Try.func3, Try.ntmps3
  go_wp2_with fail
  refine (drawSwapTrace_any a n c bs w hC.out).mono ?_
  rintro e w1 ⟨a2, m, c2, xs, x, y, rfl, ow, hm, hb⟩
  have HL := xH1 (show xs.length = m by have := ow.1; simpa using this)
  have HB := xH1 hb
  have HT := xH1 (Rd.of_owns ow)
  clear hb ow hC
  go_wp2_with fail
  refine (implSwap_any m c2 a2 xs x y _ HL.out (by omega) HT.out).mono ?_
  rintro e w2 ⟨a3, c3, rfl, o3, hb⟩
  have HX := xH1 (Rd.of_owns o3)
  have HLX : Hid ((xs.map (swp x y)).length = m) := xH1 (by rw [List.length_map]; exact HL.out)
  clear o3
  replace HT := xH1 (HT.out.below hb)
  replace HB := xH1 (HB.out.trans (hb.mono HB.out.size))
  clear hb
  go_wp2_with fail
  refine (specSwap_any m c2 a2 xs x y _ HL.out (by omega) HT.out).mono ?_
  rintro e w3 ⟨a4, c4, rfl, o4, hb⟩
  have HY := xH1 (Rd.of_owns o4)
  clear o4
  replace HT := xH1 (HT.out.below hb)
  replace HX := xH1 (HX.out.below hb)
  replace HB := xH1 (HB.out.trans (hb.mono HB.out.size))
  clear hb
  go_wp2_with fail
  refine (wkInts_eq a3 a4 m c3 c4 _ _ _ (by omega) HLX.out rfl HX.out HY.out).mono ?_
  rintro e w4 ⟨rfl, hb⟩
  replace HT := xH1 (HT.out.below hb)
  replace HX := xH1 (HX.out.below hb)
  replace HY := xH1 (HY.out.below hb)
  replace HB := xH1 (HB.out.trans (hb.mono HB.out.size))
  clear hb
  clear HY
  go_wp2
  go_loopw [7, 8, 9] (fun p q i wr => ∃ (k s : Nat), k ≤ m ∧ s ≤ k ∧ i = .int .i64 k ∧ p = .int .i64 s ∧ q = .int .i64 s ∧ wr = w4) (fun _ _ i _ => m - (intOf i).toNat)
  case atStart => exact ⟨0, 0, by omega, by omega, rfl, rfl, rfl, rfl⟩
  case round =>
   obtain ⟨k, s, hk, hs, rfl, rfl, rfl, rfl⟩ := hrel
   by_cases hlt : k < m
   ·have hL := HL.out
    have hLX := HLX.out
    obtain ⟨b1, o1, rfl, g1'⟩ := HT.out.int (by omega)
    have g1 := g1' k (by omega)
    obtain ⟨b2, o2, rfl, g2'⟩ := HX.out.int (by omega)
    have g2 := g2' k (by omega)
    have hsw : (xs.map (swp x y)).getD k 0 = swp x y (xs.getD k 0) := by simp [List.getD, show k < xs.length by omega]
    rw [hsw] at g2
    obtain ⟨z, hz⟩ : ∃ z, z = xs.getD k 0 := ⟨_, rfl⟩
    rw [← hz] at g1 g2
    obtain ⟨z2, hz2⟩ : ∃ z2, z2 = swp x y z := ⟨_, rfl⟩
    rw [← hz2] at g2
    have t2 : (z2 == (y : Int)) = (z == (x : Int)) := by rw [hz2]; exact swp_b_iff _ _ _
    clear g1' g2' hsw hz hL hLX hz2
    cases hzx : (z == (x : Int)) with
    | true =>
     rw [hzx] at t2
     go_wp2
     go_roundw
     case rel => exact ⟨k + 1, s + 1, by omega, by omega, by go_num, by go_num, by go_num, trivial⟩
     case measure => simp [intOf]; omega
    | false =>
     rw [hzx] at t2
     go_wp2
     go_roundw
     case rel => exact ⟨k + 1, s, by omega, by omega, by go_num, rfl, rfl, trivial⟩
     case measure => simp [intOf]; omega
   ·have hkm : k = m := by omega
    subst hkm
    have t1 : ((s : Int) == (s : Int)) = true := by simp
    go_wp2
    go_ret
    exact ⟨rfl, HB.out⟩
 ·go_enter Try.func3, Try.ntmps3
  go_wp2
  go_ret
  exact ⟨rfl, Below.refl _ _⟩
end Go.Proofs.Ytfpgijihiifogaa
