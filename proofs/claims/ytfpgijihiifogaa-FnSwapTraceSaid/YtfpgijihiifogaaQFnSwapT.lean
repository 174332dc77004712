/- Part of a proof: FnSwapT. -/
import Derived.Lib.QuietBelow
import Derived.BigQuiet
import Derived.IntWalk
import Derived.Test.YtfpgijihiifogaaQPSwap
import Derived.Test.YtfpgijihiifogaaQDrawSwapT
import Derived.Test.YtfpgijihiifogaaQEFnSwapT
set_option maxRecDepth 100000
set_option maxHeartbeats 16000000
namespace Go.Proofs.Ytfpgijihiifogaa
open Go.RowKit Go.Sort
theorem fnSwapTraceLaw (a : Option Addr) (n c : Nat) (bs : List Int) (w : World) (hl : bs.length = n) (h1 : Rd w a (bytesV bs)) (hmx : n ≤ maxLen) (hcap : n ≤ c) (hby : ∀ b ∈ bs, 0 ≤ b ∧ b ≤ 255) :
  Calls Try.prog 4 #[.slice a n c] w fun e w' => e = .returned (.bool true) ∧ Below w.heap.size w w' := by
 unfold maxLen at hmx
 have HL := xH1 hl
 have HBY := xH1 hby
 clear hl hby
 by_cases hn : n ≤ 1048576
 ·have hC := xH1 (Code13.mk HL.out h1 hcap HBY.out hn)
  clear HL HBY h1
  go_enter Try.func4, Try.ntmps4
  go_wp2_with fail
  refine (drawSwapTrace_any a n c bs w hC.out).mono ?_
  rintro e w1 ⟨a2, m, c2, xs, x, y, rfl, ow, hm, hb⟩
  have HL := xH1 (show xs.length = m by have := ow.1; simpa using this)
  have HB := xH1 hb
  have HT := xH1 (Rd.of_owns ow)
  clear hb ow hC
  go_wp2_with fail
  refine (implSwap_any m c2 a2 xs x y _ HL.out (by omega) HT.out).mono ?_
  rintro e w2 ⟨a3, c3, rfl, o3, hb⟩
  have HX := xH1 (Rd.of_owns o3)
  have HLX : Hid ((xs.map (swp x y)).length = m) := xH1 (by rw [List.length_map]; exact HL.out)
  clear o3
  replace HT := xH1 (HT.out.below hb)
  replace HB := xH1 (HB.out.trans (hb.mono HB.out.size))
  clear hb
  go_wp2_with fail
  refine (specSwap_any m c2 a2 xs x y _ HL.out (by omega) HT.out).mono ?_
  rintro e w3 ⟨a4, c4, rfl, o4, hb⟩
  have HY := xH1 (Rd.of_owns o4)
  clear o4
  replace HT := xH1 (HT.out.below hb)
  replace HX := xH1 (HX.out.below hb)
  replace HB := xH1 (HB.out.trans (hb.mono HB.out.size))
  clear hb
  go_wp2_with fail
  refine (wkInts_eq a3 a4 m c3 c4 _ _ _ (by omega) HLX.out rfl HX.out HY.out).mono ?_
  rintro e w4 ⟨rfl, hb⟩
  replace HT := xH1 (HT.out.below hb)
  replace HX := xH1 (HX.out.below hb)
  replace HY := xH1 (HY.out.below hb)
  replace HB := xH1 (HB.out.trans (hb.mono HB.out.size))
  clear hb
  go_wp2_with fail
  refine (implSwap_any m c3 a3 _ x y _ HLX.out (by omega) HX.out).mono ?_
  rintro e w5 ⟨a5, c5, rfl, o5, hb⟩
  have HZ := xH1 (Rd.of_owns o5)
  have HLZ : Hid (((xs.map (swp x y)).map (swp x y)).length = m) := xH1 (by rw [List.length_map]; exact HLX.out)
  clear o5
  replace HT := xH1 (HT.out.below hb)
  replace HX := xH1 (HX.out.below hb)
  replace HY := xH1 (HY.out.below hb)
  replace HB := xH1 (HB.out.trans (hb.mono HB.out.size))
  clear hb
  go_wp2_with fail
  refine (wkInts_eq a5 a2 m c5 c2 _ _ _ (by omega) HLZ.out (by rw [List.map_map]; conv => { rhs; rw [← List.map_id xs] }; exact List.map_congr_left fun t _ => swp_swp _ _ t) HZ.out HT.out).mono ?_
  rintro e w6 ⟨rfl, hb⟩
  replace HT := xH1 (HT.out.below hb)
  replace HX := xH1 (HX.out.below hb)
  replace HY := xH1 (HY.out.below hb)
  replace HZ := xH1 (HZ.out.below hb)
  replace HB := xH1 (HB.out.trans (hb.mono HB.out.size))
  clear hb
  go_wp2_with fail
  refine (implSwap_any m c2 a2 xs y x _ HL.out (by omega) HT.out).mono ?_
  rintro e w7 ⟨a6, c6, rfl, o6, hb⟩
  have HU := xH1 (Rd.of_owns o6)
  have HLU : Hid ((xs.map (swp y x)).length = m) := xH1 (by rw [List.length_map]; exact HL.out)
  clear o6
  replace HT := xH1 (HT.out.below hb)
  replace HX := xH1 (HX.out.below hb)
  replace HY := xH1 (HY.out.below hb)
  replace HZ := xH1 (HZ.out.below hb)
  replace HB := xH1 (HB.out.trans (hb.mono HB.out.size))
  clear hb
  go_wp2_with fail
  refine (wkInts_eq a6 a3 m c6 c3 _ _ _ (by omega) HLU.out (List.map_congr_left fun t _ => swp_comm _ _ t) HU.out HX.out).mono ?_
  rintro e w8 ⟨rfl, hb⟩
  replace HT := xH1 (HT.out.below hb)
  replace HX := xH1 (HX.out.below hb)
  replace HY := xH1 (HY.out.below hb)
  replace HZ := xH1 (HZ.out.below hb)
  replace HU := xH1 (HU.out.below hb)
  replace HB := xH1 (HB.out.trans (hb.mono HB.out.size))
  clear hb
  have t1 : ((m : Int) == (m : Int)) = true := by simp
  go_wp2
  go_ret
  exact ⟨rfl, HB.out⟩
 ·go_enter Try.func4, Try.ntmps4
  go_wp2
  go_ret
  exact ⟨rfl, Below.refl _ _⟩
end Go.Proofs.Ytfpgijihiifogaa
