/- Slices of edges: eqEdgeS, toEdgeS, szEdgeS, and the law of EdgesSame. -/
import Derived.Test.YtnobkdkfhgjeeabEdges
import Derived.StillTailTactics
namespace Go.Proofs.Ytnobkdkfhgjeeab
open Go.RowKit

set_option maxRecDepth 100000 in
set_option maxHeartbeats 400000 in
theorem eqEdge_yes (x : Int × Int) (w : World) :
    Calls Try.prog 78 #[.agg #[.int .i64 x.1, .int .i64 x.2], .agg #[.int .i64 x.1, .int .i64 x.2]] w fun e w' => e = .returned (.bool true) ∧ Below w.heap.size w w' := by
  go_enter Try.func78, Try.ntmps78
  go_wp2
  go_ret
  exact ⟨rfl, ((Below.refl _ _).alloc (Nat.le_refl _) _).alloc (by simp) _⟩

set_option maxRecDepth 100000 in
set_option maxHeartbeats 400000 in
theorem eqEdgeS_yes (a1 a2 : Option Addr) (n c1 c2 : Nat) (xs : List (Int × Int)) (w : World) (hn : n ≤ 1099511627776) (hl : xs.length = n) (h1 : Rd w a1 (edges xs)) (h2 : Rd w a2 (edges xs)) :
    Calls Try.prog 32 #[.slice a1 n c1, .slice a2 n c2] w fun e w' => e = .returned (.bool true) ∧ Below w.heap.size w w' := by
  have HL := Lib.hid hl
  clear hl
  go_enter Try.func32, Try.ntmps32
  go_wp2
  go_loopw [5] (fun i wr => ∃ k : Nat, k ≤ n ∧ i = .int .i64 k ∧ Below w.heap.size w wr) (fun i _ => n - (intOf i).toNat)
  case atStart => exact ⟨0, by omega, rfl, Below.refl _ _⟩
  case round =>
    obtain ⟨k, hk, rfl, hb⟩ := hrel
    by_cases hlt : k < n
    · obtain ⟨b1, o1, rfl, g1'⟩ := (h1.below hb).edge (by have := HL.out; omega)
      obtain ⟨b2, o2, rfl, g2'⟩ := (h2.below hb).edge (by have := HL.out; omega)
      obtain ⟨g1a, g1b⟩ := g1' k (by have := HL.out; omega)
      obtain ⟨g2a, g2b⟩ := g2' k (by have := HL.out; omega)
      obtain ⟨x, hx⟩ : ∃ x, x = xs.getD k (0, 0) := ⟨_, rfl⟩
      rw [← hx] at g1a g1b g2a g2b
      clear g1' g2' hx
      go_wp2
      go_still_tail 8, (by kernel_rfl)
      go_wp2_with fail
      refine (eqEdge_yes x wr.drew).mono ?_
      rintro e w2 ⟨rfl, b2'⟩
      go_wp2
      go_roundw
      case rel => exact ⟨k + 1, by omega, by go_num, hb.drew.trans (b2'.mono hb.size)⟩
      case measure => simp [intOf]; omega
    · have hkm : k = n := by omega
      subst hkm
      go_wp2
      go_ret
      exact ⟨rfl, hb⟩


theorem info_edge : (Try.prog.info? 61).map (fun i => (i.zero, i.size, i.bytes)) = some (some (.agg #[.int .i64 0, .int .i64 0]), 2, 16) := by kernel_rfl

end Go.Proofs.Ytnobkdkfhgjeeab
