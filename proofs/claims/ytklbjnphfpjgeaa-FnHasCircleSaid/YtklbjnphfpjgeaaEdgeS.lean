/- Slices of edges: eqEdgeS, toEdgeS, szEdgeS, and the law of EdgesSame. -/
import Derived.Test.YtklbjnphfpjgeaaEdges
import Derived.StillTailTactics
namespace Go.Proofs.Ytklbjnphfpjgeaa
open Go.RowKit

set_option maxHeartbeats 400000 in
theorem eqEdge_yes (x : Int × Int) (w : World) :
    Calls Try.prog 26 #[.agg #[.int .i64 x.1, .int .i64 x.2], .agg #[.int .i64 x.1, .int .i64 x.2]] w fun e w' => e = .returned (.bool true) ∧ Below w.heap.size w w' := by
  go_enter Try.func26, Try.ntmps26
  go_wp2
  go_ret
  exact ⟨rfl, ((Below.refl _ _).alloc (Nat.le_refl _) _).alloc (by simp) _⟩

set_option maxHeartbeats 400000 in
theorem eqEdgeS_yes (a1 a2 : Option Addr) (n c1 c2 : Nat) (xs : List (Int × Int)) (w : World) (hn : n ≤ 1099511627776) (hl : xs.length = n) (h1 : Rd w a1 (edges xs)) (h2 : Rd w a2 (edges xs)) :
    Calls Try.prog 19 #[.slice a1 n c1, .slice a2 n c2] w fun e w' => e = .returned (.bool true) ∧ Below w.heap.size w w' := by
  have HL := Lib.hid hl
  clear hl
  go_enter Try.func19, Try.ntmps19
  go_wp2
  go_loopw [5] (fun i wr => ∃ k : Nat, k ≤ n ∧ i = .int .i64 k ∧ Below w.heap.size w wr) (fun i _ => n - (intOf i).toNat)
  case atStart => exact ⟨0, by omega, rfl, Below.refl _ _⟩
  case round =>
    obtain ⟨k, hk, rfl, hb⟩ := hrel
    by_cases hlt : k < n
    · obtain ⟨b1, o1, rfl, g1'⟩ := (h1.below hb).edge (by have := HL.out; omega)
      obtain ⟨b2, o2, rfl, g2'⟩ := (h2.below hb).edge (by have := HL.out; omega)
      obtain ⟨g1a, g1b⟩ := g1' k (by have := HL.out; omega)
      obtain ⟨g2a, g2b⟩ := g2' k (by have := HL.out; omega)
      obtain ⟨x, hx⟩ : ∃ x, x = xs.getD k (0, 0) := ⟨_, rfl⟩
      rw [← hx] at g1a g1b g2a g2b
      clear g1' g2' hx
      go_wp2
      go_still_tail 8, (by kernel_rfl)
      go_wp2_with fail
      refine (eqEdge_yes x wr.drew).mono ?_
      rintro e w2 ⟨rfl, b2'⟩
      go_wp2
      go_roundw
      case rel => exact ⟨k + 1, by omega, by go_num, hb.drew.trans (b2'.mono hb.size)⟩
      case measure => simp [intOf]; omega
    · have hkm : k = n := by omega
      subst hkm
      go_wp2
      go_ret
      exact ⟨rfl, hb⟩


theorem szEdgeS_any (a : Option Addr) (n c : Nat) (left : Int) (w : World) (hn : n ≤ maxLen) (h0 : 0 ≤ left) (h1 : left ≤ 1048576) :
    Calls Try.prog 15 #[.slice a n c, .int .i64 left] w fun e w' => e = .returned (.int .i64 (if left < n then -1 else left - n)) ∧ w' = w := by
  unfold maxLen at hn
  by_cases h : left < n
  · rw [if_pos h]
    have h' : left - n < 0 := by omega
    go_enter Try.func15, Try.ntmps15
    go_wp2
    go_ret
    exact ⟨rfl, rfl⟩
  · rw [if_neg h]
    have h' : ¬ left - n < 0 := by omega
    go_enter Try.func15, Try.ntmps15
    go_wp2
    go_ret
    exact ⟨rfl, rfl⟩

set_option maxHeartbeats 400000 in
theorem toEdge_any (x : Int × Int) (w : World) :
    Calls Try.prog 24 #[.agg #[.int .i64 x.1, .int .i64 x.2]] w fun e w' => e = .returned (.agg #[.int .i64 x.1, .int .i64 x.2]) ∧ Below w.heap.size w w' := by
  go_enter Try.func24, Try.ntmps24
  go_wp2
  refine bodyPost_ret (v := .agg #[.int .i64 x.1, .int .i64 x.2]) (by simp [results, Try.results24, go_sem]) rfl ⟨rfl, ?_⟩
  repeat (first | exact Below.refl _ _ | refine Below.alloc ?_ (by simp <;> omega) _ | refine Below.setCell ?_ (by simp <;> omega) _ | refine Below.drew ?_)

theorem info_edge : (Try.prog.info? 42).map (fun i => (i.zero, i.size, i.bytes)) = some (some (.agg #[.int .i64 0, .int .i64 0]), 2, 16) := by kernel_rfl

set_option maxHeartbeats 400000 in
theorem toEdgeS_any (n c : Nat) (a : Option Addr) (xs : List (Int × Int)) (w : World) (hl : xs.length = n) (hn : n ≤ 1099511627776) (h1 : Rd w a (edges xs)) :
    Calls Try.prog 17 #[.slice a n c] w fun e w' => ∃ a' c', e = .returned (.slice a' n c') ∧
      w'.ownsRow w.heap.size 42 2 (.slice a' n c') n (edges xs) ∧ Below w.heap.size w w' := by
  obtain ⟨i0, hi, hz0, hz1, hz2⟩ := info_parts info_edge
  have HL := Lib.hid hl
  clear hl
  go_enter Try.func17, Try.ntmps17
  go_wp2_with (refine wpList_make_full _ rfl _ _ 31 rfl w.heap.size 42 i0 _ 2 Try.underlying31 hi hz0 hz1 _ _ _ _ n rfl rfl rfl rfl (by rw [hz2]; omega) (by unfold maxLen; omega) (Nat.le_refl _) ?_; intro w1 hown1 hgr1)
  rw [toList_made_const _ (.int .i64 0) _ (by decide) (by intro i hi; match i, hi with | 0, _ => rfl | 1, _ => rfl)] at hown1
  go_loopw [4] (fun i wr => ∃ k : Nat, k ≤ n ∧ i = .int .i64 k ∧ wr.ownsRow w.heap.size 42 2 (.slice (some ⟨w.heap.size, 0, none⟩) n n) n (edges (xs.take k) ++ List.replicate ((n - k) * 2) (.int .i64 0)) ∧ Below w.heap.size w wr) (fun i _ => n - (intOf i).toNat)
  case atStart => exact ⟨0, by omega, rfl, by simpa using hown1, below_of_grown hgr1 (Nat.le_refl _) (by simp)⟩
  case round =>
    obtain ⟨k, hk, rfl, hown, hb⟩ := hrel
    by_cases hlt : k < n
    · obtain ⟨b1, o1, rfl, g1'⟩ := (h1.below hb).edge (by have := HL.out; omega)
      obtain ⟨g1a, g1b⟩ := g1' k (by have := HL.out; omega)
      obtain ⟨x, hx⟩ : ∃ x, x = xs.getD k (0, 0) := ⟨_, rfl⟩
      rw [← hx] at g1a g1b
      have HX := Lib.hid hx
      clear g1' hx
      go_wp2_with fail
      refine (toEdge_any x _).mono ?_
      rintro e w2 ⟨rfl, b2⟩
      replace hown := owns_below hown b2
      obtain ⟨old1, hold1⟩ : ∃ old, w2.cell? ⟨w.heap.size, k * 2, none⟩ = some old := by
        rw [hown.cellAt _ (by omega)]
        exact ⟨_, List.getElem?_eq_getElem (by rw [hown.1]; omega)⟩
      obtain ⟨old2, hold2⟩ : ∃ old, w2.cell? ⟨w.heap.size, k * 2 + 1, none⟩ = some old := by
        rw [hown.cellAt _ (by omega)]
        exact ⟨_, List.getElem?_eq_getElem (by rw [hown.1]; omega)⟩
      have hfz1 := hown.frozenAt (k * 2)
      have hfz2 := hown.frozenAt (k * 2 + 1)
      have R1 := owns_store hown (k * 2) (.int .i64 x.1) rfl
      have R2 := owns_store R1.1 (k * 2 + 1) (.int .i64 x.2) rfl
      have HR1 := Lib.hid R1.2
      have HR := Lib.hid R2
      have hs1 := hb.size
      have hs2 := b2.size
      clear R1 R2 hown
      go_wp2
      go_roundw
      case rel => 
        have hx := HX.out
        have hl := HL.out
        refine ⟨k + 1, by omega, by go_num, ?_, ?_⟩
        · have := HR.out.1
          have e := puts_flat edge_len (0, 0) xs k (.int .i64 0) (by omega)
          rw [← hx, hl] at e
          rw [← e]; exact this
        · exact (hb.trans (b2.mono hb.size)).trans ((below_of_grown HR1.out (by omega) (by simp)).trans (below_of_grown HR.out.2 (by simp; omega) (by simp)))
      case measure => simp [intOf]; omega
    · have hkn : k = n := by omega
      subst hkn
      go_wp2
      go_ret
      exact ⟨_, _, rfl, by rw [List.take_of_length_le (by have := HL.out; omega)] at hown; simpa using hown, hb⟩

end Go.Proofs.Ytklbjnphfpjgeaa
