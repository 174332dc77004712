/- wkInts. -/
import Derived.Test.YtnobkdkfhgjeeaaBaseE
namespace Go.Proofs.Ytnobkdkfhgjeeaa
open Go.RowKit

set_option maxHeartbeats 400000 in
theorem wkInts_n (a1 a2 : Option Addr) (n c1 c2 : Nat) (xs ys : List Int) (w : World) (hn : n ≤ 1099511627776) (hl : xs.length = n) (hl2 : ys.length = n) (h1 : Rd w a1 (ints xs)) (h2 : Rd w a2 (ints ys)) :
    Calls Try.prog 42 #[.slice a1 n c1, .slice a2 n c2] w fun e w' => e = .returned (.bool (decide (xs = ys))) ∧ ∃ n, w' = w.drewN n := by
  have HL := Lib.hid hl
  have HL2 := Lib.hid hl2
  clear hl hl2
  go_enter Try.func42, Try.ntmps42
  go_wp2
  go_loopw [5] (fun i wr => ∃ k : Nat, k ≤ n ∧ i = .int .i64 k ∧ Hid (∀ j, j < k → xs.getD j 0 = ys.getD j 0) ∧ ∃ d, wr = w.drewN d) (fun i _ => n - (intOf i).toNat)
  case atStart => exact ⟨0, by omega, rfl, Lib.hid (by omega), 0, rfl⟩
  case round =>
    obtain ⟨k, hk, rfl, hall, d, rfl⟩ := hrel
    by_cases hlt : k < n
    · obtain ⟨b1, o1, rfl, g1'⟩ := h1.int (by have := HL.out; omega)
      obtain ⟨b2, o2, rfl, g2'⟩ := h2.int (by have := HL2.out; omega)
      have g1a := g1' k (by have := HL.out; omega)
      have g2a := g2' k (by have := HL2.out; omega)
      obtain ⟨x, hx⟩ : ∃ x, x = xs.getD k 0 := ⟨_, rfl⟩
      obtain ⟨y, hy⟩ : ∃ y, y = ys.getD k 0 := ⟨_, rfl⟩
      rw [← hx] at g1a
      rw [← hy] at g2a
      have HX := Lib.hid hx
      have HY := Lib.hid hy
      clear g1' g2' hx hy
      go_wp2
      go_quiet (fail)
      go_wp2
      · go_ret
        refine ⟨?_, d + nq, World.drewN_drewN _ _ _⟩
        have hne : (x != y) = true := by assumption
        refine ret_bool (decide_eq_false ?_).symm
        intro e
        rw [HX.out, HY.out, e] at hne
        simp at hne
      · have hne : (x != y) = false := by assumption
        have he : x = y := by simpa using hne
        refine ⟨⟨k + 1, by omega, by go_num, Lib.hid ?_, d + nq, rfl⟩, by simp [intOf]; omega⟩
        intro j hj
        by_cases hjk : j = k
        · rw [hjk, ← HX.out, ← HY.out, he]
        · exact hall.out j (by omega)
    · have hkm : k = n := by omega
      subst hkm
      go_wp2
      go_ret
      exact ⟨ret_bool (decide_eq_true (ext_getD_of 0 (by rw [HL.out, HL2.out]) (fun j hj => hall.out j (by rw [HL.out] at hj; exact hj)))).symm, d, rfl⟩
set_option maxHeartbeats 400000 in
theorem wkInts_no (a1 a2 : Option Addr) (n m c1 c2 : Nat) (w : World) (hnm : n ≠ m) :
    Calls Try.prog 42 #[.slice a1 n c1, .slice a2 m c2] w fun e w' => e = .returned (.bool false) ∧ ∃ n, w' = w.drewN n := by
  have hd : ((n : Int) != (m : Int)) = true := by simp; omega
  clear hnm
  go_enter Try.func42, Try.ntmps42
  go_wp2
  go_ret
  exact ⟨rfl, 0, rfl⟩
theorem wkInts_any (a1 a2 : Option Addr) (n m c1 c2 : Nat) (xs ys : List Int) (w : World) (hn : n ≤ 1099511627776) (hl : xs.length = n) (hl2 : ys.length = m) (h1 : Rd w a1 (ints xs)) (h2 : Rd w a2 (ints ys)) :
    Calls Try.prog 42 #[.slice a1 n c1, .slice a2 m c2] w fun e w' => e = .returned (.bool (decide (xs = ys))) ∧ ∃ n, w' = w.drewN n := by
  by_cases hnm : n = m
  · subst hnm
    exact wkInts_n a1 a2 n c1 c2 xs ys w hn hl hl2 h1 h2
  · rw [decide_eq_false (fun e => hnm (by rw [← hl, ← hl2, e]))]
    exact wkInts_no a1 a2 n m c1 c2 w hnm

end Go.Proofs.Ytnobkdkfhgjeeaa
