/- Which numbers are few, and within bounds: the reference's own text. -/
import Derived.Test.YtnobkdkfhgjeeabSpecValid3
namespace Go.Proofs.Ytnobkdkfhgjeeab
open Go.RowKit

theorem within_bad {l : List Int} {lo hi : Int} {k : Nat} (hk : k < l.length) (h : ¬ (lo ≤ l.getD k 0 ∧ l.getD k 0 ≤ hi)) : within l lo hi = false := by
  unfold within
  have : l.all (fun n => decide (lo ≤ n) && decide (n ≤ hi)) = false := by
    rw [List.all_eq_false]
    refine ⟨l[k], List.getElem_mem hk, ?_⟩
    have e : l.getD k 0 = l[k] := by simp [List.getD, hk]
    rw [e] at h
    simp only [Bool.and_eq_true, decide_eq_true_eq]; exact h
  rw [this]; simp
theorem within_good {l : List Int} {lo hi : Int} (h : ∀ j, j < l.length → lo ≤ l.getD j 0 ∧ l.getD j 0 ≤ hi) : within l lo hi = decide (l.length ≤ 3) := by
  unfold within
  have : l.all (fun n => decide (lo ≤ n) && decide (n ≤ hi)) = true := by
    rw [List.all_eq_true]
    intro x hx
    obtain ⟨k, hk, rfl⟩ := List.getElem_of_mem hx
    have e : l.getD k 0 = l[k] := by simp [List.getD, hk]
    have := h k hk
    rw [e] at this
    simp [this.1, this.2]
  rw [this]; simp
theorem within_long {l : List Int} {lo hi : Int} (h : 3 < l.length) : within l lo hi = false := by
  unfold within
  rw [show decide (l.length ≤ 3) = false by simp; omega]; simp

set_option maxHeartbeats 400000 in
theorem l6Numbers_any (a : Option Addr) (n c : Nat) (l : List Int) (lo hi : Int) (w : World) (hl : l.length = n) (hn : n ≤ maxLen) (hr : Rd w a (ints l)) :
    Calls Try.prog 99 #[.slice a n c, .int .i64 lo, .int .i64 hi] w fun e w' => e = .returned (.bool (within l lo hi)) ∧ w' = w := by
  unfold maxLen at hn
  have HL := Lib.hid hl
  clear hl
  go_enter Try.func99, Try.ntmps99
  go_wp2
  go_loopw [7] (fun i wr => ∃ k : Nat, k ≤ n ∧ k ≤ 4 ∧ i = .int .i64 k ∧ Hid (∀ j, j < k → lo ≤ l.getD j 0 ∧ l.getD j 0 ≤ hi) ∧ wr = w) (fun i _ => n - (intOf i).toNat)
  case atStart => exact ⟨0, by omega, by omega, rfl, Lib.hid (by omega), rfl⟩
  case round =>
    obtain ⟨k, hk, hk4, rfl, hall, rfl⟩ := hrel
    by_cases hlt : k < n
    · by_cases h3 : k ≤ 3
      · obtain ⟨b, q, rfl, hc⟩ := hr.int (by have := HL.out; omega)
        have g := hc k (by have := HL.out; omega)
        obtain ⟨x, hx⟩ : ∃ x, x = l.getD k 0 := ⟨_, rfl⟩
        rw [← hx] at g
        have HX := Lib.hid hx
        clear hc hx
        by_cases t1 : x < lo
        · have HB : Hid (within l lo hi = false) := Lib.hid (within_bad (k := k) (by have := HL.out; omega) (by rw [← HX.out]; omega))
          go_wp2
          go_ret
          exact ⟨ret_bool (by rw [HB.out]), rfl⟩
        · by_cases t2 : hi < x
          · have HB : Hid (within l lo hi = false) := Lib.hid (within_bad (k := k) (by have := HL.out; omega) (by rw [← HX.out]; omega))
            have d1 : decide (x < lo) = false := by simpa using t1
            go_wp2
            go_ret
            exact ⟨ret_bool (by rw [HB.out]), rfl⟩
          · have d1 : decide (x < lo) = false := by simpa using t1
            have d2 : decide (hi < x) = false := by simpa using t2
            go_wp2
            go_roundw
            case rel => exact ⟨k + 1, by omega, by omega, by go_num, Lib.hid (fun j hj => by
              rcases Nat.lt_or_ge j k with h | h
              · exact hall.out j h
              · have : j = k := by omega
                subst this
                rw [← HX.out]; omega), trivial⟩
            case measure => simp [intOf]; omega
      · have hk' : k = 4 := by omega
        subst hk'
        have HB : Hid (within l lo hi = false) := Lib.hid (within_long (by have := HL.out; omega))
        clear h3
        have hd : decide ((n : Int) ≤ 3) = false := by simp; omega
        go_wp2
        go_ret
        exact ⟨ret_bool (by rw [HB.out]), rfl⟩
    · have hkm : k = n := by omega
      subst hkm
      have HB : Hid (within l lo hi = decide ((k : Int) ≤ 3)) := Lib.hid (by
        rw [within_good (by rw [HL.out]; exact hall.out), HL.out]
        exact decide_eq_decide.2 (by omega))
      go_wp2
      go_ret
      exact ⟨ret_bool (by rw [HB.out]), rfl⟩

end Go.Proofs.Ytnobkdkfhgjeeab
