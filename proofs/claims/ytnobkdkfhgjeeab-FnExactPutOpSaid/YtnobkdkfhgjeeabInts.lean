/- The small functions of the statements over slices of numbers: eqIntS, toIntS, markIntS, heldIntS. -/
import Derived.Test.YtnobkdkfhgjeeabLib
import Derived.WalkSpells
import Derived.WalkLawsBesides
import Derived.BigQuiet
import Derived.Deep.QuietTactic
namespace Go.Proofs.Ytnobkdkfhgjeeab
open Go.RowKit

theorem info_int : (Try.prog.info? 3).map (fun i => (i.zero, i.size, i.bytes)) = some (some (.int .i64 0), 1, 8) := by kernel_rfl

theorem ret_bool {a b : Bool} (h : a = b) : Ending.returned (.bool a) = .returned (.bool b) := by rw [h]
theorem ret_int {a b : Int} (h : a = b) : Ending.returned (.int .i64 a) = .returned (.int .i64 b) := by rw [h]

theorem ext_getD {xs ys : List Int} (hl : xs.length = ys.length) (h : ∀ j, j < xs.length → xs.getD j 0 = ys.getD j 0) : xs = ys := by
  refine List.ext_getElem hl fun j h1 h2 => ?_
  have := h j h1
  simpa [List.getD, h1, h2] using this

set_option maxHeartbeats 400000 in
theorem eqIntS_any (a1 a2 : Option Addr) (c1 c2 : Nat) (xs ys : List Int) (w : World) (hn : xs.length ≤ maxLen)
    (h1 : Rd w a1 (ints xs)) (h2 : Rd w a2 (ints ys)) :
    Calls Try.prog 56 #[.slice a1 xs.length c1, .slice a2 ys.length c2] w fun e w' => e = .returned (.bool (decide (xs = ys))) ∧ ∃ n, w' = w.drewN n := by
  unfold maxLen at hn
  by_cases hl : xs.length = ys.length
  · obtain ⟨m, hm'⟩ : ∃ m, m = xs.length := ⟨_, rfl⟩
    rw [← hl, ← hm']
    have HM := Lib.hid hm'
    have HL := Lib.hid hl
    rw [← hm'] at hn
    clear hl hm'
    go_enter Try.func56, Try.ntmps56
    go_wp2
    go_loopw [5] (fun i wr => ∃ k : Nat, k ≤ m ∧ i = .int .i64 k ∧ Hid (∀ j, j < k → xs.getD j 0 = ys.getD j 0) ∧ ∃ d, wr = w.drewN d) (fun i _ => m - (intOf i).toNat)
    case atStart => exact ⟨0, by omega, rfl, Lib.hid (by omega), 0, rfl⟩
    case round =>
      obtain ⟨k, hk, rfl, hall, d, rfl⟩ := hrel
      by_cases hlt : k < m
      · have HM' := HM.out
        have HL' := HL.out
        obtain ⟨b1, o1, rfl, g1'⟩ := h1.int (by omega)
        obtain ⟨b2, o2, rfl, g2'⟩ := h2.int (by omega)
        have g1 := g1' k (by omega)
        have g2 := g2' k (by omega)
        obtain ⟨x, hx⟩ : ∃ x, x = xs.getD k 0 := ⟨_, rfl⟩
        obtain ⟨y, hy⟩ : ∃ y, y = ys.getD k 0 := ⟨_, rfl⟩
        rw [← hx] at g1
        rw [← hy] at g2
        have HX := Lib.hid hx
        have HY := Lib.hid hy
        clear g1' g2' HM' HL' hx hy
        go_wp2
        go_quiet (fail)
        go_wp2
        · go_ret
          refine ⟨?_, d + nq, World.drewN_drewN _ _ _⟩
          have hne : (x != y) = true := by assumption
          refine ret_bool (decide_eq_false ?_).symm
          intro e
          rw [HX.out, HY.out, e] at hne
          simp at hne
        · have hne : (x != y) = false := by assumption
          have he : x = y := by simpa using hne
          refine ⟨⟨k + 1, by omega, by go_num, Lib.hid ?_, d + nq, rfl⟩, by simp [intOf]; omega⟩
          intro j hj
          by_cases hjk : j = k
          · rw [hjk, ← HX.out, ← HY.out, he]
          · exact hall.out j (by omega)
      · have hkm : k = m := by omega
        subst hkm
        go_wp2
        go_ret
        exact ⟨ret_bool (decide_eq_true (ext_getD HL.out (fun j hj => hall.out j (by rw [HM.out]; exact hj)))).symm, d, rfl⟩
  · have hd : ((xs.length : Int) != (ys.length : Int)) = true := by simp; omega
    have he : decide (xs = ys) = false := decide_eq_false (fun e => hl (by rw [e]))
    have HE := Lib.hid he
    clear he hl
    go_enter Try.func56, Try.ntmps56
    go_wp2
    go_ret
    exact ⟨ret_bool HE.out.symm, 0, rfl⟩


theorem eqIntS_yes (a1 a2 : Option Addr) (n c1 c2 : Nat) (xs : List Int) (w : World) (hl : xs.length = n) (hn : n ≤ 1099511627776)
    (h1 : Rd w a1 (ints xs)) (h2 : Rd w a2 (ints xs)) :
    Calls Try.prog 56 #[.slice a1 n c1, .slice a2 n c2] w fun e w' => e = .returned (.bool true) ∧ ∃ n, w' = w.drewN n := by
  subst hl
  have h := eqIntS_any a1 a2 c1 c2 xs xs w (by unfold maxLen; omega) h1 h2
  simpa using h

/-- The numbers k, k+1, .., of these n. -/
def seq (k : Int) (n : Nat) : List Int := (List.range n).map (fun j => k + (j : Nat))
theorem seq_len (k : Int) (n : Nat) : (seq k n).length = n := by simp [seq]
theorem seq_get (k : Int) (n j : Nat) (h : j < n) : (seq k n).getD j 0 = k + j := by simp [seq, List.getD, h]
theorem seq_succ (k : Int) (n : Nat) : seq k (n + 1) = seq k n ++ [k + n] := by simp [seq, List.range_succ]
theorem seq_set (k : Int) (xs : List Int) (j : Nat) (h : j < xs.length) : (ints (seq k j ++ xs.drop j)).set j (.int .i64 (k + j)) = ints (seq k (j + 1) ++ xs.drop (j + 1)) := by
  rw [List.drop_eq_getElem_cons h, seq_succ]
  simp only [ints, List.map_append, List.map_cons, List.map_nil]
  rw [List.set_append, if_neg (by simp [seq_len])]
  simp [seq_len]

set_option maxHeartbeats 400000 in
theorem heldIntS_yes (a : Option Addr) (c n : Nat) (k0 : Int) (w : World) (hn : n ≤ 1099511627776) (hk0 : 0 ≤ k0) (hk1 : k0 ≤ 1099511627776)
    (h1 : Rd w a (ints (seq k0 n))) :
    Calls Try.prog 60 #[.slice a n c, .int .i64 k0] w fun e w' => e = .returned (.int .i64 (k0 + n)) ∧ w' = w := by
  go_enter Try.func60, Try.ntmps60
  go_wp2
  go_loop [1, 5] (fun q i => ∃ k : Nat, k ≤ n ∧ i = .int .i64 k ∧ q = .int .i64 (k0 + k)) (fun _ i => n - (intOf i).toNat)
  case atStart => exact ⟨0, by omega, rfl, by simp⟩
  case round =>
    obtain ⟨k, hk, rfl, rfl⟩ := hrel
    by_cases hlt : k < n
    · obtain ⟨b1, o1, rfl, g1'⟩ := h1.int (by rw [seq_len]; omega)
      have g1 := g1' k (by rw [seq_len]; omega)
      rw [seq_get k0 n k hlt] at g1
      clear g1'
      go_wp2
      go_round
      case rel => exact ⟨k + 1, by omega, by go_num, by go_num⟩
      case measure => simp [intOf]; omega
    · have hkn : k = n := by omega
      subst hkn
      go_wp2
      go_ret
      exact ⟨rfl, rfl⟩

set_option maxHeartbeats 400000 in
theorem markIntS_any (B n c : Nat) (a : Option Addr) (xs : List Int) (k0 : Int) (w : World) (hl : xs.length = n) (hn : n ≤ 1099511627776) (hk0 : 0 ≤ k0) (hk1 : k0 ≤ 1099511627776)
    (h1 : w.ownsRow B 3 1 (.slice a n c) n (ints xs)) :
    Calls Try.prog 58 #[.slice a n c, .int .i64 k0] w fun e w' => e = .returned (.int .i64 (k0 + n)) ∧
      w'.ownsRow B 3 1 (.slice a n c) n (ints (seq k0 n)) ∧ w.grownBy w' (rowOf a) := by
  have HL := Lib.hid hl
  clear hl
  go_enter Try.func58, Try.ntmps58
  go_wp2
  go_loopw [1, 5] (fun q i wr => ∃ k : Nat, k ≤ n ∧ i = .int .i64 k ∧ q = .int .i64 (k0 + k) ∧ wr.ownsRow B 3 1 (.slice a n c) n (ints (seq k0 k ++ xs.drop k)) ∧ w.grownBy wr (rowOf a)) (fun _ i _ => n - (intOf i).toNat)
  case atStart => exact ⟨0, by omega, rfl, by simp, by simpa [seq] using h1, World.grownBy.refl _ _⟩
  case round =>
    obtain ⟨k, hk, rfl, rfl, hown, hgr⟩ := hrel
    by_cases hlt : k < n
    · obtain ⟨g, rfl, _, _⟩ := owns_at hown (by omega)
      have hL := HL.out
      obtain ⟨old, hold⟩ : ∃ old, wr.cell? ⟨g, k, none⟩ = some old := by
        rw [hown.cellAt k (by omega)]
        exact ⟨_, List.getElem?_eq_getElem (by simp [seq_len]; omega)⟩
      have hfz := hown.frozenAt k
      have R := owns_store hown k (.int .i64 (k0 + k)) (seq_set k0 xs k (by omega))
      have HR := Lib.hid R
      clear R hown hL
      go_wp2
      go_roundw
      case rel => exact ⟨k + 1, by omega, by go_num, by go_num, HR.out.1, grown_trans hgr HR.out.2⟩
      case measure => simp [intOf]; omega
    · have hkn : k = n := by omega
      subst hkn
      go_wp2
      go_ret
      exact ⟨rfl, by rw [List.drop_of_length_le (by have := HL.out; omega)] at hown; simpa using hown, hgr⟩


theorem copy_set (xs : List Int) (j : Nat) (h : j < xs.length) : (ints (xs.take j) ++ List.replicate (xs.length - j) (Value.int .i64 0)).set j (.int .i64 (xs.getD j 0)) = ints (xs.take (j + 1)) ++ List.replicate (xs.length - (j + 1)) (Value.int .i64 0) := by
  rw [take_succ_int xs j h, show xs.length - j = (xs.length - (j + 1)) + 1 from by omega, List.replicate_succ]
  simp only [ints, List.map_append, List.map_cons, List.map_nil]
  rw [List.set_append, if_neg (by simp [Nat.le_of_lt h])]
  simp [Nat.le_of_lt h]

set_option maxHeartbeats 400000 in
theorem toIntS_any (n c : Nat) (a : Option Addr) (xs : List Int) (w : World) (hl : xs.length = n) (hn : n ≤ 1099511627776) (h1 : Rd w a (ints xs)) :
    Calls Try.prog 52 #[.slice a n c] w fun e w' => ∃ a' c', e = .returned (.slice a' n c') ∧
      w'.ownsRow w.heap.size 3 1 (.slice a' n c') n (ints xs) ∧ Below w.heap.size w w' := by
  obtain ⟨i0, hi, hz0, hz1, hz2⟩ := info_parts info_int
  have HL := Lib.hid hl
  clear hl
  go_enter Try.func52, Try.ntmps52
  go_wp2_with (refine wpList_make_full _ rfl _ _ 23 rfl w.heap.size 3 i0 (.int .i64 0) 1 Try.underlying23 hi hz0 hz1 _ _ _ _ n rfl rfl rfl rfl (by rw [hz2]; omega) (by unfold maxLen; omega) (Nat.le_refl _) ?_; intro w1 hown1 hgr1)
  rw [show (Value.int .i64 0).cells = #[.int .i64 0] from rfl, Nat.mul_one, toList_madeCells_one] at hown1
  go_loopw [4] (fun i wr => ∃ k : Nat, k ≤ n ∧ i = .int .i64 k ∧ wr.ownsRow w.heap.size 3 1 (.slice (some ⟨w.heap.size, 0, none⟩) n n) n (ints (xs.take k) ++ List.replicate (n - k) (.int .i64 0)) ∧ Below w.heap.size w wr) (fun i _ => n - (intOf i).toNat)
  case atStart => exact ⟨0, by omega, rfl, by simpa using hown1, below_of_grown hgr1 (Nat.le_refl _) (by simp)⟩
  case round =>
    obtain ⟨k, hk, rfl, hown, hb⟩ := hrel
    by_cases hlt : k < n
    · have hL := HL.out
      obtain ⟨b1, o1, rfl, g1'⟩ := (h1.below hb).int (by omega)
      have g1 := g1' k (by omega)
      obtain ⟨old, hold⟩ : ∃ old, wr.cell? ⟨w.heap.size, k, none⟩ = some old := by
        rw [hown.cellAt k (by omega)]
        exact ⟨_, List.getElem?_eq_getElem (by simp; omega)⟩
      have hfz := hown.frozenAt k
      have R := owns_store hown k (.int .i64 (xs.getD k 0)) (by subst hL; exact copy_set xs k hlt)
      obtain ⟨x, hx⟩ : ∃ x, x = xs.getD k 0 := ⟨_, rfl⟩
      rw [← hx] at g1 R
      have HR := Lib.hid R
      clear R hown hL g1' hx
      go_wp2
      go_roundw
      case rel => exact ⟨k + 1, by omega, by go_num, by rw [HL.out] at HR; exact HR.out.1, hb.trans (below_of_grown HR.out.2 hb.size (by simp))⟩
      case measure => simp [intOf]; omega
    · have hkn : k = n := by omega
      subst hkn
      go_wp2
      go_ret
      exact ⟨_, _, rfl, by rw [List.take_of_length_le (by have := HL.out; omega)] at hown; simpa using hown, hb⟩

end Go.Proofs.Ytnobkdkfhgjeeab
