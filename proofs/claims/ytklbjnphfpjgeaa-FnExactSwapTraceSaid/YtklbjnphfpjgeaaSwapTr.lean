/- SwapTrace, of the reference and of the program. -/
import Derived.Test.YtklbjnphfpjgeaaInts
namespace Go.Proofs.Ytklbjnphfpjgeaa
open Go.RowKit

/-- b for a, a for b, all else as it is. -/
def swp (a b t : Int) : Int := if t = a then b else if t = b then a else t
def swpTo (a b : Int) (zs : List Int) (k : Nat) : List Value := ints ((zs.take k).map (swp a b))

theorem swpTo_succ (a b : Int) (zs : List Int) (k : Nat) (hk : k < zs.length) {v : Int} (hv : swp a b (zs.getD k 0) = v) :
    swpTo a b zs k ++ [.int .i64 v] = swpTo a b zs (k + 1) := by
  unfold swpTo
  rw [take_succ_int zs k hk, ← hv]; simp [ints]
theorem swpTo_all (a b : Int) (zs : List Int) (n : Nat) (h : zs.length = n) : swpTo a b zs n = ints (zs.map (swp a b)) := by
  unfold swpTo
  rw [List.take_of_length_le (by omega)]

theorem owns_empty (w : World) (e : TypeId) (sz : Nat) : (w.alloc (.cells #[] e)).ownsRow w.heap.size e sz (.slice (some ⟨w.heap.size, 0, none⟩) 0 0) 0 [] :=
  World.ownsRow_lit w #[] 0 (Nat.le_refl _) (Nat.zero_le _) (by simp)

theorem swp_a {a b x : Int} (h : (x == a) = true) : swp a b x = b := by simp at h; simp [swp, h]
theorem swp_b {a b x : Int} (_ : (x == a) = false) (h' : (x == b) = true) : swp a b x = a := by simp at h'; simp [swp, h']
theorem swp_c {a b x : Int} (h : (x == a) = false) (h' : (x == b) = false) : swp a b x = x := by simp at h h'; simp [swp, h, h']

set_option maxHeartbeats 1000000 in
theorem specSwap_any (n c : Nat) (ad : Option Addr) (xs : List Int) (a b : Int) (w : World) (hl : xs.length = n) (hn : n ≤ 1099511627776) (h1 : Rd w ad (ints xs)) :
    Calls Try.prog 9 #[.slice ad n c, .int .i64 a, .int .i64 b] w fun e w' => ∃ a' c', e = .returned (.slice a' n c') ∧
      w'.ownsRow w.heap.size 3 1 (.slice a' n c') n (ints (xs.map (swp a b))) ∧ Below w.heap.size w w' := by
  have HL := Lib.hid hl
  clear hl
  go_enter Try.func9, Try.ntmps9
  go_wp2
  go_loopw [7, 8] (fun v i wr => ∃ (k : Nat) (a' : Option Addr) (c' : Nat), k ≤ n ∧ i = .int .i64 k ∧ v = .slice a' k c' ∧ wr.ownsRow w.heap.size 3 1 (.slice a' k c') k (swpTo a b xs k) ∧ Below w.heap.size w wr) (fun _ i _ => n - (intOf i).toNat)
  case atStart => exact ⟨0, _, _, by omega, rfl, rfl, owns_empty _ _ _, (Below.refl _ _).alloc (Nat.le_refl _) _⟩
  case round =>
    obtain ⟨k, a', c', hk, rfl, rfl, hown, hb⟩ := hrel
    by_cases hlt : k < n
    · have hL := HL.out
      obtain ⟨b1, o1, rfl, g1'⟩ := (h1.below hb).int (by omega)
      have g1 := g1' k (by omega)
      obtain ⟨x, hx⟩ : ∃ x, x = xs.getD k 0 := ⟨_, rfl⟩
      rw [← hx] at g1
      have HX := Lib.hid hx
      have hS := hb.size
      clear g1' hx hL
      go_wp2_with (at_builtin; refine wpList_append_sl rfl _ _ 22 rfl Try.underlying22 info_int rfl (by decide) rfl hown rfl rfl rfl (by simp [Value.oneCell']) (by omega) (by decide) hS ?_; intro a1 c1 w1 hown1 hgr1)
      all_goals
        go_wp2
        go_roundw
        case measure => simp [intOf]; omega
        case rel =>
          have hv := HX.out
          rw [swpTo_succ a b xs k (by have := HL.out; omega) (by rw [← hv]; first | exact swp_a ‹_› | exact swp_b ‹_› ‹_› | exact swp_c ‹_› ‹_›)] at hown1
          exact ⟨k + 1, _, _, by omega, by go_num, rfl, hown1, hb.trans (below_of_grown hgr1 hS (fun j hj => (owns_row hown j hj).1))⟩
    · have hkn : k = n := by omega
      subst hkn
      go_wp2
      go_ret
      exact ⟨_, _, rfl, by rw [← swpTo_all a b xs k HL.out]; exact hown, hb⟩

set_option maxHeartbeats 1000000 in
theorem implSwap_any (n c : Nat) (ad : Option Addr) (xs : List Int) (a b : Int) (w : World) (hl : xs.length = n) (hn : n ≤ 1099511627776) (h1 : Rd w ad (ints xs)) :
    Calls Try.prog 11 #[.slice ad n c, .int .i64 a, .int .i64 b] w fun e w' => ∃ a' c', e = .returned (.slice a' n c') ∧
      w'.ownsRow w.heap.size 3 1 (.slice a' n c') n (ints (xs.map (swp a b))) ∧ Below w.heap.size w w' := by
  have HL := Lib.hid hl
  clear hl
  go_enter Try.func11, Try.ntmps11
  go_wp2
  go_loopw [7, 9, 12] (fun v _ i wr => ∃ (k : Nat) (a' : Option Addr) (c' : Nat), k ≤ n ∧ i = .int .i64 k ∧ v = .slice a' k c' ∧ wr.ownsRow w.heap.size 3 1 (.slice a' k c') k (swpTo a b xs k) ∧ Below w.heap.size w wr) (fun _ _ i _ => n - (intOf i).toNat)
  case atStart => exact ⟨0, _, _, by omega, rfl, rfl, World.ownsRow_nil _ _ _ _, Below.refl _ _⟩
  case round =>
    obtain ⟨k, a', c', hk, rfl, rfl, hown, hb⟩ := hrel
    by_cases hlt : k < n
    · have hL := HL.out
      obtain ⟨b1, o1, rfl, g1'⟩ := (h1.below hb).int (by omega)
      have g1 := g1' k (by omega)
      obtain ⟨x, hx⟩ : ∃ x, x = xs.getD k 0 := ⟨_, rfl⟩
      rw [← hx] at g1
      have HX := Lib.hid hx
      have hS := hb.size
      clear g1' hx hL
      go_wp2_with (at_builtin; refine wpList_append_sl rfl _ _ 22 rfl Try.underlying22 info_int rfl (by decide) rfl hown rfl rfl rfl (by simp [Value.oneCell']) (by omega) (by decide) hS ?_; intro a1 c1 w1 hown1 hgr1)
      all_goals
        go_wp2
        go_roundw
        case measure => simp [intOf]; omega
        case rel =>
          have hv := HX.out
          rw [swpTo_succ a b xs k (by have := HL.out; omega) (by rw [← hv]; first | exact swp_a ‹_› | exact swp_b ‹_› ‹_› | exact swp_c ‹_› ‹_›)] at hown1
          exact ⟨k + 1, _, _, by omega, by go_num, rfl, hown1, hb.trans (below_of_grown hgr1 hS (fun j hj => (owns_row hown j hj).1))⟩
    · have hkn : k = n := by omega
      subst hkn
      go_wp2
      go_ret
      exact ⟨_, _, rfl, by rw [← swpTo_all a b xs k HL.out]; exact hown, hb⟩

end Go.Proofs.Ytklbjnphfpjgeaa
