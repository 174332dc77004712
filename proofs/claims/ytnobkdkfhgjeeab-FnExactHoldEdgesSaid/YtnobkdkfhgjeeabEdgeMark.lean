/- Edges are marked, and the marks are read back. -/
import Derived.Test.YtnobkdkfhgjeeabEdgeS
import Derived.Test.YtnobkdkfhgjeeabBaseA
namespace Go.Proofs.Ytnobkdkfhgjeeab
open Go.RowKit

/-- What is read lies below N. -/
def OldA (a : Option Addr) (cs : List Value) (N : Nat) : Prop := cs = [] ∨ ∀ k, rowOf a = some k → k < N
theorem Rd.old {w : World} {a : Option Addr} {cs : List Value} (h : Rd w a cs) : OldA a cs w.heap.size := by
  rcases h with h0 | ⟨b, o, rfl, hc⟩
  · exact .inl h0
  · by_cases h0 : cs = []
    · exact .inl h0
    · refine .inr (fun k hk => ?_)
      have hx := World.block_lt_of_cell? w _ (hc 0 (List.length_pos_iff.2 h0))
      simp only [rowOf, Option.some.injEq] at hk
      rw [← hk]
      exact hx
theorem rd_touch {S : List Nat} {w w' : World} {a : Option Addr} {cs : List Value} {N : Nat} (h : Rd w a cs) (T : Touch S w w') (ho : OldA a cs N) (hs : ∀ k ∈ S, N ≤ k) : Rd w' a cs := by
  rcases h with h0 | ⟨b, o, rfl, hc⟩
  · exact .inl h0
  · rcases ho with h0 | ho
    · exact .inl h0
    · refine .inr ⟨b, o, rfl, fun j hj => ?_⟩
      exact cell_touch T (hc j hj) (fun hm => by have := hs b hm; have := ho b rfl; omega)
theorem rd_grownN {w w' : World} {a : Option Addr} {cs : List Value} {row : Option Nat} {N : Nat} (h : Rd w a cs) (hg : w.grownBy w' row) (ho : OldA a cs N) (hs : ∀ k, row = some k → N ≤ k) : Rd w' a cs := by
  rcases ho with h0 | ho
  · exact .inl h0
  · cases hr : rowOf a with
    | none => 
      rcases h with h0 | ⟨b, o, rfl, hc⟩
      · exact .inl h0
      · cases hr
    | some k => exact h.grown hg (.inr (fun e => by have := ho k hr; have := hs k (by rw [← e, hr]); omega))

theorem edges_flat : ∀ es : List (Int × Int), edges es = ints (es.flatMap fun e => [e.1, e.2])
  | [] => rfl
  | e :: es => by
    have := edges_flat es
    simp only [edges, ints, List.flatMap_cons, List.map_append] at *
    rw [this]; rfl
theorem flat2_len (es : List (Int × Int)) : (es.flatMap fun e => [e.1, e.2]).length = es.length * 2 := by
  induction es with
  | nil => rfl
  | cons e es ih => simp [ih]; omega

set_option maxHeartbeats 1000000 in
theorem markEdgeS_any (B n c : Nat) (a : Option Addr) (es : List (Int × Int)) (k0 : Int) (w : World) (hl : es.length = n) (hn : n ≤ 1048576) (hk0 : 0 ≤ k0) (hk1 : k0 ≤ 1099511627776)
    (h1 : w.ownsRow B 61 2 (.slice a n c) n (edges es)) :
    Calls Try.prog 33 #[.slice a n c, .int .i64 k0] w fun e w' => e = .returned (.int .i64 (k0 + (n * 2 : Nat))) ∧
      w'.ownsRow B 61 2 (.slice a n c) n (ints (seq k0 (n * 2))) ∧ w.grownBy w' (rowOf a) := by
  obtain ⟨ys, hys⟩ : ∃ ys, ys = es.flatMap fun e => [e.1, e.2] := ⟨_, rfl⟩
  have hyl : ys.length = n * 2 := by rw [hys, flat2_len, hl]
  rw [edges_flat, ← hys] at h1
  have HL := Lib.hid hyl
  clear hl hys hyl
  go_enter Try.func33, Try.ntmps33
  go_wp2
  go_loopw [1, 5] (fun q i wr => ∃ k : Nat, k ≤ n ∧ i = .int .i64 k ∧ q = .int .i64 (k0 + (k * 2 : Nat)) ∧ wr.ownsRow B 61 2 (.slice a n c) n (ints (seq k0 (k * 2) ++ ys.drop (k * 2))) ∧ w.grownBy wr (rowOf a)) (fun _ i _ => n - (intOf i).toNat)
  case atStart => exact ⟨0, by omega, rfl, by simp, by simpa [seq] using h1, World.grownBy.refl _ _⟩
  case round =>
    obtain ⟨k, hk, rfl, rfl, hown, hgr⟩ := hrel
    by_cases hlt : k < n
    · obtain ⟨g, rfl, _, _⟩ := owns_at hown (by omega)
      have hL := HL.out
      obtain ⟨old, hold⟩ : ∃ old, wr.cell? ⟨g, k * 2, none⟩ = some old := by
        rw [hown.cellAt (k * 2) (by omega)]
        exact ⟨_, List.getElem?_eq_getElem (by simp [seq_len]; omega)⟩
      obtain ⟨old2, hold2⟩ : ∃ old, wr.cell? ⟨g, k * 2 + 1, none⟩ = some old := by
        rw [hown.cellAt (k * 2 + 1) (by omega)]
        exact ⟨_, List.getElem?_eq_getElem (by simp [seq_len]; omega)⟩
      have hfz := hown.frozenAt (k * 2)
      have hfz2 := hown.frozenAt (k * 2 + 1)
      have R := owns_store hown (k * 2) (.int .i64 (k0 + (k * 2 : Nat))) (seq_set k0 ys (k * 2) (by omega))
      have R2 := owns_store R.1 (k * 2 + 1) (.int .i64 (k0 + (k * 2 + 1 : Nat))) (seq_set k0 ys (k * 2 + 1) (by omega))
      have HR := Lib.hid R
      have HR2 := Lib.hid R2
      clear R R2 hown hL
      go_wp2
      go_roundw
      case rel => exact ⟨k + 1, by omega, by go_num, by go_num, by simpa [Nat.add_mul, Int.add_assoc] using HR2.out.1, grown_trans hgr (grown_trans HR.out.2 (by simpa [Int.add_assoc, rowOf] using HR2.out.2))⟩
      case measure => simp [intOf]; omega
    · have hkn : k = n := by omega
      subst hkn
      go_wp2
      go_ret
      exact ⟨rfl, by rw [List.drop_of_length_le (by have := HL.out; omega)] at hown; simpa using hown, hgr⟩

set_option maxHeartbeats 1000000 in
theorem heldEdgeS_yes (a : Option Addr) (c n : Nat) (k0 : Int) (w : World) (hn : n ≤ 1048576) (hk0 : 0 ≤ k0) (hk1 : k0 ≤ 1099511627776)
    (h1 : Rd w a (ints (seq k0 (n * 2)))) :
    Calls Try.prog 34 #[.slice a n c, .int .i64 k0] w fun e w' => e = .returned (.int .i64 (k0 + (n * 2 : Nat))) ∧ w' = w := by
  go_enter Try.func34, Try.ntmps34
  go_wp2
  go_loop [1, 5] (fun q i => ∃ k : Nat, k ≤ n ∧ i = .int .i64 k ∧ q = .int .i64 (k0 + (k * 2 : Nat))) (fun _ i => n - (intOf i).toNat)
  case atStart => exact ⟨0, by omega, rfl, by simp⟩
  case round =>
    obtain ⟨k, hk, rfl, rfl⟩ := hrel
    by_cases hlt : k < n
    · obtain ⟨b1, o1, rfl, g1'⟩ := h1.int (by rw [seq_len]; omega)
      have g1 := g1' (k * 2) (by rw [seq_len]; omega)
      have g2 := g1' (k * 2 + 1) (by rw [seq_len]; omega)
      rw [seq_get k0 (n * 2) (k * 2) (by omega)] at g1
      rw [seq_get k0 (n * 2) (k * 2 + 1) (by omega), show k0 + ((k * 2 + 1 : Nat) : Int) = k0 + ((k * 2 : Nat) : Int) + 1 by omega, ← Nat.add_assoc] at g2
      clear g1'
      go_wp2
      go_round
      case rel => exact ⟨k + 1, by omega, by go_num, by go_num⟩
      case measure => simp [intOf]; omega
    · have hkn : k = n := by omega
      subst hkn
      go_wp2
      go_ret
      exact ⟨rfl, rfl⟩

end Go.Proofs.Ytnobkdkfhgjeeab
