/- Slices of edges. -/
import Derived.Test.YtnobkdkfhgjeeabBaseA
namespace Go.Proofs.Ytnobkdkfhgjeeab
open Go.RowKit

def edge (e : Int × Int) : List Value := [.int .i64 e.1, .int .i64 e.2]
theorem edge_len (e : Int × Int) : (edge e).length = 2 := rfl
abbrev edges (es : List (Int × Int)) : List Value := es.flatMap edge

theorem Rd.edge {w : World} {a : Option Addr} {es : List (Int × Int)} (h : Rd w a (edges es)) (hne : 0 < es.length) :
    ∃ b o, a = some ⟨b, o, none⟩ ∧ ∀ j, j < es.length → w.cell? ⟨b, o + j * 2, none⟩ = some (.int .i64 (es.getD j (0, 0)).1) ∧ w.cell? ⟨b, o + j * 2 + 1, none⟩ = some (.int .i64 (es.getD j (0, 0)).2) := by
  obtain ⟨b, o, e, hc⟩ := h.flat edge_len (0, 0) hne (by decide)
  exact ⟨b, o, e, fun j hj => ⟨by simpa [Go.Proofs.Ytnobkdkfhgjeeab.edge] using hc j hj 0 (by decide), by simpa [Go.Proofs.Ytnobkdkfhgjeeab.edge] using hc j hj 1 (by decide)⟩⟩

/-- '!=' on two edges. -/
theorem neq_edge (w : World) (a b c d : Int) : (binOp .neq 61 (.agg #[.int .i64 a, .int .i64 b]) (.agg #[.int .i64 c, .int .i64 d])).run Try.prog w = .ok (.bool (!(a == c && b == d))) w := by
  have u3 := Try.underlying3
  have a3 := Try.isAgg3
  have z3 := Try.sizeOf3
  have hS : Try.prog.underlying 61 = some (.struct (Try.prog.fieldsOf 61)) := by kernel_rfl
  have hp : Try.prog.stoodInHeld 61 = false := by kernel_rfl
  rw [run_neq_struct, show (10000 : Nat) = 9999 + 1 from rfl, run_equalIn_agg w 9999 _ _ _ hS hp]
  simp only [Program.fieldsOf, Try.underlying61]
  go_simp
  by_cases h1 : a = c <;> by_cases h2 : b = d <;> simp [h1, h2]
theorem guard_edge (w : World) (x y : Operand) (xs ys : Array Value) : (eqGuard .neq 61 x y (.agg xs) (.agg ys)).run Try.prog w = .ok () w :=
  run_eqGuard_agg w .neq _ x y xs ys (by kernel_rfl)

theorem ext_getD_edge {xs ys : List (Int × Int)} (hl : xs.length = ys.length) (h : ∀ j, j < xs.length → xs.getD j (0, 0) = ys.getD j (0, 0)) : xs = ys := by
  refine List.ext_getElem hl fun j h1 h2 => ?_
  have := h j h1
  simpa [List.getD, h1, h2] using this


set_option maxHeartbeats 400000 in
theorem slicesEdges_n (a1 a2 : Option Addr) (n c1 c2 : Nat) (xs ys : List (Int × Int)) (w : World) (hn : n ≤ 1099511627776) (hl : xs.length = n) (hl2 : ys.length = n) (h1 : Rd w a1 (edges xs)) (h2 : Rd w a2 (edges ys)) :
    Calls Try.prog 80 #[.slice a1 n c1, .slice a2 n c2] w fun e w' => e = .returned (.bool (decide (xs = ys))) ∧ ∃ n, w' = w.drewN n := by
  have HL := Lib.hid hl
  have HL2 := Lib.hid hl2
  clear hl hl2
  have kn := neq_edge
  have kg := guard_edge
  go_enter Try.func80, Try.ntmps80
  go_wp2
  go_loopw [5, 13] (fun _ i wr => ∃ k : Nat, k ≤ n ∧ i = .int .i64 k ∧ Hid (∀ j, j < k → xs.getD j (0, 0) = ys.getD j (0, 0)) ∧ ∃ d, wr = w.drewN d) (fun _ i _ => n - (intOf i).toNat)
  case atStart => exact ⟨0, by omega, rfl, Lib.hid (by omega), 0, rfl⟩
  case round =>
    obtain ⟨k, hk, rfl, hall, d, rfl⟩ := hrel
    by_cases hlt : k < n
    · obtain ⟨b1, o1, rfl, g1'⟩ := h1.edge (by have := HL.out; omega)
      obtain ⟨b2, o2, rfl, g2'⟩ := h2.edge (by have := HL2.out; omega)
      obtain ⟨g1a, g1b⟩ := g1' k (by have := HL.out; omega)
      obtain ⟨g2a, g2b⟩ := g2' k (by have := HL2.out; omega)
      obtain ⟨x, hx⟩ : ∃ x, x = xs.getD k (0, 0) := ⟨_, rfl⟩
      obtain ⟨y, hy⟩ : ∃ y, y = ys.getD k (0, 0) := ⟨_, rfl⟩
      rw [← hx] at g1a g1b
      rw [← hy] at g2a g2b
      have HX := Lib.hid hx
      have HY := Lib.hid hy
      clear g1' g2' hx hy
      go_wp2
      go_quiet (fail)
      go_wp2
      · go_ret
        refine ⟨?_, d + nq, World.drewN_drewN _ _ _⟩
        have hne : (!x.1 == y.1) = true ∨ (!x.2 == y.2) = true := by assumption
        refine ret_bool (decide_eq_false ?_).symm
        intro e
        rw [HX.out, HY.out, e] at hne
        simp at hne
      · have hne : (!x.1 == y.1) = false ∧ (!x.2 == y.2) = false := by assumption
        have he : x = y := by simp at hne; exact Prod.ext hne.1 hne.2
        refine ⟨⟨k + 1, by omega, by go_num, Lib.hid ?_, d + nq, rfl⟩, by simp [intOf]; omega⟩
        intro j hj
        by_cases hjk : j = k
        · rw [hjk, ← HX.out, ← HY.out, he]
        · exact hall.out j (by omega)
    · have hkm : k = n := by omega
      subst hkm
      go_wp2
      go_ret
      exact ⟨ret_bool (decide_eq_true (ext_getD_edge (by rw [HL.out, HL2.out]) (fun j hj => hall.out j (by rw [HL.out] at hj; exact hj)))).symm, d, rfl⟩

set_option maxHeartbeats 400000 in
theorem slicesEdges_no (a1 a2 : Option Addr) (n m c1 c2 : Nat) (w : World) (hnm : n ≠ m) :
    Calls Try.prog 80 #[.slice a1 n c1, .slice a2 m c2] w fun e w' => e = .returned (.bool false) ∧ ∃ n, w' = w.drewN n := by
  have hd : ((n : Int) != (m : Int)) = true := by simp; omega
  clear hnm
  go_enter Try.func80, Try.ntmps80
  go_wp2
  go_ret
  exact ⟨rfl, 0, rfl⟩

theorem slicesEdges_any (a1 a2 : Option Addr) (n m c1 c2 : Nat) (xs ys : List (Int × Int)) (w : World) (hn : n ≤ 1099511627776) (hl : xs.length = n) (hl2 : ys.length = m) (h1 : Rd w a1 (edges xs)) (h2 : Rd w a2 (edges ys)) :
    Calls Try.prog 80 #[.slice a1 n c1, .slice a2 m c2] w fun e w' => e = .returned (.bool (decide (xs = ys))) ∧ ∃ n, w' = w.drewN n := by
  by_cases hnm : n = m
  · subst hnm
    exact slicesEdges_n a1 a2 n c1 c2 xs ys w hn hl hl2 h1 h2
  · rw [decide_eq_false (fun e => hnm (by rw [← hl, ← hl2, e]))]
    exact slicesEdges_no a1 a2 n m c1 c2 w hnm

theorem implEdges_any (a1 a2 : Option Addr) (n m c1 c2 : Nat) (xs ys : List (Int × Int)) (w : World) (hn : n ≤ 1099511627776) (hl : xs.length = n) (hl2 : ys.length = m) (h1 : Rd w a1 (edges xs)) (h2 : Rd w a2 (edges ys)) :
    Calls Try.prog 36 #[.slice a1 n c1, .slice a2 m c2] w fun e w' => e = .returned (.bool (decide (xs = ys))) ∧ ∃ n, w' = w.drewN n := by
  go_enter Try.func36, Try.ntmps36
  go_wp2_with fail
  refine (slicesEdges_any a1 a2 n m c1 c2 xs ys w hn hl hl2 h1 h2).mono ?_
  rintro e w1 ⟨rfl, d⟩
  go_wp2_with fail
  go_ret
  exact ⟨rfl, d⟩

end Go.Proofs.Ytnobkdkfhgjeeab
